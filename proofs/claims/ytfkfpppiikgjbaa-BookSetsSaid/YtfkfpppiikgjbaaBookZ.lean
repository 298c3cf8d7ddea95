/- BookSets: the walk. PRINTED BY genBookZ.py. -/
import Derived.Test.YtfkfpppiikgjbaaBookM
import Derived.Test.YtfkfpppiikgjbaaBookN
import Derived.Test.YtfkfpppiikgjbaaBookP
import Derived.Test.YtfkfpppiikgjbaaBookQ
import Derived.Test.YtfkfpppiikgjbaaBookR
import Derived.Test.YtfkfpppiikgjbaaBookS
import Derived.Test.YtfkfpppiikgjbaaBookT
import Derived.Test.YtfkfpppiikgjbaaRegG
namespace Go.Proofs.Ytfkfpppiikgjbaa
open Go Go.RowKit
set_option linter.unusedVariables false
set_option linter.unusedSimpArgs false

theorem setH_len (id : Int) (x : List Int) (out : Bool) (l : List (List Int)) : (setH id x out l).length ≤ l.length + 1 := setK_len _ _
theorem setS_len (kx ky : Int) (x : List Int) (out : Bool) (l : List (List Int)) : (setS kx ky x out l).length ≤ l.length + 1 := setK_len _ _
set_option maxRecDepth 100000 in
set_option maxHeartbeats 16000000 in
theorem BookSets_walk (v : Value) (b : Bk) (h0 h1 h2 h3 s0 s1 s2 o0 o1 o2 o3 o4 o5 r0 r1 : Int) (w : World) (hb : Hid (BkAt w v b)) :
    Calls Try.prog 4 #[v, .agg #[.int .i64 h0, .int .i64 h1, .int .i64 h2, .int .i64 h3], .agg #[.int .i64 s0, .int .i64 s1, .int .i64 s2], .agg #[.int .i64 o0, .int .i64 o1, .int .i64 o2, .int .i64 o3, .int .i64 o4, .int .i64 o5], .agg #[.int .i64 r0, .int .i64 r1]] w fun e w' => e = .returned (.bool true) ∧ Below w.heap.size w w' := by
  obtain ⟨vh, vs, vo, vr, rfl, q1, q2, q3, q4⟩ := hb.out
  have BX : Hid (BkAt w (.agg #[vh, vs, vo, vr, .int .i64 b.n]) b) := ⟨_, _, _, _, rfl, q1, q2, q3, q4⟩
  clear hb q1 q2 q3 q4
  obtain ⟨w0, hw0⟩ : ∃ w0, ((((w.alloc (.cells #[vh, vs, vo, vr, .int .i64 b.n] 37)).alloc (.cells #[.int .i64 h0, .int .i64 h1, .int .i64 h2, .int .i64 h3] 39)).alloc (.cells #[.int .i64 s0, .int .i64 s1, .int .i64 s2] 41)).alloc (.cells #[.int .i64 o0, .int .i64 o1, .int .i64 o2, .int .i64 o3, .int .i64 o4, .int .i64 o5] 43)).alloc (.cells #[.int .i64 r0, .int .i64 r1] 45) = w0 := ⟨_, rfl⟩
  have K0 : Hid (w0.heap[w.heap.size]? = some (.cells #[vh, vs, vo, vr, .int .i64 b.n] 37 (0, 0))) := by rw [← hw0]; exact blk_old (blk_old (blk_old (blk_old (heap_new _ _) _) _) _) _
  have H0 : Hid (w0.heap[w.heap.size + 1]? = some (.cells #[.int .i64 h0, .int .i64 h1, .int .i64 h2, .int .i64 h3] 39 (0, 0))) := by rw [← hw0]; exact blk_old (blk_old (blk_old (blk_new _ _ _ (by simp)) _) _) _
  have S0 : Hid (w0.heap[w.heap.size + 2]? = some (.cells #[.int .i64 s0, .int .i64 s1, .int .i64 s2] 41 (0, 0))) := by rw [← hw0]; exact blk_old (blk_old (blk_new _ _ _ (by simp)) _) _
  have O0 : Hid (w0.heap[w.heap.size + 3]? = some (.cells #[.int .i64 o0, .int .i64 o1, .int .i64 o2, .int .i64 o3, .int .i64 o4, .int .i64 o5] 43 (0, 0))) := by rw [← hw0]; exact blk_old (blk_new _ _ _ (by simp)) _
  have R0 : Hid (w0.heap[w.heap.size + 4]? = some (.cells #[.int .i64 r0, .int .i64 r1] 45 (0, 0))) := by rw [← hw0]; exact blk_new _ _ _ (by simp)
  have HB0 : Hid (Below w.heap.size w w0) := by rw [← hw0]; exact below_alloc (below_alloc (below_alloc (below_alloc (below_alloc (Below.refl _ _) (by first | exact Nat.le_refl _ | (simp; done) | (simp; omega)) _) (by first | exact Nat.le_refl _ | (simp; done) | (simp; omega)) _) (by first | exact Nat.le_refl _ | (simp; done) | (simp; omega)) _) (by first | exact Nat.le_refl _ | (simp; done) | (simp; omega)) _) (by first | exact Nat.le_refl _ | (simp; done) | (simp; omega)) _
  have B0 := Lib.hid (BX.out.call HB0.out)
  replace hw0 := Lib.hid hw0
  go_enter Try.func4, Try.ntmps4
  go_wp2_with fail
  rw [hw0.out]
  with_reducible refine (alive12 _).mono ?_
  rintro e w1 ⟨rfl, hb⟩
  have K1 := Lib.hid (blk_call K0.out hb)
  have H1 := Lib.hid (blk_call H0.out hb)
  have S1 := Lib.hid (blk_call S0.out hb)
  have O1 := Lib.hid (blk_call O0.out hb)
  have R1 := Lib.hid (blk_call R0.out hb)
  have B1 := Lib.hid (B0.out.call hb)
  have HB1 := Lib.hid (HB0.out.trans (hb.mono HB0.out.size))
  clear hb
  have k_0 := cells_of_blk K1.out 0 _ rfl
  have k_1 := cells_of_blk K1.out 1 _ rfl
  have k_2 := cells_of_blk K1.out 2 _ rfl
  have k_3 := cells_of_blk K1.out 3 _ rfl
  have k_4 := cells_of_blk K1.out 4 _ rfl
  go_wp2_with fail
  with_reducible refine (Great_any _ b _ B1).mono ?_
  rintro e w2 ⟨g, rfl, hg, hb⟩
  have K2 := Lib.hid (blk_call K1.out hb)
  have H2 := Lib.hid (blk_call H1.out hb)
  have S2 := Lib.hid (blk_call S1.out hb)
  have O2 := Lib.hid (blk_call O1.out hb)
  have R2 := Lib.hid (blk_call R1.out hb)
  have B2 := Lib.hid (B1.out.call hb)
  have HB2 := Lib.hid (HB1.out.trans (hb.mono HB1.out.size))
  clear hb
  cases g with
  | true =>
    clear hg
    go_wp2_with fail
    go_ret
    exact ⟨rfl, HB2.out⟩
  | false =>
  have hfit := hg rfl
  have hsm := Lib.hid hfit.small
  have HFIT := Lib.hid hfit
  clear hg hfit
  clear k_0 k_1 k_2 k_3 k_4
  have k_0 := cells_of_blk K2.out 0 _ rfl
  have k_1 := cells_of_blk K2.out 1 _ rfl
  have k_2 := cells_of_blk K2.out 2 _ rfl
  have k_3 := cells_of_blk K2.out 3 _ rfl
  have k_4 := cells_of_blk K2.out 4 _ rfl
  go_wp2_with fail
  with_reducible refine (rRise_any _ b _ B2 hsm).mono ?_
  rintro e w3 ⟨rfl, hb⟩
  have K3 := Lib.hid (blk_call K2.out hb)
  have H3 := Lib.hid (blk_call H2.out hb)
  have S3 := Lib.hid (blk_call S2.out hb)
  have O3 := Lib.hid (blk_call O2.out hb)
  have R3 := Lib.hid (blk_call R2.out hb)
  have B3 := Lib.hid (B2.out.call hb)
  have HB3 := Lib.hid (HB2.out.trans (hb.mono HB2.out.size))
  clear hb
  cases hr : b.riseB with
  | false =>
    clear hr
    go_wp2_with fail
    go_ret
    exact ⟨rfl, HB3.out⟩
  | true =>
  have HR := Lib.hid ((Bk.riseB_iff b).1 hr)
  clear hr
  clear k_0 k_1 k_2 k_3 k_4
  have k_0 := cells_of_blk K3.out 0 _ rfl
  have k_1 := cells_of_blk K3.out 1 _ rfl
  have k_2 := cells_of_blk K3.out 2 _ rfl
  have k_3 := cells_of_blk K3.out 3 _ rfl
  have k_4 := cells_of_blk K3.out 4 _ rfl
  go_wp2_with fail
  with_reducible refine (Copy_any _ b _ B3 hsm).mono ?_
  rintro e w4 ⟨v4, rfl, own4, hb⟩
  obtain ⟨A1, c1, A2, c2, A3, c3, A4, c4, rfl⟩ := own4.form
  have hb' := hb.trans ((below_alloc (Below.refl w4.heap.size w4) (Nat.le_refl _) (.cells #[.slice A1 b.h.length c1, .slice A2 b.s.length c2, .slice A3 b.o.length c3, .slice A4 b.r.length c4, .int .i64 b.n] 37)).mono hb.size)
  clear hb
  have K4 := Lib.hid (blk_call K3.out hb')
  have H4 := Lib.hid (blk_call H3.out hb')
  have S4 := Lib.hid (blk_call S3.out hb')
  have O4 := Lib.hid (blk_call O3.out hb')
  have R4 := Lib.hid (blk_call R3.out hb')
  have B4 := Lib.hid (B3.out.call hb')
  have HB4 := Lib.hid (HB3.out.trans (hb'.mono HB3.out.size))
  have X4 := Lib.hid (heap_new w4 (.cells #[.slice A1 b.h.length c1, .slice A2 b.s.length c2, .slice A3 b.o.length c3, .slice A4 b.r.length c4, .int .i64 b.n] 37))
  have V4 := Lib.hid (own4.at.call (below_alloc (Below.refl w4.heap.size w4) (Nat.le_refl _) (.cells #[.slice A1 b.h.length c1, .slice A2 b.s.length c2, .slice A3 b.o.length c3, .slice A4 b.r.length c4, .int .i64 b.n] 37)))
  clear hb' own4
  clear k_0 k_1 k_2 k_3 k_4
  go_wp2_with fail
  generalize hw5 : w4.alloc (.cells #[.slice A1 b.h.length c1, .slice A2 b.s.length c2, .slice A3 b.o.length c3, .slice A4 b.r.length c4, .int .i64 b.n] 37) = w5 at *
  clear hw5
  generalize w4.heap.size = g11 at *
  clear w4
  obtain ⟨bW, hbW⟩ : ∃ bW : Bk, { b with h := setH h0 [h0, h1, h2, h3] false b.h } = bW := ⟨_, rfl⟩
  have qW := Lib.hid (fun wz hv => SetHolder_any (.agg #[vh, vs, vo, vr, .int .i64 b.n]) b h0 h1 h2 h3 wz hv hsm HR.out.1)
  have pW := Lib.hid (fun wz hv => rSetHolder_any (.agg #[vh, vs, vo, vr, .int .i64 b.n]) b h0 h1 h2 h3 wz hv (by have := hsm.out; unfold Bk.Small at this; omega))
  rw [hbW] at qW pW
  obtain ⟨bX, hbX⟩ : ∃ bX : Bk, { b with s := setS s0 s1 [s0, s1, s2] (s2 == 0) b.s } = bX := ⟨_, rfl⟩
  have qX := Lib.hid (fun wz hv => SetStake_any (.agg #[vh, vs, vo, vr, .int .i64 b.n]) b s0 s1 s2 wz hv hsm HR.out.2.2.2)
  have pX := Lib.hid (fun wz hv => rSetStake_any (.agg #[vh, vs, vo, vr, .int .i64 b.n]) b s0 s1 s2 wz hv (by have := hsm.out; unfold Bk.Small at this; omega))
  rw [hbX] at qX pX
  obtain ⟨bY, hbY⟩ : ∃ bY : Bk, { b with o := setH o0 [o0, o1, o2, o3, o4, o5] (o4 == 0) b.o } = bY := ⟨_, rfl⟩
  have qY := Lib.hid (fun wz hv => SetOpen_any (.agg #[vh, vs, vo, vr, .int .i64 b.n]) b o0 o1 o2 o3 o4 o5 wz hv hsm HR.out.2.1)
  have pY := Lib.hid (fun wz hv => rSetOpen_any (.agg #[vh, vs, vo, vr, .int .i64 b.n]) b o0 o1 o2 o3 o4 o5 wz hv (by have := hsm.out; unfold Bk.Small at this; omega))
  rw [hbY] at qY pY
  obtain ⟨bZ, hbZ⟩ : ∃ bZ : Bk, { b with r := setH r0 [r0, r1] false b.r } = bZ := ⟨_, rfl⟩
  have qZ := Lib.hid (fun wz hv => SetRate_any (.agg #[vh, vs, vo, vr, .int .i64 b.n]) b r0 r1 wz hv hsm HR.out.2.2.1)
  have pZ := Lib.hid (fun wz hv => rSetRate_any (.agg #[vh, vs, vo, vr, .int .i64 b.n]) b r0 r1 wz hv (by have := hsm.out; unfold Bk.Small at this; omega))
  rw [hbZ] at qZ pZ
  have sW : Hid bW.Small := (by
    rw [← hbW]; have h := HFIT.out; unfold Bk.Fit at h
    have h1 := setH_len h0 [h0, h1, h2, h3] false b.h
    show Bk.Small _; unfold Bk.Small; simp only; omega)
  have sX : Hid bX.Small := (by
    rw [← hbX]; have h := HFIT.out; unfold Bk.Fit at h
    have h1 := setS_len s0 s1 [s0, s1, s2] (s2 == 0) b.s
    show Bk.Small _; unfold Bk.Small; simp only; omega)
  have sY : Hid bY.Small := (by
    rw [← hbY]; have h := HFIT.out; unfold Bk.Fit at h
    have h1 := setH_len o0 [o0, o1, o2, o3, o4, o5] (o4 == 0) b.o
    show Bk.Small _; unfold Bk.Small; simp only; omega)
  have sZ : Hid bZ.Small := (by
    rw [← hbZ]; have h := HFIT.out; unfold Bk.Fit at h
    have h1 := setH_len r0 [r0, r1] false b.r
    show Bk.Small _; unfold Bk.Small; simp only; omega)
  have rW : Hid (bW.riseB = true) := (by
    show _ = _; rw [Bk.riseB_iff, ← hbW]; exact ⟨setH_rise h0 _ false HR.out.1 rfl, HR.out.2.1, HR.out.2.2.1, HR.out.2.2.2⟩)
  have rX : Hid (bX.riseB = true) := (by
    show _ = _; rw [Bk.riseB_iff, ← hbX]; exact ⟨HR.out.1, HR.out.2.1, HR.out.2.2.1, setS_rise s0 s1 _ (s2 == 0) HR.out.2.2.2 rfl rfl⟩)
  have rY : Hid (bY.riseB = true) := (by
    show _ = _; rw [Bk.riseB_iff, ← hbY]; exact ⟨HR.out.1, setH_rise o0 _ (o4 == 0) HR.out.2.1 rfl, HR.out.2.2.1, HR.out.2.2.2⟩)
  have rZ : Hid (bZ.riseB = true) := (by
    show _ = _; rw [Bk.riseB_iff, ← hbZ]; exact ⟨HR.out.1, HR.out.2.1, setH_rise r0 _ false HR.out.2.2.1 rfl, HR.out.2.2.2⟩)
  clear hbW hbX hbY hbZ
  have HC : ∃ x : ExtOf w5, w5.drew = x.w := ⟨⟨_, (Below.refl _ _).drew⟩, rfl⟩
  have lK := (Array.getElem?_eq_some_iff.1 K4.out).1
  have k_0 := cells_of_blk K4.out 0 _ rfl
  have k_1 := cells_of_blk K4.out 1 _ rfl
  have k_2 := cells_of_blk K4.out 2 _ rfl
  have k_3 := cells_of_blk K4.out 3 _ rfl
  have k_4 := cells_of_blk K4.out 4 _ rfl
  have lH := (Array.getElem?_eq_some_iff.1 H4.out).1
  have h_0 := cells_of_blk H4.out 0 _ rfl
  have h_1 := cells_of_blk H4.out 1 _ rfl
  have h_2 := cells_of_blk H4.out 2 _ rfl
  have h_3 := cells_of_blk H4.out 3 _ rfl
  have lS := (Array.getElem?_eq_some_iff.1 S4.out).1
  have s_0 := cells_of_blk S4.out 0 _ rfl
  have s_1 := cells_of_blk S4.out 1 _ rfl
  have s_2 := cells_of_blk S4.out 2 _ rfl
  have lO := (Array.getElem?_eq_some_iff.1 O4.out).1
  have o_0 := cells_of_blk O4.out 0 _ rfl
  have o_1 := cells_of_blk O4.out 1 _ rfl
  have o_2 := cells_of_blk O4.out 2 _ rfl
  have o_3 := cells_of_blk O4.out 3 _ rfl
  have o_4 := cells_of_blk O4.out 4 _ rfl
  have o_5 := cells_of_blk O4.out 5 _ rfl
  have lR := (Array.getElem?_eq_some_iff.1 R4.out).1
  have r_0 := cells_of_blk R4.out 0 _ rfl
  have r_1 := cells_of_blk R4.out 1 _ rfl
  refine wp_region_D [] (fun wz => ∃ x : ExtOf w5, wz = x.w) 20 #[false, false, false, false, false, false, false, false, false, false, false, false, false, false, false, false, false, false, false, false] (by kernel_rfl) (by kernel_rfl) (by kernel_rfl) ?_
  refine pure_moreD [0, 1, 3, 4, 6, 7, 9, 10] 12 (L' := #[true, true, false, true, true, false, true, true, false, true, true, false, false, false, false, false, false, false, false, false]) (by kernel_rfl) (by kernel_rfl) HC ?_
  simp only [opsAt, List.getElem?_toArray, List.getElem?_cons_zero, List.getElem?_cons_succ]
  refine pure_atG (.agg #[vh, vs, vo, vr, .int .i64 b.n]) rfl (fun wz hC => by obtain ⟨x, rfl⟩ := hC; unfold execOp; go_simp) ?_
  refine pure_atG (.agg #[.int .i64 h0, .int .i64 h1, .int .i64 h2, .int .i64 h3]) rfl (fun wz hC => by obtain ⟨x, rfl⟩ := hC; unfold execOp; go_simp) ?_
  refine pure_atG (.agg #[vh, vs, vo, vr, .int .i64 b.n]) rfl (fun wz hC => by obtain ⟨x, rfl⟩ := hC; unfold execOp; go_simp) ?_
  refine pure_atG (.agg #[.int .i64 s0, .int .i64 s1, .int .i64 s2]) rfl (fun wz hC => by obtain ⟨x, rfl⟩ := hC; unfold execOp; go_simp) ?_
  refine pure_atG (.agg #[vh, vs, vo, vr, .int .i64 b.n]) rfl (fun wz hC => by obtain ⟨x, rfl⟩ := hC; unfold execOp; go_simp) ?_
  refine pure_atG (.agg #[.int .i64 o0, .int .i64 o1, .int .i64 o2, .int .i64 o3, .int .i64 o4, .int .i64 o5]) rfl (fun wz hC => by obtain ⟨x, rfl⟩ := hC; unfold execOp; go_simp) ?_
  refine pure_atG (.agg #[vh, vs, vo, vr, .int .i64 b.n]) rfl (fun wz hC => by obtain ⟨x, rfl⟩ := hC; unfold execOp; go_simp) ?_
  refine pure_atG (.agg #[.int .i64 r0, .int .i64 r1]) rfl (fun wz hC => by obtain ⟨x, rfl⟩ := hC; unfold execOp; go_simp) ?_
  unfold wpPure
  go_simp
  refine free_ops (W0 := w5) 4 #[true, true, true, true, true, true, true, true, true, true, true, true, true, true, true, true, false, false, false, false] (fun _ _ => false) (fun wz hz => ⟨⟨wz, hz⟩, rfl⟩) [29, 32, 35, 38, 12, 13, 14, 15] 8
    [⟨2, 29, fun lo hi v wz => BkOwn wz lo v bW⟩, ⟨5, 32, fun lo hi v wz => BkOwn wz lo v bX⟩, ⟨8, 35, fun lo hi v wz => BkOwn wz lo v bY⟩, ⟨11, 38, fun lo hi v wz => BkOwn wz lo v bZ⟩, ⟨12, 12, fun lo hi v wz => v = .pointer (some ⟨lo, 0, none⟩) ∧ lo < hi ∧ wz.heap[lo]? = some (.cells #[.slice none 0 0, .slice none 0 0, .slice none 0 0, .slice none 0 0, .int .i64 0] 37 (0, 0))⟩, ⟨13, 13, fun lo hi v wz => v = .pointer (some ⟨lo, 0, none⟩) ∧ lo < hi ∧ wz.heap[lo]? = some (.cells #[.slice none 0 0, .slice none 0 0, .slice none 0 0, .slice none 0 0, .int .i64 0] 37 (0, 0))⟩, ⟨14, 14, fun lo hi v wz => v = .pointer (some ⟨lo, 0, none⟩) ∧ lo < hi ∧ wz.heap[lo]? = some (.cells #[.slice none 0 0, .slice none 0 0, .slice none 0 0, .slice none 0 0, .int .i64 0] 37 (0, 0))⟩, ⟨15, 15, fun lo hi v wz => v = .pointer (some ⟨lo, 0, none⟩) ∧ lo < hi ∧ wz.heap[lo]? = some (.cells #[.slice none 0 0, .slice none 0 0, .slice none 0 0, .slice none 0 0, .int .i64 0] 37 (0, 0))⟩] _ _ _ rfl (Below.refl _ _).drew (ready_all rfl (by kernel_rfl)) (by simp) (by simp) ?_ ?_ ?_
  · intro e he
    simp only [List.mem_cons, List.not_mem_nil, or_false] at he
    rcases he with rfl | rfl | rfl | rfl | rfl | rfl | rfl | rfl
    · exact ⟨can_call 18 #[.agg #[vh, vs, vo, vr, .int .i64 b.n], .agg #[.int .i64 h0, .int .i64 h1, .int .i64 h2, .int .i64 h3]] ⟨_, _, _, rfl, rfl, rfl, rfl, by simp [Act.eval, Act.put], by simp⟩ (fun w => enters_of Try.func18 (by kernel_rfl) rfl _ w) (fun wz hz => (qW.out wz (B4.out.call hz)).mono fun x w' ⟨v, h1, h2, h3⟩ => ⟨v, h1, h2, h3⟩), by simp⟩
    · exact ⟨can_call 19 #[.agg #[vh, vs, vo, vr, .int .i64 b.n], .agg #[.int .i64 s0, .int .i64 s1, .int .i64 s2]] ⟨_, _, _, rfl, rfl, rfl, rfl, by simp [Act.eval, Act.put], by simp⟩ (fun w => enters_of Try.func19 (by kernel_rfl) rfl _ w) (fun wz hz => (qX.out wz (B4.out.call hz)).mono fun x w' ⟨v, h1, h2, h3⟩ => ⟨v, h1, h2, h3⟩), by simp⟩
    · exact ⟨can_call 20 #[.agg #[vh, vs, vo, vr, .int .i64 b.n], .agg #[.int .i64 o0, .int .i64 o1, .int .i64 o2, .int .i64 o3, .int .i64 o4, .int .i64 o5]] ⟨_, _, _, rfl, rfl, rfl, rfl, by simp [Act.eval, Act.put], by simp⟩ (fun w => enters_of Try.func20 (by kernel_rfl) rfl _ w) (fun wz hz => (qY.out wz (B4.out.call hz)).mono fun x w' ⟨v, h1, h2, h3⟩ => ⟨v, h1, h2, h3⟩), by simp⟩
    · exact ⟨can_call 21 #[.agg #[vh, vs, vo, vr, .int .i64 b.n], .agg #[.int .i64 r0, .int .i64 r1]] ⟨_, _, _, rfl, rfl, rfl, rfl, by simp [Act.eval, Act.put], by simp⟩ (fun w => enters_of Try.func21 (by kernel_rfl) rfl _ w) (fun wz hz => (qZ.out wz (B4.out.call hz)).mono fun x w' ⟨v, h1, h2, h3⟩ => ⟨v, h1, h2, h3⟩), by simp⟩
    · exact ⟨can_alloc _ rfl rfl rfl #[.slice none 0 0, .slice none 0 0, .slice none 0 0, .slice none 0 0, .int .i64 0] 37 (fun ev wz => by unfold execOp; go_simp) (fun wz hz => ⟨rfl, by simp, heap_new wz _⟩), by simp⟩
    · exact ⟨can_alloc _ rfl rfl rfl #[.slice none 0 0, .slice none 0 0, .slice none 0 0, .slice none 0 0, .int .i64 0] 37 (fun ev wz => by unfold execOp; go_simp) (fun wz hz => ⟨rfl, by simp, heap_new wz _⟩), by simp⟩
    · exact ⟨can_alloc _ rfl rfl rfl #[.slice none 0 0, .slice none 0 0, .slice none 0 0, .slice none 0 0, .int .i64 0] 37 (fun ev wz => by unfold execOp; go_simp) (fun wz hz => ⟨rfl, by simp, heap_new wz _⟩), by simp⟩
    · exact ⟨can_alloc _ rfl rfl rfl #[.slice none 0 0, .slice none 0 0, .slice none 0 0, .slice none 0 0, .int .i64 0] 37 (fun ev wz => by unfold execOp; go_simp) (fun wz hz => ⟨rfl, by simp, heap_new wz _⟩), by simp⟩
  · intro e he lo hi v w1 w2 hv hb
    simp only [List.mem_cons, List.not_mem_nil, or_false] at he
    rcases he with rfl | rfl | rfl | rfl | rfl | rfl | rfl | rfl
    · exact BkOwn.kept hv hb
    · exact BkOwn.kept hv hb
    · exact BkOwn.kept hv hb
    · exact BkOwn.kept hv hb
    · exact ⟨hv.1, hv.2.1, blk_call hv.2.2 hb⟩
    · exact ⟨hv.1, hv.2.1, blk_call hv.2.2 hb⟩
    · exact ⟨hv.1, hv.2.1, blk_call hv.2.2 hb⟩
    · exact ⟨hv.1, hv.2.1, blk_call hv.2.2 hb⟩
  intro us w6 hus hap hb6
  obtain ⟨u1, u2, u3, u4, u5, u6, u7, u8, rfl⟩ := list_8 hus.len
  obtain ⟨⟨oW, -⟩, ⟨oX, -⟩, ⟨oY, -⟩, ⟨oZ, -⟩, ⟨⟨e5, n5, k5⟩, m5⟩, ⟨⟨e6, n6, k6⟩, m6⟩, ⟨⟨e7, n7, k7⟩, m7⟩, ⟨⟨e8, n8, k8⟩, m8⟩, -⟩ := hus
  obtain ⟨-, -, -, -, ap5, ap6, ap7, -⟩ := hap
  have d56 := (ap5 0 _ _ rfl rfl).1
  have d57 := (ap5 1 _ _ rfl rfl).1
  have d58 := (ap5 2 _ _ rfl rfl).1
  have d67 := (ap6 0 _ _ rfl rfl).1
  have d68 := (ap6 1 _ _ rfl rfl).1
  have d78 := (ap7 0 _ _ rfl rfl).1
  simp only [putsE]
  obtain ⟨lW, hW, vW⟩ := u1
  obtain ⟨lX, hX, vX⟩ := u2
  obtain ⟨lY, hY, vY⟩ := u3
  obtain ⟨lZ, hZ, vZ⟩ := u4
  obtain ⟨g12, hi5, v5⟩ := u5
  obtain ⟨g13, hi6, v6⟩ := u6
  obtain ⟨g14, hi7, v7⟩ := u7
  obtain ⟨g15, hi8, v8⟩ := u8
  simp only at oW oX oY oZ e5 n5 k5 m5 e6 n6 k6 m6 e7 n7 k7 m7 e8 n8 k8 m8 d56 d57 d58 d67 d68 d78 ⊢
  subst e5 e6 e7 e8
  obtain ⟨PW1, pWa, PW2, pWb, PW3, pWc, PW4, pWd, rfl⟩ := oW.form
  obtain ⟨PX1, pXa, PX2, pXb, PX3, pXc, PX4, pXd, rfl⟩ := oX.form
  obtain ⟨PY1, pYa, PY2, pYb, PY3, pYc, PY4, pYd, rfl⟩ := oY.form
  obtain ⟨PZ1, pZa, PZ2, pZb, PZ3, pZc, PZ4, pZd, rfl⟩ := oZ.form
  have z5 : Hid (w5.heap.size ≤ g12 ∧ w5.heap.size ≤ g13 ∧ w5.heap.size ≤ g14 ∧ w5.heap.size ≤ g15) := ⟨m5, m6, m7, m8⟩
  have nWX : ¬ g12 = g13 := by omega
  have nXW : ¬ g13 = g12 := by omega
  have nWY : ¬ g12 = g14 := by omega
  have nYW : ¬ g14 = g12 := by omega
  have nWZ : ¬ g12 = g15 := by omega
  have nZW : ¬ g15 = g12 := by omega
  have nXY : ¬ g13 = g14 := by omega
  have nYX : ¬ g14 = g13 := by omega
  have nXZ : ¬ g13 = g15 := by omega
  have nZX : ¬ g15 = g13 := by omega
  have nYZ : ¬ g14 = g15 := by omega
  have nZY : ¬ g15 = g14 := by omega
  clear d56 d57 d58 d67 d68 d78 n5 n6 n7 n8 m5 m6 m7 m8 ap5 ap6 ap7
  have HB6 : Below w5.heap.size w5 w6 := (Below.refl _ _).drew.trans hb6
  have C1 : Below w5.heap.size w5 (set5 w6 g12 (.slice PW1 bW.h.length pWa) (.slice PW2 bW.s.length pWb) (.slice PW3 bW.o.length pWc) (.slice PW4 bW.r.length pWd) (.int .i64 bW.n)) := set5_below HB6 (by have := z5.out; omega) _ _ _ _ _
  have C2 : Below w5.heap.size w5 (set5 (set5 w6 g12 (.slice PW1 bW.h.length pWa) (.slice PW2 bW.s.length pWb) (.slice PW3 bW.o.length pWc) (.slice PW4 bW.r.length pWd) (.int .i64 bW.n)) g13 (.slice PX1 bX.h.length pXa) (.slice PX2 bX.s.length pXb) (.slice PX3 bX.o.length pXc) (.slice PX4 bX.r.length pXd) (.int .i64 bX.n)) := set5_below C1 (by have := z5.out; omega) _ _ _ _ _
  have C3 : Below w5.heap.size w5 (set5 (set5 (set5 w6 g12 (.slice PW1 bW.h.length pWa) (.slice PW2 bW.s.length pWb) (.slice PW3 bW.o.length pWc) (.slice PW4 bW.r.length pWd) (.int .i64 bW.n)) g13 (.slice PX1 bX.h.length pXa) (.slice PX2 bX.s.length pXb) (.slice PX3 bX.o.length pXc) (.slice PX4 bX.r.length pXd) (.int .i64 bX.n)) g14 (.slice PY1 bY.h.length pYa) (.slice PY2 bY.s.length pYb) (.slice PY3 bY.o.length pYc) (.slice PY4 bY.r.length pYd) (.int .i64 bY.n)) := set5_below C2 (by have := z5.out; omega) _ _ _ _ _
  have C4 : Below w5.heap.size w5 (set5 (set5 (set5 (set5 w6 g12 (.slice PW1 bW.h.length pWa) (.slice PW2 bW.s.length pWb) (.slice PW3 bW.o.length pWc) (.slice PW4 bW.r.length pWd) (.int .i64 bW.n)) g13 (.slice PX1 bX.h.length pXa) (.slice PX2 bX.s.length pXb) (.slice PX3 bX.o.length pXc) (.slice PX4 bX.r.length pXd) (.int .i64 bX.n)) g14 (.slice PY1 bY.h.length pYa) (.slice PY2 bY.s.length pYb) (.slice PY3 bY.o.length pYc) (.slice PY4 bY.r.length pYd) (.int .i64 bY.n)) g15 (.slice PZ1 bZ.h.length pZa) (.slice PZ2 bZ.s.length pZb) (.slice PZ3 bZ.o.length pZc) (.slice PZ4 bZ.r.length pZd) (.int .i64 bZ.n)) := set5_below C3 (by have := z5.out; omega) _ _ _ _ _
  have oW1 := BkOwn.set5 oW k5 (.slice PW1 bW.h.length pWa) (.slice PW2 bW.s.length pWb) (.slice PW3 bW.o.length pWc) (.slice PW4 bW.r.length pWd) (.int .i64 bW.n)
  have oX1 := BkOwn.set5 oX k5 (.slice PW1 bW.h.length pWa) (.slice PW2 bW.s.length pWb) (.slice PW3 bW.o.length pWc) (.slice PW4 bW.r.length pWd) (.int .i64 bW.n)
  have oY1 := BkOwn.set5 oY k5 (.slice PW1 bW.h.length pWa) (.slice PW2 bW.s.length pWb) (.slice PW3 bW.o.length pWc) (.slice PW4 bW.r.length pWd) (.int .i64 bW.n)
  have oZ1 := BkOwn.set5 oZ k5 (.slice PW1 bW.h.length pWa) (.slice PW2 bW.s.length pWb) (.slice PW3 bW.o.length pWc) (.slice PW4 bW.r.length pWd) (.int .i64 bW.n)
  have kW1 := set5_blk k5 (.slice PW1 bW.h.length pWa) (.slice PW2 bW.s.length pWb) (.slice PW3 bW.o.length pWc) (.slice PW4 bW.r.length pWd) (.int .i64 bW.n)
  have kX1 := set5_oth k6 nXW (.slice PW1 bW.h.length pWa) (.slice PW2 bW.s.length pWb) (.slice PW3 bW.o.length pWc) (.slice PW4 bW.r.length pWd) (.int .i64 bW.n)
  have kY1 := set5_oth k7 nYW (.slice PW1 bW.h.length pWa) (.slice PW2 bW.s.length pWb) (.slice PW3 bW.o.length pWc) (.slice PW4 bW.r.length pWd) (.int .i64 bW.n)
  have kZ1 := set5_oth k8 nZW (.slice PW1 bW.h.length pWa) (.slice PW2 bW.s.length pWb) (.slice PW3 bW.o.length pWc) (.slice PW4 bW.r.length pWd) (.int .i64 bW.n)
  have oW2 := BkOwn.set5 oW1 kX1 (.slice PX1 bX.h.length pXa) (.slice PX2 bX.s.length pXb) (.slice PX3 bX.o.length pXc) (.slice PX4 bX.r.length pXd) (.int .i64 bX.n)
  have oX2 := BkOwn.set5 oX1 kX1 (.slice PX1 bX.h.length pXa) (.slice PX2 bX.s.length pXb) (.slice PX3 bX.o.length pXc) (.slice PX4 bX.r.length pXd) (.int .i64 bX.n)
  have oY2 := BkOwn.set5 oY1 kX1 (.slice PX1 bX.h.length pXa) (.slice PX2 bX.s.length pXb) (.slice PX3 bX.o.length pXc) (.slice PX4 bX.r.length pXd) (.int .i64 bX.n)
  have oZ2 := BkOwn.set5 oZ1 kX1 (.slice PX1 bX.h.length pXa) (.slice PX2 bX.s.length pXb) (.slice PX3 bX.o.length pXc) (.slice PX4 bX.r.length pXd) (.int .i64 bX.n)
  have kW2 := set5_oth kW1 nWX (.slice PX1 bX.h.length pXa) (.slice PX2 bX.s.length pXb) (.slice PX3 bX.o.length pXc) (.slice PX4 bX.r.length pXd) (.int .i64 bX.n)
  have kX2 := set5_blk kX1 (.slice PX1 bX.h.length pXa) (.slice PX2 bX.s.length pXb) (.slice PX3 bX.o.length pXc) (.slice PX4 bX.r.length pXd) (.int .i64 bX.n)
  have kY2 := set5_oth kY1 nYX (.slice PX1 bX.h.length pXa) (.slice PX2 bX.s.length pXb) (.slice PX3 bX.o.length pXc) (.slice PX4 bX.r.length pXd) (.int .i64 bX.n)
  have kZ2 := set5_oth kZ1 nZX (.slice PX1 bX.h.length pXa) (.slice PX2 bX.s.length pXb) (.slice PX3 bX.o.length pXc) (.slice PX4 bX.r.length pXd) (.int .i64 bX.n)
  have oW3 := BkOwn.set5 oW2 kY2 (.slice PY1 bY.h.length pYa) (.slice PY2 bY.s.length pYb) (.slice PY3 bY.o.length pYc) (.slice PY4 bY.r.length pYd) (.int .i64 bY.n)
  have oX3 := BkOwn.set5 oX2 kY2 (.slice PY1 bY.h.length pYa) (.slice PY2 bY.s.length pYb) (.slice PY3 bY.o.length pYc) (.slice PY4 bY.r.length pYd) (.int .i64 bY.n)
  have oY3 := BkOwn.set5 oY2 kY2 (.slice PY1 bY.h.length pYa) (.slice PY2 bY.s.length pYb) (.slice PY3 bY.o.length pYc) (.slice PY4 bY.r.length pYd) (.int .i64 bY.n)
  have oZ3 := BkOwn.set5 oZ2 kY2 (.slice PY1 bY.h.length pYa) (.slice PY2 bY.s.length pYb) (.slice PY3 bY.o.length pYc) (.slice PY4 bY.r.length pYd) (.int .i64 bY.n)
  have kW3 := set5_oth kW2 nWY (.slice PY1 bY.h.length pYa) (.slice PY2 bY.s.length pYb) (.slice PY3 bY.o.length pYc) (.slice PY4 bY.r.length pYd) (.int .i64 bY.n)
  have kX3 := set5_oth kX2 nXY (.slice PY1 bY.h.length pYa) (.slice PY2 bY.s.length pYb) (.slice PY3 bY.o.length pYc) (.slice PY4 bY.r.length pYd) (.int .i64 bY.n)
  have kY3 := set5_blk kY2 (.slice PY1 bY.h.length pYa) (.slice PY2 bY.s.length pYb) (.slice PY3 bY.o.length pYc) (.slice PY4 bY.r.length pYd) (.int .i64 bY.n)
  have kZ3 := set5_oth kZ2 nZY (.slice PY1 bY.h.length pYa) (.slice PY2 bY.s.length pYb) (.slice PY3 bY.o.length pYc) (.slice PY4 bY.r.length pYd) (.int .i64 bY.n)
  have oW4 := BkOwn.set5 oW3 kZ3 (.slice PZ1 bZ.h.length pZa) (.slice PZ2 bZ.s.length pZb) (.slice PZ3 bZ.o.length pZc) (.slice PZ4 bZ.r.length pZd) (.int .i64 bZ.n)
  have oX4 := BkOwn.set5 oX3 kZ3 (.slice PZ1 bZ.h.length pZa) (.slice PZ2 bZ.s.length pZb) (.slice PZ3 bZ.o.length pZc) (.slice PZ4 bZ.r.length pZd) (.int .i64 bZ.n)
  have oY4 := BkOwn.set5 oY3 kZ3 (.slice PZ1 bZ.h.length pZa) (.slice PZ2 bZ.s.length pZb) (.slice PZ3 bZ.o.length pZc) (.slice PZ4 bZ.r.length pZd) (.int .i64 bZ.n)
  have oZ4 := BkOwn.set5 oZ3 kZ3 (.slice PZ1 bZ.h.length pZa) (.slice PZ2 bZ.s.length pZb) (.slice PZ3 bZ.o.length pZc) (.slice PZ4 bZ.r.length pZd) (.int .i64 bZ.n)
  have kW4 := set5_oth kW3 nWZ (.slice PZ1 bZ.h.length pZa) (.slice PZ2 bZ.s.length pZb) (.slice PZ3 bZ.o.length pZc) (.slice PZ4 bZ.r.length pZd) (.int .i64 bZ.n)
  have kX4 := set5_oth kX3 nXZ (.slice PZ1 bZ.h.length pZa) (.slice PZ2 bZ.s.length pZb) (.slice PZ3 bZ.o.length pZc) (.slice PZ4 bZ.r.length pZd) (.int .i64 bZ.n)
  have kY4 := set5_oth kY3 nYZ (.slice PZ1 bZ.h.length pZa) (.slice PZ2 bZ.s.length pZb) (.slice PZ3 bZ.o.length pZc) (.slice PZ4 bZ.r.length pZd) (.int .i64 bZ.n)
  have kZ4 := set5_blk kZ3 (.slice PZ1 bZ.h.length pZa) (.slice PZ2 bZ.s.length pZb) (.slice PZ3 bZ.o.length pZc) (.slice PZ4 bZ.r.length pZd) (.int .i64 bZ.n)
  have PW := Lib.hid (kW4)
  have OW := Lib.hid (oW4.at)
  have PX := Lib.hid (kX4)
  have OX := Lib.hid (oX4.at)
  have PY := Lib.hid (kY4)
  have OY := Lib.hid (oY4.at)
  have PZ := Lib.hid (kZ4)
  have OZ := Lib.hid (oZ4.at)
  have HC1 := Lib.hid C1
  have HC2 := Lib.hid C2
  have HC3 := Lib.hid C3
  have HC4 := Lib.hid C4
  have cW_0 := cells_of_blk k5 0 _ rfl
  have fW_0 := free_of_blk k5 0
  have cW_1 := cells_of_blk k5 1 _ rfl
  have fW_1 := free_of_blk k5 1
  have cW_2 := cells_of_blk k5 2 _ rfl
  have fW_2 := free_of_blk k5 2
  have cW_3 := cells_of_blk k5 3 _ rfl
  have fW_3 := free_of_blk k5 3
  have cW_4 := cells_of_blk k5 4 _ rfl
  have fW_4 := free_of_blk k5 4
  have cX_0 := cells_of_blk k6 0 _ rfl
  have fX_0 := free_of_blk k6 0
  have cX_1 := cells_of_blk k6 1 _ rfl
  have fX_1 := free_of_blk k6 1
  have cX_2 := cells_of_blk k6 2 _ rfl
  have fX_2 := free_of_blk k6 2
  have cX_3 := cells_of_blk k6 3 _ rfl
  have fX_3 := free_of_blk k6 3
  have cX_4 := cells_of_blk k6 4 _ rfl
  have fX_4 := free_of_blk k6 4
  have cY_0 := cells_of_blk k7 0 _ rfl
  have fY_0 := free_of_blk k7 0
  have cY_1 := cells_of_blk k7 1 _ rfl
  have fY_1 := free_of_blk k7 1
  have cY_2 := cells_of_blk k7 2 _ rfl
  have fY_2 := free_of_blk k7 2
  have cY_3 := cells_of_blk k7 3 _ rfl
  have fY_3 := free_of_blk k7 3
  have cY_4 := cells_of_blk k7 4 _ rfl
  have fY_4 := free_of_blk k7 4
  have cZ_0 := cells_of_blk k8 0 _ rfl
  have fZ_0 := free_of_blk k8 0
  have cZ_1 := cells_of_blk k8 1 _ rfl
  have fZ_1 := free_of_blk k8 1
  have cZ_2 := cells_of_blk k8 2 _ rfl
  have fZ_2 := free_of_blk k8 2
  have cZ_3 := cells_of_blk k8 3 _ rfl
  have fZ_3 := free_of_blk k8 3
  have cZ_4 := cells_of_blk k8 4 _ rfl
  have fZ_4 := free_of_blk k8 4
  clear C1 C2 C3 C4 k5 k6 k7 k8 oW oX oY oZ oW1 kW1 oW2 kW2 oW3 kW3 oW4 kW4 oX1 kX1 oX2 kX2 oX3 kX3 oX4 kX4 oY1 kY1 oY2 kY2 oY3 kY3 oY4 kY4 oZ1 kZ1 oZ2 kZ2 oZ3 kZ3 oZ4 kZ4 HB6 hb6
  clear lK k_0 k_1 k_2 k_3 k_4
  clear lH h_0 h_1 h_2 h_3
  clear lS s_0 s_1 s_2
  clear lO o_0 o_1 o_2 o_3 o_4 o_5
  clear lR r_0 r_1
  refine wpAnyD_one 16 (f := 3) (L' := #[true, true, true, true, true, true, true, true, true, true, true, true, true, true, true, true, true, false, false, false]) (by kernel_rfl) (by kernel_rfl) rfl rfl ?_
  go_wp2_with fail
  rw [StepQ_normal]
  refine ⟨fun _ => ⟨⟨_, HC1.out⟩, rfl⟩, ?_⟩
  refine wpAnyD_one 17 (f := 2) (L' := #[true, true, true, true, true, true, true, true, true, true, true, true, true, true, true, true, true, true, false, false]) (by kernel_rfl) (by kernel_rfl) rfl rfl ?_
  go_wp2_with fail
  rw [StepQ_normal]
  refine ⟨fun _ => ⟨⟨_, HC2.out⟩, rfl⟩, ?_⟩
  refine wpAnyD_one 18 (f := 1) (L' := #[true, true, true, true, true, true, true, true, true, true, true, true, true, true, true, true, true, true, true, false]) (by kernel_rfl) (by kernel_rfl) rfl rfl ?_
  go_wp2_with fail
  rw [StepQ_normal]
  refine ⟨fun _ => ⟨⟨_, HC3.out⟩, rfl⟩, ?_⟩
  refine wpAnyD_one 19 (f := 0) (L' := #[true, true, true, true, true, true, true, true, true, true, true, true, true, true, true, true, true, true, true, true]) (by kernel_rfl) (by kernel_rfl) rfl rfl ?_
  go_wp2_with fail
  rw [StepQ_normal]
  refine ⟨fun _ => ⟨⟨_, HC4.out⟩, rfl⟩, ?_⟩
  refine ⟨by kernel_rfl, ?_⟩
  rw [OnlyN_normal]
  obtain ⟨w7, hw7⟩ : ∃ w7, (set5 (set5 (set5 (set5 w6 g12 (.slice PW1 bW.h.length pWa) (.slice PW2 bW.s.length pWb) (.slice PW3 bW.o.length pWc) (.slice PW4 bW.r.length pWd) (.int .i64 bW.n)) g13 (.slice PX1 bX.h.length pXa) (.slice PX2 bX.s.length pXb) (.slice PX3 bX.o.length pXc) (.slice PX4 bX.r.length pXd) (.int .i64 bX.n)) g14 (.slice PY1 bY.h.length pYa) (.slice PY2 bY.s.length pYb) (.slice PY3 bY.o.length pYc) (.slice PY4 bY.r.length pYd) (.int .i64 bY.n)) g15 (.slice PZ1 bZ.h.length pZa) (.slice PZ2 bZ.s.length pZb) (.slice PZ3 bZ.o.length pZc) (.slice PZ4 bZ.r.length pZd) (.int .i64 bZ.n)) = w7 := ⟨_, rfl⟩
  rw [hw7] at PW PX PY PZ OW OX OY OZ HC4
  unfold set5 at hw7
  rw [hw7]
  clear hw7 HC1 HC2 HC3 cW_0 fW_0 cW_1 fW_1 cW_2 fW_2 cW_3 fW_3 cW_4 fW_4 cX_0 fX_0 cX_1 fX_1 cX_2 fX_2 cX_3 fX_3 cX_4 fX_4 cY_0 fY_0 cY_1 fY_1 cY_2 fY_2 cY_3 fY_3 cY_4 fY_4 cZ_0 fZ_0 cZ_1 fZ_1 cZ_2 fZ_2 cZ_3 fZ_3 cZ_4 fZ_4 nWX nXW nWY nYW nWZ nZW nXY nYX nXZ nZX nYZ nZY
  have K7 := Lib.hid (blk_call K4.out HC4.out)
  have H7 := Lib.hid (blk_call H4.out HC4.out)
  have S7 := Lib.hid (blk_call S4.out HC4.out)
  have O7 := Lib.hid (blk_call O4.out HC4.out)
  have R7 := Lib.hid (blk_call R4.out HC4.out)
  have X7 := Lib.hid (blk_call X4.out HC4.out)
  have V7 := Lib.hid (V4.out.call HC4.out)
  have B7 := Lib.hid (B4.out.call HC4.out)
  have HB7 := Lib.hid (HB4.out.trans (HC4.out.mono HB4.out.size))
  clear HC4 K4 H4 S4 O4 R4 X4 V4 B4 HB4 qW qX qY qZ z5
  clear w6
  have eW := Lib.hid (fun v v' wz h1 h2 => rSame_any v v' bW bW wz h1 h2 sW)
  rw [show sameB bW bW = true from (sameB_iff _ _).2 rfl] at eW
  have eX := Lib.hid (fun v v' wz h1 h2 => rSame_any v v' bX bX wz h1 h2 sX)
  rw [show sameB bX bX = true from (sameB_iff _ _).2 rfl] at eX
  have eY := Lib.hid (fun v v' wz h1 h2 => rSame_any v v' bY bY wz h1 h2 sY)
  rw [show sameB bY bY = true from (sameB_iff _ _).2 rfl] at eY
  have eZ := Lib.hid (fun v v' wz h1 h2 => rSame_any v v' bZ bZ wz h1 h2 sZ)
  rw [show sameB bZ bZ = true from (sameB_iff _ _).2 rfl] at eZ
  have eB := Lib.hid (fun v v' wz h1 h2 => rSame_any v v' b b wz h1 h2 hsm)
  rw [show sameB b b = true from (sameB_iff _ _).2 rfl] at eB
  have lK := (Array.getElem?_eq_some_iff.1 K7.out).1
  have k_0 := cells_of_blk K7.out 0 _ rfl
  have k_1 := cells_of_blk K7.out 1 _ rfl
  have k_2 := cells_of_blk K7.out 2 _ rfl
  have k_3 := cells_of_blk K7.out 3 _ rfl
  have k_4 := cells_of_blk K7.out 4 _ rfl
  have lH := (Array.getElem?_eq_some_iff.1 H7.out).1
  have h_0 := cells_of_blk H7.out 0 _ rfl
  have h_1 := cells_of_blk H7.out 1 _ rfl
  have h_2 := cells_of_blk H7.out 2 _ rfl
  have h_3 := cells_of_blk H7.out 3 _ rfl
  have lS := (Array.getElem?_eq_some_iff.1 S7.out).1
  have s_0 := cells_of_blk S7.out 0 _ rfl
  have s_1 := cells_of_blk S7.out 1 _ rfl
  have s_2 := cells_of_blk S7.out 2 _ rfl
  have lO := (Array.getElem?_eq_some_iff.1 O7.out).1
  have o_0 := cells_of_blk O7.out 0 _ rfl
  have o_1 := cells_of_blk O7.out 1 _ rfl
  have o_2 := cells_of_blk O7.out 2 _ rfl
  have o_3 := cells_of_blk O7.out 3 _ rfl
  have o_4 := cells_of_blk O7.out 4 _ rfl
  have o_5 := cells_of_blk O7.out 5 _ rfl
  have lR := (Array.getElem?_eq_some_iff.1 R7.out).1
  have r_0 := cells_of_blk R7.out 0 _ rfl
  have r_1 := cells_of_blk R7.out 1 _ rfl
  have lW' := (Array.getElem?_eq_some_iff.1 PW.out).1
  have cW_0 := cells_of_blk PW.out 0 _ rfl
  have cW_1 := cells_of_blk PW.out 1 _ rfl
  have cW_2 := cells_of_blk PW.out 2 _ rfl
  have cW_3 := cells_of_blk PW.out 3 _ rfl
  have cW_4 := cells_of_blk PW.out 4 _ rfl
  have lX' := (Array.getElem?_eq_some_iff.1 PX.out).1
  have cX_0 := cells_of_blk PX.out 0 _ rfl
  have cX_1 := cells_of_blk PX.out 1 _ rfl
  have cX_2 := cells_of_blk PX.out 2 _ rfl
  have cX_3 := cells_of_blk PX.out 3 _ rfl
  have cX_4 := cells_of_blk PX.out 4 _ rfl
  have lY' := (Array.getElem?_eq_some_iff.1 PY.out).1
  have cY_0 := cells_of_blk PY.out 0 _ rfl
  have cY_1 := cells_of_blk PY.out 1 _ rfl
  have cY_2 := cells_of_blk PY.out 2 _ rfl
  have cY_3 := cells_of_blk PY.out 3 _ rfl
  have cY_4 := cells_of_blk PY.out 4 _ rfl
  have lZ' := (Array.getElem?_eq_some_iff.1 PZ.out).1
  have cZ_0 := cells_of_blk PZ.out 0 _ rfl
  have cZ_1 := cells_of_blk PZ.out 1 _ rfl
  have cZ_2 := cells_of_blk PZ.out 2 _ rfl
  have cZ_3 := cells_of_blk PZ.out 3 _ rfl
  have cZ_4 := cells_of_blk PZ.out 4 _ rfl
  go_wp2_with fail
  have HC : ∃ x : ExtOf w7, w7.drew = x.w := ⟨⟨_, (Below.refl _ _).drew⟩, rfl⟩
  have HCb : Hid (Below w7.heap.size w7 w7.drew) := (Below.refl _ _).drew
  refine wp_region_D [] (fun wz => ∃ x : ExtOf w7, wz = x.w) 30 #[false, false, false, false, false, false, false, false, false, false, false, false, false, false, false, false, false, false, false, false, false, false, false, false, false, false, false, false, false, false] (by kernel_rfl) (by kernel_rfl) (by kernel_rfl) ?_
  refine pure_moreD [0, 1, 2] 27 (L' := #[true, true, true, false, false, false, false, false, false, false, false, false, false, false, false, false, false, false, false, false, false, false, false, false, false, false, false, false, false, false]) (by kernel_rfl) (by kernel_rfl) HC ?_
  simp only [opsAt, List.getElem?_toArray, List.getElem?_cons_zero, List.getElem?_cons_succ]
  refine pure_atG (.agg #[.slice PW1 bW.h.length pWa, .slice PW2 bW.s.length pWb, .slice PW3 bW.o.length pWc, .slice PW4 bW.r.length pWd, .int .i64 bW.n]) rfl (fun wz hC => by obtain ⟨x, rfl⟩ := hC; unfold execOp; go_simp) ?_
  refine pure_atG (.agg #[vh, vs, vo, vr, .int .i64 b.n]) rfl (fun wz hC => by obtain ⟨x, rfl⟩ := hC; unfold execOp; go_simp) ?_
  refine pure_atG (.agg #[.int .i64 h0, .int .i64 h1, .int .i64 h2, .int .i64 h3]) rfl (fun wz hC => by obtain ⟨x, rfl⟩ := hC; unfold execOp; go_simp) ?_
  unfold wpPure
  go_simp
  refine wpAnyD_one 3 (f := 26) (L' := #[true, true, true, true, false, false, false, false, false, false, false, false, false, false, false, false, false, false, false, false, false, false, false, false, false, false, false, false, false, false]) (by kernel_rfl) (by kernel_rfl) rfl rfl ?_
  go_wp2_with fail
  with_reducible refine (pW.out _ (Lib.hid (B7.out.call HCb.out))).mono ?_
  rintro e wz ⟨v', rfl, hv, hb⟩
  replace HCb : Hid (Below w7.heap.size w7 wz) := HCb.out.trans (hb.mono HCb.out.size)
  have HC : ∃ x : ExtOf w7, wz = x.w := ⟨⟨_, HCb.out⟩, rfl⟩
  have HV := Lib.hid hv
  clear hv hb
  go_wp2_with fail
  rw [StepQ_normal]
  refine ⟨fun _ => HC, ?_⟩
  refine wpAnyD_one 4 (f := 25) (L' := #[true, true, true, true, true, false, false, false, false, false, false, false, false, false, false, false, false, false, false, false, false, false, false, false, false, false, false, false, false, false]) (by kernel_rfl) (by kernel_rfl) rfl rfl ?_
  go_wp2_with fail
  with_reducible refine (eW.out _ _ _ (Lib.hid (OW.out.call HCb.out)) HV).mono ?_
  rintro e wz' ⟨rfl, hb⟩
  replace HCb : Hid (Below w7.heap.size w7 wz') := HCb.out.trans (hb.mono HCb.out.size)
  clear HV hb HC
  clear wz
  have HC : ∃ x : ExtOf w7, wz' = x.w := ⟨⟨_, HCb.out⟩, rfl⟩
  go_wp2_with fail
  rw [StepQ_normal]
  refine ⟨fun _ => HC, ?_⟩
  refine pure_moreD [5, 6, 7, 8, 9] 20 (L' := #[true, true, true, true, true, true, true, true, true, true, false, false, false, false, false, false, false, false, false, false, false, false, false, false, false, false, false, false, false, false]) (by kernel_rfl) (by kernel_rfl) HC ?_
  simp only [opsAt, List.getElem?_toArray, List.getElem?_cons_zero, List.getElem?_cons_succ]
  refine pure_atG (.bool false) rfl (fun wz _ => by unfold execOp; go_simp) ?_
  refine pure_moveG rfl rfl ?_
  refine pure_atG (.agg #[.slice PX1 bX.h.length pXa, .slice PX2 bX.s.length pXb, .slice PX3 bX.o.length pXc, .slice PX4 bX.r.length pXd, .int .i64 bX.n]) rfl (fun wz hC => by obtain ⟨x, rfl⟩ := hC; unfold execOp; go_simp) ?_
  refine pure_atG (.agg #[vh, vs, vo, vr, .int .i64 b.n]) rfl (fun wz hC => by obtain ⟨x, rfl⟩ := hC; unfold execOp; go_simp) ?_
  refine pure_atG (.agg #[.int .i64 s0, .int .i64 s1, .int .i64 s2]) rfl (fun wz hC => by obtain ⟨x, rfl⟩ := hC; unfold execOp; go_simp) ?_
  unfold wpPure
  go_simp
  refine wpAnyD_one 10 (f := 19) (L' := #[true, true, true, true, true, true, true, true, true, true, true, false, false, false, false, false, false, false, false, false, false, false, false, false, false, false, false, false, false, false]) (by kernel_rfl) (by kernel_rfl) rfl rfl ?_
  go_wp2_with fail
  with_reducible refine (pX.out _ (Lib.hid (B7.out.call HCb.out))).mono ?_
  rintro e wz ⟨v', rfl, hv, hb⟩
  replace HCb : Hid (Below w7.heap.size w7 wz) := HCb.out.trans (hb.mono HCb.out.size)
  have HC : ∃ x : ExtOf w7, wz = x.w := ⟨⟨_, HCb.out⟩, rfl⟩
  have HV := Lib.hid hv
  clear hv hb
  go_wp2_with fail
  rw [StepQ_normal]
  refine ⟨fun _ => HC, ?_⟩
  refine wpAnyD_one 11 (f := 18) (L' := #[true, true, true, true, true, true, true, true, true, true, true, true, false, false, false, false, false, false, false, false, false, false, false, false, false, false, false, false, false, false]) (by kernel_rfl) (by kernel_rfl) rfl rfl ?_
  go_wp2_with fail
  with_reducible refine (eX.out _ _ _ (Lib.hid (OX.out.call HCb.out)) HV).mono ?_
  rintro e wz' ⟨rfl, hb⟩
  replace HCb : Hid (Below w7.heap.size w7 wz') := HCb.out.trans (hb.mono HCb.out.size)
  clear HV hb HC
  clear wz
  have HC : ∃ x : ExtOf w7, wz' = x.w := ⟨⟨_, HCb.out⟩, rfl⟩
  go_wp2_with fail
  rw [StepQ_normal]
  refine ⟨fun _ => HC, ?_⟩
  refine pure_moreD [12, 13, 14, 15, 16, 17] 12 (L' := #[true, true, true, true, true, true, true, true, true, true, true, true, true, true, true, true, true, true, false, false, false, false, false, false, false, false, false, false, false, false]) (by kernel_rfl) (by kernel_rfl) HC ?_
  simp only [opsAt, List.getElem?_toArray, List.getElem?_cons_zero, List.getElem?_cons_succ]
  refine pure_atG (.bool false) rfl (fun wz _ => by unfold execOp; go_simp) ?_
  refine pure_atG (.bool false) rfl (fun wz _ => by unfold execOp; go_simp) ?_
  refine pure_moveG rfl rfl ?_
  refine pure_atG (.agg #[.slice PY1 bY.h.length pYa, .slice PY2 bY.s.length pYb, .slice PY3 bY.o.length pYc, .slice PY4 bY.r.length pYd, .int .i64 bY.n]) rfl (fun wz hC => by obtain ⟨x, rfl⟩ := hC; unfold execOp; go_simp) ?_
  refine pure_atG (.agg #[vh, vs, vo, vr, .int .i64 b.n]) rfl (fun wz hC => by obtain ⟨x, rfl⟩ := hC; unfold execOp; go_simp) ?_
  refine pure_atG (.agg #[.int .i64 o0, .int .i64 o1, .int .i64 o2, .int .i64 o3, .int .i64 o4, .int .i64 o5]) rfl (fun wz hC => by obtain ⟨x, rfl⟩ := hC; unfold execOp; go_simp) ?_
  unfold wpPure
  go_simp
  refine wpAnyD_one 18 (f := 11) (L' := #[true, true, true, true, true, true, true, true, true, true, true, true, true, true, true, true, true, true, true, false, false, false, false, false, false, false, false, false, false, false]) (by kernel_rfl) (by kernel_rfl) rfl rfl ?_
  go_wp2_with fail
  with_reducible refine (pY.out _ (Lib.hid (B7.out.call HCb.out))).mono ?_
  rintro e wz ⟨v', rfl, hv, hb⟩
  replace HCb : Hid (Below w7.heap.size w7 wz) := HCb.out.trans (hb.mono HCb.out.size)
  have HC : ∃ x : ExtOf w7, wz = x.w := ⟨⟨_, HCb.out⟩, rfl⟩
  have HV := Lib.hid hv
  clear hv hb
  go_wp2_with fail
  rw [StepQ_normal]
  refine ⟨fun _ => HC, ?_⟩
  refine wpAnyD_one 19 (f := 10) (L' := #[true, true, true, true, true, true, true, true, true, true, true, true, true, true, true, true, true, true, true, true, false, false, false, false, false, false, false, false, false, false]) (by kernel_rfl) (by kernel_rfl) rfl rfl ?_
  go_wp2_with fail
  with_reducible refine (eY.out _ _ _ (Lib.hid (OY.out.call HCb.out)) HV).mono ?_
  rintro e wz' ⟨rfl, hb⟩
  replace HCb : Hid (Below w7.heap.size w7 wz') := HCb.out.trans (hb.mono HCb.out.size)
  clear HV hb HC
  clear wz
  have HC : ∃ x : ExtOf w7, wz' = x.w := ⟨⟨_, HCb.out⟩, rfl⟩
  go_wp2_with fail
  rw [StepQ_normal]
  refine ⟨fun _ => HC, ?_⟩
  refine pure_moreD [20, 21, 22, 23, 24, 25] 4 (L' := #[true, true, true, true, true, true, true, true, true, true, true, true, true, true, true, true, true, true, true, true, true, true, true, true, true, true, false, false, false, false]) (by kernel_rfl) (by kernel_rfl) HC ?_
  simp only [opsAt, List.getElem?_toArray, List.getElem?_cons_zero, List.getElem?_cons_succ]
  refine pure_atG (.bool false) rfl (fun wz _ => by unfold execOp; go_simp) ?_
  refine pure_atG (.bool false) rfl (fun wz _ => by unfold execOp; go_simp) ?_
  refine pure_moveG rfl rfl ?_
  refine pure_atG (.agg #[.slice PZ1 bZ.h.length pZa, .slice PZ2 bZ.s.length pZb, .slice PZ3 bZ.o.length pZc, .slice PZ4 bZ.r.length pZd, .int .i64 bZ.n]) rfl (fun wz hC => by obtain ⟨x, rfl⟩ := hC; unfold execOp; go_simp) ?_
  refine pure_atG (.agg #[vh, vs, vo, vr, .int .i64 b.n]) rfl (fun wz hC => by obtain ⟨x, rfl⟩ := hC; unfold execOp; go_simp) ?_
  refine pure_atG (.agg #[.int .i64 r0, .int .i64 r1]) rfl (fun wz hC => by obtain ⟨x, rfl⟩ := hC; unfold execOp; go_simp) ?_
  unfold wpPure
  go_simp
  refine wpAnyD_one 26 (f := 3) (L' := #[true, true, true, true, true, true, true, true, true, true, true, true, true, true, true, true, true, true, true, true, true, true, true, true, true, true, true, false, false, false]) (by kernel_rfl) (by kernel_rfl) rfl rfl ?_
  go_wp2_with fail
  with_reducible refine (pZ.out _ (Lib.hid (B7.out.call HCb.out))).mono ?_
  rintro e wz ⟨v', rfl, hv, hb⟩
  replace HCb : Hid (Below w7.heap.size w7 wz) := HCb.out.trans (hb.mono HCb.out.size)
  have HC : ∃ x : ExtOf w7, wz = x.w := ⟨⟨_, HCb.out⟩, rfl⟩
  have HV := Lib.hid hv
  clear hv hb
  go_wp2_with fail
  rw [StepQ_normal]
  refine ⟨fun _ => HC, ?_⟩
  refine wpAnyD_one 27 (f := 2) (L' := #[true, true, true, true, true, true, true, true, true, true, true, true, true, true, true, true, true, true, true, true, true, true, true, true, true, true, true, true, false, false]) (by kernel_rfl) (by kernel_rfl) rfl rfl ?_
  go_wp2_with fail
  with_reducible refine (eZ.out _ _ _ (Lib.hid (OZ.out.call HCb.out)) HV).mono ?_
  rintro e wz' ⟨rfl, hb⟩
  replace HCb : Hid (Below w7.heap.size w7 wz') := HCb.out.trans (hb.mono HCb.out.size)
  clear HV hb HC
  clear wz
  have HC : ∃ x : ExtOf w7, wz' = x.w := ⟨⟨_, HCb.out⟩, rfl⟩
  go_wp2_with fail
  rw [StepQ_normal]
  refine ⟨fun _ => HC, ?_⟩
  refine pure_moreD [28, 29] 0 (L' := #[true, true, true, true, true, true, true, true, true, true, true, true, true, true, true, true, true, true, true, true, true, true, true, true, true, true, true, true, true, true]) (by kernel_rfl) (by kernel_rfl) HC ?_
  simp only [opsAt, List.getElem?_toArray, List.getElem?_cons_zero, List.getElem?_cons_succ]
  refine pure_atG (.bool false) rfl (fun wz _ => by unfold execOp; go_simp) ?_
  refine pure_atG (.bool false) rfl (fun wz _ => by unfold execOp; go_simp) ?_
  unfold wpPure
  go_simp
  refine ⟨by kernel_rfl, ?_⟩
  rw [OnlyN_normal]
  clear HC
  clear lK k_0 k_1 k_2 k_3 k_4
  clear lH h_0 h_1 h_2 h_3
  clear lS s_0 s_1 s_2
  clear lO o_0 o_1 o_2 o_3 o_4 o_5
  clear lR r_0 r_1
  clear lW' cW_0 cW_1 cW_2 cW_3 cW_4
  clear lX' cX_0 cX_1 cX_2 cX_3 cX_4
  clear lY' cY_0 cY_1 cY_2 cY_3 cY_4
  clear lZ' cZ_0 cZ_1 cZ_2 cZ_3 cZ_4
  clear pW pX pY pZ eW eX eY eZ
  have P := Lib.hid (blk_call PW.out HCb.out)
  have c_0 := cells_of_blk P.out 0 _ rfl
  have c_1 := cells_of_blk P.out 1 _ rfl
  have c_2 := cells_of_blk P.out 2 _ rfl
  have c_3 := cells_of_blk P.out 3 _ rfl
  have c_4 := cells_of_blk P.out 4 _ rfl
  have q := Lib.hid (fun v wz h => rRise_any v bW wz h sW)
  rw [rW.out] at q
  go_wp2_with fail
  with_reducible refine (q.out _ _ (Lib.hid (OW.out.call HCb.out))).mono ?_
  rintro e wa0 ⟨rfl, hb⟩
  replace HCb : Hid (Below w7.heap.size w7 wa0) := HCb.out.trans (hb.mono HCb.out.size)
  clear hb q P c_0 c_1 c_2 c_3 c_4
  have P := Lib.hid (blk_call PX.out HCb.out)
  have c_0 := cells_of_blk P.out 0 _ rfl
  have c_1 := cells_of_blk P.out 1 _ rfl
  have c_2 := cells_of_blk P.out 2 _ rfl
  have c_3 := cells_of_blk P.out 3 _ rfl
  have c_4 := cells_of_blk P.out 4 _ rfl
  have q := Lib.hid (fun v wz h => rRise_any v bX wz h sX)
  rw [rX.out] at q
  go_wp2_with fail
  with_reducible refine (q.out _ _ (Lib.hid (OX.out.call HCb.out))).mono ?_
  rintro e wa1 ⟨rfl, hb⟩
  replace HCb : Hid (Below w7.heap.size w7 wa1) := HCb.out.trans (hb.mono HCb.out.size)
  clear hb q P c_0 c_1 c_2 c_3 c_4
  have P := Lib.hid (blk_call PY.out HCb.out)
  have c_0 := cells_of_blk P.out 0 _ rfl
  have c_1 := cells_of_blk P.out 1 _ rfl
  have c_2 := cells_of_blk P.out 2 _ rfl
  have c_3 := cells_of_blk P.out 3 _ rfl
  have c_4 := cells_of_blk P.out 4 _ rfl
  have q := Lib.hid (fun v wz h => rRise_any v bY wz h sY)
  rw [rY.out] at q
  go_wp2_with fail
  with_reducible refine (q.out _ _ (Lib.hid (OY.out.call HCb.out))).mono ?_
  rintro e wa2 ⟨rfl, hb⟩
  replace HCb : Hid (Below w7.heap.size w7 wa2) := HCb.out.trans (hb.mono HCb.out.size)
  clear hb q P c_0 c_1 c_2 c_3 c_4
  have P := Lib.hid (blk_call PZ.out HCb.out)
  have c_0 := cells_of_blk P.out 0 _ rfl
  have c_1 := cells_of_blk P.out 1 _ rfl
  have c_2 := cells_of_blk P.out 2 _ rfl
  have c_3 := cells_of_blk P.out 3 _ rfl
  have c_4 := cells_of_blk P.out 4 _ rfl
  have q := Lib.hid (fun v wz h => rRise_any v bZ wz h sZ)
  rw [rZ.out] at q
  go_wp2_with fail
  with_reducible refine (q.out _ _ (Lib.hid (OZ.out.call HCb.out))).mono ?_
  rintro e wa3 ⟨rfl, hb⟩
  replace HCb : Hid (Below w7.heap.size w7 wa3) := HCb.out.trans (hb.mono HCb.out.size)
  clear hb q P c_0 c_1 c_2 c_3 c_4
  have KK := Lib.hid (blk_call K7.out HCb.out)
  have XX := Lib.hid (blk_call X7.out HCb.out)
  have c_0 := cells_of_blk KK.out 0 _ rfl
  have d_0 := cells_of_blk XX.out 0 _ rfl
  have c_1 := cells_of_blk KK.out 1 _ rfl
  have d_1 := cells_of_blk XX.out 1 _ rfl
  have c_2 := cells_of_blk KK.out 2 _ rfl
  have d_2 := cells_of_blk XX.out 2 _ rfl
  have c_3 := cells_of_blk KK.out 3 _ rfl
  have d_3 := cells_of_blk XX.out 3 _ rfl
  have c_4 := cells_of_blk KK.out 4 _ rfl
  have d_4 := cells_of_blk XX.out 4 _ rfl
  go_wp2_with fail
  with_reducible refine (eB.out _ _ _ (Lib.hid (B7.out.call HCb.out)) (Lib.hid (V7.out.call HCb.out))).mono ?_
  rintro e wb ⟨rfl, hb⟩
  have HE := Lib.hid (HB7.out.trans ((HCb.out.trans (hb.mono HCb.out.size)).mono HB7.out.size))
  clear hb
  go_wp2_with fail
  go_ret
  exact ⟨rfl, HE.out⟩
end Go.Proofs.Ytfkfpppiikgjbaa
