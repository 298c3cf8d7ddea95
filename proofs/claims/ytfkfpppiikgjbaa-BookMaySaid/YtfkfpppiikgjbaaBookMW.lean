/- BookMay: the walk. PRINTED BY genBookMW.py. -/
import Derived.Test.YtfkfpppiikgjbaaBookN
import Derived.Test.YtfkfpppiikgjbaaBookY
import Derived.Test.YtfkfpppiikgjbaaRegD
namespace Go.Proofs.Ytfkfpppiikgjbaa
open Go Go.RowKit
set_option linter.unusedVariables false
set_option linter.unusedSimpArgs false

set_option maxRecDepth 100000 in
set_option maxHeartbeats 8000000 in
theorem BookMay_walk (v u : Value) (a b : Bk) (w : World) (ha : Hid (BkAt w v a)) (hb : Hid (BkAt w u b)) :
    Calls Try.prog 5 #[v, u] w fun e w' => e = .returned (.bool true) ∧ Below w.heap.size w w' := by
  obtain ⟨vh, vs, vo, vr, rfl, q1, q2, q3, q4⟩ := ha.out
  obtain ⟨uh, us, uo, ur, rfl, p1, p2, p3, p4⟩ := hb.out
  clear q1 q2 q3 q4 p1 p2 p3 p4
  obtain ⟨w0, hw0⟩ : ∃ w0, (w.alloc (.cells #[vh, vs, vo, vr, .int .i64 a.n] 37)).alloc (.cells #[uh, us, uo, ur, .int .i64 b.n] 37) = w0 := ⟨_, rfl⟩
  have K0 : Hid (w0.heap[w.heap.size]? = some (.cells #[vh, vs, vo, vr, .int .i64 a.n] 37 (0, 0))) := by rw [← hw0]; exact blk_old (heap_new _ _) _
  have J0 : Hid (w0.heap[w.heap.size + 1]? = some (.cells #[uh, us, uo, ur, .int .i64 b.n] 37 (0, 0))) := by rw [← hw0]; exact blk_new _ _ _ (by simp)
  have HB0 : Hid (Below w.heap.size w w0) := by rw [← hw0]; exact below_alloc (below_alloc (Below.refl _ _) (Nat.le_refl _) _) (by simp) _
  have A0 : Hid (BkAt w0 (.agg #[vh, vs, vo, vr, .int .i64 a.n]) a) := ha.out.call HB0.out
  have B0 : Hid (BkAt w0 (.agg #[uh, us, uo, ur, .int .i64 b.n]) b) := hb.out.call HB0.out
  clear ha hb
  replace hw0 := Lib.hid hw0
  go_enter Try.func5, Try.ntmps5
  go_wp2_with fail
  rw [hw0.out]
  with_reducible refine (alive12 _).mono ?_
  rintro e w1 ⟨rfl, hb⟩
  have K1 := Lib.hid (blk_call K0.out hb)
  have J1 := Lib.hid (blk_call J0.out hb)
  have A1 := Lib.hid (A0.out.call hb)
  have B1 := Lib.hid (B0.out.call hb)
  have HB1 := Lib.hid (HB0.out.trans (hb.mono HB0.out.size))
  clear hb
  have k_0 := cells_of_blk K1.out 0 _ rfl
  have k_1 := cells_of_blk K1.out 1 _ rfl
  have k_2 := cells_of_blk K1.out 2 _ rfl
  have k_3 := cells_of_blk K1.out 3 _ rfl
  have k_4 := cells_of_blk K1.out 4 _ rfl
  have j_0 := cells_of_blk J1.out 0 _ rfl
  have j_1 := cells_of_blk J1.out 1 _ rfl
  have j_2 := cells_of_blk J1.out 2 _ rfl
  have j_3 := cells_of_blk J1.out 3 _ rfl
  have j_4 := cells_of_blk J1.out 4 _ rfl
  go_wp2_with fail
  with_reducible refine (Great_any _ a _ A1).mono ?_
  rintro e w2 ⟨g, rfl, hg, hb⟩
  have K2 := Lib.hid (blk_call K1.out hb)
  have J2 := Lib.hid (blk_call J1.out hb)
  have A2 := Lib.hid (A1.out.call hb)
  have B2 := Lib.hid (B1.out.call hb)
  have HB2 := Lib.hid (HB1.out.trans (hb.mono HB1.out.size))
  clear hb
  cases g with
  | true =>
    clear hg
    go_wp2_with fail
    go_ret
    exact ⟨rfl, HB2.out⟩
  | false =>
  have hsa := Lib.hid (hg rfl).small
  clear hg
  clear k_0 k_1 k_2 k_3 k_4 j_0 j_1 j_2 j_3 j_4
  have k_0 := cells_of_blk K2.out 0 _ rfl
  have k_1 := cells_of_blk K2.out 1 _ rfl
  have k_2 := cells_of_blk K2.out 2 _ rfl
  have k_3 := cells_of_blk K2.out 3 _ rfl
  have k_4 := cells_of_blk K2.out 4 _ rfl
  have j_0 := cells_of_blk J2.out 0 _ rfl
  have j_1 := cells_of_blk J2.out 1 _ rfl
  have j_2 := cells_of_blk J2.out 2 _ rfl
  have j_3 := cells_of_blk J2.out 3 _ rfl
  have j_4 := cells_of_blk J2.out 4 _ rfl
  go_wp2_with fail
  with_reducible refine (Great_any _ b _ B2).mono ?_
  rintro e w3 ⟨g, rfl, hg, hb⟩
  have K3 := Lib.hid (blk_call K2.out hb)
  have J3 := Lib.hid (blk_call J2.out hb)
  have A3 := Lib.hid (A2.out.call hb)
  have B3 := Lib.hid (B2.out.call hb)
  have HB3 := Lib.hid (HB2.out.trans (hb.mono HB2.out.size))
  clear hb
  cases g with
  | true =>
    clear hg
    go_wp2_with fail
    go_ret
    exact ⟨rfl, HB3.out⟩
  | false =>
  have hsb := Lib.hid (hg rfl).small
  clear hg
  clear k_0 k_1 k_2 k_3 k_4 j_0 j_1 j_2 j_3 j_4
  have k_0 := cells_of_blk K3.out 0 _ rfl
  have k_1 := cells_of_blk K3.out 1 _ rfl
  have k_2 := cells_of_blk K3.out 2 _ rfl
  have k_3 := cells_of_blk K3.out 3 _ rfl
  have k_4 := cells_of_blk K3.out 4 _ rfl
  have j_0 := cells_of_blk J3.out 0 _ rfl
  have j_1 := cells_of_blk J3.out 1 _ rfl
  have j_2 := cells_of_blk J3.out 2 _ rfl
  have j_3 := cells_of_blk J3.out 3 _ rfl
  have j_4 := cells_of_blk J3.out 4 _ rfl
  have qm := Lib.hid (fun u wz h => BkMay_any u a wz h hsa)
  have pm := Lib.hid (fun u wz h => rBkMay_any u a wz h hsa)
  have qs := Lib.hid (fun u u' wz h h' => BkSame_any u u' a b wz h h' hsa hsb)
  have ps := Lib.hid (fun u u' wz h h' => rSame_any u u' a b wz h h' hsa)
  have qa := Lib.hid (fun u u' wz h h' => BkSame_any u u' a a wz h h' hsa hsa)
  have pa := Lib.hid (fun u u' wz h h' => rSame_any u u' a a wz h h' hsa)
  rw [show sameB a a = true from (sameB_iff _ _).2 rfl] at qa pa
  have qc := Lib.hid (fun u wz h => Copy_any u a wz h hsa)
  generalize a.mayB = mA at *
  generalize sameB a b = mS at *
  have t0 : ∀ x : Bool, (x == x) = true := fun x => by simp
  have lK := (Array.getElem?_eq_some_iff.1 K3.out).1
  have lJ := (Array.getElem?_eq_some_iff.1 J3.out).1
  go_wp2_with fail
  have HC : ∃ x : ExtOf w3, w3.drew = x.w := ⟨⟨_, (Below.refl _ _).drew⟩, rfl⟩
  have HCb : Hid (Below w3.heap.size w3 w3.drew) := (Below.refl _ _).drew
  refine wp_region_D [] (fun wz => ∃ x : ExtOf w3, wz = x.w) 26 #[false, false, false, false, false, false, false, false, false, false, false, false, false, false, false, false, false, false, false, false, false, false, false, false, false, false] (by kernel_rfl) (by kernel_rfl) (by kernel_rfl) ?_
  refine pure_moreD [0, 2] 24 (L' := #[true, false, true, false, false, false, false, false, false, false, false, false, false, false, false, false, false, false, false, false, false, false, false, false, false, false]) (by kernel_rfl) (by kernel_rfl) HC ?_
  simp only [opsAt, List.getElem?_toArray, List.getElem?_cons_zero, List.getElem?_cons_succ]
  refine pure_atG (.agg #[vh, vs, vo, vr, .int .i64 a.n]) rfl (fun wz hC => by obtain ⟨x, rfl⟩ := hC; unfold execOp; go_simp) ?_
  refine pure_atG (.agg #[vh, vs, vo, vr, .int .i64 a.n]) rfl (fun wz hC => by obtain ⟨x, rfl⟩ := hC; unfold execOp; go_simp) ?_
  unfold wpPure
  go_simp
  refine wpAnyD_one 1 (f := 23) (L' := #[true, true, true, false, false, false, false, false, false, false, false, false, false, false, false, false, false, false, false, false, false, false, false, false, false, false]) (by kernel_rfl) (by kernel_rfl) rfl rfl ?_
  go_wp2_with fail
  with_reducible refine (qm.out _ _ (Lib.hid (A3.out.call HCb.out))).mono ?_
  rintro e wc1 ⟨rfl, hb⟩
  replace HCb : Hid (Below w3.heap.size w3 wc1) := HCb.out.trans (hb.mono HCb.out.size)
  have HC : ∃ x : ExtOf w3, wc1 = x.w := ⟨⟨_, HCb.out⟩, rfl⟩
  clear hb
  go_wp2_with fail
  rw [StepQ_normal]
  refine ⟨fun _ => HC, ?_⟩
  refine wpAnyD_one 3 (f := 22) (L' := #[true, true, true, true, false, false, false, false, false, false, false, false, false, false, false, false, false, false, false, false, false, false, false, false, false, false]) (by kernel_rfl) (by kernel_rfl) rfl rfl ?_
  go_wp2_with fail
  with_reducible refine (pm.out _ _ (Lib.hid (A3.out.call HCb.out))).mono ?_
  rintro e wc2 ⟨rfl, hb⟩
  replace HCb : Hid (Below w3.heap.size w3 wc2) := HCb.out.trans (hb.mono HCb.out.size)
  have HC : ∃ x : ExtOf w3, wc2 = x.w := ⟨⟨_, HCb.out⟩, rfl⟩
  clear hb
  go_wp2_with fail
  rw [StepQ_normal]
  refine ⟨fun _ => HC, ?_⟩
  refine pure_moreD [4, 5, 6, 7, 9, 10] 16 (L' := #[true, true, true, true, true, true, true, true, false, true, true, false, false, false, false, false, false, false, false, false, false, false, false, false, false, false]) (by kernel_rfl) (by kernel_rfl) HC ?_
  simp only [opsAt, List.getElem?_toArray, List.getElem?_cons_zero, List.getElem?_cons_succ]
  refine pure_atG (.bool true) rfl (fun wz _ => by unfold execOp; go_simp) ?_
  refine pure_moveG rfl rfl ?_
  refine pure_atG (.agg #[vh, vs, vo, vr, .int .i64 a.n]) rfl (fun wz hC => by obtain ⟨x, rfl⟩ := hC; unfold execOp; go_simp) ?_
  refine pure_atG (.agg #[uh, us, uo, ur, .int .i64 b.n]) rfl (fun wz hC => by obtain ⟨x, rfl⟩ := hC; unfold execOp; go_simp) ?_
  refine pure_atG (.agg #[vh, vs, vo, vr, .int .i64 a.n]) rfl (fun wz hC => by obtain ⟨x, rfl⟩ := hC; unfold execOp; go_simp) ?_
  refine pure_atG (.agg #[uh, us, uo, ur, .int .i64 b.n]) rfl (fun wz hC => by obtain ⟨x, rfl⟩ := hC; unfold execOp; go_simp) ?_
  unfold wpPure
  go_simp
  refine wpAnyD_one 8 (f := 15) (L' := #[true, true, true, true, true, true, true, true, true, true, true, false, false, false, false, false, false, false, false, false, false, false, false, false, false, false]) (by kernel_rfl) (by kernel_rfl) rfl rfl ?_
  go_wp2_with fail
  with_reducible refine (qs.out _ _ _ (Lib.hid (A3.out.call HCb.out)) (Lib.hid (B3.out.call HCb.out))).mono ?_
  rintro e wc3 ⟨rfl, hb⟩
  replace HCb : Hid (Below w3.heap.size w3 wc3) := HCb.out.trans (hb.mono HCb.out.size)
  have HC : ∃ x : ExtOf w3, wc3 = x.w := ⟨⟨_, HCb.out⟩, rfl⟩
  clear hb
  go_wp2_with fail
  rw [StepQ_normal]
  refine ⟨fun _ => HC, ?_⟩
  refine wpAnyD_one 11 (f := 14) (L' := #[true, true, true, true, true, true, true, true, true, true, true, true, false, false, false, false, false, false, false, false, false, false, false, false, false, false]) (by kernel_rfl) (by kernel_rfl) rfl rfl ?_
  go_wp2_with fail
  with_reducible refine (ps.out _ _ _ (Lib.hid (A3.out.call HCb.out)) (Lib.hid (B3.out.call HCb.out))).mono ?_
  rintro e wc4 ⟨rfl, hb⟩
  replace HCb : Hid (Below w3.heap.size w3 wc4) := HCb.out.trans (hb.mono HCb.out.size)
  have HC : ∃ x : ExtOf w3, wc4 = x.w := ⟨⟨_, HCb.out⟩, rfl⟩
  clear hb
  go_wp2_with fail
  rw [StepQ_normal]
  refine ⟨fun _ => HC, ?_⟩
  refine pure_moreD [12, 13, 14, 15, 16] 9 (L' := #[true, true, true, true, true, true, true, true, true, true, true, true, true, true, true, true, true, false, false, false, false, false, false, false, false, false]) (by kernel_rfl) (by kernel_rfl) HC ?_
  simp only [opsAt, List.getElem?_toArray, List.getElem?_cons_zero, List.getElem?_cons_succ]
  refine pure_atG (.bool true) rfl (fun wz _ => by unfold execOp; go_simp) ?_
  refine pure_atG (.bool true) rfl (fun wz _ => by unfold execOp; go_simp) ?_
  refine pure_moveG rfl rfl ?_
  refine pure_atG (.agg #[vh, vs, vo, vr, .int .i64 a.n]) rfl (fun wz hC => by obtain ⟨x, rfl⟩ := hC; unfold execOp; go_simp) ?_
  refine pure_atG (.agg #[vh, vs, vo, vr, .int .i64 a.n]) rfl (fun wz hC => by obtain ⟨x, rfl⟩ := hC; unfold execOp; go_simp) ?_
  unfold wpPure
  go_simp
  refine wpAnyD_one 17 (f := 8) (L' := #[true, true, true, true, true, true, true, true, true, true, true, true, true, true, true, true, true, true, false, false, false, false, false, false, false, false]) (by kernel_rfl) (by kernel_rfl) rfl rfl ?_
  go_wp2_with fail
  with_reducible refine (qa.out _ _ _ (Lib.hid (A3.out.call HCb.out)) (Lib.hid (A3.out.call HCb.out))).mono ?_
  rintro e wc5 ⟨rfl, hb⟩
  replace HCb : Hid (Below w3.heap.size w3 wc5) := HCb.out.trans (hb.mono HCb.out.size)
  have HC : ∃ x : ExtOf w3, wc5 = x.w := ⟨⟨_, HCb.out⟩, rfl⟩
  clear hb
  go_wp2_with fail
  rw [StepQ_normal]
  refine ⟨fun _ => HC, ?_⟩
  refine pure_moreD [18, 19, 20, 22] 4 (L' := #[true, true, true, true, true, true, true, true, true, true, true, true, true, true, true, true, true, true, true, true, true, false, true, false, false, false]) (by kernel_rfl) (by kernel_rfl) HC ?_
  simp only [opsAt, List.getElem?_toArray, List.getElem?_cons_zero, List.getElem?_cons_succ]
  refine pure_atG (.bool true) rfl (fun wz _ => by unfold execOp; go_simp) ?_
  refine pure_moveG rfl rfl ?_
  refine pure_atG (.agg #[vh, vs, vo, vr, .int .i64 a.n]) rfl (fun wz hC => by obtain ⟨x, rfl⟩ := hC; unfold execOp; go_simp) ?_
  refine pure_atG (.agg #[vh, vs, vo, vr, .int .i64 a.n]) rfl (fun wz hC => by obtain ⟨x, rfl⟩ := hC; unfold execOp; go_simp) ?_
  unfold wpPure
  go_simp
  refine wpAnyD_one 21 (f := 3) (L' := #[true, true, true, true, true, true, true, true, true, true, true, true, true, true, true, true, true, true, true, true, true, true, true, false, false, false]) (by kernel_rfl) (by kernel_rfl) rfl rfl ?_
  go_wp2_with fail
  with_reducible refine (qc.out _ _ (Lib.hid (A3.out.call HCb.out))).mono ?_
  rintro e wc6 ⟨vC, rfl, hv, hb⟩
  replace HCb : Hid (Below w3.heap.size w3 wc6) := HCb.out.trans (hb.mono HCb.out.size)
  have HC : ∃ x : ExtOf w3, wc6 = x.w := ⟨⟨_, HCb.out⟩, rfl⟩
  have HV := Lib.hid hv.at
  clear hv
  clear hb
  go_wp2_with fail
  rw [StepQ_normal]
  refine ⟨fun _ => HC, ?_⟩
  refine wpAnyD_one 23 (f := 2) (L' := #[true, true, true, true, true, true, true, true, true, true, true, true, true, true, true, true, true, true, true, true, true, true, true, true, false, false]) (by kernel_rfl) (by kernel_rfl) rfl rfl ?_
  go_wp2_with fail
  with_reducible refine (pa.out _ _ _ HV (Lib.hid (A3.out.call HCb.out))).mono ?_
  rintro e wc7 ⟨rfl, hb⟩
  replace HCb : Hid (Below w3.heap.size w3 wc7) := HCb.out.trans (hb.mono HCb.out.size)
  have HC : ∃ x : ExtOf w3, wc7 = x.w := ⟨⟨_, HCb.out⟩, rfl⟩
  clear hb
  go_wp2_with fail
  rw [StepQ_normal]
  refine ⟨fun _ => HC, ?_⟩
  refine pure_moreD [24, 25] 0 (L' := #[true, true, true, true, true, true, true, true, true, true, true, true, true, true, true, true, true, true, true, true, true, true, true, true, true, true]) (by kernel_rfl) (by kernel_rfl) HC ?_
  simp only [opsAt, List.getElem?_toArray, List.getElem?_cons_zero, List.getElem?_cons_succ]
  refine pure_atG (.bool true) rfl (fun wz _ => by unfold execOp; go_simp) ?_
  refine pure_atG (.bool true) rfl (fun wz _ => by unfold execOp; go_simp) ?_
  unfold wpPure
  go_simp
  refine ⟨by kernel_rfl, ?_⟩
  rw [OnlyN_normal]
  have HE := Lib.hid (HB3.out.trans (HCb.out.mono HB3.out.size))
  go_wp2_with fail
  go_ret
  exact ⟨rfl, HE.out⟩
end Go.Proofs.Ytfkfpppiikgjbaa
