/- Margin: the reference's Reach; MarginReaches: the walk. PRINTED BY genMargI.py. -/
import Derived.Test.YtfkfpppiikgjbaaMargH
namespace Go.Proofs.Ytfkfpppiikgjbaa
open Go Go.RowKit Bg Mon
set_option linter.unusedVariables false
set_option linter.unusedSimpArgs false

set_option maxRecDepth 100000 in
set_option maxHeartbeats 16000000 in
theorem rReach_any (v : Value) (b : Bk) (acc sym side qty : Int) (w : World) (hb : Hid (BkAt w v b)) (hs : Hid b.Small) (hi : Hid b.I64s) (hq1 : Hid (I64 qty)) :
    Calls Try.prog 37 #[v, .int .i64 acc, .int .i64 sym, .int .i64 side, .int .i64 qty] w fun e w' => e = .returned (.tuple #[.int .i64 (reachR b acc sym side qty).1, .bool (reachR b acc sym side qty).2]) ∧ Below w.heap.size w w' := by
  obtain ⟨vh, vs, vo, vr, rfl, g1, g2, g3, g4⟩ := hb.out
  have LS : Hid (∀ r ∈ b.s, r.length = 3) := (by obtain ⟨_, _, _, h, _⟩ := g2; exact h)
  obtain ⟨A3, c3, rfl, hi3⟩ := g3.rec'
  have HI3 := Lib.hid hi3
  clear g1 g2 g3 g4 hi3
  have HB1 : Hid (Below w.heap.size w (w.alloc (.cells #[vh, vs, .slice A3 b.o.length c3, vr, .int .i64 b.n] 37))) := below_alloc (Below.refl _ _) (Nat.le_refl _) _
  have K1 : Hid ((w.alloc (.cells #[vh, vs, .slice A3 b.o.length c3, vr, .int .i64 b.n] 37)).heap[w.heap.size]? = some (.cells #[vh, vs, .slice A3 b.o.length c3, vr, .int .i64 b.n] 37 (0, 0))) := heap_new _ _
  have B1 : Hid (BkAt (w.alloc (.cells #[vh, vs, .slice A3 b.o.length c3, vr, .int .i64 b.n] 37)) (.agg #[vh, vs, .slice A3 b.o.length c3, vr, .int .i64 b.n]) b) := hb.out.call HB1.out
  by_cases hsd : side < 0 ∨ 1 < side
  · have he : reachR b acc sym side qty = (0, false) := if_pos hsd
    rw [he]
    have ta : (side != 0) = true := by simp; omega
    have tb : (side != 1) = true := by simp; omega
    clear he hsd
    go_enter Try.func37, Try.ntmps37
    go_wp2_with fail
    go_ret2
    exact ⟨rfl, HB1.out⟩
  have he : reachR b acc sym side qty = fitsP (reachX b acc sym side qty) := if_neg hsd
  rw [he]
  have hlo : b.o.length ≤ 999998 := by have := hs.out; unfold Bk.Small at this; omega
  have hls : b.s.length ≤ 1000000 := by have := hs.out; unfold Bk.Small at this; omega
  obtain ⟨rs, F, hl1, hx1⟩ := rec_of LS.out (isKey acc sym)
  match rs, hl1, hx1 with
  | [k0, k1, k2], _, hx1 =>
  have hst : stakeOf b acc sym = k2 := by unfold stakeOf; rw [hx1]; rfl
  have HI2 : Hid (I64 k2) := rec_I64 hi.out.2.1 hx1 k2 (by simp)
  have hside : side = 0 ∨ side = 1 := by omega
  obtain ⟨Z0, hZ0⟩ : ∃ Z0, k2 * (1 - 2 * side) = Z0 := ⟨_, rfl⟩
  obtain ⟨X, hX⟩ : ∃ X, reachX b acc sym side qty = X := ⟨_, rfl⟩
  have HX : Hid (Z0 + qty + sumS sym side (opensP acc b.o) = X) := (show _ = _ from by rw [← hX]; unfold reachX; rw [hst, hZ0]; omega)
  have HZ0 : Hid (Z0.natAbs ≤ 85070591730234615865843651857942052864) := (show _ ≤ _ from by rw [← hZ0]; exact prodB HI2.out (show I64 (1 - 2 * side) by unfold I64; omega))
  rw [hX]
  have qk := Lib.hid (rStake_any _ b acc sym k0 k1 k2 F _ B1 hls hx1)
  have qo := Lib.hid (fun w => Of_any k2 HI2.out w)
  have qn := Lib.hid (fun x w h => Neg_any x k2 w h (bigB (by have := HI2.out; unfold I64 at this; omega)))
  have qq := Lib.hid (fun w => Of_any qty hq1.out w)
  have qa := Lib.hid (fun x y w h1 h2 => BAdd_any x y Z0 qty w h1 h2 (bigB (by have := HZ0.out; omega)) (bigB (by have := hq1.out; unfold I64 at this; omega)))
  have hz1 : Hid (side = 0 → k2 = Z0) := (show _ → _ from fun h => by rw [← hZ0, h]; omega)
  have hz2 : Hid (side = 1 → -k2 = Z0) := (show _ → _ from fun h => by rw [← hZ0, h]; omega)
  have BO := hb
  clear hb he hsd hx1 hst hX hZ0 B1
  have HW : Hid (∀ (w4 : World) (G : Nat) (t : Bool) (B : Option Addr) (m d : Nat), True) := (show ∀ _ _ _ _ _ _, True from fun _ _ _ _ _ _ => trivial)
  clear HW
  go_enter Try.func37, Try.ntmps37
  rcases hside with hs0 | hs0
  · have ta : (side != 0) = false := by simp [hs0]
    have tc : (side == 1) = false := by simp [hs0]
    have HZK := Lib.hid (hz1.out hs0)
    have HS0 := Lib.hid hs0
    clear hs0
    go_wp2_with fail
    with_reducible refine qk.out.mono ?_
    rintro e w2 ⟨rfl, hb2⟩
    have K2 := Lib.hid (blk_call K1.out hb2)
    have HB2 := Lib.hid (HB1.out.trans (hb2.mono HB1.out.size))
    clear hb2 qk
    go_wp2_with fail
    with_reducible refine (qo.out _).mono ?_
    rintro e w3 ⟨⟨v3, rfl, hv3⟩, hb3⟩
    obtain ⟨t, B, m, d, rfl⟩ := hv3.form
    have V3 := Lib.hid hv3
    have K3 := Lib.hid (blk_call K2.out hb3)
    have HB3 := Lib.hid (HB2.out.trans (hb3.mono HB2.out.size))
    clear hv3 hb3 qo
    obtain ⟨G, hG⟩ : ∃ G, w3.heap.size = G := ⟨_, rfl⟩
    have hbx : Below w3.heap.size w3 (w3.alloc (.cells #[.bool t, .slice B m d] 118)) := below_alloc (Below.refl _ _) (Nat.le_refl _) _
    have KB := Lib.hid (blk_call K3.out hbx)
    have hBr := Lib.hid (HB3.out.trans (hbx.mono HB3.out.size))
    have KV := Lib.hid (V3.out.call hbx)
    have KX := Lib.hid (BigBlk.mk w3 G t (.slice B m d) hG)
    have HGw : Hid (w.heap.size < G) := (show _ < _ from by have := (Array.getElem?_eq_some_iff.1 K3.out).1; omega)
    clear hbx V3 K3 HB3
    go_wp2_with fail
    generalize w3.alloc (.cells #[.bool t, .slice B m d] 118) = w4 at *
    clear hG
    rw [HZK.out] at KV
    have lG := KX.out.lt
    have e0 := KX.out.c0
    have e1 := KX.out.c1
    have HC : ∃ x : ExtOf w4, w4.drew = x.w := ⟨⟨_, (Below.refl _ _).drew⟩, rfl⟩
    have HCb : Hid (Below w4.heap.size w4 w4.drew) := (Below.refl _ _).drew
    refine wp_region_D [4] (fun wz => ∃ x : ExtOf w4, wz = x.w) 5 #[false, false, false, false, false] (by kernel_rfl) (by kernel_rfl) (by kernel_rfl) ?_
    refine pure_moreD [0, 1] 3 (L' := #[true, true, false, false, false]) (by kernel_rfl) (by kernel_rfl) HC ?_
    simp only [opsAt, List.getElem?_toArray, List.getElem?_cons_zero, List.getElem?_cons_succ]
    refine pure_atG (.agg #[.bool t, .slice B m d]) rfl (fun wz hC => by obtain ⟨x, rfl⟩ := hC; unfold execOp; go_simp) ?_
    refine pure_moveG rfl rfl ?_
    unfold wpPure
    go_simp
    refine wpAnyD_one 2 (f := 2) (L' := #[true, true, true, false, false]) (by kernel_rfl) (by kernel_rfl) rfl rfl ?_
    go_wp2_with fail
    with_reducible refine (qq.out _).mono ?_
    rintro e wc1 ⟨⟨v7, rfl, hv7⟩, hb⟩
    have V7 := Lib.hid hv7
    clear hv7
    replace HCb : Hid (Below w4.heap.size w4 wc1) := HCb.out.trans (hb.mono HCb.out.size)
    have HC : ∃ x : ExtOf w4, wc1 = x.w := ⟨⟨_, HCb.out⟩, rfl⟩
    clear hb
    go_wp2_with fail
    rw [StepQ_normal]
    refine ⟨fun _ => HC, ?_⟩
    refine wpAnyD_one 3 (f := 1) (L' := #[true, true, true, true, false]) (by kernel_rfl) (by kernel_rfl) rfl rfl ?_
    go_wp2_with fail
    with_reducible refine (qa.out _ _ _ (Lib.hid (KV.out.call HCb.out)) V7).mono ?_
    rintro e wc2 ⟨⟨v8, rfl, hv8⟩, hb⟩
    obtain ⟨t8, B8, m8, d8, rfl⟩ := hv8.form
    have V8 := Lib.hid hv8
    clear hv8
    replace HCb : Hid (Below w4.heap.size w4 wc2) := HCb.out.trans (hb.mono HCb.out.size)
    have HC : ∃ x : ExtOf w4, wc2 = x.w := ⟨⟨_, HCb.out⟩, rfl⟩
    clear hb
    go_wp2_with fail
    rw [StepQ_normal]
    refine ⟨fun _ => HC, ?_⟩
    replace KX := Lib.hid (KX.out.call HCb.out)
    replace KB := Lib.hid (blk_call KB.out HCb.out)
    replace hBr := Lib.hid (hBr.out.trans (HCb.out.mono hBr.out.size))
    clear e0 e1 lG V7 KV HCb HC
    have e0 := KX.out.c0
    have e1 := KX.out.c1
    have e2 := KX.out.z 0
    have e3 := KX.out.z 1
    refine wpAnyD_one 4 (f := 0) (L' := #[true, true, true, true, true]) (by kernel_rfl) (by kernel_rfl) rfl rfl ?_
    go_wp2_with fail
    rw [StepQ_normal]
    refine ⟨fun h => absurd h (by decide), ?_⟩
    refine ⟨by kernel_rfl, ?_⟩
    rw [OnlyN_normal]
    have KV := Lib.hid (V8.out.store KX.out)
    replace KX := Lib.hid ((KX.out.set0 t8).set1 (.slice B8 m8 d8))
    replace KB : Hid ((((wc2.setCell ⟨G, 0, none⟩ (.bool t8)).setCell ⟨G, 1, none⟩ (.slice B8 m8 d8))).heap[w.heap.size]? = _) := set_oth (set_oth KB.out _ _ (by have := HGw.out; omega)) _ _ (by have := HGw.out; omega)
    replace hBr := Lib.hid ((hBr.out.setCell (p := ⟨G, 0, none⟩) (by have := HGw.out; show w.heap.size ≤ G; omega) (.bool t8)).setCell (p := ⟨G, 1, none⟩) (by have := HGw.out; show w.heap.size ≤ G; omega) (.slice B8 m8 d8))
    clear V8 e0 e1 e2 e3
    generalize (wc2.setCell ⟨G, 0, none⟩ (.bool t8)).setCell ⟨G, 1, none⟩ (.slice B8 m8 d8) = w9 at *
    go_wp2_with fail
    go_loopw [13, 14] (fun s9 _ wr => ∃ (j : Nat) (Z : Int) (t : Bool) (B : Option Addr) (m d : Nat), s9 = .int .i64 (j : Int) ∧ Hid (j ≤ b.o.length) ∧ Hid (BigBlk wr G t (.slice B m d)) ∧ Hid (BigAt wr (.agg #[.bool t, .slice B m d]) Z) ∧ Hid (Z + sumS sym side (opensP acc (b.o.drop j)) = X) ∧ Hid (Z.natAbs ≤ (2 + j) * 85070591730234615865843651857942052864) ∧ Hid (wr.heap[w.heap.size]? = some (.cells #[vh, vs, .slice A3 b.o.length c3, vr, .int .i64 b.n] 37 (0, 0))) ∧ Hid (Below w.heap.size w wr)) (fun s9 _ _ => b.o.length - (intOf s9).toNat)
    case atStart => exact ⟨0, _, _, _, _, _, rfl, Nat.zero_le _, KX.out, KV.out, HX.out, by have := HZ0.out; have := hq1.out; unfold I64 at this; show _ ≤ _; omega, KB.out, hBr.out⟩
    case round =>
      clear KX KV KB hBr
      obtain ⟨j, Z, t, B, m, d, rfl, hjl, KX, KV, hrest, hZ, KB, hBr⟩ := hrel
      replace hjl := hjl.out
      have cb := cells_of_blk KB.out 2 _ rfl
      have lK := (Array.getElem?_eq_some_iff.1 KB.out).1
      by_cases hin : j < b.o.length
      · have tn : decide ((j : Int) < (b.o.length : Int)) = true := decide_eq_true (by omega)
        have hge : b.o[j]? = some b.o[j] := List.getElem?_eq_getElem hin
        obtain ⟨hk, b0, o0, hA0, hbl, hc⟩ := HI3.out j _ hge
        subst hA0
        have HS := Lib.hid (opensP_step (acc := acc) hge)
        have HM : Hid (∀ x ∈ b.o[j], I64 x) := (show ∀ x ∈ b.o[j], I64 x from hi.out.2.2.1 _ (List.getElem_mem hin))
        clear hge
        generalize b.o[j] = r at *
        obtain ⟨y0, y1, y2, y3, y4, y5, rfl⟩ : ∃ y0 y1 y2 y3 y4 y5, r = [y0, y1, y2, y3, y4, y5] := by
          match r, hk with
          | [y0, y1, y2, y3, y4, y5], _ => exact ⟨y0, y1, y2, y3, y4, y5, rfl⟩
        have hb3 : (j : Int) < (b.o.length : Int) := by omega
        have hb4 : (0 : Int) ≤ (j : Int) := by omega
        have hbl3 : b0 < wr.heap.size := Nat.lt_of_lt_of_le hbl hBr.out.size
        have d0' : wr.cell? ⟨b0, o0 + j * 6, none⟩ = some (.int .i64 y0) := (hBr.out.cell (p := ⟨b0, o0 + j * 6 + 0, none⟩) hbl).trans (hc 0 _ rfl)
        have d1' : wr.cell? ⟨b0, o0 + j * 6 + 1, none⟩ = some (.int .i64 y1) := (hBr.out.cell (p := ⟨b0, o0 + j * 6 + 1, none⟩) hbl).trans (hc 1 _ rfl)
        have d2' : wr.cell? ⟨b0, o0 + j * 6 + 2, none⟩ = some (.int .i64 y2) := (hBr.out.cell (p := ⟨b0, o0 + j * 6 + 2, none⟩) hbl).trans (hc 2 _ rfl)
        have d3' : wr.cell? ⟨b0, o0 + j * 6 + 3, none⟩ = some (.int .i64 y3) := (hBr.out.cell (p := ⟨b0, o0 + j * 6 + 3, none⟩) hbl).trans (hc 3 _ rfl)
        have d4' : wr.cell? ⟨b0, o0 + j * 6 + 4, none⟩ = some (.int .i64 y4) := (hBr.out.cell (p := ⟨b0, o0 + j * 6 + 4, none⟩) hbl).trans (hc 4 _ rfl)
        have d5' : wr.cell? ⟨b0, o0 + j * 6 + 5, none⟩ = some (.int .i64 y5) := (hBr.out.cell (p := ⟨b0, o0 + j * 6 + 5, none⟩) hbl).trans (hc 5 _ rfl)
        have lG := KX.out.lt
        obtain ⟨wx, hwx⟩ : ∃ wx, wr.alloc (.cells #[.int .i64 y0, .int .i64 y1, .int .i64 y2, .int .i64 y3, .int .i64 y4, .int .i64 y5] 43) = wx := ⟨_, rfl⟩
        have hbx : Below wr.heap.size wr wx := by rw [← hwx]; exact below_alloc (Below.refl _ _) (Nat.le_refl _) _
        have KO : Hid (wx.heap[wr.heap.size]? = some (.cells #[.int .i64 y0, .int .i64 y1, .int .i64 y2, .int .i64 y3, .int .i64 y4, .int .i64 y5] 43 (0, 0))) := by rw [← hwx]; exact heap_new _ _
        replace KX := Lib.hid (KX.out.call hbx)
        replace KV := Lib.hid (KV.out.call hbx)
        replace KB := Lib.hid (blk_call KB.out hbx)
        replace hBr := Lib.hid (hBr.out.trans (hbx.mono hBr.out.size))
        have HWX := Lib.hid hwx
        have HZ2 : Hid (Z.natAbs ≤ (2 + (j + 1)) * 85070591730234615865843651857942052864) := (Nat.le_trans hZ.out (Nat.mul_le_mul_right _ (by omega)))
        have hskip : ¬ (y1 = acc ∧ y2 = sym ∧ y3 = side) → Z + sumS sym side (opensP acc (b.o.drop (j + 1))) = X := fun hn => by
          rw [← hrest.out, HS.out]
          by_cases h1 : y1 = acc
          · rw [if_pos (show ([y0, y1, y2, y3, y4, y5] : List Int).getD 1 0 = acc from h1)]
            show _ = Z + ((if y2 = sym ∧ y3 = side then y4 else 0) + _)
            rw [if_neg (fun h => hn ⟨h1, h.1, h.2⟩)]; omega
          · rw [if_neg (show ¬ ([y0, y1, y2, y3, y4, y5] : List Int).getD 1 0 = acc from h1)]
        have HSK := Lib.hid hskip
        have htake : (y1 = acc ∧ y2 = sym ∧ y3 = side) → Z + y4 + sumS sym side (opensP acc (b.o.drop (j + 1))) = X := fun hn => by
          rw [← hrest.out, HS.out, if_pos (show ([y0, y1, y2, y3, y4, y5] : List Int).getD 1 0 = acc from hn.1)]
          show _ = Z + ((if y2 = sym ∧ y3 = side then y4 else 0) + _)
          rw [if_pos hn.2]; omega
        have HTK := Lib.hid htake
        clear hc hk hwx hbx hskip htake HS
        by_cases q1 : y1 = acc
        · have tq1 : (y1 == acc) = true := by simp [q1]
          by_cases q2 : y2 = sym
          · have tq2 : (y2 == sym) = true := by simp [q2]
            by_cases q3 : y3 = side
            · have tq3 : (y3 == side) = true := by simp [q3]
              have HS2 := Lib.hid (HTK.out ⟨q1, q2, q3⟩)
              have HQ4 : Hid (I64 y4) := HM.out y4 (by simp)
              have HZ3 : Hid ((Z + y4).natAbs ≤ (2 + (j + 1)) * 85070591730234615865843651857942052864) := (show _ ≤ _ from by
                have h1' := hZ.out
                have h2' := HQ4.out
                unfold I64 at h2'
                omega)
              have bZ : Z.natAbs < 10000 ^ 40 := bigB (Nat.le_trans hZ.out (Nat.mul_le_mul_right _ (by omega)))
              have bY : y4.natAbs < 10000 ^ 40 := bigB (by have := HQ4.out; unfold I64 at this; omega)
              have fm := Lib.hid (fun w => Of_any y4 HQ4.out w)
              have fa := Lib.hid (fun x y w h1 h2 => BAdd_any x y Z y4 w h1 h2 bZ bY)
              clear q1 q2 q3 bZ bY HSK HTK
              go_wp2_with fail
              rw [HWX.out]
              clear d0' d1' d2' d3' d4' d5' cb lK lG hbl3
              have lG := KX.out.lt
              have lO := (Array.getElem?_eq_some_iff.1 KO.out).1
              have e0 := KX.out.c0
              have e1 := KX.out.c1
              have x4 := cells_of_blk KO.out 4 _ rfl
              have HC : ∃ x : ExtOf wx, wx.drew = x.w := ⟨⟨_, (Below.refl _ _).drew⟩, rfl⟩
              have HCb : Hid (Below wx.heap.size wx wx.drew) := (Below.refl _ _).drew
              refine wp_region_D [5] (fun wz => ∃ x : ExtOf wx, wz = x.w) 6 #[false, false, false, false, false, false] (by kernel_rfl) (by kernel_rfl) (by kernel_rfl) ?_
              refine pure_moreD [0, 1, 2] 3 (L' := #[true, true, true, false, false, false]) (by kernel_rfl) (by kernel_rfl) HC ?_
              simp only [opsAt, List.getElem?_toArray, List.getElem?_cons_zero, List.getElem?_cons_succ]
              refine pure_atG (.agg #[.bool t, .slice B m d]) rfl (fun wz hC => by obtain ⟨x, rfl⟩ := hC; unfold execOp; go_simp) ?_
              refine pure_atG (.pointer (some ⟨wr.heap.size, 4, none⟩)) rfl (fun wz _ => by unfold execOp; go_simp) ?_
              refine pure_atG (.int .i64 y4) rfl (fun wz hC => by obtain ⟨x, rfl⟩ := hC; unfold execOp; go_simp) ?_
              unfold wpPure
              go_simp
              refine wpAnyD_one 3 (f := 2) (L' := #[true, true, true, true, false, false]) (by kernel_rfl) (by kernel_rfl) rfl rfl ?_
              go_wp2_with fail
              with_reducible refine (fm.out _).mono ?_
              rintro e wc1 ⟨⟨v5, rfl, hv5⟩, hb⟩
              have V5 := Lib.hid hv5
              clear hv5
              replace HCb : Hid (Below wx.heap.size wx wc1) := HCb.out.trans (hb.mono HCb.out.size)
              have HC : ∃ x : ExtOf wx, wc1 = x.w := ⟨⟨_, HCb.out⟩, rfl⟩
              clear hb
              go_wp2_with fail
              rw [StepQ_normal]
              refine ⟨fun _ => HC, ?_⟩
              refine wpAnyD_one 4 (f := 1) (L' := #[true, true, true, true, true, false]) (by kernel_rfl) (by kernel_rfl) rfl rfl ?_
              go_wp2_with fail
              with_reducible refine (fa.out _ _ _ (Lib.hid (KV.out.call HCb.out)) V5).mono ?_
              rintro e wc2 ⟨⟨v6, rfl, hv6⟩, hb⟩
              obtain ⟨t6, B6, m6, d6, rfl⟩ := hv6.form
              have V6 := Lib.hid hv6
              clear hv6
              replace HCb : Hid (Below wx.heap.size wx wc2) := HCb.out.trans (hb.mono HCb.out.size)
              have HC : ∃ x : ExtOf wx, wc2 = x.w := ⟨⟨_, HCb.out⟩, rfl⟩
              clear hb
              go_wp2_with fail
              rw [StepQ_normal]
              refine ⟨fun _ => HC, ?_⟩
              replace KX := Lib.hid (KX.out.call HCb.out)
              replace KB := Lib.hid (blk_call KB.out HCb.out)
              replace hBr := Lib.hid (hBr.out.trans (HCb.out.mono hBr.out.size))
              clear e0 e1 lG lO x4 V5 KV HCb HC
              have e0 := KX.out.c0
              have e1 := KX.out.c1
              have e2 := KX.out.z 0
              have e3 := KX.out.z 1
              refine wpAnyD_one 5 (f := 0) (L' := #[true, true, true, true, true, true]) (by kernel_rfl) (by kernel_rfl) rfl rfl ?_
              go_wp2_with fail
              rw [StepQ_normal]
              refine ⟨fun h => absurd h (by decide), ?_⟩
              refine ⟨by kernel_rfl, ?_⟩
              rw [OnlyN_normal]
              have KV := Lib.hid (V6.out.store KX.out)
              replace KX := Lib.hid ((KX.out.set0 t6).set1 (.slice B6 m6 d6))
              replace KB : Hid ((((wc2.setCell ⟨G, 0, none⟩ (.bool t6)).setCell ⟨G, 1, none⟩ (.slice B6 m6 d6))).heap[w.heap.size]? = _) := set_oth (set_oth KB.out _ _ (by have := HGw.out; omega)) _ _ (by have := HGw.out; omega)
              replace hBr := Lib.hid ((hBr.out.setCell (p := ⟨G, 0, none⟩) (by have := HGw.out; show w.heap.size ≤ G; omega) (.bool t6)).setCell (p := ⟨G, 1, none⟩) (by have := HGw.out; show w.heap.size ≤ G; omega) (.slice B6 m6 d6))
              clear V6 e0 e1 e2 e3
              go_wp2_with fail
              go_roundw
              case rel => exact ⟨j + 1, _, _, _, _, _, by go_num, by show _ ≤ _; omega, KX.out, KV.out, HS2.out, HZ3.out, KB.out, hBr.out⟩
              case measure => simp [intOf]; omega
            · have tq3 : (y3 == side) = false := by simp [q3]
              have HS2 := Lib.hid (HSK.out (fun h => q3 h.2.2))
              clear q1 q2 q3 HSK HTK
              go_wp2_with fail
              rw [HWX.out]
              clear d0' d1' d2' d3' d4' d5' cb lK lG hbl3
              go_roundw
              case rel => exact ⟨j + 1, Z, t, B, m, d, by go_num, by show _ ≤ _; omega, KX.out, KV.out, HS2.out, HZ2.out, KB.out, hBr.out⟩
              case measure => simp [intOf]; omega
          · have tq2 : (y2 == sym) = false := by simp [q2]
            have HS2 := Lib.hid (HSK.out (fun h => q2 h.2.1))
            clear q1 q2 HSK HTK
            go_wp2_with fail
            rw [HWX.out]
            clear d0' d1' d2' d3' d4' d5' cb lK lG hbl3
            go_roundw
            case rel => exact ⟨j + 1, Z, t, B, m, d, by go_num, by show _ ≤ _; omega, KX.out, KV.out, HS2.out, HZ2.out, KB.out, hBr.out⟩
            case measure => simp [intOf]; omega
        · have tq1 : (y1 == acc) = false := by simp [q1]
          have HS2 := Lib.hid (HSK.out (fun h => q1 h.1))
          clear q1 HSK HTK
          go_wp2_with fail
          rw [HWX.out]
          clear d0' d1' d2' d3' d4' d5' cb lK lG hbl3
          go_roundw
          case rel => exact ⟨j + 1, Z, t, B, m, d, by go_num, by show _ ≤ _; omega, KX.out, KV.out, HS2.out, HZ2.out, KB.out, hBr.out⟩
          case measure => simp [intOf]; omega
      · have tn : decide ((j : Int) < (b.o.length : Int)) = false := decide_eq_false (by omega)
        have hZX : Z = X := by rw [← hrest.out, List.drop_eq_nil_of_le (by omega)]; simp [opensP, sumS]
        have bX : X.natAbs < 10000 ^ 40 := bigB (by rw [← hZX]; exact Nat.le_trans hZ.out (Nat.mul_le_mul_right _ (by omega)))
        rw [hZX] at KV
        have qf := Lib.hid (fun x w h => Fits_any x X w h bX)
        have e0 := KX.out.c0
        have e1 := KX.out.c1
        clear hrest hZ hZX bX
        go_wp2_with fail
        with_reducible refine (qf.out _ _ KV).mono ?_
        rintro e w5 ⟨rfl, hb5⟩
        have HB5 := Lib.hid (hBr.out.trans (hb5.mono hBr.out.size))
        clear hb5
        go_wp2_with fail
        go_ret2
        exact ⟨rfl, HB5.out⟩
  · have ta : (side != 0) = true := by simp [hs0]
    have tb : (side != 1) = false := by simp [hs0]
    have tc : (side == 1) = true := by simp [hs0]
    have HZK := Lib.hid (hz2.out hs0)
    have HS0 := Lib.hid hs0
    clear hs0
    go_wp2_with fail
    with_reducible refine qk.out.mono ?_
    rintro e w2 ⟨rfl, hb2⟩
    have K2 := Lib.hid (blk_call K1.out hb2)
    have HB2 := Lib.hid (HB1.out.trans (hb2.mono HB1.out.size))
    clear hb2 qk
    go_wp2_with fail
    with_reducible refine (qo.out _).mono ?_
    rintro e w3 ⟨⟨v3, rfl, hv3⟩, hb3⟩
    obtain ⟨t, B, m, d, rfl⟩ := hv3.form
    have V3 := Lib.hid hv3
    have K3 := Lib.hid (blk_call K2.out hb3)
    have HB3 := Lib.hid (HB2.out.trans (hb3.mono HB2.out.size))
    clear hv3 hb3 qo
    obtain ⟨G, hG⟩ : ∃ G, w3.heap.size = G := ⟨_, rfl⟩
    have hbx : Below w3.heap.size w3 (w3.alloc (.cells #[.bool t, .slice B m d] 118)) := below_alloc (Below.refl _ _) (Nat.le_refl _) _
    have KB := Lib.hid (blk_call K3.out hbx)
    have hBr := Lib.hid (HB3.out.trans (hbx.mono HB3.out.size))
    have KV := Lib.hid (V3.out.call hbx)
    have KX := Lib.hid (BigBlk.mk w3 G t (.slice B m d) hG)
    have HGw : Hid (w.heap.size < G) := (show _ < _ from by have := (Array.getElem?_eq_some_iff.1 K3.out).1; omega)
    clear hbx V3 K3 HB3
    go_wp2_with fail
    generalize w3.alloc (.cells #[.bool t, .slice B m d] 118) = w4 at *
    clear hG
    have e0 := KX.out.c0
    have e1 := KX.out.c1
    go_wp2_with fail
    with_reducible refine (qn.out _ _ KV).mono ?_
    rintro e w5 ⟨⟨v5, rfl, hv5⟩, hb5⟩
    obtain ⟨t5, B5, m5, d5, rfl⟩ := hv5.form
    have V5 := Lib.hid hv5
    replace KX := Lib.hid (KX.out.call hb5)
    replace KB := Lib.hid (blk_call KB.out hb5)
    replace hBr := Lib.hid (hBr.out.trans (hb5.mono hBr.out.size))
    clear hv5 hb5 KV e0 e1 qn
    have e0 := KX.out.c0
    have e1 := KX.out.c1
    have e2 := KX.out.z 0
    have e3 := KX.out.z 1
    go_wp2_with fail
    have KV := Lib.hid (V5.out.store KX.out)
    replace KX := Lib.hid ((KX.out.set0 t5).set1 (.slice B5 m5 d5))
    replace KB : Hid ((((w5.setCell ⟨G, 0, none⟩ (.bool t5)).setCell ⟨G, 1, none⟩ (.slice B5 m5 d5))).heap[w.heap.size]? = _) := set_oth (set_oth KB.out _ _ (by have := HGw.out; omega)) _ _ (by have := HGw.out; omega)
    replace hBr := Lib.hid ((hBr.out.setCell (p := ⟨G, 0, none⟩) (by have := HGw.out; show w.heap.size ≤ G; omega) (.bool t5)).setCell (p := ⟨G, 1, none⟩) (by have := HGw.out; show w.heap.size ≤ G; omega) (.slice B5 m5 d5))
    clear V5 e0 e1 e2 e3
    generalize (w5.setCell ⟨G, 0, none⟩ (.bool t5)).setCell ⟨G, 1, none⟩ (.slice B5 m5 d5) = w6 at *
    clear w5
    rw [HZK.out] at KV
    have lG := KX.out.lt
    have e0 := KX.out.c0
    have e1 := KX.out.c1
    have HC : ∃ x : ExtOf w6, w6.drew = x.w := ⟨⟨_, (Below.refl _ _).drew⟩, rfl⟩
    have HCb : Hid (Below w6.heap.size w6 w6.drew) := (Below.refl _ _).drew
    refine wp_region_D [4] (fun wz => ∃ x : ExtOf w6, wz = x.w) 5 #[false, false, false, false, false] (by kernel_rfl) (by kernel_rfl) (by kernel_rfl) ?_
    refine pure_moreD [0, 1] 3 (L' := #[true, true, false, false, false]) (by kernel_rfl) (by kernel_rfl) HC ?_
    simp only [opsAt, List.getElem?_toArray, List.getElem?_cons_zero, List.getElem?_cons_succ]
    refine pure_atG (.agg #[.bool t5, .slice B5 m5 d5]) rfl (fun wz hC => by obtain ⟨x, rfl⟩ := hC; unfold execOp; go_simp) ?_
    refine pure_moveG rfl rfl ?_
    unfold wpPure
    go_simp
    refine wpAnyD_one 2 (f := 2) (L' := #[true, true, true, false, false]) (by kernel_rfl) (by kernel_rfl) rfl rfl ?_
    go_wp2_with fail
    with_reducible refine (qq.out _).mono ?_
    rintro e wc1 ⟨⟨v7, rfl, hv7⟩, hb⟩
    have V7 := Lib.hid hv7
    clear hv7
    replace HCb : Hid (Below w6.heap.size w6 wc1) := HCb.out.trans (hb.mono HCb.out.size)
    have HC : ∃ x : ExtOf w6, wc1 = x.w := ⟨⟨_, HCb.out⟩, rfl⟩
    clear hb
    go_wp2_with fail
    rw [StepQ_normal]
    refine ⟨fun _ => HC, ?_⟩
    refine wpAnyD_one 3 (f := 1) (L' := #[true, true, true, true, false]) (by kernel_rfl) (by kernel_rfl) rfl rfl ?_
    go_wp2_with fail
    with_reducible refine (qa.out _ _ _ (Lib.hid (KV.out.call HCb.out)) V7).mono ?_
    rintro e wc2 ⟨⟨v8, rfl, hv8⟩, hb⟩
    obtain ⟨t8, B8, m8, d8, rfl⟩ := hv8.form
    have V8 := Lib.hid hv8
    clear hv8
    replace HCb : Hid (Below w6.heap.size w6 wc2) := HCb.out.trans (hb.mono HCb.out.size)
    have HC : ∃ x : ExtOf w6, wc2 = x.w := ⟨⟨_, HCb.out⟩, rfl⟩
    clear hb
    go_wp2_with fail
    rw [StepQ_normal]
    refine ⟨fun _ => HC, ?_⟩
    replace KX := Lib.hid (KX.out.call HCb.out)
    replace KB := Lib.hid (blk_call KB.out HCb.out)
    replace hBr := Lib.hid (hBr.out.trans (HCb.out.mono hBr.out.size))
    clear e0 e1 lG V7 KV HCb HC
    have e0 := KX.out.c0
    have e1 := KX.out.c1
    have e2 := KX.out.z 0
    have e3 := KX.out.z 1
    refine wpAnyD_one 4 (f := 0) (L' := #[true, true, true, true, true]) (by kernel_rfl) (by kernel_rfl) rfl rfl ?_
    go_wp2_with fail
    rw [StepQ_normal]
    refine ⟨fun h => absurd h (by decide), ?_⟩
    refine ⟨by kernel_rfl, ?_⟩
    rw [OnlyN_normal]
    have KV := Lib.hid (V8.out.store KX.out)
    replace KX := Lib.hid ((KX.out.set0 t8).set1 (.slice B8 m8 d8))
    replace KB : Hid ((((wc2.setCell ⟨G, 0, none⟩ (.bool t8)).setCell ⟨G, 1, none⟩ (.slice B8 m8 d8))).heap[w.heap.size]? = _) := set_oth (set_oth KB.out _ _ (by have := HGw.out; omega)) _ _ (by have := HGw.out; omega)
    replace hBr := Lib.hid ((hBr.out.setCell (p := ⟨G, 0, none⟩) (by have := HGw.out; show w.heap.size ≤ G; omega) (.bool t8)).setCell (p := ⟨G, 1, none⟩) (by have := HGw.out; show w.heap.size ≤ G; omega) (.slice B8 m8 d8))
    clear V8 e0 e1 e2 e3
    generalize (wc2.setCell ⟨G, 0, none⟩ (.bool t8)).setCell ⟨G, 1, none⟩ (.slice B8 m8 d8) = w9 at *
    go_wp2_with fail
    go_loopw [13, 14] (fun s9 _ wr => ∃ (j : Nat) (Z : Int) (t : Bool) (B : Option Addr) (m d : Nat), s9 = .int .i64 (j : Int) ∧ Hid (j ≤ b.o.length) ∧ Hid (BigBlk wr G t (.slice B m d)) ∧ Hid (BigAt wr (.agg #[.bool t, .slice B m d]) Z) ∧ Hid (Z + sumS sym side (opensP acc (b.o.drop j)) = X) ∧ Hid (Z.natAbs ≤ (2 + j) * 85070591730234615865843651857942052864) ∧ Hid (wr.heap[w.heap.size]? = some (.cells #[vh, vs, .slice A3 b.o.length c3, vr, .int .i64 b.n] 37 (0, 0))) ∧ Hid (Below w.heap.size w wr)) (fun s9 _ _ => b.o.length - (intOf s9).toNat)
    case atStart => exact ⟨0, _, _, _, _, _, rfl, Nat.zero_le _, KX.out, KV.out, HX.out, by have := HZ0.out; have := hq1.out; unfold I64 at this; show _ ≤ _; omega, KB.out, hBr.out⟩
    case round =>
      clear KX KV KB hBr
      obtain ⟨j, Z, t, B, m, d, rfl, hjl, KX, KV, hrest, hZ, KB, hBr⟩ := hrel
      replace hjl := hjl.out
      have cb := cells_of_blk KB.out 2 _ rfl
      have lK := (Array.getElem?_eq_some_iff.1 KB.out).1
      by_cases hin : j < b.o.length
      · have tn : decide ((j : Int) < (b.o.length : Int)) = true := decide_eq_true (by omega)
        have hge : b.o[j]? = some b.o[j] := List.getElem?_eq_getElem hin
        obtain ⟨hk, b0, o0, hA0, hbl, hc⟩ := HI3.out j _ hge
        subst hA0
        have HS := Lib.hid (opensP_step (acc := acc) hge)
        have HM : Hid (∀ x ∈ b.o[j], I64 x) := (show ∀ x ∈ b.o[j], I64 x from hi.out.2.2.1 _ (List.getElem_mem hin))
        clear hge
        generalize b.o[j] = r at *
        obtain ⟨y0, y1, y2, y3, y4, y5, rfl⟩ : ∃ y0 y1 y2 y3 y4 y5, r = [y0, y1, y2, y3, y4, y5] := by
          match r, hk with
          | [y0, y1, y2, y3, y4, y5], _ => exact ⟨y0, y1, y2, y3, y4, y5, rfl⟩
        have hb3 : (j : Int) < (b.o.length : Int) := by omega
        have hb4 : (0 : Int) ≤ (j : Int) := by omega
        have hbl3 : b0 < wr.heap.size := Nat.lt_of_lt_of_le hbl hBr.out.size
        have d0' : wr.cell? ⟨b0, o0 + j * 6, none⟩ = some (.int .i64 y0) := (hBr.out.cell (p := ⟨b0, o0 + j * 6 + 0, none⟩) hbl).trans (hc 0 _ rfl)
        have d1' : wr.cell? ⟨b0, o0 + j * 6 + 1, none⟩ = some (.int .i64 y1) := (hBr.out.cell (p := ⟨b0, o0 + j * 6 + 1, none⟩) hbl).trans (hc 1 _ rfl)
        have d2' : wr.cell? ⟨b0, o0 + j * 6 + 2, none⟩ = some (.int .i64 y2) := (hBr.out.cell (p := ⟨b0, o0 + j * 6 + 2, none⟩) hbl).trans (hc 2 _ rfl)
        have d3' : wr.cell? ⟨b0, o0 + j * 6 + 3, none⟩ = some (.int .i64 y3) := (hBr.out.cell (p := ⟨b0, o0 + j * 6 + 3, none⟩) hbl).trans (hc 3 _ rfl)
        have d4' : wr.cell? ⟨b0, o0 + j * 6 + 4, none⟩ = some (.int .i64 y4) := (hBr.out.cell (p := ⟨b0, o0 + j * 6 + 4, none⟩) hbl).trans (hc 4 _ rfl)
        have d5' : wr.cell? ⟨b0, o0 + j * 6 + 5, none⟩ = some (.int .i64 y5) := (hBr.out.cell (p := ⟨b0, o0 + j * 6 + 5, none⟩) hbl).trans (hc 5 _ rfl)
        have lG := KX.out.lt
        obtain ⟨wx, hwx⟩ : ∃ wx, wr.alloc (.cells #[.int .i64 y0, .int .i64 y1, .int .i64 y2, .int .i64 y3, .int .i64 y4, .int .i64 y5] 43) = wx := ⟨_, rfl⟩
        have hbx : Below wr.heap.size wr wx := by rw [← hwx]; exact below_alloc (Below.refl _ _) (Nat.le_refl _) _
        have KO : Hid (wx.heap[wr.heap.size]? = some (.cells #[.int .i64 y0, .int .i64 y1, .int .i64 y2, .int .i64 y3, .int .i64 y4, .int .i64 y5] 43 (0, 0))) := by rw [← hwx]; exact heap_new _ _
        replace KX := Lib.hid (KX.out.call hbx)
        replace KV := Lib.hid (KV.out.call hbx)
        replace KB := Lib.hid (blk_call KB.out hbx)
        replace hBr := Lib.hid (hBr.out.trans (hbx.mono hBr.out.size))
        have HWX := Lib.hid hwx
        have HZ2 : Hid (Z.natAbs ≤ (2 + (j + 1)) * 85070591730234615865843651857942052864) := (Nat.le_trans hZ.out (Nat.mul_le_mul_right _ (by omega)))
        have hskip : ¬ (y1 = acc ∧ y2 = sym ∧ y3 = side) → Z + sumS sym side (opensP acc (b.o.drop (j + 1))) = X := fun hn => by
          rw [← hrest.out, HS.out]
          by_cases h1 : y1 = acc
          · rw [if_pos (show ([y0, y1, y2, y3, y4, y5] : List Int).getD 1 0 = acc from h1)]
            show _ = Z + ((if y2 = sym ∧ y3 = side then y4 else 0) + _)
            rw [if_neg (fun h => hn ⟨h1, h.1, h.2⟩)]; omega
          · rw [if_neg (show ¬ ([y0, y1, y2, y3, y4, y5] : List Int).getD 1 0 = acc from h1)]
        have HSK := Lib.hid hskip
        have htake : (y1 = acc ∧ y2 = sym ∧ y3 = side) → Z + y4 + sumS sym side (opensP acc (b.o.drop (j + 1))) = X := fun hn => by
          rw [← hrest.out, HS.out, if_pos (show ([y0, y1, y2, y3, y4, y5] : List Int).getD 1 0 = acc from hn.1)]
          show _ = Z + ((if y2 = sym ∧ y3 = side then y4 else 0) + _)
          rw [if_pos hn.2]; omega
        have HTK := Lib.hid htake
        clear hc hk hwx hbx hskip htake HS
        by_cases q1 : y1 = acc
        · have tq1 : (y1 == acc) = true := by simp [q1]
          by_cases q2 : y2 = sym
          · have tq2 : (y2 == sym) = true := by simp [q2]
            by_cases q3 : y3 = side
            · have tq3 : (y3 == side) = true := by simp [q3]
              have HS2 := Lib.hid (HTK.out ⟨q1, q2, q3⟩)
              have HQ4 : Hid (I64 y4) := HM.out y4 (by simp)
              have HZ3 : Hid ((Z + y4).natAbs ≤ (2 + (j + 1)) * 85070591730234615865843651857942052864) := (show _ ≤ _ from by
                have h1' := hZ.out
                have h2' := HQ4.out
                unfold I64 at h2'
                omega)
              have bZ : Z.natAbs < 10000 ^ 40 := bigB (Nat.le_trans hZ.out (Nat.mul_le_mul_right _ (by omega)))
              have bY : y4.natAbs < 10000 ^ 40 := bigB (by have := HQ4.out; unfold I64 at this; omega)
              have fm := Lib.hid (fun w => Of_any y4 HQ4.out w)
              have fa := Lib.hid (fun x y w h1 h2 => BAdd_any x y Z y4 w h1 h2 bZ bY)
              clear q1 q2 q3 bZ bY HSK HTK
              go_wp2_with fail
              rw [HWX.out]
              clear d0' d1' d2' d3' d4' d5' cb lK lG hbl3
              have lG := KX.out.lt
              have lO := (Array.getElem?_eq_some_iff.1 KO.out).1
              have e0 := KX.out.c0
              have e1 := KX.out.c1
              have x4 := cells_of_blk KO.out 4 _ rfl
              have HC : ∃ x : ExtOf wx, wx.drew = x.w := ⟨⟨_, (Below.refl _ _).drew⟩, rfl⟩
              have HCb : Hid (Below wx.heap.size wx wx.drew) := (Below.refl _ _).drew
              refine wp_region_D [5] (fun wz => ∃ x : ExtOf wx, wz = x.w) 6 #[false, false, false, false, false, false] (by kernel_rfl) (by kernel_rfl) (by kernel_rfl) ?_
              refine pure_moreD [0, 1, 2] 3 (L' := #[true, true, true, false, false, false]) (by kernel_rfl) (by kernel_rfl) HC ?_
              simp only [opsAt, List.getElem?_toArray, List.getElem?_cons_zero, List.getElem?_cons_succ]
              refine pure_atG (.agg #[.bool t, .slice B m d]) rfl (fun wz hC => by obtain ⟨x, rfl⟩ := hC; unfold execOp; go_simp) ?_
              refine pure_atG (.pointer (some ⟨wr.heap.size, 4, none⟩)) rfl (fun wz _ => by unfold execOp; go_simp) ?_
              refine pure_atG (.int .i64 y4) rfl (fun wz hC => by obtain ⟨x, rfl⟩ := hC; unfold execOp; go_simp) ?_
              unfold wpPure
              go_simp
              refine wpAnyD_one 3 (f := 2) (L' := #[true, true, true, true, false, false]) (by kernel_rfl) (by kernel_rfl) rfl rfl ?_
              go_wp2_with fail
              with_reducible refine (fm.out _).mono ?_
              rintro e wc1 ⟨⟨v5, rfl, hv5⟩, hb⟩
              have V5 := Lib.hid hv5
              clear hv5
              replace HCb : Hid (Below wx.heap.size wx wc1) := HCb.out.trans (hb.mono HCb.out.size)
              have HC : ∃ x : ExtOf wx, wc1 = x.w := ⟨⟨_, HCb.out⟩, rfl⟩
              clear hb
              go_wp2_with fail
              rw [StepQ_normal]
              refine ⟨fun _ => HC, ?_⟩
              refine wpAnyD_one 4 (f := 1) (L' := #[true, true, true, true, true, false]) (by kernel_rfl) (by kernel_rfl) rfl rfl ?_
              go_wp2_with fail
              with_reducible refine (fa.out _ _ _ (Lib.hid (KV.out.call HCb.out)) V5).mono ?_
              rintro e wc2 ⟨⟨v6, rfl, hv6⟩, hb⟩
              obtain ⟨t6, B6, m6, d6, rfl⟩ := hv6.form
              have V6 := Lib.hid hv6
              clear hv6
              replace HCb : Hid (Below wx.heap.size wx wc2) := HCb.out.trans (hb.mono HCb.out.size)
              have HC : ∃ x : ExtOf wx, wc2 = x.w := ⟨⟨_, HCb.out⟩, rfl⟩
              clear hb
              go_wp2_with fail
              rw [StepQ_normal]
              refine ⟨fun _ => HC, ?_⟩
              replace KX := Lib.hid (KX.out.call HCb.out)
              replace KB := Lib.hid (blk_call KB.out HCb.out)
              replace hBr := Lib.hid (hBr.out.trans (HCb.out.mono hBr.out.size))
              clear e0 e1 lG lO x4 V5 KV HCb HC
              have e0 := KX.out.c0
              have e1 := KX.out.c1
              have e2 := KX.out.z 0
              have e3 := KX.out.z 1
              refine wpAnyD_one 5 (f := 0) (L' := #[true, true, true, true, true, true]) (by kernel_rfl) (by kernel_rfl) rfl rfl ?_
              go_wp2_with fail
              rw [StepQ_normal]
              refine ⟨fun h => absurd h (by decide), ?_⟩
              refine ⟨by kernel_rfl, ?_⟩
              rw [OnlyN_normal]
              have KV := Lib.hid (V6.out.store KX.out)
              replace KX := Lib.hid ((KX.out.set0 t6).set1 (.slice B6 m6 d6))
              replace KB : Hid ((((wc2.setCell ⟨G, 0, none⟩ (.bool t6)).setCell ⟨G, 1, none⟩ (.slice B6 m6 d6))).heap[w.heap.size]? = _) := set_oth (set_oth KB.out _ _ (by have := HGw.out; omega)) _ _ (by have := HGw.out; omega)
              replace hBr := Lib.hid ((hBr.out.setCell (p := ⟨G, 0, none⟩) (by have := HGw.out; show w.heap.size ≤ G; omega) (.bool t6)).setCell (p := ⟨G, 1, none⟩) (by have := HGw.out; show w.heap.size ≤ G; omega) (.slice B6 m6 d6))
              clear V6 e0 e1 e2 e3
              go_wp2_with fail
              go_roundw
              case rel => exact ⟨j + 1, _, _, _, _, _, by go_num, by show _ ≤ _; omega, KX.out, KV.out, HS2.out, HZ3.out, KB.out, hBr.out⟩
              case measure => simp [intOf]; omega
            · have tq3 : (y3 == side) = false := by simp [q3]
              have HS2 := Lib.hid (HSK.out (fun h => q3 h.2.2))
              clear q1 q2 q3 HSK HTK
              go_wp2_with fail
              rw [HWX.out]
              clear d0' d1' d2' d3' d4' d5' cb lK lG hbl3
              go_roundw
              case rel => exact ⟨j + 1, Z, t, B, m, d, by go_num, by show _ ≤ _; omega, KX.out, KV.out, HS2.out, HZ2.out, KB.out, hBr.out⟩
              case measure => simp [intOf]; omega
          · have tq2 : (y2 == sym) = false := by simp [q2]
            have HS2 := Lib.hid (HSK.out (fun h => q2 h.2.1))
            clear q1 q2 HSK HTK
            go_wp2_with fail
            rw [HWX.out]
            clear d0' d1' d2' d3' d4' d5' cb lK lG hbl3
            go_roundw
            case rel => exact ⟨j + 1, Z, t, B, m, d, by go_num, by show _ ≤ _; omega, KX.out, KV.out, HS2.out, HZ2.out, KB.out, hBr.out⟩
            case measure => simp [intOf]; omega
        · have tq1 : (y1 == acc) = false := by simp [q1]
          have HS2 := Lib.hid (HSK.out (fun h => q1 h.1))
          clear q1 HSK HTK
          go_wp2_with fail
          rw [HWX.out]
          clear d0' d1' d2' d3' d4' d5' cb lK lG hbl3
          go_roundw
          case rel => exact ⟨j + 1, Z, t, B, m, d, by go_num, by show _ ≤ _; omega, KX.out, KV.out, HS2.out, HZ2.out, KB.out, hBr.out⟩
          case measure => simp [intOf]; omega
      · have tn : decide ((j : Int) < (b.o.length : Int)) = false := decide_eq_false (by omega)
        have hZX : Z = X := by rw [← hrest.out, List.drop_eq_nil_of_le (by omega)]; simp [opensP, sumS]
        have bX : X.natAbs < 10000 ^ 40 := bigB (by rw [← hZX]; exact Nat.le_trans hZ.out (Nat.mul_le_mul_right _ (by omega)))
        rw [hZX] at KV
        have qf := Lib.hid (fun x w h => Fits_any x X w h bX)
        have e0 := KX.out.c0
        have e1 := KX.out.c1
        clear hrest hZ hZX bX
        go_wp2_with fail
        with_reducible refine (qf.out _ _ KV).mono ?_
        rintro e w5 ⟨rfl, hb5⟩
        have HB5 := Lib.hid (hBr.out.trans (hb5.mono hBr.out.size))
        clear hb5
        go_wp2_with fail
        go_ret2
        exact ⟨rfl, HB5.out⟩
end Go.Proofs.Ytfkfpppiikgjbaa
