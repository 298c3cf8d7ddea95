/- Books: rising at the four records. PRINTED BY genBookU.py. -/
import Derived.Test.YtfkfpppiikgjbaaBookM
namespace Go.Proofs.Ytfkfpppiikgjbaa
open Go Go.RowKit
set_option linter.unusedVariables false
set_option linter.unusedSimpArgs false

theorem orI_ge (a b x y : Int) : decide (0 ≤ orI (cmpI a x) (cmpI b y)) = !decide (a < x ∨ a = x ∧ b < y) := by
  unfold orI cmpI
  by_cases h : a < x ∨ a = x ∧ b < y
  · rw [decide_eq_true h]
    refine decide_eq_false ?_
    split <;> split <;> omega
  · rw [decide_eq_false h]
    refine decide_eq_true ?_
    split <;> split <;> omega
theorem cmpI_ge (a b : Int) : decide (0 ≤ cmpI a b) = !decide (a < b) := by
  unfold cmpI
  by_cases h : a < b
  · rw [decide_eq_true h, if_pos h]; rfl
  · rw [decide_eq_false h, if_neg h]
    split <;> rfl

set_option maxRecDepth 100000 in
theorem holderKey_any (y0 y1 y2 y3 : Int) (w : World) : Calls Try.prog 112 #[.agg #[.int .i64 y0, .int .i64 y1, .int .i64 y2, .int .i64 y3]] w fun e w' => e = .returned (.int .i64 y0) ∧ Below w.heap.size w w' := by
  go_enter Try.func112, Try.ntmps112
  go_wp2_with fail
  go_ret
  exact ⟨rfl, below_alloc (Below.refl _ _) (Nat.le_refl _) _⟩

set_option maxRecDepth 100000 in
set_option maxHeartbeats 2000000 in
theorem risingHolder_any (v : Value) (l : List (List Int)) (w : World) (hv : Hid (RecAt w v 4 l)) (hl : l.length ≤ 1000000) :
    Calls Try.prog 111 #[v, .func (.func 112) #[] #[], .func (.func 50) #[] #[]] w fun e w' => e = .returned (.bool (riseHB l)) ∧ Below w.heap.size w w' := by
  obtain ⟨A, c, rfl, hi⟩ := hv.out
  have HI := Lib.hid hi
  clear hi hv
  have qk := Lib.hid (fun x0 x1 x2 x3 w => holderKey_any x0 x1 x2 x3 w)
  have qb := Lib.hid (fun x0 x1 x2 x3 id w => byHolder_any x0 x1 x2 x3 id w)
  obtain ⟨Res, hRes⟩ : ∃ Res, riseHB l = Res := ⟨_, rfl⟩
  rw [hRes]
  replace hRes := Lib.hid hRes
  go_enter Try.func111, Try.ntmps111
  go_wp2_with fail
  go_loopw [7] (fun s6 wr => ∃ j : Nat, s6 = .int .i64 ((j : Int) + 1) ∧ Hid (j ≤ l.length) ∧ Hid (riseHB l = riseHB (l.drop j)) ∧ Hid (Below w.heap.size w wr)) (fun s6 _ => l.length + 1 - (intOf s6).toNat)
  case atStart => exact ⟨0, rfl, Nat.zero_le _, rfl, Below.refl _ _⟩
  case round =>
    obtain ⟨j, rfl, hjl, hrest, hBr⟩ := hrel
    replace hjl := hjl.out
    by_cases hin : j + 1 < l.length
    · have tn : decide ((j : Int) + 1 < (l.length : Int)) = true := decide_eq_true (by omega)
      have hge : l[j]? = some l[j] := List.getElem?_eq_getElem (by omega)
      have hge2 : l[j + 1]? = some l[j + 1] := List.getElem?_eq_getElem hin
      obtain ⟨hk, b0, o0, hA0, hbl, hc⟩ := HI.out j _ hge
      obtain ⟨hk2, b0', o0', hA0', hbl', hc2⟩ := HI.out (j + 1) _ hge2
      subst hA0
      injection hA0' with hA0'
      injection hA0' with hx1 hx2
      subst hx1 hx2
      have hst := Lib.hid (riseHB_step hge hge2)
      clear hge hge2
      generalize l[j] = r at *
      generalize l[j + 1] = r2 at *
      obtain ⟨y0, y1, y2, y3, rfl⟩ : ∃ y0 y1 y2 y3, r = [y0, y1, y2, y3] := by
        match r, hk with
        | [y0, y1, y2, y3], _ => exact ⟨y0, y1, y2, y3, rfl⟩
      obtain ⟨z0, z1, z2, z3, rfl⟩ : ∃ z0 z1 z2 z3, r2 = [z0, z1, z2, z3] := by
        match r2, hk2 with
        | [z0, z1, z2, z3], _ => exact ⟨z0, z1, z2, z3, rfl⟩
      have c0 : wr.cell? ⟨b0, o0 + j * 4, none⟩ = some (.int .i64 y0) := (hBr.out.cell (p := ⟨b0, o0 + j * 4 + 0, none⟩) hbl).trans (hc 0 _ rfl)
      have d0 : wr.cell? ⟨b0, o0 + (j + 1) * 4, none⟩ = some (.int .i64 z0) := (hBr.out.cell (p := ⟨b0, o0 + (j + 1) * 4 + 0, none⟩) hbl).trans (hc2 0 _ rfl)
      have c1 : wr.cell? ⟨b0, o0 + j * 4 + 1, none⟩ = some (.int .i64 y1) := (hBr.out.cell (p := ⟨b0, o0 + j * 4 + 1, none⟩) hbl).trans (hc 1 _ rfl)
      have d1 : wr.cell? ⟨b0, o0 + (j + 1) * 4 + 1, none⟩ = some (.int .i64 z1) := (hBr.out.cell (p := ⟨b0, o0 + (j + 1) * 4 + 1, none⟩) hbl).trans (hc2 1 _ rfl)
      have c2 : wr.cell? ⟨b0, o0 + j * 4 + 2, none⟩ = some (.int .i64 y2) := (hBr.out.cell (p := ⟨b0, o0 + j * 4 + 2, none⟩) hbl).trans (hc 2 _ rfl)
      have d2 : wr.cell? ⟨b0, o0 + (j + 1) * 4 + 2, none⟩ = some (.int .i64 z2) := (hBr.out.cell (p := ⟨b0, o0 + (j + 1) * 4 + 2, none⟩) hbl).trans (hc2 2 _ rfl)
      have c3 : wr.cell? ⟨b0, o0 + j * 4 + 3, none⟩ = some (.int .i64 y3) := (hBr.out.cell (p := ⟨b0, o0 + j * 4 + 3, none⟩) hbl).trans (hc 3 _ rfl)
      have d3 : wr.cell? ⟨b0, o0 + (j + 1) * 4 + 3, none⟩ = some (.int .i64 z3) := (hBr.out.cell (p := ⟨b0, o0 + (j + 1) * 4 + 3, none⟩) hbl).trans (hc2 3 _ rfl)
      have hm0 : IntKind.i64.wrap ((j : Int) + 1 - 1) = (j : Int) := by rw [IntKind.wrap_i64]; omega
      have hm1 : (j : Int) + 1 - 1 = (j : Int) := by omega
      have htn : ((j : Int) + 1).toNat = j + 1 := by omega
      have hb1 : (0 : Int) ≤ (j : Int) + 1 := by omega
      have hb2 : (j : Int) + 1 < (l.length : Int) := by omega
      have hb3 : (j : Int) < (l.length : Int) := by omega
      have hmj : IntKind.i64.wrap (j : Int) = (j : Int) := by rw [IntKind.wrap_i64]; omega
      have hbl3 : b0 < wr.heap.size := Nat.lt_of_lt_of_le hbl hBr.out.size
      have hw2 : IntKind.i64.wrap ((j : Int) + 1 + 1) = (j : Int) + 1 + 1 := by rw [IntKind.wrap_i64]; omega
      obtain ⟨CC, hCC⟩ : ∃ CC, cmpI y0 z0 = CC := ⟨_, rfl⟩
      have tt := cmpI_ge y0 z0
      rw [hCC] at tt
      have qk1 := Lib.hid (fun w => qk.out z0 z1 z2 z3 w)
      have qb1 := Lib.hid (fun w => qb.out y0 y1 y2 y3 z0 w)
      rw [hCC] at qb1
      clear hCC hc hc2 hk hk2
      by_cases hlt : y0 < z0
      · rw [decide_eq_true hlt] at tt
        have tt : decide (0 ≤ CC) = false := tt
        have t3 : CC < 0 := by have := of_decide_eq_false tt; omega
        replace hst := hst.out
        rw [show decide (([y0, y1, y2, y3] : List Int).headD 0 < ([z0, z1, z2, z3] : List Int).headD 0) = true from decide_eq_true hlt, Bool.true_and] at hst
        have hst2 := Lib.hid (hrest.out.trans hst)
        clear hst hlt
        go_wp2_with fail
        refine wp_region_ext (by kernel_rfl) (by kernel_rfl) ?_
        repeat (go_big_quiet_step (first | (with_reducible exact ext_call (qk1.out _)) | (with_reducible exact ext_call (qb1.out _))))
        refine wpQuiet_nil ?_
        rintro w2 ⟨y, rfl⟩
        have HB2 := Lib.hid (hBr.out.trans (y.below.mono hBr.out.size))
        go_wp2_with fail
        go_roundw
        case rel => exact ⟨j + 1, by go_num, by show _ ≤ _; omega, hst2.out, HB2.out⟩
        case measure => simp [intOf]; omega
      · rw [decide_eq_false hlt] at tt
        have tt : decide (0 ≤ CC) = true := tt
        have t3 : 0 ≤ CC := of_decide_eq_true tt
        replace hst := hst.out
        rw [show decide (([y0, y1, y2, y3] : List Int).headD 0 < ([z0, z1, z2, z3] : List Int).headD 0) = false from decide_eq_false hlt, Bool.false_and] at hst
        have hst2 := Lib.hid (hrest.out.trans hst)
        clear hst hlt
        go_wp2_with fail
        refine wp_region_ext (by kernel_rfl) (by kernel_rfl) ?_
        repeat (go_big_quiet_step (first | (with_reducible exact ext_call (qk1.out _)) | (with_reducible exact ext_call (qb1.out _))))
        refine wpQuiet_nil ?_
        rintro w2 ⟨y, rfl⟩
        have HB2 := Lib.hid (hBr.out.trans (y.below.mono hBr.out.size))
        go_wp2_with fail
        go_ret
        have hR : Res = false := hRes.out.symm.trans hst2.out
        subst hR
        exact ⟨rfl, HB2.out⟩
    · have tn : decide ((j : Int) + 1 < (l.length : Int)) = false := decide_eq_false (by omega)
      have hR : Hid (Res = true) := (show _ = _ from hRes.out.symm.trans (hrest.out.trans (riseHB_end (by omega))))
      clear hrest hjl hRes
      obtain rfl := hR.out
      go_wp2_with fail
      go_ret
      exact ⟨rfl, hBr.out⟩


set_option maxRecDepth 100000 in
theorem openKey_any (y0 y1 y2 y3 y4 y5 : Int) (w : World) : Calls Try.prog 114 #[.agg #[.int .i64 y0, .int .i64 y1, .int .i64 y2, .int .i64 y3, .int .i64 y4, .int .i64 y5]] w fun e w' => e = .returned (.int .i64 y0) ∧ Below w.heap.size w w' := by
  go_enter Try.func114, Try.ntmps114
  go_wp2_with fail
  go_ret
  exact ⟨rfl, below_alloc (Below.refl _ _) (Nat.le_refl _) _⟩

set_option maxRecDepth 100000 in
set_option maxHeartbeats 2000000 in
theorem risingOpen_any (v : Value) (l : List (List Int)) (w : World) (hv : Hid (RecAt w v 6 l)) (hl : l.length ≤ 1000000) :
    Calls Try.prog 113 #[v, .func (.func 114) #[] #[], .func (.func 55) #[] #[]] w fun e w' => e = .returned (.bool (riseHB l)) ∧ Below w.heap.size w w' := by
  obtain ⟨A, c, rfl, hi⟩ := hv.out
  have HI := Lib.hid hi
  clear hi hv
  have qk := Lib.hid (fun x0 x1 x2 x3 x4 x5 w => openKey_any x0 x1 x2 x3 x4 x5 w)
  have qb := Lib.hid (fun x0 x1 x2 x3 x4 x5 id w => byOpen_any x0 x1 x2 x3 x4 x5 id w)
  obtain ⟨Res, hRes⟩ : ∃ Res, riseHB l = Res := ⟨_, rfl⟩
  rw [hRes]
  replace hRes := Lib.hid hRes
  go_enter Try.func113, Try.ntmps113
  go_wp2_with fail
  go_loopw [7] (fun s6 wr => ∃ j : Nat, s6 = .int .i64 ((j : Int) + 1) ∧ Hid (j ≤ l.length) ∧ Hid (riseHB l = riseHB (l.drop j)) ∧ Hid (Below w.heap.size w wr)) (fun s6 _ => l.length + 1 - (intOf s6).toNat)
  case atStart => exact ⟨0, rfl, Nat.zero_le _, rfl, Below.refl _ _⟩
  case round =>
    obtain ⟨j, rfl, hjl, hrest, hBr⟩ := hrel
    replace hjl := hjl.out
    by_cases hin : j + 1 < l.length
    · have tn : decide ((j : Int) + 1 < (l.length : Int)) = true := decide_eq_true (by omega)
      have hge : l[j]? = some l[j] := List.getElem?_eq_getElem (by omega)
      have hge2 : l[j + 1]? = some l[j + 1] := List.getElem?_eq_getElem hin
      obtain ⟨hk, b0, o0, hA0, hbl, hc⟩ := HI.out j _ hge
      obtain ⟨hk2, b0', o0', hA0', hbl', hc2⟩ := HI.out (j + 1) _ hge2
      subst hA0
      injection hA0' with hA0'
      injection hA0' with hx1 hx2
      subst hx1 hx2
      have hst := Lib.hid (riseHB_step hge hge2)
      clear hge hge2
      generalize l[j] = r at *
      generalize l[j + 1] = r2 at *
      obtain ⟨y0, y1, y2, y3, y4, y5, rfl⟩ : ∃ y0 y1 y2 y3 y4 y5, r = [y0, y1, y2, y3, y4, y5] := by
        match r, hk with
        | [y0, y1, y2, y3, y4, y5], _ => exact ⟨y0, y1, y2, y3, y4, y5, rfl⟩
      obtain ⟨z0, z1, z2, z3, z4, z5, rfl⟩ : ∃ z0 z1 z2 z3 z4 z5, r2 = [z0, z1, z2, z3, z4, z5] := by
        match r2, hk2 with
        | [z0, z1, z2, z3, z4, z5], _ => exact ⟨z0, z1, z2, z3, z4, z5, rfl⟩
      have c0 : wr.cell? ⟨b0, o0 + j * 6, none⟩ = some (.int .i64 y0) := (hBr.out.cell (p := ⟨b0, o0 + j * 6 + 0, none⟩) hbl).trans (hc 0 _ rfl)
      have d0 : wr.cell? ⟨b0, o0 + (j + 1) * 6, none⟩ = some (.int .i64 z0) := (hBr.out.cell (p := ⟨b0, o0 + (j + 1) * 6 + 0, none⟩) hbl).trans (hc2 0 _ rfl)
      have c1 : wr.cell? ⟨b0, o0 + j * 6 + 1, none⟩ = some (.int .i64 y1) := (hBr.out.cell (p := ⟨b0, o0 + j * 6 + 1, none⟩) hbl).trans (hc 1 _ rfl)
      have d1 : wr.cell? ⟨b0, o0 + (j + 1) * 6 + 1, none⟩ = some (.int .i64 z1) := (hBr.out.cell (p := ⟨b0, o0 + (j + 1) * 6 + 1, none⟩) hbl).trans (hc2 1 _ rfl)
      have c2 : wr.cell? ⟨b0, o0 + j * 6 + 2, none⟩ = some (.int .i64 y2) := (hBr.out.cell (p := ⟨b0, o0 + j * 6 + 2, none⟩) hbl).trans (hc 2 _ rfl)
      have d2 : wr.cell? ⟨b0, o0 + (j + 1) * 6 + 2, none⟩ = some (.int .i64 z2) := (hBr.out.cell (p := ⟨b0, o0 + (j + 1) * 6 + 2, none⟩) hbl).trans (hc2 2 _ rfl)
      have c3 : wr.cell? ⟨b0, o0 + j * 6 + 3, none⟩ = some (.int .i64 y3) := (hBr.out.cell (p := ⟨b0, o0 + j * 6 + 3, none⟩) hbl).trans (hc 3 _ rfl)
      have d3 : wr.cell? ⟨b0, o0 + (j + 1) * 6 + 3, none⟩ = some (.int .i64 z3) := (hBr.out.cell (p := ⟨b0, o0 + (j + 1) * 6 + 3, none⟩) hbl).trans (hc2 3 _ rfl)
      have c4 : wr.cell? ⟨b0, o0 + j * 6 + 4, none⟩ = some (.int .i64 y4) := (hBr.out.cell (p := ⟨b0, o0 + j * 6 + 4, none⟩) hbl).trans (hc 4 _ rfl)
      have d4 : wr.cell? ⟨b0, o0 + (j + 1) * 6 + 4, none⟩ = some (.int .i64 z4) := (hBr.out.cell (p := ⟨b0, o0 + (j + 1) * 6 + 4, none⟩) hbl).trans (hc2 4 _ rfl)
      have c5 : wr.cell? ⟨b0, o0 + j * 6 + 5, none⟩ = some (.int .i64 y5) := (hBr.out.cell (p := ⟨b0, o0 + j * 6 + 5, none⟩) hbl).trans (hc 5 _ rfl)
      have d5 : wr.cell? ⟨b0, o0 + (j + 1) * 6 + 5, none⟩ = some (.int .i64 z5) := (hBr.out.cell (p := ⟨b0, o0 + (j + 1) * 6 + 5, none⟩) hbl).trans (hc2 5 _ rfl)
      have hm0 : IntKind.i64.wrap ((j : Int) + 1 - 1) = (j : Int) := by rw [IntKind.wrap_i64]; omega
      have hm1 : (j : Int) + 1 - 1 = (j : Int) := by omega
      have htn : ((j : Int) + 1).toNat = j + 1 := by omega
      have hb1 : (0 : Int) ≤ (j : Int) + 1 := by omega
      have hb2 : (j : Int) + 1 < (l.length : Int) := by omega
      have hb3 : (j : Int) < (l.length : Int) := by omega
      have hmj : IntKind.i64.wrap (j : Int) = (j : Int) := by rw [IntKind.wrap_i64]; omega
      have hbl3 : b0 < wr.heap.size := Nat.lt_of_lt_of_le hbl hBr.out.size
      have hw2 : IntKind.i64.wrap ((j : Int) + 1 + 1) = (j : Int) + 1 + 1 := by rw [IntKind.wrap_i64]; omega
      obtain ⟨CC, hCC⟩ : ∃ CC, cmpI y0 z0 = CC := ⟨_, rfl⟩
      have tt := cmpI_ge y0 z0
      rw [hCC] at tt
      have qk1 := Lib.hid (fun w => qk.out z0 z1 z2 z3 z4 z5 w)
      have qb1 := Lib.hid (fun w => qb.out y0 y1 y2 y3 y4 y5 z0 w)
      rw [hCC] at qb1
      clear hCC hc hc2 hk hk2
      by_cases hlt : y0 < z0
      · rw [decide_eq_true hlt] at tt
        have tt : decide (0 ≤ CC) = false := tt
        have t3 : CC < 0 := by have := of_decide_eq_false tt; omega
        replace hst := hst.out
        rw [show decide (([y0, y1, y2, y3, y4, y5] : List Int).headD 0 < ([z0, z1, z2, z3, z4, z5] : List Int).headD 0) = true from decide_eq_true hlt, Bool.true_and] at hst
        have hst2 := Lib.hid (hrest.out.trans hst)
        clear hst hlt
        go_wp2_with fail
        refine wp_region_ext (by kernel_rfl) (by kernel_rfl) ?_
        repeat (go_big_quiet_step (first | (with_reducible exact ext_call (qk1.out _)) | (with_reducible exact ext_call (qb1.out _))))
        refine wpQuiet_nil ?_
        rintro w2 ⟨y, rfl⟩
        have HB2 := Lib.hid (hBr.out.trans (y.below.mono hBr.out.size))
        go_wp2_with fail
        go_roundw
        case rel => exact ⟨j + 1, by go_num, by show _ ≤ _; omega, hst2.out, HB2.out⟩
        case measure => simp [intOf]; omega
      · rw [decide_eq_false hlt] at tt
        have tt : decide (0 ≤ CC) = true := tt
        have t3 : 0 ≤ CC := of_decide_eq_true tt
        replace hst := hst.out
        rw [show decide (([y0, y1, y2, y3, y4, y5] : List Int).headD 0 < ([z0, z1, z2, z3, z4, z5] : List Int).headD 0) = false from decide_eq_false hlt, Bool.false_and] at hst
        have hst2 := Lib.hid (hrest.out.trans hst)
        clear hst hlt
        go_wp2_with fail
        refine wp_region_ext (by kernel_rfl) (by kernel_rfl) ?_
        repeat (go_big_quiet_step (first | (with_reducible exact ext_call (qk1.out _)) | (with_reducible exact ext_call (qb1.out _))))
        refine wpQuiet_nil ?_
        rintro w2 ⟨y, rfl⟩
        have HB2 := Lib.hid (hBr.out.trans (y.below.mono hBr.out.size))
        go_wp2_with fail
        go_ret
        have hR : Res = false := hRes.out.symm.trans hst2.out
        subst hR
        exact ⟨rfl, HB2.out⟩
    · have tn : decide ((j : Int) + 1 < (l.length : Int)) = false := decide_eq_false (by omega)
      have hR : Hid (Res = true) := (show _ = _ from hRes.out.symm.trans (hrest.out.trans (riseHB_end (by omega))))
      clear hrest hjl hRes
      obtain rfl := hR.out
      go_wp2_with fail
      go_ret
      exact ⟨rfl, hBr.out⟩


set_option maxRecDepth 100000 in
theorem rateKey_any (y0 y1 : Int) (w : World) : Calls Try.prog 116 #[.agg #[.int .i64 y0, .int .i64 y1]] w fun e w' => e = .returned (.int .i64 y0) ∧ Below w.heap.size w w' := by
  go_enter Try.func116, Try.ntmps116
  go_wp2_with fail
  go_ret
  exact ⟨rfl, below_alloc (Below.refl _ _) (Nat.le_refl _) _⟩

set_option maxRecDepth 100000 in
set_option maxHeartbeats 2000000 in
theorem risingRate_any (v : Value) (l : List (List Int)) (w : World) (hv : Hid (RecAt w v 2 l)) (hl : l.length ≤ 1000000) :
    Calls Try.prog 115 #[v, .func (.func 116) #[] #[], .func (.func 57) #[] #[]] w fun e w' => e = .returned (.bool (riseHB l)) ∧ Below w.heap.size w w' := by
  obtain ⟨A, c, rfl, hi⟩ := hv.out
  have HI := Lib.hid hi
  clear hi hv
  have qk := Lib.hid (fun x0 x1 w => rateKey_any x0 x1 w)
  have qb := Lib.hid (fun x0 x1 id w => byRate_any x0 x1 id w)
  obtain ⟨Res, hRes⟩ : ∃ Res, riseHB l = Res := ⟨_, rfl⟩
  rw [hRes]
  replace hRes := Lib.hid hRes
  go_enter Try.func115, Try.ntmps115
  go_wp2_with fail
  go_loopw [7] (fun s6 wr => ∃ j : Nat, s6 = .int .i64 ((j : Int) + 1) ∧ Hid (j ≤ l.length) ∧ Hid (riseHB l = riseHB (l.drop j)) ∧ Hid (Below w.heap.size w wr)) (fun s6 _ => l.length + 1 - (intOf s6).toNat)
  case atStart => exact ⟨0, rfl, Nat.zero_le _, rfl, Below.refl _ _⟩
  case round =>
    obtain ⟨j, rfl, hjl, hrest, hBr⟩ := hrel
    replace hjl := hjl.out
    by_cases hin : j + 1 < l.length
    · have tn : decide ((j : Int) + 1 < (l.length : Int)) = true := decide_eq_true (by omega)
      have hge : l[j]? = some l[j] := List.getElem?_eq_getElem (by omega)
      have hge2 : l[j + 1]? = some l[j + 1] := List.getElem?_eq_getElem hin
      obtain ⟨hk, b0, o0, hA0, hbl, hc⟩ := HI.out j _ hge
      obtain ⟨hk2, b0', o0', hA0', hbl', hc2⟩ := HI.out (j + 1) _ hge2
      subst hA0
      injection hA0' with hA0'
      injection hA0' with hx1 hx2
      subst hx1 hx2
      have hst := Lib.hid (riseHB_step hge hge2)
      clear hge hge2
      generalize l[j] = r at *
      generalize l[j + 1] = r2 at *
      obtain ⟨y0, y1, rfl⟩ : ∃ y0 y1, r = [y0, y1] := by
        match r, hk with
        | [y0, y1], _ => exact ⟨y0, y1, rfl⟩
      obtain ⟨z0, z1, rfl⟩ : ∃ z0 z1, r2 = [z0, z1] := by
        match r2, hk2 with
        | [z0, z1], _ => exact ⟨z0, z1, rfl⟩
      have c0 : wr.cell? ⟨b0, o0 + j * 2, none⟩ = some (.int .i64 y0) := (hBr.out.cell (p := ⟨b0, o0 + j * 2 + 0, none⟩) hbl).trans (hc 0 _ rfl)
      have d0 : wr.cell? ⟨b0, o0 + (j + 1) * 2, none⟩ = some (.int .i64 z0) := (hBr.out.cell (p := ⟨b0, o0 + (j + 1) * 2 + 0, none⟩) hbl).trans (hc2 0 _ rfl)
      have c1 : wr.cell? ⟨b0, o0 + j * 2 + 1, none⟩ = some (.int .i64 y1) := (hBr.out.cell (p := ⟨b0, o0 + j * 2 + 1, none⟩) hbl).trans (hc 1 _ rfl)
      have d1 : wr.cell? ⟨b0, o0 + (j + 1) * 2 + 1, none⟩ = some (.int .i64 z1) := (hBr.out.cell (p := ⟨b0, o0 + (j + 1) * 2 + 1, none⟩) hbl).trans (hc2 1 _ rfl)
      have hm0 : IntKind.i64.wrap ((j : Int) + 1 - 1) = (j : Int) := by rw [IntKind.wrap_i64]; omega
      have hm1 : (j : Int) + 1 - 1 = (j : Int) := by omega
      have htn : ((j : Int) + 1).toNat = j + 1 := by omega
      have hb1 : (0 : Int) ≤ (j : Int) + 1 := by omega
      have hb2 : (j : Int) + 1 < (l.length : Int) := by omega
      have hb3 : (j : Int) < (l.length : Int) := by omega
      have hmj : IntKind.i64.wrap (j : Int) = (j : Int) := by rw [IntKind.wrap_i64]; omega
      have hbl3 : b0 < wr.heap.size := Nat.lt_of_lt_of_le hbl hBr.out.size
      have hw2 : IntKind.i64.wrap ((j : Int) + 1 + 1) = (j : Int) + 1 + 1 := by rw [IntKind.wrap_i64]; omega
      obtain ⟨CC, hCC⟩ : ∃ CC, cmpI y0 z0 = CC := ⟨_, rfl⟩
      have tt := cmpI_ge y0 z0
      rw [hCC] at tt
      have qk1 := Lib.hid (fun w => qk.out z0 z1 w)
      have qb1 := Lib.hid (fun w => qb.out y0 y1 z0 w)
      rw [hCC] at qb1
      clear hCC hc hc2 hk hk2
      by_cases hlt : y0 < z0
      · rw [decide_eq_true hlt] at tt
        have tt : decide (0 ≤ CC) = false := tt
        have t3 : CC < 0 := by have := of_decide_eq_false tt; omega
        replace hst := hst.out
        rw [show decide (([y0, y1] : List Int).headD 0 < ([z0, z1] : List Int).headD 0) = true from decide_eq_true hlt, Bool.true_and] at hst
        have hst2 := Lib.hid (hrest.out.trans hst)
        clear hst hlt
        go_wp2_with fail
        refine wp_region_ext (by kernel_rfl) (by kernel_rfl) ?_
        repeat (go_big_quiet_step (first | (with_reducible exact ext_call (qk1.out _)) | (with_reducible exact ext_call (qb1.out _))))
        refine wpQuiet_nil ?_
        rintro w2 ⟨y, rfl⟩
        have HB2 := Lib.hid (hBr.out.trans (y.below.mono hBr.out.size))
        go_wp2_with fail
        go_roundw
        case rel => exact ⟨j + 1, by go_num, by show _ ≤ _; omega, hst2.out, HB2.out⟩
        case measure => simp [intOf]; omega
      · rw [decide_eq_false hlt] at tt
        have tt : decide (0 ≤ CC) = true := tt
        have t3 : 0 ≤ CC := of_decide_eq_true tt
        replace hst := hst.out
        rw [show decide (([y0, y1] : List Int).headD 0 < ([z0, z1] : List Int).headD 0) = false from decide_eq_false hlt, Bool.false_and] at hst
        have hst2 := Lib.hid (hrest.out.trans hst)
        clear hst hlt
        go_wp2_with fail
        refine wp_region_ext (by kernel_rfl) (by kernel_rfl) ?_
        repeat (go_big_quiet_step (first | (with_reducible exact ext_call (qk1.out _)) | (with_reducible exact ext_call (qb1.out _))))
        refine wpQuiet_nil ?_
        rintro w2 ⟨y, rfl⟩
        have HB2 := Lib.hid (hBr.out.trans (y.below.mono hBr.out.size))
        go_wp2_with fail
        go_ret
        have hR : Res = false := hRes.out.symm.trans hst2.out
        subst hR
        exact ⟨rfl, HB2.out⟩
    · have tn : decide ((j : Int) + 1 < (l.length : Int)) = false := decide_eq_false (by omega)
      have hR : Hid (Res = true) := (show _ = _ from hRes.out.symm.trans (hrest.out.trans (riseHB_end (by omega))))
      clear hrest hjl hRes
      obtain rfl := hR.out
      go_wp2_with fail
      go_ret
      exact ⟨rfl, hBr.out⟩


set_option maxRecDepth 100000 in
set_option maxHeartbeats 2000000 in
theorem risingStake_any (v : Value) (l : List (List Int)) (w : World) (hv : Hid (RecAt w v 3 l)) (hl : l.length ≤ 1000000) :
    Calls Try.prog 117 #[v, .func (.func 52) #[] #[], .func (.func 53) #[] #[]] w fun e w' => e = .returned (.bool (riseSB l)) ∧ Below w.heap.size w w' := by
  obtain ⟨A, c, rfl, hi⟩ := hv.out
  have HI := Lib.hid hi
  clear hi hv
  have qk := Lib.hid (fun x0 x1 x2 w => stakeKey_any x0 x1 x2 w)
  have qb := Lib.hid (fun x0 x1 x2 kx ky w => byStake_any x0 x1 x2 kx ky w)
  obtain ⟨Res, hRes⟩ : ∃ Res, riseSB l = Res := ⟨_, rfl⟩
  rw [hRes]
  replace hRes := Lib.hid hRes
  go_enter Try.func117, Try.ntmps117
  go_wp2_with fail
  go_loopw [7] (fun s6 wr => ∃ j : Nat, s6 = .int .i64 ((j : Int) + 1) ∧ Hid (j ≤ l.length) ∧ Hid (riseSB l = riseSB (l.drop j)) ∧ Hid (Below w.heap.size w wr)) (fun s6 _ => l.length + 1 - (intOf s6).toNat)
  case atStart => exact ⟨0, rfl, Nat.zero_le _, rfl, Below.refl _ _⟩
  case round =>
    obtain ⟨j, rfl, hjl, hrest, hBr⟩ := hrel
    replace hjl := hjl.out
    by_cases hin : j + 1 < l.length
    · have tn : decide ((j : Int) + 1 < (l.length : Int)) = true := decide_eq_true (by omega)
      have hge : l[j]? = some l[j] := List.getElem?_eq_getElem (by omega)
      have hge2 : l[j + 1]? = some l[j + 1] := List.getElem?_eq_getElem hin
      obtain ⟨hk, b0, o0, hA0, hbl, hc⟩ := HI.out j _ hge
      obtain ⟨hk2, b0', o0', hA0', hbl', hc2⟩ := HI.out (j + 1) _ hge2
      subst hA0
      injection hA0' with hA0'
      injection hA0' with hx1 hx2
      subst hx1 hx2
      have hst := Lib.hid (riseSB_step hge hge2)
      clear hge hge2
      generalize l[j] = r at *
      generalize l[j + 1] = r2 at *
      obtain ⟨y0, y1, y2, rfl⟩ : ∃ y0 y1 y2, r = [y0, y1, y2] := by
        match r, hk with
        | [y0, y1, y2], _ => exact ⟨y0, y1, y2, rfl⟩
      obtain ⟨z0, z1, z2, rfl⟩ : ∃ z0 z1 z2, r2 = [z0, z1, z2] := by
        match r2, hk2 with
        | [z0, z1, z2], _ => exact ⟨z0, z1, z2, rfl⟩
      have c0 : wr.cell? ⟨b0, o0 + j * 3, none⟩ = some (.int .i64 y0) := (hBr.out.cell (p := ⟨b0, o0 + j * 3 + 0, none⟩) hbl).trans (hc 0 _ rfl)
      have d0 : wr.cell? ⟨b0, o0 + (j + 1) * 3, none⟩ = some (.int .i64 z0) := (hBr.out.cell (p := ⟨b0, o0 + (j + 1) * 3 + 0, none⟩) hbl).trans (hc2 0 _ rfl)
      have c1 : wr.cell? ⟨b0, o0 + j * 3 + 1, none⟩ = some (.int .i64 y1) := (hBr.out.cell (p := ⟨b0, o0 + j * 3 + 1, none⟩) hbl).trans (hc 1 _ rfl)
      have d1 : wr.cell? ⟨b0, o0 + (j + 1) * 3 + 1, none⟩ = some (.int .i64 z1) := (hBr.out.cell (p := ⟨b0, o0 + (j + 1) * 3 + 1, none⟩) hbl).trans (hc2 1 _ rfl)
      have c2 : wr.cell? ⟨b0, o0 + j * 3 + 2, none⟩ = some (.int .i64 y2) := (hBr.out.cell (p := ⟨b0, o0 + j * 3 + 2, none⟩) hbl).trans (hc 2 _ rfl)
      have d2 : wr.cell? ⟨b0, o0 + (j + 1) * 3 + 2, none⟩ = some (.int .i64 z2) := (hBr.out.cell (p := ⟨b0, o0 + (j + 1) * 3 + 2, none⟩) hbl).trans (hc2 2 _ rfl)
      have hm0 : IntKind.i64.wrap ((j : Int) + 1 - 1) = (j : Int) := by rw [IntKind.wrap_i64]; omega
      have hm1 : (j : Int) + 1 - 1 = (j : Int) := by omega
      have htn : ((j : Int) + 1).toNat = j + 1 := by omega
      have hb1 : (0 : Int) ≤ (j : Int) + 1 := by omega
      have hb2 : (j : Int) + 1 < (l.length : Int) := by omega
      have hb3 : (j : Int) < (l.length : Int) := by omega
      have hmj : IntKind.i64.wrap (j : Int) = (j : Int) := by rw [IntKind.wrap_i64]; omega
      have hbl3 : b0 < wr.heap.size := Nat.lt_of_lt_of_le hbl hBr.out.size
      have hw2 : IntKind.i64.wrap ((j : Int) + 1 + 1) = (j : Int) + 1 + 1 := by rw [IntKind.wrap_i64]; omega
      obtain ⟨CC, hCC⟩ : ∃ CC, orI (cmpI y0 z0) (cmpI y1 z1) = CC := ⟨_, rfl⟩
      have tt := orI_ge y0 y1 z0 z1
      rw [hCC] at tt
      have qk1 := Lib.hid (fun w => qk.out z0 z1 z2 w)
      have qb1 := Lib.hid (fun w => qb.out y0 y1 y2 z0 z1 w)
      rw [hCC] at qb1
      clear hCC hc hc2 hk hk2
      by_cases hlt : y0 < z0 ∨ y0 = z0 ∧ y1 < z1
      · rw [decide_eq_true hlt] at tt
        have tt : decide (0 ≤ CC) = false := tt
        have t3 : CC < 0 := by have := of_decide_eq_false tt; omega
        replace hst := hst.out
        rw [show decide (stLt' ([y0, y1, y2] : List Int) [z0, z1, z2]) = true from decide_eq_true hlt, Bool.true_and] at hst
        have hst2 := Lib.hid (hrest.out.trans hst)
        clear hst hlt
        go_wp2_with fail
        refine wp_region_ext (by kernel_rfl) (by kernel_rfl) ?_
        repeat (go_big_quiet_step (first | (with_reducible exact ext_call (qk1.out _)) | (with_reducible exact ext_call (qb1.out _))))
        refine wpQuiet_nil ?_
        rintro w2 ⟨y, rfl⟩
        have HB2 := Lib.hid (hBr.out.trans (y.below.mono hBr.out.size))
        go_wp2_with fail
        go_roundw
        case rel => exact ⟨j + 1, by go_num, by show _ ≤ _; omega, hst2.out, HB2.out⟩
        case measure => simp [intOf]; omega
      · rw [decide_eq_false hlt] at tt
        have tt : decide (0 ≤ CC) = true := tt
        have t3 : 0 ≤ CC := of_decide_eq_true tt
        replace hst := hst.out
        rw [show decide (stLt' ([y0, y1, y2] : List Int) [z0, z1, z2]) = false from decide_eq_false hlt, Bool.false_and] at hst
        have hst2 := Lib.hid (hrest.out.trans hst)
        clear hst hlt
        go_wp2_with fail
        refine wp_region_ext (by kernel_rfl) (by kernel_rfl) ?_
        repeat (go_big_quiet_step (first | (with_reducible exact ext_call (qk1.out _)) | (with_reducible exact ext_call (qb1.out _))))
        refine wpQuiet_nil ?_
        rintro w2 ⟨y, rfl⟩
        have HB2 := Lib.hid (hBr.out.trans (y.below.mono hBr.out.size))
        go_wp2_with fail
        go_ret
        have hR : Res = false := hRes.out.symm.trans hst2.out
        subst hR
        exact ⟨rfl, HB2.out⟩
    · have tn : decide ((j : Int) + 1 < (l.length : Int)) = false := decide_eq_false (by omega)
      have hR : Hid (Res = true) := (show _ = _ from hRes.out.symm.trans (hrest.out.trans (riseSB_end (by omega))))
      clear hrest hjl hRes
      obtain rfl := hR.out
      go_wp2_with fail
      go_ret
      exact ⟨rfl, hBr.out⟩


end Go.Proofs.Ytfkfpppiikgjbaa
