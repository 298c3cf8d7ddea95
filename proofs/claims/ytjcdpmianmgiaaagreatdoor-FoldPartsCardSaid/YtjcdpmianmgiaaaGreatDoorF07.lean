/- Part 8 of what the claim rests on. -/
import Derived.Test.YtjcdpmianmgiaaaGreatDoorF00
import Derived.Test.YtjcdpmianmgiaaaGreatDoorF06
import Derived.Shelf.GgClosure.Gives
namespace Go.Proofs.YtjcdpmianmgiaaaGreatDoor
open Go Go.RowKit
set_option linter.unusedVariables false
set_option linter.unusedSimpArgs false
theorem orI_ge (a b x y : Int) : decide (0 ≤ orI (cmpI a x) (cmpI b y)) = !decide (a < x ∨ a = x ∧ b < y) := by
  unfold orI cmpI
  by_cases h : a < x ∨ a = x ∧ b < y
  · rw [decide_eq_true h]
    refine decide_eq_false ?_
    split <;> split <;> omega
  · rw [decide_eq_false h]
    refine decide_eq_true ?_
    split <;> split <;> omega
theorem cmpI_ge (a b : Int) : decide (0 ≤ cmpI a b) = !decide (a < b) := by
  unfold cmpI
  by_cases h : a < b
  · rw [decide_eq_true h, if_pos h]; rfl
  · rw [decide_eq_false h, if_neg h]
    split <;> rfl
set_option maxRecDepth 100000 in
theorem holderKey_any (y0 y1 y2 y3 : Int) (w : World) : Calls Tryz.prog 131 #[.agg #[.int .i64 y0, .int .i64 y1, .int .i64 y2, .int .i64 y3]] w fun e w' => e = .returned (.int .i64 y0) ∧ Below w.heap.size w w' := by
  go_enter Tryz.func131, Tryz.ntmps131
  go_wp2_with fail
  go_ret
  exact ⟨rfl, below_alloc (Below.refl _ _) (Nat.le_refl _) _⟩
set_option maxRecDepth 100000 in
set_option maxHeartbeats 2000000 in
theorem risingHolder_any (v : Value) (l : List (List Int)) (w : World) (hv : Hid (RecAt w v 4 l)) (hl : l.length ≤ 1000000) :
    Calls Tryz.prog 130 #[v, .func (.func 131) #[] #[], .func (.func 132) #[] #[]] w fun e w' => e = .returned (.bool (riseHB l)) ∧ Below w.heap.size w w' := by
  obtain ⟨A, c, rfl, hi⟩ := hv.out
  have HI := zH hi
  clear hi hv
  have qk := zH (fun x0 x1 x2 x3 w => holderKey_any x0 x1 x2 x3 w)
  have qb := zH (fun x0 x1 x2 x3 id w => byHolder_any x0 x1 x2 x3 id w)
  obtain ⟨Res, hRes⟩ : ∃ Res, riseHB l = Res := ⟨_, rfl⟩
  rw [hRes]
  replace hRes := zH hRes
  go_enter Tryz.func130, Tryz.ntmps130
  go_wp2_with fail
  go_loopw [7] (fun s6 wr => ∃ j : Nat, s6 = .int .i64 ((j : Int) + 1) ∧ Hid (j ≤ l.length) ∧ Hid (riseHB l = riseHB (l.drop j)) ∧ Hid (Below w.heap.size w wr)) (fun s6 _ => l.length + 1 - (intOf s6).toNat)
  case atStart => exact ⟨0, rfl, Nat.zero_le _, rfl, Below.refl _ _⟩
  case round =>
    obtain ⟨j, rfl, hjl, hrest, hBr⟩ := hrel
    replace hjl := hjl.out
    by_cases hin : j + 1 < l.length
    · have tn : decide ((j : Int) + 1 < (l.length : Int)) = true := decide_eq_true (by omega)
      have hge : l[j]? = some l[j] := List.getElem?_eq_getElem (by omega)
      have hge2 : l[j + 1]? = some l[j + 1] := List.getElem?_eq_getElem hin
      obtain ⟨hk, b0, o0, hA0, hbl, hc⟩ := HI.out j _ hge
      obtain ⟨hk2, b0', o0', hA0', hbl', hc2⟩ := HI.out (j + 1) _ hge2
      subst hA0
      injection hA0' with hA0'
      injection hA0' with hx1 hx2
      subst hx1 hx2
      have hst := zH (riseHB_step hge hge2)
      clear hge hge2
      generalize l[j] = r at *
      generalize l[j + 1] = r2 at *
      obtain ⟨y0, y1, y2, y3, rfl⟩ : ∃ y0 y1 y2 y3, r = [y0, y1, y2, y3] := by
        match r, hk with
        | [y0, y1, y2, y3], _ => exact ⟨y0, y1, y2, y3, rfl⟩
      obtain ⟨z0, z1, z2, z3, rfl⟩ : ∃ z0 z1 z2 z3, r2 = [z0, z1, z2, z3] := by
        match r2, hk2 with
        | [z0, z1, z2, z3], _ => exact ⟨z0, z1, z2, z3, rfl⟩
      have c0 : wr.cell? ⟨b0, o0 + j * 4, none⟩ = some (.int .i64 y0) := (hBr.out.cell (p := ⟨b0, o0 + j * 4 + 0, none⟩) hbl).trans (hc 0 _ rfl)
      have d0 : wr.cell? ⟨b0, o0 + (j + 1) * 4, none⟩ = some (.int .i64 z0) := (hBr.out.cell (p := ⟨b0, o0 + (j + 1) * 4 + 0, none⟩) hbl).trans (hc2 0 _ rfl)
      have c1 : wr.cell? ⟨b0, o0 + j * 4 + 1, none⟩ = some (.int .i64 y1) := (hBr.out.cell (p := ⟨b0, o0 + j * 4 + 1, none⟩) hbl).trans (hc 1 _ rfl)
      have d1 : wr.cell? ⟨b0, o0 + (j + 1) * 4 + 1, none⟩ = some (.int .i64 z1) := (hBr.out.cell (p := ⟨b0, o0 + (j + 1) * 4 + 1, none⟩) hbl).trans (hc2 1 _ rfl)
      have c2 : wr.cell? ⟨b0, o0 + j * 4 + 2, none⟩ = some (.int .i64 y2) := (hBr.out.cell (p := ⟨b0, o0 + j * 4 + 2, none⟩) hbl).trans (hc 2 _ rfl)
      have d2 : wr.cell? ⟨b0, o0 + (j + 1) * 4 + 2, none⟩ = some (.int .i64 z2) := (hBr.out.cell (p := ⟨b0, o0 + (j + 1) * 4 + 2, none⟩) hbl).trans (hc2 2 _ rfl)
      have c3 : wr.cell? ⟨b0, o0 + j * 4 + 3, none⟩ = some (.int .i64 y3) := (hBr.out.cell (p := ⟨b0, o0 + j * 4 + 3, none⟩) hbl).trans (hc 3 _ rfl)
      have d3 : wr.cell? ⟨b0, o0 + (j + 1) * 4 + 3, none⟩ = some (.int .i64 z3) := (hBr.out.cell (p := ⟨b0, o0 + (j + 1) * 4 + 3, none⟩) hbl).trans (hc2 3 _ rfl)
      have hm0 : IntKind.i64.wrap ((j : Int) + 1 - 1) = (j : Int) := by rw [IntKind.wrap_i64]; omega
      have hm1 : (j : Int) + 1 - 1 = (j : Int) := by omega
      have htn : ((j : Int) + 1).toNat = j + 1 := by omega
      have hb1 : (0 : Int) ≤ (j : Int) + 1 := by omega
      have hb2 : (j : Int) + 1 < (l.length : Int) := by omega
      have hb3 : (j : Int) < (l.length : Int) := by omega
      have hmj : IntKind.i64.wrap (j : Int) = (j : Int) := by rw [IntKind.wrap_i64]; omega
      have hbl3 : b0 < wr.heap.size := Nat.lt_of_lt_of_le hbl hBr.out.size
      have hw2 : IntKind.i64.wrap ((j : Int) + 1 + 1) = (j : Int) + 1 + 1 := by rw [IntKind.wrap_i64]; omega
      obtain ⟨CC, hCC⟩ : ∃ CC, cmpI y0 z0 = CC := ⟨_, rfl⟩
      have tt := cmpI_ge y0 z0
      rw [hCC] at tt
      have qk1 := zH (fun w => qk.out z0 z1 z2 z3 w)
      have qb1 := zH (fun w => qb.out y0 y1 y2 y3 z0 w)
      rw [hCC] at qb1
      clear hCC hc hc2 hk hk2
      by_cases hlt : y0 < z0
      · rw [decide_eq_true hlt] at tt
        have tt : decide (0 ≤ CC) = false := tt
        have t3 : CC < 0 := by have := of_decide_eq_false tt; omega
        replace hst := hst.out
        rw [show decide (([y0, y1, y2, y3] : List Int).headD 0 < ([z0, z1, z2, z3] : List Int).headD 0) = true from decide_eq_true hlt, Bool.true_and] at hst
        have hst2 := zH (hrest.out.trans hst)
        clear hst hlt
        go_wp2_with fail
        refine wp_region_ext (by kernel_rfl) (by kernel_rfl) ?_
        repeat (go_big_quiet_step (first | (with_reducible exact ext_call (qk1.out _)) | (with_reducible exact ext_call (qb1.out _))))
        refine wpQuiet_nil ?_
        rintro w2 ⟨y, rfl⟩
        have HB2 := zH (hBr.out.trans (y.below.mono hBr.out.size))
        go_wp2_with fail
        go_roundw
        case rel => exact ⟨j + 1, by go_num, by show _ ≤ _; omega, hst2.out, HB2.out⟩
        case measure => simp [intOf]; omega
      · rw [decide_eq_false hlt] at tt
        have tt : decide (0 ≤ CC) = true := tt
        have t3 : 0 ≤ CC := of_decide_eq_true tt
        replace hst := hst.out
        rw [show decide (([y0, y1, y2, y3] : List Int).headD 0 < ([z0, z1, z2, z3] : List Int).headD 0) = false from decide_eq_false hlt, Bool.false_and] at hst
        have hst2 := zH (hrest.out.trans hst)
        clear hst hlt
        go_wp2_with fail
        refine wp_region_ext (by kernel_rfl) (by kernel_rfl) ?_
        repeat (go_big_quiet_step (first | (with_reducible exact ext_call (qk1.out _)) | (with_reducible exact ext_call (qb1.out _))))
        refine wpQuiet_nil ?_
        rintro w2 ⟨y, rfl⟩
        have HB2 := zH (hBr.out.trans (y.below.mono hBr.out.size))
        go_wp2_with fail
        go_ret
        have hR : Res = false := hRes.out.symm.trans hst2.out
        subst hR
        exact ⟨rfl, HB2.out⟩
    · have tn : decide ((j : Int) + 1 < (l.length : Int)) = false := decide_eq_false (by omega)
      have hR : Hid (Res = true) := (show _ = _ from hRes.out.symm.trans (hrest.out.trans (riseHB_end (by omega))))
      clear hrest hjl hRes
      obtain rfl := hR.out
      go_wp2_with fail
      go_ret
      exact ⟨rfl, hBr.out⟩
set_option maxRecDepth 100000 in
theorem openKey_any (y0 y1 y2 y3 y4 y5 : Int) (w : World) : Calls Tryz.prog 134 #[.agg #[.int .i64 y0, .int .i64 y1, .int .i64 y2, .int .i64 y3, .int .i64 y4, .int .i64 y5]] w fun e w' => e = .returned (.int .i64 y0) ∧ Below w.heap.size w w' := by
  go_enter Tryz.func134, Tryz.ntmps134
  go_wp2_with fail
  go_ret
  exact ⟨rfl, below_alloc (Below.refl _ _) (Nat.le_refl _) _⟩
set_option maxRecDepth 100000 in
set_option maxHeartbeats 2000000 in
theorem risingOpen_any (v : Value) (l : List (List Int)) (w : World) (hv : Hid (RecAt w v 6 l)) (hl : l.length ≤ 1000000) :
    Calls Tryz.prog 133 #[v, .func (.func 134) #[] #[], .func (.func 135) #[] #[]] w fun e w' => e = .returned (.bool (riseHB l)) ∧ Below w.heap.size w w' := by
  obtain ⟨A, c, rfl, hi⟩ := hv.out
  have HI := zH hi
  clear hi hv
  have qk := zH (fun x0 x1 x2 x3 x4 x5 w => openKey_any x0 x1 x2 x3 x4 x5 w)
  have qb := zH (fun x0 x1 x2 x3 x4 x5 id w => byOpen_any x0 x1 x2 x3 x4 x5 id w)
  obtain ⟨Res, hRes⟩ : ∃ Res, riseHB l = Res := ⟨_, rfl⟩
  rw [hRes]
  replace hRes := zH hRes
  go_enter Tryz.func133, Tryz.ntmps133
  go_wp2_with fail
  go_loopw [7] (fun s6 wr => ∃ j : Nat, s6 = .int .i64 ((j : Int) + 1) ∧ Hid (j ≤ l.length) ∧ Hid (riseHB l = riseHB (l.drop j)) ∧ Hid (Below w.heap.size w wr)) (fun s6 _ => l.length + 1 - (intOf s6).toNat)
  case atStart => exact ⟨0, rfl, Nat.zero_le _, rfl, Below.refl _ _⟩
  case round =>
    obtain ⟨j, rfl, hjl, hrest, hBr⟩ := hrel
    replace hjl := hjl.out
    by_cases hin : j + 1 < l.length
    · have tn : decide ((j : Int) + 1 < (l.length : Int)) = true := decide_eq_true (by omega)
      have hge : l[j]? = some l[j] := List.getElem?_eq_getElem (by omega)
      have hge2 : l[j + 1]? = some l[j + 1] := List.getElem?_eq_getElem hin
      obtain ⟨hk, b0, o0, hA0, hbl, hc⟩ := HI.out j _ hge
      obtain ⟨hk2, b0', o0', hA0', hbl', hc2⟩ := HI.out (j + 1) _ hge2
      subst hA0
      injection hA0' with hA0'
      injection hA0' with hx1 hx2
      subst hx1 hx2
      have hst := zH (riseHB_step hge hge2)
      clear hge hge2
      generalize l[j] = r at *
      generalize l[j + 1] = r2 at *
      obtain ⟨y0, y1, y2, y3, y4, y5, rfl⟩ : ∃ y0 y1 y2 y3 y4 y5, r = [y0, y1, y2, y3, y4, y5] := by
        match r, hk with
        | [y0, y1, y2, y3, y4, y5], _ => exact ⟨y0, y1, y2, y3, y4, y5, rfl⟩
      obtain ⟨z0, z1, z2, z3, z4, z5, rfl⟩ : ∃ z0 z1 z2 z3 z4 z5, r2 = [z0, z1, z2, z3, z4, z5] := by
        match r2, hk2 with
        | [z0, z1, z2, z3, z4, z5], _ => exact ⟨z0, z1, z2, z3, z4, z5, rfl⟩
      have c0 : wr.cell? ⟨b0, o0 + j * 6, none⟩ = some (.int .i64 y0) := (hBr.out.cell (p := ⟨b0, o0 + j * 6 + 0, none⟩) hbl).trans (hc 0 _ rfl)
      have d0 : wr.cell? ⟨b0, o0 + (j + 1) * 6, none⟩ = some (.int .i64 z0) := (hBr.out.cell (p := ⟨b0, o0 + (j + 1) * 6 + 0, none⟩) hbl).trans (hc2 0 _ rfl)
      have c1 : wr.cell? ⟨b0, o0 + j * 6 + 1, none⟩ = some (.int .i64 y1) := (hBr.out.cell (p := ⟨b0, o0 + j * 6 + 1, none⟩) hbl).trans (hc 1 _ rfl)
      have d1 : wr.cell? ⟨b0, o0 + (j + 1) * 6 + 1, none⟩ = some (.int .i64 z1) := (hBr.out.cell (p := ⟨b0, o0 + (j + 1) * 6 + 1, none⟩) hbl).trans (hc2 1 _ rfl)
      have c2 : wr.cell? ⟨b0, o0 + j * 6 + 2, none⟩ = some (.int .i64 y2) := (hBr.out.cell (p := ⟨b0, o0 + j * 6 + 2, none⟩) hbl).trans (hc 2 _ rfl)
      have d2 : wr.cell? ⟨b0, o0 + (j + 1) * 6 + 2, none⟩ = some (.int .i64 z2) := (hBr.out.cell (p := ⟨b0, o0 + (j + 1) * 6 + 2, none⟩) hbl).trans (hc2 2 _ rfl)
      have c3 : wr.cell? ⟨b0, o0 + j * 6 + 3, none⟩ = some (.int .i64 y3) := (hBr.out.cell (p := ⟨b0, o0 + j * 6 + 3, none⟩) hbl).trans (hc 3 _ rfl)
      have d3 : wr.cell? ⟨b0, o0 + (j + 1) * 6 + 3, none⟩ = some (.int .i64 z3) := (hBr.out.cell (p := ⟨b0, o0 + (j + 1) * 6 + 3, none⟩) hbl).trans (hc2 3 _ rfl)
      have c4 : wr.cell? ⟨b0, o0 + j * 6 + 4, none⟩ = some (.int .i64 y4) := (hBr.out.cell (p := ⟨b0, o0 + j * 6 + 4, none⟩) hbl).trans (hc 4 _ rfl)
      have d4 : wr.cell? ⟨b0, o0 + (j + 1) * 6 + 4, none⟩ = some (.int .i64 z4) := (hBr.out.cell (p := ⟨b0, o0 + (j + 1) * 6 + 4, none⟩) hbl).trans (hc2 4 _ rfl)
      have c5 : wr.cell? ⟨b0, o0 + j * 6 + 5, none⟩ = some (.int .i64 y5) := (hBr.out.cell (p := ⟨b0, o0 + j * 6 + 5, none⟩) hbl).trans (hc 5 _ rfl)
      have d5 : wr.cell? ⟨b0, o0 + (j + 1) * 6 + 5, none⟩ = some (.int .i64 z5) := (hBr.out.cell (p := ⟨b0, o0 + (j + 1) * 6 + 5, none⟩) hbl).trans (hc2 5 _ rfl)
      have hm0 : IntKind.i64.wrap ((j : Int) + 1 - 1) = (j : Int) := by rw [IntKind.wrap_i64]; omega
      have hm1 : (j : Int) + 1 - 1 = (j : Int) := by omega
      have htn : ((j : Int) + 1).toNat = j + 1 := by omega
      have hb1 : (0 : Int) ≤ (j : Int) + 1 := by omega
      have hb2 : (j : Int) + 1 < (l.length : Int) := by omega
      have hb3 : (j : Int) < (l.length : Int) := by omega
      have hmj : IntKind.i64.wrap (j : Int) = (j : Int) := by rw [IntKind.wrap_i64]; omega
      have hbl3 : b0 < wr.heap.size := Nat.lt_of_lt_of_le hbl hBr.out.size
      have hw2 : IntKind.i64.wrap ((j : Int) + 1 + 1) = (j : Int) + 1 + 1 := by rw [IntKind.wrap_i64]; omega
      obtain ⟨CC, hCC⟩ : ∃ CC, cmpI y0 z0 = CC := ⟨_, rfl⟩
      have tt := cmpI_ge y0 z0
      rw [hCC] at tt
      have qk1 := zH (fun w => qk.out z0 z1 z2 z3 z4 z5 w)
      have qb1 := zH (fun w => qb.out y0 y1 y2 y3 y4 y5 z0 w)
      rw [hCC] at qb1
      clear hCC hc hc2 hk hk2
      by_cases hlt : y0 < z0
      · rw [decide_eq_true hlt] at tt
        have tt : decide (0 ≤ CC) = false := tt
        have t3 : CC < 0 := by have := of_decide_eq_false tt; omega
        replace hst := hst.out
        rw [show decide (([y0, y1, y2, y3, y4, y5] : List Int).headD 0 < ([z0, z1, z2, z3, z4, z5] : List Int).headD 0) = true from decide_eq_true hlt, Bool.true_and] at hst
        have hst2 := zH (hrest.out.trans hst)
        clear hst hlt
        go_wp2_with fail
        refine wp_region_ext (by kernel_rfl) (by kernel_rfl) ?_
        repeat (go_big_quiet_step (first | (with_reducible exact ext_call (qk1.out _)) | (with_reducible exact ext_call (qb1.out _))))
        refine wpQuiet_nil ?_
        rintro w2 ⟨y, rfl⟩
        have HB2 := zH (hBr.out.trans (y.below.mono hBr.out.size))
        go_wp2_with fail
        go_roundw
        case rel => exact ⟨j + 1, by go_num, by show _ ≤ _; omega, hst2.out, HB2.out⟩
        case measure => simp [intOf]; omega
      · rw [decide_eq_false hlt] at tt
        have tt : decide (0 ≤ CC) = true := tt
        have t3 : 0 ≤ CC := of_decide_eq_true tt
        replace hst := hst.out
        rw [show decide (([y0, y1, y2, y3, y4, y5] : List Int).headD 0 < ([z0, z1, z2, z3, z4, z5] : List Int).headD 0) = false from decide_eq_false hlt, Bool.false_and] at hst
        have hst2 := zH (hrest.out.trans hst)
        clear hst hlt
        go_wp2_with fail
        refine wp_region_ext (by kernel_rfl) (by kernel_rfl) ?_
        repeat (go_big_quiet_step (first | (with_reducible exact ext_call (qk1.out _)) | (with_reducible exact ext_call (qb1.out _))))
        refine wpQuiet_nil ?_
        rintro w2 ⟨y, rfl⟩
        have HB2 := zH (hBr.out.trans (y.below.mono hBr.out.size))
        go_wp2_with fail
        go_ret
        have hR : Res = false := hRes.out.symm.trans hst2.out
        subst hR
        exact ⟨rfl, HB2.out⟩
    · have tn : decide ((j : Int) + 1 < (l.length : Int)) = false := decide_eq_false (by omega)
      have hR : Hid (Res = true) := (show _ = _ from hRes.out.symm.trans (hrest.out.trans (riseHB_end (by omega))))
      clear hrest hjl hRes
      obtain rfl := hR.out
      go_wp2_with fail
      go_ret
      exact ⟨rfl, hBr.out⟩
set_option maxRecDepth 100000 in
theorem rateKey_any (y0 y1 : Int) (w : World) : Calls Tryz.prog 137 #[.agg #[.int .i64 y0, .int .i64 y1]] w fun e w' => e = .returned (.int .i64 y0) ∧ Below w.heap.size w w' := by
  go_enter Tryz.func137, Tryz.ntmps137
  go_wp2_with fail
  go_ret
  exact ⟨rfl, below_alloc (Below.refl _ _) (Nat.le_refl _) _⟩
set_option maxRecDepth 100000 in
set_option maxHeartbeats 2000000 in
theorem risingRate_any (v : Value) (l : List (List Int)) (w : World) (hv : Hid (RecAt w v 2 l)) (hl : l.length ≤ 1000000) :
    Calls Tryz.prog 136 #[v, .func (.func 137) #[] #[], .func (.func 138) #[] #[]] w fun e w' => e = .returned (.bool (riseHB l)) ∧ Below w.heap.size w w' := by
  obtain ⟨A, c, rfl, hi⟩ := hv.out
  have HI := zH hi
  clear hi hv
  have qk := zH (fun x0 x1 w => rateKey_any x0 x1 w)
  have qb := zH (fun x0 x1 id w => byRate_any x0 x1 id w)
  obtain ⟨Res, hRes⟩ : ∃ Res, riseHB l = Res := ⟨_, rfl⟩
  rw [hRes]
  replace hRes := zH hRes
  go_enter Tryz.func136, Tryz.ntmps136
  go_wp2_with fail
  go_loopw [7] (fun s6 wr => ∃ j : Nat, s6 = .int .i64 ((j : Int) + 1) ∧ Hid (j ≤ l.length) ∧ Hid (riseHB l = riseHB (l.drop j)) ∧ Hid (Below w.heap.size w wr)) (fun s6 _ => l.length + 1 - (intOf s6).toNat)
  case atStart => exact ⟨0, rfl, Nat.zero_le _, rfl, Below.refl _ _⟩
  case round =>
    obtain ⟨j, rfl, hjl, hrest, hBr⟩ := hrel
    replace hjl := hjl.out
    by_cases hin : j + 1 < l.length
    · have tn : decide ((j : Int) + 1 < (l.length : Int)) = true := decide_eq_true (by omega)
      have hge : l[j]? = some l[j] := List.getElem?_eq_getElem (by omega)
      have hge2 : l[j + 1]? = some l[j + 1] := List.getElem?_eq_getElem hin
      obtain ⟨hk, b0, o0, hA0, hbl, hc⟩ := HI.out j _ hge
      obtain ⟨hk2, b0', o0', hA0', hbl', hc2⟩ := HI.out (j + 1) _ hge2
      subst hA0
      injection hA0' with hA0'
      injection hA0' with hx1 hx2
      subst hx1 hx2
      have hst := zH (riseHB_step hge hge2)
      clear hge hge2
      generalize l[j] = r at *
      generalize l[j + 1] = r2 at *
      obtain ⟨y0, y1, rfl⟩ : ∃ y0 y1, r = [y0, y1] := by
        match r, hk with
        | [y0, y1], _ => exact ⟨y0, y1, rfl⟩
      obtain ⟨z0, z1, rfl⟩ : ∃ z0 z1, r2 = [z0, z1] := by
        match r2, hk2 with
        | [z0, z1], _ => exact ⟨z0, z1, rfl⟩
      have c0 : wr.cell? ⟨b0, o0 + j * 2, none⟩ = some (.int .i64 y0) := (hBr.out.cell (p := ⟨b0, o0 + j * 2 + 0, none⟩) hbl).trans (hc 0 _ rfl)
      have d0 : wr.cell? ⟨b0, o0 + (j + 1) * 2, none⟩ = some (.int .i64 z0) := (hBr.out.cell (p := ⟨b0, o0 + (j + 1) * 2 + 0, none⟩) hbl).trans (hc2 0 _ rfl)
      have c1 : wr.cell? ⟨b0, o0 + j * 2 + 1, none⟩ = some (.int .i64 y1) := (hBr.out.cell (p := ⟨b0, o0 + j * 2 + 1, none⟩) hbl).trans (hc 1 _ rfl)
      have d1 : wr.cell? ⟨b0, o0 + (j + 1) * 2 + 1, none⟩ = some (.int .i64 z1) := (hBr.out.cell (p := ⟨b0, o0 + (j + 1) * 2 + 1, none⟩) hbl).trans (hc2 1 _ rfl)
      have hm0 : IntKind.i64.wrap ((j : Int) + 1 - 1) = (j : Int) := by rw [IntKind.wrap_i64]; omega
      have hm1 : (j : Int) + 1 - 1 = (j : Int) := by omega
      have htn : ((j : Int) + 1).toNat = j + 1 := by omega
      have hb1 : (0 : Int) ≤ (j : Int) + 1 := by omega
      have hb2 : (j : Int) + 1 < (l.length : Int) := by omega
      have hb3 : (j : Int) < (l.length : Int) := by omega
      have hmj : IntKind.i64.wrap (j : Int) = (j : Int) := by rw [IntKind.wrap_i64]; omega
      have hbl3 : b0 < wr.heap.size := Nat.lt_of_lt_of_le hbl hBr.out.size
      have hw2 : IntKind.i64.wrap ((j : Int) + 1 + 1) = (j : Int) + 1 + 1 := by rw [IntKind.wrap_i64]; omega
      obtain ⟨CC, hCC⟩ : ∃ CC, cmpI y0 z0 = CC := ⟨_, rfl⟩
      have tt := cmpI_ge y0 z0
      rw [hCC] at tt
      have qk1 := zH (fun w => qk.out z0 z1 w)
      have qb1 := zH (fun w => qb.out y0 y1 z0 w)
      rw [hCC] at qb1
      clear hCC hc hc2 hk hk2
      by_cases hlt : y0 < z0
      · rw [decide_eq_true hlt] at tt
        have tt : decide (0 ≤ CC) = false := tt
        have t3 : CC < 0 := by have := of_decide_eq_false tt; omega
        replace hst := hst.out
        rw [show decide (([y0, y1] : List Int).headD 0 < ([z0, z1] : List Int).headD 0) = true from decide_eq_true hlt, Bool.true_and] at hst
        have hst2 := zH (hrest.out.trans hst)
        clear hst hlt
        go_wp2_with fail
        refine wp_region_ext (by kernel_rfl) (by kernel_rfl) ?_
        repeat (go_big_quiet_step (first | (with_reducible exact ext_call (qk1.out _)) | (with_reducible exact ext_call (qb1.out _))))
        refine wpQuiet_nil ?_
        rintro w2 ⟨y, rfl⟩
        have HB2 := zH (hBr.out.trans (y.below.mono hBr.out.size))
        go_wp2_with fail
        go_roundw
        case rel => exact ⟨j + 1, by go_num, by show _ ≤ _; omega, hst2.out, HB2.out⟩
        case measure => simp [intOf]; omega
      · rw [decide_eq_false hlt] at tt
        have tt : decide (0 ≤ CC) = true := tt
        have t3 : 0 ≤ CC := of_decide_eq_true tt
        replace hst := hst.out
        rw [show decide (([y0, y1] : List Int).headD 0 < ([z0, z1] : List Int).headD 0) = false from decide_eq_false hlt, Bool.false_and] at hst
        have hst2 := zH (hrest.out.trans hst)
        clear hst hlt
        go_wp2_with fail
        refine wp_region_ext (by kernel_rfl) (by kernel_rfl) ?_
        repeat (go_big_quiet_step (first | (with_reducible exact ext_call (qk1.out _)) | (with_reducible exact ext_call (qb1.out _))))
        refine wpQuiet_nil ?_
        rintro w2 ⟨y, rfl⟩
        have HB2 := zH (hBr.out.trans (y.below.mono hBr.out.size))
        go_wp2_with fail
        go_ret
        have hR : Res = false := hRes.out.symm.trans hst2.out
        subst hR
        exact ⟨rfl, HB2.out⟩
    · have tn : decide ((j : Int) + 1 < (l.length : Int)) = false := decide_eq_false (by omega)
      have hR : Hid (Res = true) := (show _ = _ from hRes.out.symm.trans (hrest.out.trans (riseHB_end (by omega))))
      clear hrest hjl hRes
      obtain rfl := hR.out
      go_wp2_with fail
      go_ret
      exact ⟨rfl, hBr.out⟩
set_option maxRecDepth 100000 in
set_option maxHeartbeats 2000000 in
theorem risingStake_any (v : Value) (l : List (List Int)) (w : World) (hv : Hid (RecAt w v 3 l)) (hl : l.length ≤ 1000000) :
    Calls Tryz.prog 139 #[v, .func (.func 140) #[] #[], .func (.func 141) #[] #[]] w fun e w' => e = .returned (.bool (riseSB l)) ∧ Below w.heap.size w w' := by
  obtain ⟨A, c, rfl, hi⟩ := hv.out
  have HI := zH hi
  clear hi hv
  have qk := zH (fun x0 x1 x2 w => stakeKey_any x0 x1 x2 w)
  have qb := zH (fun x0 x1 x2 kx ky w => byStake_any x0 x1 x2 kx ky w)
  obtain ⟨Res, hRes⟩ : ∃ Res, riseSB l = Res := ⟨_, rfl⟩
  rw [hRes]
  replace hRes := zH hRes
  go_enter Tryz.func139, Tryz.ntmps139
  go_wp2_with fail
  go_loopw [7] (fun s6 wr => ∃ j : Nat, s6 = .int .i64 ((j : Int) + 1) ∧ Hid (j ≤ l.length) ∧ Hid (riseSB l = riseSB (l.drop j)) ∧ Hid (Below w.heap.size w wr)) (fun s6 _ => l.length + 1 - (intOf s6).toNat)
  case atStart => exact ⟨0, rfl, Nat.zero_le _, rfl, Below.refl _ _⟩
  case round =>
    obtain ⟨j, rfl, hjl, hrest, hBr⟩ := hrel
    replace hjl := hjl.out
    by_cases hin : j + 1 < l.length
    · have tn : decide ((j : Int) + 1 < (l.length : Int)) = true := decide_eq_true (by omega)
      have hge : l[j]? = some l[j] := List.getElem?_eq_getElem (by omega)
      have hge2 : l[j + 1]? = some l[j + 1] := List.getElem?_eq_getElem hin
      obtain ⟨hk, b0, o0, hA0, hbl, hc⟩ := HI.out j _ hge
      obtain ⟨hk2, b0', o0', hA0', hbl', hc2⟩ := HI.out (j + 1) _ hge2
      subst hA0
      injection hA0' with hA0'
      injection hA0' with hx1 hx2
      subst hx1 hx2
      have hst := zH (riseSB_step hge hge2)
      clear hge hge2
      generalize l[j] = r at *
      generalize l[j + 1] = r2 at *
      obtain ⟨y0, y1, y2, rfl⟩ : ∃ y0 y1 y2, r = [y0, y1, y2] := by
        match r, hk with
        | [y0, y1, y2], _ => exact ⟨y0, y1, y2, rfl⟩
      obtain ⟨z0, z1, z2, rfl⟩ : ∃ z0 z1 z2, r2 = [z0, z1, z2] := by
        match r2, hk2 with
        | [z0, z1, z2], _ => exact ⟨z0, z1, z2, rfl⟩
      have c0 : wr.cell? ⟨b0, o0 + j * 3, none⟩ = some (.int .i64 y0) := (hBr.out.cell (p := ⟨b0, o0 + j * 3 + 0, none⟩) hbl).trans (hc 0 _ rfl)
      have d0 : wr.cell? ⟨b0, o0 + (j + 1) * 3, none⟩ = some (.int .i64 z0) := (hBr.out.cell (p := ⟨b0, o0 + (j + 1) * 3 + 0, none⟩) hbl).trans (hc2 0 _ rfl)
      have c1 : wr.cell? ⟨b0, o0 + j * 3 + 1, none⟩ = some (.int .i64 y1) := (hBr.out.cell (p := ⟨b0, o0 + j * 3 + 1, none⟩) hbl).trans (hc 1 _ rfl)
      have d1 : wr.cell? ⟨b0, o0 + (j + 1) * 3 + 1, none⟩ = some (.int .i64 z1) := (hBr.out.cell (p := ⟨b0, o0 + (j + 1) * 3 + 1, none⟩) hbl).trans (hc2 1 _ rfl)
      have c2 : wr.cell? ⟨b0, o0 + j * 3 + 2, none⟩ = some (.int .i64 y2) := (hBr.out.cell (p := ⟨b0, o0 + j * 3 + 2, none⟩) hbl).trans (hc 2 _ rfl)
      have d2 : wr.cell? ⟨b0, o0 + (j + 1) * 3 + 2, none⟩ = some (.int .i64 z2) := (hBr.out.cell (p := ⟨b0, o0 + (j + 1) * 3 + 2, none⟩) hbl).trans (hc2 2 _ rfl)
      have hm0 : IntKind.i64.wrap ((j : Int) + 1 - 1) = (j : Int) := by rw [IntKind.wrap_i64]; omega
      have hm1 : (j : Int) + 1 - 1 = (j : Int) := by omega
      have htn : ((j : Int) + 1).toNat = j + 1 := by omega
      have hb1 : (0 : Int) ≤ (j : Int) + 1 := by omega
      have hb2 : (j : Int) + 1 < (l.length : Int) := by omega
      have hb3 : (j : Int) < (l.length : Int) := by omega
      have hmj : IntKind.i64.wrap (j : Int) = (j : Int) := by rw [IntKind.wrap_i64]; omega
      have hbl3 : b0 < wr.heap.size := Nat.lt_of_lt_of_le hbl hBr.out.size
      have hw2 : IntKind.i64.wrap ((j : Int) + 1 + 1) = (j : Int) + 1 + 1 := by rw [IntKind.wrap_i64]; omega
      obtain ⟨CC, hCC⟩ : ∃ CC, orI (cmpI y0 z0) (cmpI y1 z1) = CC := ⟨_, rfl⟩
      have tt := orI_ge y0 y1 z0 z1
      rw [hCC] at tt
      have qk1 := zH (fun w => qk.out z0 z1 z2 w)
      have qb1 := zH (fun w => qb.out y0 y1 y2 z0 z1 w)
      rw [hCC] at qb1
      clear hCC hc hc2 hk hk2
      by_cases hlt : y0 < z0 ∨ y0 = z0 ∧ y1 < z1
      · rw [decide_eq_true hlt] at tt
        have tt : decide (0 ≤ CC) = false := tt
        have t3 : CC < 0 := by have := of_decide_eq_false tt; omega
        replace hst := hst.out
        rw [show decide (stLt' ([y0, y1, y2] : List Int) [z0, z1, z2]) = true from decide_eq_true hlt, Bool.true_and] at hst
        have hst2 := zH (hrest.out.trans hst)
        clear hst hlt
        go_wp2_with fail
        refine wp_region_ext (by kernel_rfl) (by kernel_rfl) ?_
        repeat (go_big_quiet_step (first | (with_reducible exact ext_call (qk1.out _)) | (with_reducible exact ext_call (qb1.out _))))
        refine wpQuiet_nil ?_
        rintro w2 ⟨y, rfl⟩
        have HB2 := zH (hBr.out.trans (y.below.mono hBr.out.size))
        go_wp2_with fail
        go_roundw
        case rel => exact ⟨j + 1, by go_num, by show _ ≤ _; omega, hst2.out, HB2.out⟩
        case measure => simp [intOf]; omega
      · rw [decide_eq_false hlt] at tt
        have tt : decide (0 ≤ CC) = true := tt
        have t3 : 0 ≤ CC := of_decide_eq_true tt
        replace hst := hst.out
        rw [show decide (stLt' ([y0, y1, y2] : List Int) [z0, z1, z2]) = false from decide_eq_false hlt, Bool.false_and] at hst
        have hst2 := zH (hrest.out.trans hst)
        clear hst hlt
        go_wp2_with fail
        refine wp_region_ext (by kernel_rfl) (by kernel_rfl) ?_
        repeat (go_big_quiet_step (first | (with_reducible exact ext_call (qk1.out _)) | (with_reducible exact ext_call (qb1.out _))))
        refine wpQuiet_nil ?_
        rintro w2 ⟨y, rfl⟩
        have HB2 := zH (hBr.out.trans (y.below.mono hBr.out.size))
        go_wp2_with fail
        go_ret
        have hR : Res = false := hRes.out.symm.trans hst2.out
        subst hR
        exact ⟨rfl, HB2.out⟩
    · have tn : decide ((j : Int) + 1 < (l.length : Int)) = false := decide_eq_false (by omega)
      have hR : Hid (Res = true) := (show _ = _ from hRes.out.symm.trans (hrest.out.trans (riseSB_end (by omega))))
      clear hrest hjl hRes
      obtain rfl := hR.out
      go_wp2_with fail
      go_ret
      exact ⟨rfl, hBr.out⟩
end Go.Proofs.YtjcdpmianmgiaaaGreatDoor
namespace Go.Proofs.YtjcdpmianmgiaaaGreatDoor
open Go Go.RowKit Go.Shelf
set_option linter.unusedVariables false
set_option linter.unusedSimpArgs false
def rowV (r : List Int) : Value := .agg (r.map (Value.int .i64)).toArray
def PredOn (g : Nat) (lb : Array Value) (l : List (List Int)) (p : List Int → Bool) (w : World) : Prop :=
  ∀ (W : World) (r : List Int), r ∈ l → Below w.heap.size w W → Calls Tryz.prog g (#[rowV r] ++ lb) W fun e w' => e = .returned (.bool (p r)) ∧ Below W.heap.size W w'
set_option maxRecDepth 100000 in
set_option maxHeartbeats 2000000 in
theorem IndexHolder_any (g : Nat) (lb : Array Value) (eg : ∀ args w, (callFunc g args).run Tryz.prog w = .ok (.enter g args) w) (v : Value) (l : List (List Int)) (p : List Int → Bool) (w : World) (hv : Hid (RecAt w v 4 l)) (hl : l.length ≤ 1000000) (hp : Hid (PredOn g lb l p w)) :
    Calls Tryz.prog 144 #[v, .func (.func g) #[] lb] w fun e w' => ∃ i : Int, e = .returned (.int .i64 i) ∧ decide (0 ≤ i) = l.any p ∧ Below w.heap.size w w' := by
  obtain ⟨A, c, rfl, hi⟩ := hv.out
  have HI := zH hi
  clear hi hv
  obtain ⟨Res, hRes⟩ : ∃ Res, l.any p = Res := ⟨_, rfl⟩
  rw [hRes]
  replace hRes := zH hRes
  go_enter Tryz.func144, Tryz.ntmps144
  go_wp2_with fail
  go_loopw [5, 8] (fun _ s8 wr => ∃ j : Nat, s8 = .int .i64 (j : Int) ∧ Hid (j ≤ l.length) ∧ Hid (l.any p = (l.drop j).any p) ∧ Hid (Below w.heap.size w wr)) (fun _ s8 _ => l.length - (intOf s8).toNat)
  case atStart => exact ⟨0, rfl, Nat.zero_le _, rfl, Below.refl _ _⟩
  case round =>
    obtain ⟨j, rfl, hjl, hrest, hBr⟩ := hrel
    replace hjl := hjl.out
    by_cases hin : j < l.length
    · have tn : decide ((j : Int) < (l.length : Int)) = true := decide_eq_true (by omega)
      have hge : l[j]? = some l[j] := List.getElem?_eq_getElem hin
      obtain ⟨hk, b0, o0, hA0, hbl, hc⟩ := HI.out j _ hge
      subst hA0
      have hst : Hid ((l.drop j).any p = (p l[j] || (l.drop (j + 1)).any p)) := (show _ = _ from by rw [List.drop_eq_getElem_cons hin, List.any_cons])
      have hcall := hp.out wr l[j] (List.getElem_mem hin) hBr.out
      clear hge
      generalize l[j] = r at *
      obtain ⟨y0, y1, y2, y3, rfl⟩ : ∃ y0 y1 y2 y3, r = [y0, y1, y2, y3] := by
        match r, hk with
        | [y0, y1, y2, y3], _ => exact ⟨y0, y1, y2, y3, rfl⟩
      obtain ⟨c0, c1, c2, c3⟩ := zR4 hBr.out hbl hc
      have hcall : Calls Tryz.prog g (#[.agg #[.int .i64 y0, .int .i64 y1, .int .i64 y2, .int .i64 y3]] ++ lb) wr _ := hcall
      have hcall2 := zH hcall
      obtain ⟨F, hF⟩ : ∃ F, p [y0, y1, y2, y3] = F := ⟨_, rfl⟩
      rw [hF] at hcall2 hst
      clear hc hk hcall hF
      cases F with
      | true =>
        go_wp2_with (go_at_fn g; refine hcall2.out.mono ?_; rintro e w2 ⟨rfl, hb2⟩)
        go_ret
        have hR : Res = true := hRes.out.symm.trans (hrest.out.trans hst.out)
        subst hR
        exact ⟨_, rfl, by simp, hBr.out.trans (hb2.mono hBr.out.size)⟩
      | false =>
        have hst2 := zH (hrest.out.trans hst.out)
        go_wp2_with (go_at_fn g; refine hcall2.out.mono ?_; rintro e w2 ⟨rfl, hb2⟩)
        have HB2 := zB hBr hb2
        clear hb2
        go_roundw
        case rel => exact ⟨j + 1, by go_num, by show _ ≤ _; omega, hst2.out, HB2.out⟩
        case measure => simp [intOf]; omega
    · have tn : decide ((j : Int) < (l.length : Int)) = false := decide_eq_false (by omega)
      have hR : Res = false := hRes.out.symm.trans (hrest.out.trans (by rw [List.drop_eq_nil_of_le (by omega)]; rfl))
      subst hR
      clear hrest hjl hRes
      go_wp2_with fail
      go_ret
      exact ⟨_, rfl, rfl, hBr.out⟩
set_option maxRecDepth 100000 in
theorem ContainsHolder_any (g : Nat) (lb : Array Value) (eg : ∀ args w, (callFunc g args).run Tryz.prog w = .ok (.enter g args) w) (v : Value) (l : List (List Int)) (p : List Int → Bool) (w : World) (hv : Hid (RecAt w v 4 l)) (hl : l.length ≤ 1000000) (hp : Hid (PredOn g lb l p w)) :
    Calls Tryz.prog 83 #[v, .func (.func g) #[] lb] w fun e w' => e = .returned (.bool (l.any p)) ∧ Below w.heap.size w w' := by
  have q := zH (IndexHolder_any g lb eg v l p w hv hl hp)
  obtain ⟨A, c, rfl, hi⟩ := hv.out
  clear hv hp hi
  go_enter Tryz.func83, Tryz.ntmps83
  go_wp2_with fail
  with_reducible refine q.out.mono ?_
  rintro e w2 ⟨i, rfl, hi', hb⟩
  have hi := zH hi'
  clear hi'
  go_wp2_with fail
  go_ret
  refine ⟨?_, hb⟩
  show Ending.returned (.bool (decide (0 ≤ i))) = _
  rw [hi.out]
set_option maxRecDepth 100000 in
set_option maxHeartbeats 2000000 in
theorem IndexOpen_any (g : Nat) (lb : Array Value) (eg : ∀ args w, (callFunc g args).run Tryz.prog w = .ok (.enter g args) w) (v : Value) (l : List (List Int)) (p : List Int → Bool) (w : World) (hv : Hid (RecAt w v 6 l)) (hl : l.length ≤ 1000000) (hp : Hid (PredOn g lb l p w)) :
    Calls Tryz.prog 147 #[v, .func (.func g) #[] lb] w fun e w' => ∃ i : Int, e = .returned (.int .i64 i) ∧ decide (0 ≤ i) = l.any p ∧ Below w.heap.size w w' := by
  obtain ⟨A, c, rfl, hi⟩ := hv.out
  have HI := zH hi
  clear hi hv
  obtain ⟨Res, hRes⟩ : ∃ Res, l.any p = Res := ⟨_, rfl⟩
  rw [hRes]
  replace hRes := zH hRes
  go_enter Tryz.func147, Tryz.ntmps147
  go_wp2_with fail
  go_loopw [5, 8] (fun _ s8 wr => ∃ j : Nat, s8 = .int .i64 (j : Int) ∧ Hid (j ≤ l.length) ∧ Hid (l.any p = (l.drop j).any p) ∧ Hid (Below w.heap.size w wr)) (fun _ s8 _ => l.length - (intOf s8).toNat)
  case atStart => exact ⟨0, rfl, Nat.zero_le _, rfl, Below.refl _ _⟩
  case round =>
    obtain ⟨j, rfl, hjl, hrest, hBr⟩ := hrel
    replace hjl := hjl.out
    by_cases hin : j < l.length
    · have tn : decide ((j : Int) < (l.length : Int)) = true := decide_eq_true (by omega)
      have hge : l[j]? = some l[j] := List.getElem?_eq_getElem hin
      obtain ⟨hk, b0, o0, hA0, hbl, hc⟩ := HI.out j _ hge
      subst hA0
      have hst : Hid ((l.drop j).any p = (p l[j] || (l.drop (j + 1)).any p)) := (show _ = _ from by rw [List.drop_eq_getElem_cons hin, List.any_cons])
      have hcall := hp.out wr l[j] (List.getElem_mem hin) hBr.out
      clear hge
      generalize l[j] = r at *
      obtain ⟨y0, y1, y2, y3, y4, y5, rfl⟩ : ∃ y0 y1 y2 y3 y4 y5, r = [y0, y1, y2, y3, y4, y5] := by
        match r, hk with
        | [y0, y1, y2, y3, y4, y5], _ => exact ⟨y0, y1, y2, y3, y4, y5, rfl⟩
      obtain ⟨c0, c1, c2, c3, c4, c5⟩ := zR6 hBr.out hbl hc
      have hcall : Calls Tryz.prog g (#[.agg #[.int .i64 y0, .int .i64 y1, .int .i64 y2, .int .i64 y3, .int .i64 y4, .int .i64 y5]] ++ lb) wr _ := hcall
      have hcall2 := zH hcall
      obtain ⟨F, hF⟩ : ∃ F, p [y0, y1, y2, y3, y4, y5] = F := ⟨_, rfl⟩
      rw [hF] at hcall2 hst
      clear hc hk hcall hF
      cases F with
      | true =>
        go_wp2_with (go_at_fn g; refine hcall2.out.mono ?_; rintro e w2 ⟨rfl, hb2⟩)
        go_ret
        have hR : Res = true := hRes.out.symm.trans (hrest.out.trans hst.out)
        subst hR
        exact ⟨_, rfl, by simp, hBr.out.trans (hb2.mono hBr.out.size)⟩
      | false =>
        have hst2 := zH (hrest.out.trans hst.out)
        go_wp2_with (go_at_fn g; refine hcall2.out.mono ?_; rintro e w2 ⟨rfl, hb2⟩)
        have HB2 := zB hBr hb2
        clear hb2
        go_roundw
        case rel => exact ⟨j + 1, by go_num, by show _ ≤ _; omega, hst2.out, HB2.out⟩
        case measure => simp [intOf]; omega
    · have tn : decide ((j : Int) < (l.length : Int)) = false := decide_eq_false (by omega)
      have hR : Res = false := hRes.out.symm.trans (hrest.out.trans (by rw [List.drop_eq_nil_of_le (by omega)]; rfl))
      subst hR
      clear hrest hjl hRes
      go_wp2_with fail
      go_ret
      exact ⟨_, rfl, rfl, hBr.out⟩
set_option maxRecDepth 100000 in
theorem ContainsOpen_any (g : Nat) (lb : Array Value) (eg : ∀ args w, (callFunc g args).run Tryz.prog w = .ok (.enter g args) w) (v : Value) (l : List (List Int)) (p : List Int → Bool) (w : World) (hv : Hid (RecAt w v 6 l)) (hl : l.length ≤ 1000000) (hp : Hid (PredOn g lb l p w)) :
    Calls Tryz.prog 86 #[v, .func (.func g) #[] lb] w fun e w' => e = .returned (.bool (l.any p)) ∧ Below w.heap.size w w' := by
  have q := zH (IndexOpen_any g lb eg v l p w hv hl hp)
  obtain ⟨A, c, rfl, hi⟩ := hv.out
  clear hv hp hi
  go_enter Tryz.func86, Tryz.ntmps86
  go_wp2_with fail
  with_reducible refine q.out.mono ?_
  rintro e w2 ⟨i, rfl, hi', hb⟩
  have hi := zH hi'
  clear hi'
  go_wp2_with fail
  go_ret
  refine ⟨?_, hb⟩
  show Ending.returned (.bool (decide (0 ≤ i))) = _
  rw [hi.out]
set_option maxRecDepth 100000 in
set_option maxHeartbeats 2000000 in
theorem IndexRate_any (g : Nat) (lb : Array Value) (eg : ∀ args w, (callFunc g args).run Tryz.prog w = .ok (.enter g args) w) (v : Value) (l : List (List Int)) (p : List Int → Bool) (w : World) (hv : Hid (RecAt w v 2 l)) (hl : l.length ≤ 1000000) (hp : Hid (PredOn g lb l p w)) :
    Calls Tryz.prog 145 #[v, .func (.func g) #[] lb] w fun e w' => ∃ i : Int, e = .returned (.int .i64 i) ∧ decide (0 ≤ i) = l.any p ∧ Below w.heap.size w w' := by
  obtain ⟨A, c, rfl, hi⟩ := hv.out
  have HI := zH hi
  clear hi hv
  obtain ⟨Res, hRes⟩ : ∃ Res, l.any p = Res := ⟨_, rfl⟩
  rw [hRes]
  replace hRes := zH hRes
  go_enter Tryz.func145, Tryz.ntmps145
  go_wp2_with fail
  go_loopw [5, 8] (fun _ s8 wr => ∃ j : Nat, s8 = .int .i64 (j : Int) ∧ Hid (j ≤ l.length) ∧ Hid (l.any p = (l.drop j).any p) ∧ Hid (Below w.heap.size w wr)) (fun _ s8 _ => l.length - (intOf s8).toNat)
  case atStart => exact ⟨0, rfl, Nat.zero_le _, rfl, Below.refl _ _⟩
  case round =>
    obtain ⟨j, rfl, hjl, hrest, hBr⟩ := hrel
    replace hjl := hjl.out
    by_cases hin : j < l.length
    · have tn : decide ((j : Int) < (l.length : Int)) = true := decide_eq_true (by omega)
      have hge : l[j]? = some l[j] := List.getElem?_eq_getElem hin
      obtain ⟨hk, b0, o0, hA0, hbl, hc⟩ := HI.out j _ hge
      subst hA0
      have hst : Hid ((l.drop j).any p = (p l[j] || (l.drop (j + 1)).any p)) := (show _ = _ from by rw [List.drop_eq_getElem_cons hin, List.any_cons])
      have hcall := hp.out wr l[j] (List.getElem_mem hin) hBr.out
      clear hge
      generalize l[j] = r at *
      obtain ⟨y0, y1, rfl⟩ : ∃ y0 y1, r = [y0, y1] := by
        match r, hk with
        | [y0, y1], _ => exact ⟨y0, y1, rfl⟩
      obtain ⟨c0, c1⟩ := zR2 hBr.out hbl hc
      have hcall : Calls Tryz.prog g (#[.agg #[.int .i64 y0, .int .i64 y1]] ++ lb) wr _ := hcall
      have hcall2 := zH hcall
      obtain ⟨F, hF⟩ : ∃ F, p [y0, y1] = F := ⟨_, rfl⟩
      rw [hF] at hcall2 hst
      clear hc hk hcall hF
      cases F with
      | true =>
        go_wp2_with (go_at_fn g; refine hcall2.out.mono ?_; rintro e w2 ⟨rfl, hb2⟩)
        go_ret
        have hR : Res = true := hRes.out.symm.trans (hrest.out.trans hst.out)
        subst hR
        exact ⟨_, rfl, by simp, hBr.out.trans (hb2.mono hBr.out.size)⟩
      | false =>
        have hst2 := zH (hrest.out.trans hst.out)
        go_wp2_with (go_at_fn g; refine hcall2.out.mono ?_; rintro e w2 ⟨rfl, hb2⟩)
        have HB2 := zB hBr hb2
        clear hb2
        go_roundw
        case rel => exact ⟨j + 1, by go_num, by show _ ≤ _; omega, hst2.out, HB2.out⟩
        case measure => simp [intOf]; omega
    · have tn : decide ((j : Int) < (l.length : Int)) = false := decide_eq_false (by omega)
      have hR : Res = false := hRes.out.symm.trans (hrest.out.trans (by rw [List.drop_eq_nil_of_le (by omega)]; rfl))
      subst hR
      clear hrest hjl hRes
      go_wp2_with fail
      go_ret
      exact ⟨_, rfl, rfl, hBr.out⟩
set_option maxRecDepth 100000 in
theorem ContainsRate_any (g : Nat) (lb : Array Value) (eg : ∀ args w, (callFunc g args).run Tryz.prog w = .ok (.enter g args) w) (v : Value) (l : List (List Int)) (p : List Int → Bool) (w : World) (hv : Hid (RecAt w v 2 l)) (hl : l.length ≤ 1000000) (hp : Hid (PredOn g lb l p w)) :
    Calls Tryz.prog 84 #[v, .func (.func g) #[] lb] w fun e w' => e = .returned (.bool (l.any p)) ∧ Below w.heap.size w w' := by
  have q := zH (IndexRate_any g lb eg v l p w hv hl hp)
  obtain ⟨A, c, rfl, hi⟩ := hv.out
  clear hv hp hi
  go_enter Tryz.func84, Tryz.ntmps84
  go_wp2_with fail
  with_reducible refine q.out.mono ?_
  rintro e w2 ⟨i, rfl, hi', hb⟩
  have hi := zH hi'
  clear hi'
  go_wp2_with fail
  go_ret
  refine ⟨?_, hb⟩
  show Ending.returned (.bool (decide (0 ≤ i))) = _
  rw [hi.out]
set_option maxRecDepth 100000 in
set_option maxHeartbeats 2000000 in
theorem IndexStake_any (g : Nat) (lb : Array Value) (eg : ∀ args w, (callFunc g args).run Tryz.prog w = .ok (.enter g args) w) (v : Value) (l : List (List Int)) (p : List Int → Bool) (w : World) (hv : Hid (RecAt w v 3 l)) (hl : l.length ≤ 1000000) (hp : Hid (PredOn g lb l p w)) :
    Calls Tryz.prog 146 #[v, .func (.func g) #[] lb] w fun e w' => ∃ i : Int, e = .returned (.int .i64 i) ∧ decide (0 ≤ i) = l.any p ∧ Below w.heap.size w w' := by
  obtain ⟨A, c, rfl, hi⟩ := hv.out
  have HI := zH hi
  clear hi hv
  obtain ⟨Res, hRes⟩ : ∃ Res, l.any p = Res := ⟨_, rfl⟩
  rw [hRes]
  replace hRes := zH hRes
  go_enter Tryz.func146, Tryz.ntmps146
  go_wp2_with fail
  go_loopw [5, 8] (fun _ s8 wr => ∃ j : Nat, s8 = .int .i64 (j : Int) ∧ Hid (j ≤ l.length) ∧ Hid (l.any p = (l.drop j).any p) ∧ Hid (Below w.heap.size w wr)) (fun _ s8 _ => l.length - (intOf s8).toNat)
  case atStart => exact ⟨0, rfl, Nat.zero_le _, rfl, Below.refl _ _⟩
  case round =>
    obtain ⟨j, rfl, hjl, hrest, hBr⟩ := hrel
    replace hjl := hjl.out
    by_cases hin : j < l.length
    · have tn : decide ((j : Int) < (l.length : Int)) = true := decide_eq_true (by omega)
      have hge : l[j]? = some l[j] := List.getElem?_eq_getElem hin
      obtain ⟨hk, b0, o0, hA0, hbl, hc⟩ := HI.out j _ hge
      subst hA0
      have hst : Hid ((l.drop j).any p = (p l[j] || (l.drop (j + 1)).any p)) := (show _ = _ from by rw [List.drop_eq_getElem_cons hin, List.any_cons])
      have hcall := hp.out wr l[j] (List.getElem_mem hin) hBr.out
      clear hge
      generalize l[j] = r at *
      obtain ⟨y0, y1, y2, rfl⟩ : ∃ y0 y1 y2, r = [y0, y1, y2] := by
        match r, hk with
        | [y0, y1, y2], _ => exact ⟨y0, y1, y2, rfl⟩
      obtain ⟨c0, c1, c2⟩ := zR3 hBr.out hbl hc
      have hcall : Calls Tryz.prog g (#[.agg #[.int .i64 y0, .int .i64 y1, .int .i64 y2]] ++ lb) wr _ := hcall
      have hcall2 := zH hcall
      obtain ⟨F, hF⟩ : ∃ F, p [y0, y1, y2] = F := ⟨_, rfl⟩
      rw [hF] at hcall2 hst
      clear hc hk hcall hF
      cases F with
      | true =>
        go_wp2_with (go_at_fn g; refine hcall2.out.mono ?_; rintro e w2 ⟨rfl, hb2⟩)
        go_ret
        have hR : Res = true := hRes.out.symm.trans (hrest.out.trans hst.out)
        subst hR
        exact ⟨_, rfl, by simp, hBr.out.trans (hb2.mono hBr.out.size)⟩
      | false =>
        have hst2 := zH (hrest.out.trans hst.out)
        go_wp2_with (go_at_fn g; refine hcall2.out.mono ?_; rintro e w2 ⟨rfl, hb2⟩)
        have HB2 := zB hBr hb2
        clear hb2
        go_roundw
        case rel => exact ⟨j + 1, by go_num, by show _ ≤ _; omega, hst2.out, HB2.out⟩
        case measure => simp [intOf]; omega
    · have tn : decide ((j : Int) < (l.length : Int)) = false := decide_eq_false (by omega)
      have hR : Res = false := hRes.out.symm.trans (hrest.out.trans (by rw [List.drop_eq_nil_of_le (by omega)]; rfl))
      subst hR
      clear hrest hjl hRes
      go_wp2_with fail
      go_ret
      exact ⟨_, rfl, rfl, hBr.out⟩
set_option maxRecDepth 100000 in
theorem ContainsStake_any (g : Nat) (lb : Array Value) (eg : ∀ args w, (callFunc g args).run Tryz.prog w = .ok (.enter g args) w) (v : Value) (l : List (List Int)) (p : List Int → Bool) (w : World) (hv : Hid (RecAt w v 3 l)) (hl : l.length ≤ 1000000) (hp : Hid (PredOn g lb l p w)) :
    Calls Tryz.prog 85 #[v, .func (.func g) #[] lb] w fun e w' => e = .returned (.bool (l.any p)) ∧ Below w.heap.size w w' := by
  have q := zH (IndexStake_any g lb eg v l p w hv hl hp)
  obtain ⟨A, c, rfl, hi⟩ := hv.out
  clear hv hp hi
  go_enter Tryz.func85, Tryz.ntmps85
  go_wp2_with fail
  with_reducible refine q.out.mono ?_
  rintro e w2 ⟨i, rfl, hi', hb⟩
  have hi := zH hi'
  clear hi'
  go_wp2_with fail
  go_ret
  refine ⟨?_, hb⟩
  show Ending.returned (.bool (decide (0 ≤ i))) = _
  rw [hi.out]
end Go.Proofs.YtjcdpmianmgiaaaGreatDoor
namespace Go.Proofs.YtjcdpmianmgiaaaGreatDoor
open Go Go.RowKit
set_option linter.unusedVariables false
set_option linter.unusedSimpArgs false
theorem BkOwn.form {w : World} {B : Nat} {v : Value} {b : Bk} (h : BkOwn w B v b) : ∃ A1 c1 A2 c2 A3 c3 A4 c4, v = .agg #[.slice A1 b.h.length c1, .slice A2 b.s.length c2, .slice A3 b.o.length c3, .slice A4 b.r.length c4, .int .i64 b.n] := by
  obtain ⟨vh, vs, vo, vr, rfl, h1, h2, h3, h4⟩ := h
  obtain ⟨A1, c1, rfl⟩ := h1.form
  obtain ⟨A2, c2, rfl⟩ := h2.form
  obtain ⟨A3, c3, rfl⟩ := h3.form
  obtain ⟨A4, c4, rfl⟩ := h4.form
  exact ⟨A1, c1, A2, c2, A3, c3, A4, c4, rfl⟩
end Go.Proofs.YtjcdpmianmgiaaaGreatDoor
namespace Go.Proofs.YtjcdpmianmgiaaaGreatDoor
open Go Go.RowKit
set_option linter.unusedVariables false
set_option linter.unusedSimpArgs false
theorem rec_of {k : Nat} {l : List (List Int)} (h : ∀ r ∈ l, r.length = k) (E : List Int → Bool) : ∃ r F, r.length = k ∧ recOf k (l.find? E) = (r, F) := by
  cases hf : l.find? E with
  | none => exact ⟨_, _, List.length_replicate, rfl⟩
  | some r => exact ⟨r, true, h r (List.mem_of_find?_eq_some hf), rfl⟩
end Go.Proofs.YtjcdpmianmgiaaaGreatDoor
