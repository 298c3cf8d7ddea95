/- Part 7 of what the claim rests on. -/
import Derived.Test.YtajogedbacpohaaGreatDoorE00
import Derived.Test.YtajogedbacpohaaGreatDoorE05
import Derived.Laws.Bits64b
import Derived.Laws.Externs
import Derived.Lib.Mul64
import Derived.Shelf.GgClosure.Gives
import Derived.Test.YtajogedbacpohaaGreatDoorChecked
set_option linter.unusedVariables false
set_option linter.unusedSimpArgs false
set_option maxRecDepth 1000000
set_option maxHeartbeats 32000000
namespace Go.Proofs.YtajogedbacpohaaGreatDoor
section
open Go Go.RowKit
theorem orI_ge (a b x y : Int) : decide (0 ≤ orI (cmpI a x) (cmpI b y)) = !decide (a < x ∨ a = x ∧ b < y) := by
 unfold orI cmpI;by_cases h : a < x ∨ a = x ∧ b < y
 ·rw [decide_eq_true h]
  refine decide_eq_false ?_
  split <;> split <;> omega
 ·rw [decide_eq_false h]
  refine decide_eq_true ?_
  split <;> split <;> omega
theorem zzbt (a b : Int) : decide (0 ≤ cmpI a b) = !decide (a < b) := by
 unfold cmpI;by_cases h : a < b
 ·rw [decide_eq_true h, if_pos h]; rfl
 ·rw [decide_eq_false h, if_neg h]
  split <;> rfl
theorem zz72 (y0 y1 y2 y3 : Int) (w : World) : Calls Tryz.prog 124 #[.agg #[y0, y1, y2, y3]] w fun e w' => e = .returned (.int .i64 y0) ∧ Below w.heap.size w w' := by
 go_in;go_wp2_with fail;go_ret;exact ⟨rfl, zBa⟩
theorem zt15 {p : Prop} (h : p := by
 have hst2 := zH (hrest.out.trans hst);clear hst hlt;go_wp2_with fail;refine zz0r zk zk ?_
 repeat (go_big_quiet_step (first | (with_reducible exact zz1r (qk1.out _)) | (with_reducible exact zz1r (qb1.out _))))
 refine wpQuiet_nil ?_;rintro w2 ⟨y, rfl⟩;have HB2 := zH (hBr.out.trans (y.below.mono hBr.out.size));go_wp2_with fail;go_roundw
 case rel => exact ⟨j + 1, by go_num, by show _ ≤ _; omega, hst2.out, HB2.out⟩
 case measure => simp [intOf]; omega) : p := h
theorem zt19 {p : Prop} (h : p := by
 have hst2 := zH (hrest.out.trans hst);clear hst hlt;go_wp2_with fail;refine zz0r zk zk ?_
 repeat (go_big_quiet_step (first | (with_reducible exact zz1r (qk1.out _)) | (with_reducible exact zz1r (qb1.out _))))
 refine wpQuiet_nil ?_;rintro w2 ⟨y, rfl⟩;have HB2 := zH (hBr.out.trans (y.below.mono hBr.out.size));go_wp2_with fail;go_ret;have hR : Res = false := hRes.out.symm.trans hst2.out;subst hR;exact ⟨rfl, HB2.out⟩) : p := h
theorem zt49 {p : Prop} (h : p := by
 have tn : decide ((j : Int) + 1 < (l.length : Int)) = false := decide_eq_false zw;have hR : Hid (Res = true) := (show _ = _ from hRes.out.symm.trans (hrest.out.trans (zz2v zw)))
 clear hrest hjl hRes;obtain rfl := hR.out;go_wp2_with fail;go_ret;exact ⟨rfl, hBr.out⟩) : p := h
theorem zz48 (v : Value) (l : List (List Int)) (w : World) (hv : Hid (RecAt w v 4 l)) (hl : l.length ≤ 1000000) :
  Calls Tryz.prog 123 #[v, .func (.func 124) #[] #[], .func (.func 125) #[] #[]] w fun e w' => e = .returned (.bool (riseHB l)) ∧ Below w.heap.size w w' := by
 obtain ⟨A, c, rfl, hi⟩ := hv.out;have HI := zH hi;clear hi hv;have qk := zH (fun x0 x1 x2 x3 w => zz72 x0 x1 x2 x3 w)
 have qb := zH (fun x0 x1 x2 x3 id w => zz4q x0 x1 x2 x3 id w)
 obtain ⟨Res, hRes⟩ : ∃ Res, riseHB l = Res := ⟨_, rfl⟩;rw [hRes];replace hRes := zH hRes;go_in;go_wp2_with fail;go_loopw [7] (fun s6 wr => ∃ j : Nat, s6 = .int .i64 ((j : Int) + 1) ∧ Hid (j ≤ l.length) ∧ Hid (riseHB l = riseHB (l.drop j)) ∧ Hid (Below w.heap.size w wr)) (fun s6 _ => l.length + 1 - (intOf s6).toNat)
 case atStart => exact ⟨0, rfl, Nat.zero_le _, rfl, Below.refl _ _⟩
 case round =>
  obtain ⟨j, rfl, hjl, hrest, hBr⟩ := hrel;replace hjl := hjl.out;by_cases hin : j + 1 < l.length
  ·have tn : decide ((j : Int) + 1 < (l.length : Int)) = true := decide_eq_true zw
   have hge : l[j]? = some l[j] := List.getElem?_eq_getElem zw;have hge2 : l[j + 1]? = some l[j + 1] := List.getElem?_eq_getElem hin;obtain ⟨hk, b0, o0, hA0, hbl, hc⟩ := HI.out j _ hge;obtain ⟨hk2, b0', o0', hA0', hbl', hc2⟩ := HI.out (j + 1) _ hge2;subst hA0;injection hA0' with hA0'
   injection hA0' with hx1 hx2
   subst hx1 hx2;have hst := zH (zz1i hge hge2);clear hge hge2;generalize l[j] = r at *;generalize l[j + 1] = r2 at *;obtain ⟨y0, y1, y2, y3, rfl⟩ : ∃ y0 y1 y2 y3, r = [y0, y1, y2, y3] := by
    match r, hk with
    | [y0, y1, y2, y3], _ => exact ⟨y0, y1, y2, y3, rfl⟩
   obtain ⟨z0, z1, z2, z3, rfl⟩ : ∃ z0 z1 z2 z3, r2 = [z0, z1, z2, z3] := by
    match r2, hk2 with
    | [z0, z1, z2, z3], _ => exact ⟨z0, z1, z2, z3, rfl⟩
   have c0 : wr.cell? ⟨b0, o0 + j * 4, none⟩ = some (.int .i64 y0) := (hBr.out.cell (p := ⟨b0, o0 + j * 4 + 0, none⟩) hbl).trans (hc 0 _ rfl);have d0 : wr.cell? ⟨b0, o0 + (j + 1) * 4, none⟩ = some (.int .i64 z0) := (hBr.out.cell (p := ⟨b0, o0 + (j + 1) * 4 + 0, none⟩) hbl).trans (hc2 0 _ rfl);have c1 : wr.cell? ⟨b0, o0 + j * 4 + 1, none⟩ = some (.int .i64 y1) := (hBr.out.cell (p := ⟨b0, o0 + j * 4 + 1, none⟩) hbl).trans (hc 1 _ rfl);have d1 : wr.cell? ⟨b0, o0 + (j + 1) * 4 + 1, none⟩ = some (.int .i64 z1) := (hBr.out.cell (p := ⟨b0, o0 + (j + 1) * 4 + 1, none⟩) hbl).trans (hc2 1 _ rfl);have c2 : wr.cell? ⟨b0, o0 + j * 4 + 2, none⟩ = some (.int .i64 y2) := (hBr.out.cell (p := ⟨b0, o0 + j * 4 + 2, none⟩) hbl).trans (hc 2 _ rfl);have d2 : wr.cell? ⟨b0, o0 + (j + 1) * 4 + 2, none⟩ = some (.int .i64 z2) := (hBr.out.cell (p := ⟨b0, o0 + (j + 1) * 4 + 2, none⟩) hbl).trans (hc2 2 _ rfl);have c3 : wr.cell? ⟨b0, o0 + j * 4 + 3, none⟩ = some (.int .i64 y3) := (hBr.out.cell (p := ⟨b0, o0 + j * 4 + 3, none⟩) hbl).trans (hc 3 _ rfl);have d3 : wr.cell? ⟨b0, o0 + (j + 1) * 4 + 3, none⟩ = some (.int .i64 z3) := (hBr.out.cell (p := ⟨b0, o0 + (j + 1) * 4 + 3, none⟩) hbl).trans (hc2 3 _ rfl);have hm0 : IntKind.i64.wrap ((j : Int) + 1 - 1) = (j : Int) := by rw [IntKind.wrap_i64]; omega
   have hm1 : (j : Int) + 1 - 1 = (j : Int) := by omega
   have htn : ((j : Int) + 1).toNat = j + 1 := by omega
   have hb1 : (0 : Int) ≤ (j : Int) + 1 := by omega
   have hb2 : (j : Int) + 1 < (l.length : Int) := by omega
   have hb3 : (j : Int) < (l.length : Int) := by omega
   have hmj : IntKind.i64.wrap (j : Int) = (j : Int) := by rw [IntKind.wrap_i64]; omega
   have hbl3 : b0 < wr.heap.size := Nat.lt_of_lt_of_le hbl hBr.out.size;have hw2 : IntKind.i64.wrap ((j : Int) + 1 + 1) = (j : Int) + 1 + 1 := by rw [IntKind.wrap_i64]; omega
   obtain ⟨CC, hCC⟩ : ∃ CC, cmpI y0 z0 = CC := ⟨_, rfl⟩;have tt := zzbt y0 z0;rw [hCC] at tt;have qk1 := zH (fun w => qk.out z0 z1 z2 z3 w)
   have qb1 := zH (fun w => qb.out y0 y1 y2 y3 z0 w)
   rw [hCC] at qb1;clear hCC hc hc2 hk hk2;by_cases hlt : y0 < z0
   ·rw [decide_eq_true hlt] at tt
    have tt : decide (0 ≤ CC) = false := tt;have t3 : CC < 0 := by have := of_decide_eq_false tt; omega
    replace hst := hst.out;rw [show decide (([y0, y1, y2, y3] : List Int).headD 0 < ([z0, z1, z2, z3] : List Int).headD 0) = true from decide_eq_true hlt, Bool.true_and] at hst
    exact zt15
   ·rw [decide_eq_false hlt] at tt
    have tt : decide (0 ≤ CC) = true := tt;have t3 : 0 ≤ CC := of_decide_eq_true tt;replace hst := hst.out;rw [show decide (([y0, y1, y2, y3] : List Int).headD 0 < ([z0, z1, z2, z3] : List Int).headD 0) = false from decide_eq_false hlt, Bool.false_and] at hst
    exact zt19
  ·exact zt49
theorem zz9v (y0 y1 y2 y3 y4 y5 : Int) (w : World) : Calls Tryz.prog 127 #[.agg #[y0, y1, y2, y3, y4, y5]] w fun e w' => e = .returned (.int .i64 y0) ∧ Below w.heap.size w w' := by
 go_in;go_wp2_with fail;go_ret;exact ⟨rfl, zBa⟩
theorem zz5p (v : Value) (l : List (List Int)) (w : World) (hv : Hid (RecAt w v 6 l)) (hl : l.length ≤ 1000000) :
  Calls Tryz.prog 126 #[v, .func (.func 127) #[] #[], .func (.func 128) #[] #[]] w fun e w' => e = .returned (.bool (riseHB l)) ∧ Below w.heap.size w w' := by
 obtain ⟨A, c, rfl, hi⟩ := hv.out;have HI := zH hi;clear hi hv;have qk := zH (fun x0 x1 x2 x3 x4 x5 w => zz9v x0 x1 x2 x3 x4 x5 w)
 have qb := zH (fun x0 x1 x2 x3 x4 x5 id w => zz78 x0 x1 x2 x3 x4 x5 id w)
 obtain ⟨Res, hRes⟩ : ∃ Res, riseHB l = Res := ⟨_, rfl⟩;rw [hRes];replace hRes := zH hRes;go_in;go_wp2_with fail;go_loopw [7] (fun s6 wr => ∃ j : Nat, s6 = .int .i64 ((j : Int) + 1) ∧ Hid (j ≤ l.length) ∧ Hid (riseHB l = riseHB (l.drop j)) ∧ Hid (Below w.heap.size w wr)) (fun s6 _ => l.length + 1 - (intOf s6).toNat)
 case atStart => exact ⟨0, rfl, Nat.zero_le _, rfl, Below.refl _ _⟩
 case round =>
  obtain ⟨j, rfl, hjl, hrest, hBr⟩ := hrel;replace hjl := hjl.out;by_cases hin : j + 1 < l.length
  ·have tn : decide ((j : Int) + 1 < (l.length : Int)) = true := decide_eq_true zw
   have hge : l[j]? = some l[j] := List.getElem?_eq_getElem zw;have hge2 : l[j + 1]? = some l[j + 1] := List.getElem?_eq_getElem hin;obtain ⟨hk, b0, o0, hA0, hbl, hc⟩ := HI.out j _ hge;obtain ⟨hk2, b0', o0', hA0', hbl', hc2⟩ := HI.out (j + 1) _ hge2;subst hA0;injection hA0' with hA0'
   injection hA0' with hx1 hx2
   subst hx1 hx2;have hst := zH (zz1i hge hge2);clear hge hge2;generalize l[j] = r at *;generalize l[j + 1] = r2 at *;obtain ⟨y0, y1, y2, y3, y4, y5, rfl⟩ : ∃ y0 y1 y2 y3 y4 y5, r = [y0, y1, y2, y3, y4, y5] := by
    match r, hk with
    | [y0, y1, y2, y3, y4, y5], _ => exact ⟨y0, y1, y2, y3, y4, y5, rfl⟩
   obtain ⟨z0, z1, z2, z3, z4, z5, rfl⟩ : ∃ z0 z1 z2 z3 z4 z5, r2 = [z0, z1, z2, z3, z4, z5] := by
    match r2, hk2 with
    | [z0, z1, z2, z3, z4, z5], _ => exact ⟨z0, z1, z2, z3, z4, z5, rfl⟩
   have c0 : wr.cell? ⟨b0, o0 + j * 6, none⟩ = some (.int .i64 y0) := (hBr.out.cell (p := ⟨b0, o0 + j * 6 + 0, none⟩) hbl).trans (hc 0 _ rfl);have d0 : wr.cell? ⟨b0, o0 + (j + 1) * 6, none⟩ = some (.int .i64 z0) := (hBr.out.cell (p := ⟨b0, o0 + (j + 1) * 6 + 0, none⟩) hbl).trans (hc2 0 _ rfl);have c1 : wr.cell? ⟨b0, o0 + j * 6 + 1, none⟩ = some (.int .i64 y1) := (hBr.out.cell (p := ⟨b0, o0 + j * 6 + 1, none⟩) hbl).trans (hc 1 _ rfl);have d1 : wr.cell? ⟨b0, o0 + (j + 1) * 6 + 1, none⟩ = some (.int .i64 z1) := (hBr.out.cell (p := ⟨b0, o0 + (j + 1) * 6 + 1, none⟩) hbl).trans (hc2 1 _ rfl);have c2 : wr.cell? ⟨b0, o0 + j * 6 + 2, none⟩ = some (.int .i64 y2) := (hBr.out.cell (p := ⟨b0, o0 + j * 6 + 2, none⟩) hbl).trans (hc 2 _ rfl);have d2 : wr.cell? ⟨b0, o0 + (j + 1) * 6 + 2, none⟩ = some (.int .i64 z2) := (hBr.out.cell (p := ⟨b0, o0 + (j + 1) * 6 + 2, none⟩) hbl).trans (hc2 2 _ rfl);have c3 : wr.cell? ⟨b0, o0 + j * 6 + 3, none⟩ = some (.int .i64 y3) := (hBr.out.cell (p := ⟨b0, o0 + j * 6 + 3, none⟩) hbl).trans (hc 3 _ rfl);have d3 : wr.cell? ⟨b0, o0 + (j + 1) * 6 + 3, none⟩ = some (.int .i64 z3) := (hBr.out.cell (p := ⟨b0, o0 + (j + 1) * 6 + 3, none⟩) hbl).trans (hc2 3 _ rfl);have c4 : wr.cell? ⟨b0, o0 + j * 6 + 4, none⟩ = some (.int .i64 y4) := (hBr.out.cell (p := ⟨b0, o0 + j * 6 + 4, none⟩) hbl).trans (hc 4 _ rfl);have d4 : wr.cell? ⟨b0, o0 + (j + 1) * 6 + 4, none⟩ = some (.int .i64 z4) := (hBr.out.cell (p := ⟨b0, o0 + (j + 1) * 6 + 4, none⟩) hbl).trans (hc2 4 _ rfl);have c5 : wr.cell? ⟨b0, o0 + j * 6 + 5, none⟩ = some (.int .i64 y5) := (hBr.out.cell (p := ⟨b0, o0 + j * 6 + 5, none⟩) hbl).trans (hc 5 _ rfl);have d5 : wr.cell? ⟨b0, o0 + (j + 1) * 6 + 5, none⟩ = some (.int .i64 z5) := (hBr.out.cell (p := ⟨b0, o0 + (j + 1) * 6 + 5, none⟩) hbl).trans (hc2 5 _ rfl);have hm0 : IntKind.i64.wrap ((j : Int) + 1 - 1) = (j : Int) := by rw [IntKind.wrap_i64]; omega
   have hm1 : (j : Int) + 1 - 1 = (j : Int) := by omega
   have htn : ((j : Int) + 1).toNat = j + 1 := by omega
   have hb1 : (0 : Int) ≤ (j : Int) + 1 := by omega
   have hb2 : (j : Int) + 1 < (l.length : Int) := by omega
   have hb3 : (j : Int) < (l.length : Int) := by omega
   have hmj : IntKind.i64.wrap (j : Int) = (j : Int) := by rw [IntKind.wrap_i64]; omega
   have hbl3 : b0 < wr.heap.size := Nat.lt_of_lt_of_le hbl hBr.out.size;have hw2 : IntKind.i64.wrap ((j : Int) + 1 + 1) = (j : Int) + 1 + 1 := by rw [IntKind.wrap_i64]; omega
   obtain ⟨CC, hCC⟩ : ∃ CC, cmpI y0 z0 = CC := ⟨_, rfl⟩;have tt := zzbt y0 z0;rw [hCC] at tt;have qk1 := zH (fun w => qk.out z0 z1 z2 z3 z4 z5 w)
   have qb1 := zH (fun w => qb.out y0 y1 y2 y3 y4 y5 z0 w)
   rw [hCC] at qb1;clear hCC hc hc2 hk hk2;by_cases hlt : y0 < z0
   ·rw [decide_eq_true hlt] at tt
    have tt : decide (0 ≤ CC) = false := tt;have t3 : CC < 0 := by have := of_decide_eq_false tt; omega
    replace hst := hst.out;rw [show decide (([y0, y1, y2, y3, y4, y5] : List Int).headD 0 < ([z0, z1, z2, z3, z4, z5] : List Int).headD 0) = true from decide_eq_true hlt, Bool.true_and] at hst
    exact zt15
   ·rw [decide_eq_false hlt] at tt
    have tt : decide (0 ≤ CC) = true := tt;have t3 : 0 ≤ CC := of_decide_eq_true tt;replace hst := hst.out;rw [show decide (([y0, y1, y2, y3, y4, y5] : List Int).headD 0 < ([z0, z1, z2, z3, z4, z5] : List Int).headD 0) = false from decide_eq_false hlt, Bool.false_and] at hst
    exact zt19
  ·exact zt49
theorem zz9h (y0 y1 : Int) (w : World) : Calls Tryz.prog 130 #[.agg #[y0, y1]] w fun e w' => e = .returned (.int .i64 y0) ∧ Below w.heap.size w w' := by
 go_in;go_wp2_with fail;go_ret;exact ⟨rfl, zBa⟩
theorem zz5o (v : Value) (l : List (List Int)) (w : World) (hv : Hid (RecAt w v 2 l)) (hl : l.length ≤ 1000000) :
  Calls Tryz.prog 129 #[v, .func (.func 130) #[] #[], .func (.func 131) #[] #[]] w fun e w' => e = .returned (.bool (riseHB l)) ∧ Below w.heap.size w w' := by
 obtain ⟨A, c, rfl, hi⟩ := hv.out;have HI := zH hi;clear hi hv;have qk := zH (fun x0 x1 w => zz9h x0 x1 w)
 have qb := zH (fun x0 x1 id w => zz77 x0 x1 id w)
 obtain ⟨Res, hRes⟩ : ∃ Res, riseHB l = Res := ⟨_, rfl⟩;rw [hRes];replace hRes := zH hRes;go_in;go_wp2_with fail;go_loopw [7] (fun s6 wr => ∃ j : Nat, s6 = .int .i64 ((j : Int) + 1) ∧ Hid (j ≤ l.length) ∧ Hid (riseHB l = riseHB (l.drop j)) ∧ Hid (Below w.heap.size w wr)) (fun s6 _ => l.length + 1 - (intOf s6).toNat)
 case atStart => exact ⟨0, rfl, Nat.zero_le _, rfl, Below.refl _ _⟩
 case round =>
  obtain ⟨j, rfl, hjl, hrest, hBr⟩ := hrel;replace hjl := hjl.out;by_cases hin : j + 1 < l.length
  ·have tn : decide ((j : Int) + 1 < (l.length : Int)) = true := decide_eq_true zw
   have hge : l[j]? = some l[j] := List.getElem?_eq_getElem zw;have hge2 : l[j + 1]? = some l[j + 1] := List.getElem?_eq_getElem hin;obtain ⟨hk, b0, o0, hA0, hbl, hc⟩ := HI.out j _ hge;obtain ⟨hk2, b0', o0', hA0', hbl', hc2⟩ := HI.out (j + 1) _ hge2;subst hA0;injection hA0' with hA0'
   injection hA0' with hx1 hx2
   subst hx1 hx2;have hst := zH (zz1i hge hge2);clear hge hge2;generalize l[j] = r at *;generalize l[j + 1] = r2 at *;obtain ⟨y0, y1, rfl⟩ : ∃ y0 y1, r = [y0, y1] := by
    match r, hk with
    | [y0, y1], _ => exact ⟨y0, y1, rfl⟩
   obtain ⟨z0, z1, rfl⟩ : ∃ z0 z1, r2 = [z0, z1] := by
    match r2, hk2 with
    | [z0, z1], _ => exact ⟨z0, z1, rfl⟩
   have c0 : wr.cell? ⟨b0, o0 + j * 2, none⟩ = some (.int .i64 y0) := (hBr.out.cell (p := ⟨b0, o0 + j * 2 + 0, none⟩) hbl).trans (hc 0 _ rfl);have d0 : wr.cell? ⟨b0, o0 + (j + 1) * 2, none⟩ = some (.int .i64 z0) := (hBr.out.cell (p := ⟨b0, o0 + (j + 1) * 2 + 0, none⟩) hbl).trans (hc2 0 _ rfl);have c1 : wr.cell? ⟨b0, o0 + j * 2 + 1, none⟩ = some (.int .i64 y1) := (hBr.out.cell (p := ⟨b0, o0 + j * 2 + 1, none⟩) hbl).trans (hc 1 _ rfl);have d1 : wr.cell? ⟨b0, o0 + (j + 1) * 2 + 1, none⟩ = some (.int .i64 z1) := (hBr.out.cell (p := ⟨b0, o0 + (j + 1) * 2 + 1, none⟩) hbl).trans (hc2 1 _ rfl);have hm0 : IntKind.i64.wrap ((j : Int) + 1 - 1) = (j : Int) := by rw [IntKind.wrap_i64]; omega
   have hm1 : (j : Int) + 1 - 1 = (j : Int) := by omega
   have htn : ((j : Int) + 1).toNat = j + 1 := by omega
   have hb1 : (0 : Int) ≤ (j : Int) + 1 := by omega
   have hb2 : (j : Int) + 1 < (l.length : Int) := by omega
   have hb3 : (j : Int) < (l.length : Int) := by omega
   have hmj : IntKind.i64.wrap (j : Int) = (j : Int) := by rw [IntKind.wrap_i64]; omega
   have hbl3 : b0 < wr.heap.size := Nat.lt_of_lt_of_le hbl hBr.out.size;have hw2 : IntKind.i64.wrap ((j : Int) + 1 + 1) = (j : Int) + 1 + 1 := by rw [IntKind.wrap_i64]; omega
   obtain ⟨CC, hCC⟩ : ∃ CC, cmpI y0 z0 = CC := ⟨_, rfl⟩;have tt := zzbt y0 z0;rw [hCC] at tt;have qk1 := zH (fun w => qk.out z0 z1 w)
   have qb1 := zH (fun w => qb.out y0 y1 z0 w)
   rw [hCC] at qb1;clear hCC hc hc2 hk hk2;by_cases hlt : y0 < z0
   ·rw [decide_eq_true hlt] at tt
    have tt : decide (0 ≤ CC) = false := tt;have t3 : CC < 0 := by have := of_decide_eq_false tt; omega
    replace hst := hst.out;rw [show decide (([y0, y1] : List Int).headD 0 < ([z0, z1] : List Int).headD 0) = true from decide_eq_true hlt, Bool.true_and] at hst
    exact zt15
   ·rw [decide_eq_false hlt] at tt
    have tt : decide (0 ≤ CC) = true := tt;have t3 : 0 ≤ CC := of_decide_eq_true tt;replace hst := hst.out;rw [show decide (([y0, y1] : List Int).headD 0 < ([z0, z1] : List Int).headD 0) = false from decide_eq_false hlt, Bool.false_and] at hst
    exact zt19
  ·exact zt49
theorem zz50 (v : Value) (l : List (List Int)) (w : World) (hv : Hid (RecAt w v 3 l)) (hl : l.length ≤ 1000000) :
  Calls Tryz.prog 132 #[v, .func (.func 133) #[] #[], .func (.func 134) #[] #[]] w fun e w' => e = .returned (.bool (riseSB l)) ∧ Below w.heap.size w w' := by
 obtain ⟨A, c, rfl, hi⟩ := hv.out;have HI := zH hi;clear hi hv;have qk := zH (fun x0 x1 x2 w => zz42 x0 x1 x2 w)
 have qb := zH (fun x0 x1 x2 kx ky w => zz5g x0 x1 x2 kx ky w)
 obtain ⟨Res, hRes⟩ : ∃ Res, riseSB l = Res := ⟨_, rfl⟩;rw [hRes];replace hRes := zH hRes;go_in;go_wp2_with fail;go_loopw [7] (fun s6 wr => ∃ j : Nat, s6 = .int .i64 ((j : Int) + 1) ∧ Hid (j ≤ l.length) ∧ Hid (riseSB l = riseSB (l.drop j)) ∧ Hid (Below w.heap.size w wr)) (fun s6 _ => l.length + 1 - (intOf s6).toNat)
 case atStart => exact ⟨0, rfl, Nat.zero_le _, rfl, Below.refl _ _⟩
 case round =>
  obtain ⟨j, rfl, hjl, hrest, hBr⟩ := hrel;replace hjl := hjl.out;by_cases hin : j + 1 < l.length
  ·have tn : decide ((j : Int) + 1 < (l.length : Int)) = true := decide_eq_true zw
   have hge : l[j]? = some l[j] := List.getElem?_eq_getElem zw;have hge2 : l[j + 1]? = some l[j + 1] := List.getElem?_eq_getElem hin;obtain ⟨hk, b0, o0, hA0, hbl, hc⟩ := HI.out j _ hge;obtain ⟨hk2, b0', o0', hA0', hbl', hc2⟩ := HI.out (j + 1) _ hge2;subst hA0;injection hA0' with hA0'
   injection hA0' with hx1 hx2
   subst hx1 hx2;have hst := zH (zz58 hge hge2);clear hge hge2;generalize l[j] = r at *;generalize l[j + 1] = r2 at *;obtain ⟨y0, y1, y2, rfl⟩ : ∃ y0 y1 y2, r = [y0, y1, y2] := by
    match r, hk with
    | [y0, y1, y2], _ => exact ⟨y0, y1, y2, rfl⟩
   obtain ⟨z0, z1, z2, rfl⟩ : ∃ z0 z1 z2, r2 = [z0, z1, z2] := by
    match r2, hk2 with
    | [z0, z1, z2], _ => exact ⟨z0, z1, z2, rfl⟩
   have c0 : wr.cell? ⟨b0, o0 + j * 3, none⟩ = some (.int .i64 y0) := (hBr.out.cell (p := ⟨b0, o0 + j * 3 + 0, none⟩) hbl).trans (hc 0 _ rfl);have d0 : wr.cell? ⟨b0, o0 + (j + 1) * 3, none⟩ = some (.int .i64 z0) := (hBr.out.cell (p := ⟨b0, o0 + (j + 1) * 3 + 0, none⟩) hbl).trans (hc2 0 _ rfl);have c1 : wr.cell? ⟨b0, o0 + j * 3 + 1, none⟩ = some (.int .i64 y1) := (hBr.out.cell (p := ⟨b0, o0 + j * 3 + 1, none⟩) hbl).trans (hc 1 _ rfl);have d1 : wr.cell? ⟨b0, o0 + (j + 1) * 3 + 1, none⟩ = some (.int .i64 z1) := (hBr.out.cell (p := ⟨b0, o0 + (j + 1) * 3 + 1, none⟩) hbl).trans (hc2 1 _ rfl);have c2 : wr.cell? ⟨b0, o0 + j * 3 + 2, none⟩ = some (.int .i64 y2) := (hBr.out.cell (p := ⟨b0, o0 + j * 3 + 2, none⟩) hbl).trans (hc 2 _ rfl);have d2 : wr.cell? ⟨b0, o0 + (j + 1) * 3 + 2, none⟩ = some (.int .i64 z2) := (hBr.out.cell (p := ⟨b0, o0 + (j + 1) * 3 + 2, none⟩) hbl).trans (hc2 2 _ rfl);have hm0 : IntKind.i64.wrap ((j : Int) + 1 - 1) = (j : Int) := by rw [IntKind.wrap_i64]; omega
   have hm1 : (j : Int) + 1 - 1 = (j : Int) := by omega
   have htn : ((j : Int) + 1).toNat = j + 1 := by omega
   have hb1 : (0 : Int) ≤ (j : Int) + 1 := by omega
   have hb2 : (j : Int) + 1 < (l.length : Int) := by omega
   have hb3 : (j : Int) < (l.length : Int) := by omega
   have hmj : IntKind.i64.wrap (j : Int) = (j : Int) := by rw [IntKind.wrap_i64]; omega
   have hbl3 : b0 < wr.heap.size := Nat.lt_of_lt_of_le hbl hBr.out.size;have hw2 : IntKind.i64.wrap ((j : Int) + 1 + 1) = (j : Int) + 1 + 1 := by rw [IntKind.wrap_i64]; omega
   obtain ⟨CC, hCC⟩ : ∃ CC, orI (cmpI y0 z0) (cmpI y1 z1) = CC := ⟨_, rfl⟩;have tt := orI_ge y0 y1 z0 z1;rw [hCC] at tt;have qk1 := zH (fun w => qk.out z0 z1 z2 w)
   have qb1 := zH (fun w => qb.out y0 y1 y2 z0 z1 w)
   rw [hCC] at qb1;clear hCC hc hc2 hk hk2;by_cases hlt : y0 < z0 ∨ y0 = z0 ∧ y1 < z1
   ·rw [decide_eq_true hlt] at tt
    have tt : decide (0 ≤ CC) = false := tt;have t3 : CC < 0 := by have := of_decide_eq_false tt; omega
    replace hst := hst.out;rw [show decide (stLt' ([y0, y1, y2] : List Int) [z0, z1, z2]) = true from decide_eq_true hlt, Bool.true_and] at hst
    exact zt15
   ·rw [decide_eq_false hlt] at tt
    have tt : decide (0 ≤ CC) = true := tt;have t3 : 0 ≤ CC := of_decide_eq_true tt;replace hst := hst.out;rw [show decide (stLt' ([y0, y1, y2] : List Int) [z0, z1, z2]) = false from decide_eq_false hlt, Bool.false_and] at hst
    exact zt19
  ·have tn : decide ((j : Int) + 1 < (l.length : Int)) = false := decide_eq_false zw
   have hR : Hid (Res = true) := (show _ = _ from hRes.out.symm.trans (hrest.out.trans (zz6p zw)))
   clear hrest hjl hRes;obtain rfl := hR.out;go_wp2_with fail;go_ret;exact ⟨rfl, hBr.out⟩
end
section
open Go Go.RowKit Go.Shelf
def rowV (r : List Int) : Value := .agg (r.map (Value.int .i64)).toArray
def PredOn (g : Nat) (lb : Array Value) (l : List (List Int)) (p : List Int → Bool) (w : World) : Prop :=
 ∀ (W : World) (r : List Int), r ∈ l → Below w.heap.size w W → Calls Tryz.prog g (#[rowV r] ++ lb) W fun e w' => e = .returned (.bool (p r)) ∧ Below W.heap.size W w'
theorem zt10 {p : Prop} (h : p := by
 rw [hF] at hcall2 hst;clear hc hk hcall hF;cases F with
 | true =>
  go_wp2_with (go_at_fn g; refine hcall2.out.mono ?_; rintro e w2 ⟨rfl, hb2⟩);go_ret;have hR : Res = true := hRes.out.symm.trans (hrest.out.trans hst.out);subst hR;exact ⟨_, rfl, by simp, hBr.out.trans (hb2.mono hBr.out.size)⟩
 | false =>
  have hst2 := zH (hrest.out.trans hst.out);go_wp2_with (go_at_fn g; refine hcall2.out.mono ?_; rintro e w2 ⟨rfl, hb2⟩);have HB2 := zB hBr hb2;clear hb2;go_roundw
  case rel => exact ⟨j + 1, by go_num, by show _ ≤ _; omega, hst2.out, HB2.out⟩
  case measure => simp [intOf]; omega) : p := h
theorem zt37 {p : Prop} (h : p := by
 have tn : decide ((j : Int) < (l.length : Int)) = false := decide_eq_false zw;have hR : Res = false := hRes.out.symm.trans (hrest.out.trans (by rw [List.drop_eq_nil_of_le zw]; rfl))
 subst hR;clear hrest hjl hRes;go_wp2_with fail;go_ret;exact ⟨_, rfl, rfl, hBr.out⟩) : p := h
theorem zz52 (g : Nat) (lb : Array Value) (eg : ∀ args w, (callFunc g args).run Tryz.prog w = .ok (.enter g args) w) (v : Value) (l : List (List Int)) (p : List Int → Bool) (w : World) (hv : Hid (RecAt w v 4 l)) (hl : l.length ≤ 1000000) (hp : Hid (PredOn g lb l p w)) :
  Calls Tryz.prog 137 #[v, .func (.func g) #[] lb] w fun e w' => ∃ i : Int, e = .returned (.int .i64 i) ∧ decide (0 ≤ i) = l.any p ∧ Below w.heap.size w w' := by
 obtain ⟨A, c, rfl, hi⟩ := hv.out;have HI := zH hi;clear hi hv;obtain ⟨Res, hRes⟩ : ∃ Res, l.any p = Res := ⟨_, rfl⟩;rw [hRes];replace hRes := zH hRes;go_in;go_wp2_with fail;go_loopw [5, 8] (fun _ s8 wr => ∃ j : Nat, s8 = .int .i64 (j : Int) ∧ Hid (j ≤ l.length) ∧ Hid (l.any p = (l.drop j).any p) ∧ Hid (Below w.heap.size w wr)) (fun _ s8 _ => l.length - (intOf s8).toNat)
 case atStart => exact ⟨0, rfl, Nat.zero_le _, rfl, Below.refl _ _⟩
 case round =>
  obtain ⟨j, rfl, hjl, hrest, hBr⟩ := hrel;replace hjl := hjl.out;by_cases hin : j < l.length
  ·have tn : decide ((j : Int) < (l.length : Int)) = true := decide_eq_true zw
   have hge : l[j]? = some l[j] := List.getElem?_eq_getElem hin;obtain ⟨hk, b0, o0, hA0, hbl, hc⟩ := HI.out j _ hge;subst hA0;have hst : Hid ((l.drop j).any p = (p l[j] || (l.drop (j + 1)).any p)) := (show _ = _ from by rw [List.drop_eq_getElem_cons hin, List.any_cons])
   have hcall := hp.out wr l[j] (List.getElem_mem hin) hBr.out;clear hge;generalize l[j] = r at *;obtain ⟨y0, y1, y2, y3, rfl⟩ : ∃ y0 y1 y2 y3, r = [y0, y1, y2, y3] := by
    match r, hk with
    | [y0, y1, y2, y3], _ => exact ⟨y0, y1, y2, y3, rfl⟩
   obtain ⟨c0, c1, c2, c3⟩ := zR4 hBr.out hbl hc;have hcall : Calls Tryz.prog g (#[.agg #[y0, y1, y2, y3]] ++ lb) wr _ := hcall;have hcall2 := zH hcall;obtain ⟨F, hF⟩ : ∃ F, p [y0, y1, y2, y3] = F := ⟨_, rfl⟩;exact zt10
  ·exact zt37
theorem zt33 {p : Prop} (h : p := by
 obtain ⟨A, c, rfl, hi⟩ := hv.out;clear hv hp hi;go_in;go_wp2_with fail;(with_reducible refine q.out.mono ?_);rintro e w2 ⟨i, rfl, hi', hb⟩;have hi := zH hi';clear hi';go_wp2_with fail;go_ret;refine ⟨?_, hb⟩;show Ending.returned (.bool (decide (0 ≤ i))) = _;rw [hi.out]) : p := h
theorem zz3j (g : Nat) (lb : Array Value) (eg : ∀ args w, (callFunc g args).run Tryz.prog w = .ok (.enter g args) w) (v : Value) (l : List (List Int)) (p : List Int → Bool) (w : World) (hv : Hid (RecAt w v 4 l)) (hl : l.length ≤ 1000000) (hp : Hid (PredOn g lb l p w)) :
  Calls Tryz.prog 69 #[v, .func (.func g) #[] lb] w fun e w' => e = .returned (.bool (l.any p)) ∧ Below w.heap.size w w' := by
 have q := zH (zz52 g lb eg v l p w hv hl hp);exact zt33
theorem zz7d (g : Nat) (lb : Array Value) (eg : ∀ args w, (callFunc g args).run Tryz.prog w = .ok (.enter g args) w) (v : Value) (l : List (List Int)) (p : List Int → Bool) (w : World) (hv : Hid (RecAt w v 6 l)) (hl : l.length ≤ 1000000) (hp : Hid (PredOn g lb l p w)) :
  Calls Tryz.prog 140 #[v, .func (.func g) #[] lb] w fun e w' => ∃ i : Int, e = .returned (.int .i64 i) ∧ decide (0 ≤ i) = l.any p ∧ Below w.heap.size w w' := by
 obtain ⟨A, c, rfl, hi⟩ := hv.out;have HI := zH hi;clear hi hv;obtain ⟨Res, hRes⟩ : ∃ Res, l.any p = Res := ⟨_, rfl⟩;rw [hRes];replace hRes := zH hRes;go_in;go_wp2_with fail;go_loopw [5, 8] (fun _ s8 wr => ∃ j : Nat, s8 = .int .i64 (j : Int) ∧ Hid (j ≤ l.length) ∧ Hid (l.any p = (l.drop j).any p) ∧ Hid (Below w.heap.size w wr)) (fun _ s8 _ => l.length - (intOf s8).toNat)
 case atStart => exact ⟨0, rfl, Nat.zero_le _, rfl, Below.refl _ _⟩
 case round =>
  obtain ⟨j, rfl, hjl, hrest, hBr⟩ := hrel;replace hjl := hjl.out;by_cases hin : j < l.length
  ·have tn : decide ((j : Int) < (l.length : Int)) = true := decide_eq_true zw
   have hge : l[j]? = some l[j] := List.getElem?_eq_getElem hin;obtain ⟨hk, b0, o0, hA0, hbl, hc⟩ := HI.out j _ hge;subst hA0;have hst : Hid ((l.drop j).any p = (p l[j] || (l.drop (j + 1)).any p)) := (show _ = _ from by rw [List.drop_eq_getElem_cons hin, List.any_cons])
   have hcall := hp.out wr l[j] (List.getElem_mem hin) hBr.out;clear hge;generalize l[j] = r at *;obtain ⟨y0, y1, y2, y3, y4, y5, rfl⟩ : ∃ y0 y1 y2 y3 y4 y5, r = [y0, y1, y2, y3, y4, y5] := by
    match r, hk with
    | [y0, y1, y2, y3, y4, y5], _ => exact ⟨y0, y1, y2, y3, y4, y5, rfl⟩
   obtain ⟨c0, c1, c2, c3, c4, c5⟩ := zR6 hBr.out hbl hc;have hcall : Calls Tryz.prog g (#[.agg #[y0, y1, y2, y3, y4, y5]] ++ lb) wr _ := hcall;have hcall2 := zH hcall;obtain ⟨F, hF⟩ : ∃ F, p [y0, y1, y2, y3, y4, y5] = F := ⟨_, rfl⟩;exact zt10
  ·exact zt37
theorem zz4y (g : Nat) (lb : Array Value) (eg : ∀ args w, (callFunc g args).run Tryz.prog w = .ok (.enter g args) w) (v : Value) (l : List (List Int)) (p : List Int → Bool) (w : World) (hv : Hid (RecAt w v 6 l)) (hl : l.length ≤ 1000000) (hp : Hid (PredOn g lb l p w)) :
  Calls Tryz.prog 72 #[v, .func (.func g) #[] lb] w fun e w' => e = .returned (.bool (l.any p)) ∧ Below w.heap.size w w' := by
 have q := zH (zz7d g lb eg v l p w hv hl hp);exact zt33
theorem zz7c (g : Nat) (lb : Array Value) (eg : ∀ args w, (callFunc g args).run Tryz.prog w = .ok (.enter g args) w) (v : Value) (l : List (List Int)) (p : List Int → Bool) (w : World) (hv : Hid (RecAt w v 2 l)) (hl : l.length ≤ 1000000) (hp : Hid (PredOn g lb l p w)) :
  Calls Tryz.prog 138 #[v, .func (.func g) #[] lb] w fun e w' => ∃ i : Int, e = .returned (.int .i64 i) ∧ decide (0 ≤ i) = l.any p ∧ Below w.heap.size w w' := by
 obtain ⟨A, c, rfl, hi⟩ := hv.out;have HI := zH hi;clear hi hv;obtain ⟨Res, hRes⟩ : ∃ Res, l.any p = Res := ⟨_, rfl⟩;rw [hRes];replace hRes := zH hRes;go_in;go_wp2_with fail;go_loopw [5, 8] (fun _ s8 wr => ∃ j : Nat, s8 = .int .i64 (j : Int) ∧ Hid (j ≤ l.length) ∧ Hid (l.any p = (l.drop j).any p) ∧ Hid (Below w.heap.size w wr)) (fun _ s8 _ => l.length - (intOf s8).toNat)
 case atStart => exact ⟨0, rfl, Nat.zero_le _, rfl, Below.refl _ _⟩
 case round =>
  obtain ⟨j, rfl, hjl, hrest, hBr⟩ := hrel;replace hjl := hjl.out;by_cases hin : j < l.length
  ·have tn : decide ((j : Int) < (l.length : Int)) = true := decide_eq_true zw
   have hge : l[j]? = some l[j] := List.getElem?_eq_getElem hin;obtain ⟨hk, b0, o0, hA0, hbl, hc⟩ := HI.out j _ hge;subst hA0;have hst : Hid ((l.drop j).any p = (p l[j] || (l.drop (j + 1)).any p)) := (show _ = _ from by rw [List.drop_eq_getElem_cons hin, List.any_cons])
   have hcall := hp.out wr l[j] (List.getElem_mem hin) hBr.out;clear hge;generalize l[j] = r at *;obtain ⟨y0, y1, rfl⟩ : ∃ y0 y1, r = [y0, y1] := by
    match r, hk with
    | [y0, y1], _ => exact ⟨y0, y1, rfl⟩
   obtain ⟨c0, c1⟩ := zR2 hBr.out hbl hc;have hcall : Calls Tryz.prog g (#[.agg #[y0, y1]] ++ lb) wr _ := hcall;have hcall2 := zH hcall;obtain ⟨F, hF⟩ : ∃ F, p [y0, y1] = F := ⟨_, rfl⟩;exact zt10
  ·exact zt37
theorem zz4x (g : Nat) (lb : Array Value) (eg : ∀ args w, (callFunc g args).run Tryz.prog w = .ok (.enter g args) w) (v : Value) (l : List (List Int)) (p : List Int → Bool) (w : World) (hv : Hid (RecAt w v 2 l)) (hl : l.length ≤ 1000000) (hp : Hid (PredOn g lb l p w)) :
  Calls Tryz.prog 70 #[v, .func (.func g) #[] lb] w fun e w' => e = .returned (.bool (l.any p)) ∧ Below w.heap.size w w' := by
 have q := zH (zz7c g lb eg v l p w hv hl hp);exact zt33
theorem zz69 (g : Nat) (lb : Array Value) (eg : ∀ args w, (callFunc g args).run Tryz.prog w = .ok (.enter g args) w) (v : Value) (l : List (List Int)) (p : List Int → Bool) (w : World) (hv : Hid (RecAt w v 3 l)) (hl : l.length ≤ 1000000) (hp : Hid (PredOn g lb l p w)) :
  Calls Tryz.prog 139 #[v, .func (.func g) #[] lb] w fun e w' => ∃ i : Int, e = .returned (.int .i64 i) ∧ decide (0 ≤ i) = l.any p ∧ Below w.heap.size w w' := by
 obtain ⟨A, c, rfl, hi⟩ := hv.out;have HI := zH hi;clear hi hv;obtain ⟨Res, hRes⟩ : ∃ Res, l.any p = Res := ⟨_, rfl⟩;rw [hRes];replace hRes := zH hRes;go_in;go_wp2_with fail;go_loopw [5, 8] (fun _ s8 wr => ∃ j : Nat, s8 = .int .i64 (j : Int) ∧ Hid (j ≤ l.length) ∧ Hid (l.any p = (l.drop j).any p) ∧ Hid (Below w.heap.size w wr)) (fun _ s8 _ => l.length - (intOf s8).toNat)
 case atStart => exact ⟨0, rfl, Nat.zero_le _, rfl, Below.refl _ _⟩
 case round =>
  obtain ⟨j, rfl, hjl, hrest, hBr⟩ := hrel;replace hjl := hjl.out;by_cases hin : j < l.length
  ·have tn : decide ((j : Int) < (l.length : Int)) = true := decide_eq_true zw
   have hge : l[j]? = some l[j] := List.getElem?_eq_getElem hin;obtain ⟨hk, b0, o0, hA0, hbl, hc⟩ := HI.out j _ hge;subst hA0;have hst : Hid ((l.drop j).any p = (p l[j] || (l.drop (j + 1)).any p)) := (show _ = _ from by rw [List.drop_eq_getElem_cons hin, List.any_cons])
   have hcall := hp.out wr l[j] (List.getElem_mem hin) hBr.out;clear hge;generalize l[j] = r at *;obtain ⟨y0, y1, y2, rfl⟩ : ∃ y0 y1 y2, r = [y0, y1, y2] := by
    match r, hk with
    | [y0, y1, y2], _ => exact ⟨y0, y1, y2, rfl⟩
   obtain ⟨c0, c1, c2⟩ := zR3 hBr.out hbl hc;have hcall : Calls Tryz.prog g (#[.agg #[y0, y1, y2]] ++ lb) wr _ := hcall;have hcall2 := zH hcall;obtain ⟨F, hF⟩ : ∃ F, p [y0, y1, y2] = F := ⟨_, rfl⟩;exact zt10
  ·exact zt37
theorem zz3q (g : Nat) (lb : Array Value) (eg : ∀ args w, (callFunc g args).run Tryz.prog w = .ok (.enter g args) w) (v : Value) (l : List (List Int)) (p : List Int → Bool) (w : World) (hv : Hid (RecAt w v 3 l)) (hl : l.length ≤ 1000000) (hp : Hid (PredOn g lb l p w)) :
  Calls Tryz.prog 71 #[v, .func (.func g) #[] lb] w fun e w' => e = .returned (.bool (l.any p)) ∧ Below w.heap.size w w' := by
 have q := zH (zz69 g lb eg v l p w hv hl hp);exact zt33
end
section
open Go Go.RowKit
theorem BkOwn.form {w : World} {B : Nat} {v : Value} {b : Bk} (h : BkOwn w B v b) : ∃ A1 c1 A2 c2 A3 c3 A4 c4, v = .agg (BF A1 c1 A2 c2 A3 c3 A4 c4 b b.n) := by
 obtain ⟨vh, vs, vo, vr, rfl, h1, h2, h3, h4⟩ := h;obtain ⟨A1, c1, rfl⟩ := h1.form;obtain ⟨A2, c2, rfl⟩ := h2.form;obtain ⟨A3, c3, rfl⟩ := h3.form;obtain ⟨A4, c4, rfl⟩ := h4.form;exact ⟨A1, c1, A2, c2, A3, c3, A4, c4, rfl⟩
theorem zz16 {k : Nat} {l : List (List Int)} (h : ∀ r ∈ l, r.length = k) (E : List Int → Bool) : ∃ r F, r.length = k ∧ recOf k (l.find? E) = (r, F) := by
 cases hf : l.find? E with
 | none => exact ⟨_, _, List.length_replicate, rfl⟩
 | some r => exact ⟨r, true, h r (List.mem_of_find?_eq_some hf), rfl⟩
def thereB (b : Bk) (acc sym : Int) : Bool := (b.h.find? (isId acc)).isSome && (b.r.find? (isId sym)).isSome
def badH (r : List Int) : Bool := decide (r.getD 2 0 < 0) || decide (r.getD 3 0 < 0)
def badR (r : List Int) : Bool := decide (r.getD 1 0 < 1)
def badS (b : Bk) (r : List Int) : Bool := decide (r.getD 2 0 = 0) || !thereB b (r.getD 0 0) (r.getD 1 0)
def badO (b : Bk) (r : List Int) : Bool := decide (r.getD 4 0 < 1) || (decide (r.getD 5 0 < 1) || (decide (r.getD 3 0 < 0) || (decide (1 < r.getD 3 0) || !thereB b (r.getD 1 0) (r.getD 2 0))))
def Bk.listsB (b : Bk) : Bool := !decide (32 < b.h.length) && (!decide (64 < b.o.length) && (!decide (32 < b.r.length) && b.riseB))
def Bk.countB (b : Bk) : Bool := !decide (b.n < 0) && !decide (1099511627776 < b.n)
def Bk.mayB (b : Bk) : Bool := b.listsB && (b.countB && (!b.h.any badH && (!b.r.any badR && (!b.s.any (badS b) && !b.o.any (badO b)))))
theorem zz0q {k : Nat} {o : Option (List Int)} {r : List Int} {F : Bool} (h : recOf k o = (r, F)) : F = o.isSome := by
 cases o with
 | none => exact (congrArg Prod.snd h).symm
 | some x => exact (congrArg Prod.snd h).symm
theorem May2_any (x0 x1 x2 x3 : Int) (w : World) : Calls Tryz.prog 65 #[.agg #[x0, x1, x2, x3]] w fun e w' => e = .returned (.bool (badH [x0, x1, x2, x3])) ∧ Below w.heap.size w w' := by
 have hv : badH [x0, x1, x2, x3] = (decide (x2 < 0) || decide (x3 < 0)) := rfl
 rw [hv];clear hv;by_cases h2 : x2 < 0
 ·have t2 : decide (x2 < 0) = true := decide_eq_true h2
  rw [t2];clear h2;go_in;go_wp2_with fail;go_ret;exact ⟨rfl, zBa⟩
 ·have t2 : decide (x2 < 0) = false := decide_eq_false h2
  rw [t2];clear h2;go_in;go_wp2_with fail;go_ret;exact ⟨rfl, zBa⟩
theorem May3_any (x0 x1 : Int) (w : World) : Calls Tryz.prog 66 #[.agg #[x0, x1]] w fun e w' => e = .returned (.bool (badR [x0, x1])) ∧ Below w.heap.size w w' := by
 have hv : badR [x0, x1] = decide (x1 < 1) := rfl;rw [hv];clear hv;go_in;go_wp2_with fail;go_ret;exact ⟨rfl, zBa⟩
theorem zt102 {p : Prop} (h : p := by
 cases H0 with
 | false =>
  go_wp2_with fail;go_ret;exact ⟨rfl, HB2.out⟩
 | true =>
  go_wp2_with fail;go_ret;exact ⟨rfl, HB2.out⟩) : p := h
theorem zz96 (v : Value) (b : Bk) (g : Nat) (acc sym : Int) (w : World) (hb : Hid (BkAt w v b)) (hg : Hid (∃ cs, v = .agg cs ∧ w.heap[g]? = some (.cells cs 27 (0, 0)))) (hs : Hid b.Small) (hr : Hid b.Rise) :
  Calls Tryz.prog 62 #[.int .i64 acc, .int .i64 sym, .pointer (some ⟨g, 0, none⟩)] w fun e w' => e = .returned (.bool (thereB b acc sym)) ∧ Below w.heap.size w w' := by
 obtain ⟨vh, vs, vo, vr, rfl, r1, r2, r3, r4⟩ := hb.out;obtain ⟨_, he, hg'⟩ := hg.out;injection he with he
 subst he;have K0 := zH hg';have lh : ∀ r ∈ b.h, r.length = 4 := by obtain ⟨_, _, _, h, _⟩ := r1; exact h
 have lr : ∀ r ∈ b.r, r.length = 2 := by obtain ⟨_, _, _, h, _⟩ := r4; exact h
 obtain ⟨rh, H0, hl1, hx1⟩ := zz16 lh (isId acc);obtain ⟨rr, R0, hl3, hx3⟩ := zz16 lr (isId sym)
 match rh, rr, hl1, hl3, hx1, hx3 with
 | [h0, h1, h2, h3], [p0, p1], _, _, hx1, hx3 =>
 have hres : thereB b acc sym = (H0 && R0) := by unfold thereB; rw [zz0q hx1, zz0q hx3]
 rw [hres];have B0 : Hid (BkAt w (.agg #[vh, vs, vo, vr, b.n]) b) := hb;have HX1 := zH hx1;have HX3 := zH hx3;have F1 : b.h.length ≤ 1000000 := by have := hs.out; unfold Bk.Small at this; omega
 have F3 : b.r.length ≤ 1000000 := by have := hs.out; unfold Bk.Small at this; omega
 have HR1 := zH hr.out.1;have HR3 := zH hr.out.2.2.1;clear hb hg hg' r1 r2 r3 r4 lh lr hx1 hx3 hres hs hr;have a0 := zC K0.out;go_in;go_wp2_with fail;(with_reducible refine (zz2e _ b acc h0 h1 h2 h3 H0 _ B0 F1 HR1 HX1).mono ?_);rintro e w1 ⟨rfl, hb⟩;have K1 := zK K0 hb;have hb' := hb.trans ((zz01 (Below.refl w1.heap.size w1) (Nat.le_refl _) (.cells #[h0, h1, h2, h3] 78)).mono hb.size);have B1 := zH (B0.out.call hb');have HB1 := zH hb';clear hb hb' a0;have a0 := zC K1.out;have hgl : g < w1.heap.size := zL K1.out;go_wp2_with fail;(with_reducible refine (zz4t _ b sym p0 p1 R0 _ B1 F3 HR3 HX3).mono ?_);rintro e w2 ⟨rfl, hb⟩;have HB2 := zB HB1 hb;clear hb;exact zt102
theorem zt52 {p : Prop} (h : p := by
 go_in;go_wp2_with fail;(with_reducible refine q.out.mono ?_);rintro e w2 ⟨rfl, hb⟩;have HB2 := zB HB0 hb;clear hb;go_wp2_with fail;go_ret;exact ⟨by simp, HB2.out⟩) : p := h
theorem May4_any (v : Value) (b : Bk) (g p : Nat) (x0 x1 x2 : Int) (w : World) (hb : Hid (BkAt w v b)) (hg : Hid (∃ cs, v = .agg cs ∧ w.heap[g]? = some (.cells cs 27 (0, 0)))) (hp : ZB w p #[.func (.func 62) #[] #[.pointer (some ⟨g, 0, none⟩)]] 114) (hs : Hid b.Small) (hr : Hid b.Rise) :
  Calls Tryz.prog 67 #[.agg #[x0, x1, x2], .pointer (some ⟨p, 0, none⟩)] w fun e w' => e = .returned (.bool (badS b [x0, x1, x2])) ∧ Below w.heap.size w w' := by
 have hv : badS b [x0, x1, x2] = (decide (x2 = 0) || !thereB b x0 x1) := rfl
 rw [hv];clear hv;have HB0 : Hid (Below w.heap.size w (w.alloc (.cells #[x0, x1, x2] 80))) := zBa;have q := zH (zz96 v b g x0 x1 (w.alloc (.cells #[x0, x1, x2] 80)) (hb.out.call HB0.out) (by obtain ⟨cs, h1, h2⟩ := hg.out; exact ⟨cs, h1, zz06 h2 HB0.out⟩) hs hr)
 have c0 := zz00 hp.out 0 _ rfl;have hpl : p < w.heap.size := zL hp.out;obtain ⟨T, hT⟩ : ∃ T, thereB b x0 x1 = T := ⟨_, rfl⟩;rw [hT] at q ⊢;clear hT hb hg hs hr hp;by_cases h : x2 = 0
 ·have t0 : (x2 == 0) = true := by simp [h]
  rw [decide_eq_true h];clear h;go_in;go_wp2_with fail;go_ret;exact ⟨by simp, HB0.out⟩
 ·have tb : (x2 == 0) = false := by simp [h]
  rw [decide_eq_false h];clear h;cases T with
  | true =>
   exact zt52
  | false =>
   exact zt52
theorem May5_any (v : Value) (b : Bk) (g p : Nat) (x0 x1 x2 x3 x4 x5 : Int) (w : World) (hb : Hid (BkAt w v b)) (hg : Hid (∃ cs, v = .agg cs ∧ w.heap[g]? = some (.cells cs 27 (0, 0)))) (hp : ZB w p #[.func (.func 62) #[] #[.pointer (some ⟨g, 0, none⟩)]] 114) (hs : Hid b.Small) (hr : Hid b.Rise) :
  Calls Tryz.prog 68 #[.agg #[x0, x1, x2, x3, x4, x5], .pointer (some ⟨p, 0, none⟩)] w fun e w' => e = .returned (.bool (badO b [x0, x1, x2, x3, x4, x5])) ∧ Below w.heap.size w w' := by
 have hv : badO b [x0, x1, x2, x3, x4, x5] = (decide (x4 < 1) || (decide (x5 < 1) || (decide (x3 < 0) || (decide (1 < x3) || !thereB b x1 x2)))) := rfl
 rw [hv];clear hv;have HB0 : Hid (Below w.heap.size w (w.alloc (.cells #[x0, x1, x2, x3, x4, x5] 82))) := zBa;have q := zH (zz96 v b g x1 x2 (w.alloc (.cells #[x0, x1, x2, x3, x4, x5] 82)) (hb.out.call HB0.out) (by obtain ⟨cs, h1, h2⟩ := hg.out; exact ⟨cs, h1, zz06 h2 HB0.out⟩) hs hr)
 have c0 := zz00 hp.out 0 _ rfl;have hpl : p < w.heap.size := zL hp.out;obtain ⟨T, hT⟩ : ∃ T, thereB b x1 x2 = T := ⟨_, rfl⟩;rw [hT] at q ⊢;clear hT hb hg hs hr hp;by_cases h : x4 < 1
 ·have t0 : decide (x4 < 1) = true := decide_eq_true h
  rw [decide_eq_true h];clear h;go_in;go_wp2_with fail;go_ret;exact ⟨by simp, HB0.out⟩
 ·have tb : decide (x4 < 1) = false := decide_eq_false h
  rw [decide_eq_false h];clear h;by_cases h : x5 < 1
  ·have t0 : decide (x5 < 1) = true := decide_eq_true h
   rw [decide_eq_true h];clear h;go_in;go_wp2_with fail;go_ret;exact ⟨by simp, HB0.out⟩
  ·have tc : decide (x5 < 1) = false := decide_eq_false h
   rw [decide_eq_false h];clear h;by_cases h : x3 < 0
   ·have t0 : decide (x3 < 0) = true := decide_eq_true h
    rw [decide_eq_true h];clear h;go_in;go_wp2_with fail;go_ret;exact ⟨by simp, HB0.out⟩
   ·have td : decide (x3 < 0) = false := decide_eq_false h
    rw [decide_eq_false h];clear h;by_cases h : 1 < x3
    ·have t0 : decide (1 < x3) = true := decide_eq_true h
     rw [decide_eq_true h];clear h;go_in;go_wp2_with fail;go_ret;exact ⟨by simp, HB0.out⟩
    ·have te : decide (1 < x3) = false := decide_eq_false h
     rw [decide_eq_false h];clear h;cases T with
     | true =>
      exact zt52
     | false =>
      exact zt52
theorem zt56 {p : Prop} (h : p := by
 rw [decide_eq_true h] at hRes;have hR : Res = false := by rw [← hRes]; simp
 subst hR;clear h hRes;rw [← hw1'.out] at a0 a1 a2 a3 a4;go_in;go_wp2_with fail;go_ret;exact ⟨rfl, by have := HB.out; rw [← hw1'.out] at this; exact this⟩) : p := h
theorem lists_any (v : Value) (b : Bk) (w : World) (hb : Hid (BkAt w v b)) (hs : Hid b.Small) :
  Calls Tryz.prog 61 #[v] w fun e w' => e = .returned (.bool b.listsB) ∧ Below w.heap.size w w' := by
 obtain ⟨vh, vs, vo, vr, rfl, g1, g2, g3, g4⟩ := hb.out;obtain ⟨Ah, ch, rfl, _⟩ := g1;obtain ⟨As, cs, rfl, _⟩ := g2;obtain ⟨Ao, co, rfl, _⟩ := g3;obtain ⟨Ar, cr, rfl, _⟩ := g4;obtain ⟨w1, hw1⟩ : ∃ w1, w.alloc (.cells (BF Ah ch As cs Ao co Ar cr b b.n) 27) = w1 := ⟨_, rfl⟩;have HB : Hid (Below w.heap.size w w1) := by rw [← hw1]; exact zBa
 have K : ZB w1 w.heap.size (BF Ah ch As cs Ao co Ar cr b b.n) 27 := by rw [← hw1]; exact zz02 w _
 obtain ⟨_, _, _, _, hh, g1, g2, g3, g4⟩ := hb.out.call HB.out;injection hh with hh
 simp only [Array.mk.injEq, List.cons.injEq] at hh;obtain ⟨rfl, rfl, rfl, rfl, _⟩ := hh;have hl : b.h.length ≤ 1000000 ∧ b.s.length ≤ 1000000 ∧ b.o.length ≤ 1000000 ∧ b.r.length ≤ 1000000 := by have := hs.out; unfold Bk.Small at this; omega
 obtain ⟨hlh, hls, hlo, hlr⟩ := hl;have R1 := zH g1;have R2 := zH g3;have R3 := zH g4;have R4 := zH g2;obtain ⟨Res, hRes⟩ : ∃ Res, b.listsB = Res := ⟨_, rfl⟩;rw [hRes];unfold Bk.listsB Bk.riseB at hRes;have Q1 := zH (fun wz v hv => zz48 v b.h wz hv hlh)
 have Q2 := zH (fun wz v hv => zz5p v b.o wz hv hlo)
 have Q3 := zH (fun wz v hv => zz5o v b.r wz hv hlr)
 have Q4 := zH (fun wz v hv => zz50 v b.s wz hv hls)
 generalize riseHB b.h = rh at *;generalize riseHB b.o = ro at *;generalize riseHB b.r = rr at *;generalize riseSB b.s = rs at *;have hs1 := zL K.out;have hw1' := zH hw1;clear hb g1 g2 g3 g4 hw1 hs;have a0 := zz00 K.out 0 _ rfl;have a1 := zz00 K.out 1 _ rfl;have a2 := zz00 K.out 2 _ rfl;have a3 := zz00 K.out 3 _ rfl;have a4 := zz00 K.out 4 _ rfl;by_cases h : 32 < b.h.length
 ·have t0 : decide ((32 : Int) < (b.h.length : Int)) = true := decide_eq_true zw
  exact zt56
 have t0 : decide ((32 : Int) < (b.h.length : Int)) = false := decide_eq_false zw;rw [decide_eq_false h] at hRes;clear h;by_cases h : 64 < b.o.length
 ·have t0 : decide ((64 : Int) < (b.o.length : Int)) = true := decide_eq_true zw
  exact zt56
 have t1 : decide ((64 : Int) < (b.o.length : Int)) = false := decide_eq_false zw;rw [decide_eq_false h] at hRes;clear h;by_cases h : 32 < b.r.length
 ·have t0 : decide ((32 : Int) < (b.r.length : Int)) = true := decide_eq_true zw
  exact zt56
 have t2 : decide ((32 : Int) < (b.r.length : Int)) = false := decide_eq_false zw;rw [decide_eq_false h] at hRes;clear h;rw [Bool.not_false, Bool.true_and, Bool.true_and, Bool.true_and] at hRes;replace hRes := zH hRes;rw [← hw1'.out] at a0 a1 a2 a3 a4;go_in;go_wp2_with fail;clear t0 t1 t2;rw [hw1'.out] at a0 a1 a2 a3 a4 ⊢;(with_reducible refine (Q1.out _ _ (zH R1.out.rec')).mono ?_);rintro e w2 ⟨rfl, hb⟩;have K2 := zK K hb;have HB2 := zB HB hb;replace R2 := zH (R2.out.call hb);replace R3 := zH (R3.out.call hb);replace R4 := zH (R4.out.call hb);clear hb a0 a1 a2 a3 a4;cases rh with
 | false =>
  have hR : Res = false := by rw [← hRes.out]; simp
  subst hR;clear hRes;go_wp2_with fail;go_ret;exact ⟨rfl, HB2.out⟩
 | true =>
 have a0 := zC K2.out;go_wp2_with fail;(with_reducible refine (Q2.out _ _ (zH R2.out.rec')).mono ?_);rintro e w3 ⟨rfl, hb⟩;have K3 := zK K2 hb;have HB3 := zB HB2 hb;replace R3 := zH (R3.out.call hb);replace R4 := zH (R4.out.call hb);clear hb a0;cases ro with
 | false =>
  have hR : Res = false := by rw [← hRes.out]; simp
  subst hR;clear hRes;go_wp2_with fail;go_ret;exact ⟨rfl, HB3.out⟩
 | true =>
 have a0 := zC K3.out;go_wp2_with fail;(with_reducible refine (Q3.out _ _ (zH R3.out.rec')).mono ?_);rintro e w4 ⟨rfl, hb⟩;have K4 := zK K3 hb;have HB4 := zB HB3 hb;replace R4 := zH (R4.out.call hb);clear hb a0;cases rr with
 | false =>
  have hR : Res = false := by rw [← hRes.out]; simp
  subst hR;clear hRes;go_wp2_with fail;go_ret;exact ⟨rfl, HB4.out⟩
 | true =>
 have a0 := zC K4.out;go_wp2_with fail;(with_reducible refine (Q4.out _ _ (zH R4.out.rec')).mono ?_);rintro e w5 ⟨rfl, hb⟩;have K5 := zK K4 hb;have HB5 := zB HB4 hb;clear hb a0;have hR : Res = rs := by rw [← hRes.out]; simp
 subst hR;clear hRes;go_wp2_with fail;go_ret;exact ⟨rfl, HB5.out⟩
theorem badH_pred (b : Bk) (w : World) (hk : ∀ r ∈ b.h, r.length = 4) : PredOn 65 #[] b.h badH w := fun W r hr hB => by
 match r, hk r hr with
 | [x0, x1, x2, x3], _ => exact May2_any x0 x1 x2 x3 W
theorem badR_pred (b : Bk) (w : World) (hk : ∀ r ∈ b.r, r.length = 2) : PredOn 66 #[] b.r badR w := fun W r hr hB => by
 match r, hk r hr with
 | [x0, x1], _ => exact May3_any x0 x1 W
theorem badS_pred (v : Value) (b : Bk) (g p : Nat) (w : World) (hb : Hid (BkAt w v b)) (hg : Hid (∃ cs, v = .agg cs ∧ w.heap[g]? = some (.cells cs 27 (0, 0)))) (hp : ZB w p #[.func (.func 62) #[] #[.pointer (some ⟨g, 0, none⟩)]] 114) (hs : Hid b.Small) (hr : Hid b.Rise) (hk : ∀ r ∈ b.s, r.length = 3) :
  PredOn 67 #[.pointer (some ⟨p, 0, none⟩)] b.s (badS b) w := fun W r hr' hB => by
 match r, hk r hr' with
 | [x0, x1, x2], _ => exact May4_any v b g p x0 x1 x2 W (hb.out.call hB) (by obtain ⟨cs, h1, h2⟩ := hg.out; exact ⟨cs, h1, zz06 h2 hB⟩) (zz06 hp.out hB) hs hr
theorem badO_pred (v : Value) (b : Bk) (g p : Nat) (w : World) (hb : Hid (BkAt w v b)) (hg : Hid (∃ cs, v = .agg cs ∧ w.heap[g]? = some (.cells cs 27 (0, 0)))) (hp : ZB w p #[.func (.func 62) #[] #[.pointer (some ⟨g, 0, none⟩)]] 114) (hs : Hid b.Small) (hr : Hid b.Rise) (hk : ∀ r ∈ b.o, r.length = 6) :
  PredOn 68 #[.pointer (some ⟨p, 0, none⟩)] b.o (badO b) w := fun W r hr' hB => by
 match r, hk r hr' with
 | [x0, x1, x2, x3, x4, x5], _ => exact May5_any v b g p x0 x1 x2 x3 x4 x5 W (hb.out.call hB) (by obtain ⟨cs, h1, h2⟩ := hg.out; exact ⟨cs, h1, zz06 h2 hB⟩) (zz06 hp.out hB) hs hr
theorem zz5b {b : Bk} (h : b.listsB = true) : b.Rise := by
 unfold Bk.listsB at h;simp only [Bool.and_eq_true] at h;exact (Bk.riseB_iff b).1 h.2.2.2
theorem zz24 (v : Value) (b : Bk) (w : World) (hb : Hid (BkAt w v b)) (hs : Hid b.Small) :
  Calls Tryz.prog 27 #[v] w fun e w' => e = .returned (.bool b.mayB) ∧ Below w.heap.size w w' := by
 obtain ⟨vh, vs, vo, vr, rfl, g1, g2, g3, g4⟩ := hb.out;obtain ⟨Ah, ch, rfl, kh, _⟩ := g1;obtain ⟨As, cs, rfl, ks, _⟩ := g2;obtain ⟨Ao, co, rfl, ko, _⟩ := g3;obtain ⟨Ar, cr, rfl, kr, _⟩ := g4;obtain ⟨w1, hw1⟩ : ∃ w1, w.alloc (.cells (BF Ah ch As cs Ao co Ar cr b b.n) 27) = w1 := ⟨_, rfl⟩;have HB : Hid (Below w.heap.size w w1) := by rw [← hw1]; exact zBa
 have K : ZB w1 w.heap.size (BF Ah ch As cs Ao co Ar cr b b.n) 27 := by rw [← hw1]; exact zz02 w _
 have BA := zH (hb.out.call HB.out);have hl : b.h.length ≤ 1000000 ∧ b.s.length ≤ 1000000 ∧ b.o.length ≤ 1000000 ∧ b.r.length ≤ 1000000 := by have := hs.out; unfold Bk.Small at this; omega
 obtain ⟨hlh, hls, hlo, hlr⟩ := hl;have KH := zH kh;have KS := zH ks;have KO := zH ko;have KR := zH kr;obtain ⟨Res, hRes⟩ : ∃ Res, b.mayB = Res := ⟨_, rfl⟩;rw [hRes];unfold Bk.mayB Bk.countB at hRes;replace hRes := zH hRes;replace hw1 := zH hw1;clear hb kh ks ko kr;have a0 := zz00 K.out 0 _ rfl;have a1 := zz00 K.out 1 _ rfl;have a2 := zz00 K.out 2 _ rfl;have a3 := zz00 K.out 3 _ rfl;have a4 := zz00 K.out 4 _ rfl;rw [← hw1.out] at a0 a1 a2 a3 a4;go_in;go_wp2_with fail;rw [hw1.out] at a0 a1 a2 a3 a4 ⊢;(with_reducible refine (lists_any _ b _ BA hs).mono ?_);rintro e w2 ⟨rfl, hb⟩;have K2 := zK K hb;have BA2 := zH (BA.out.call hb);have HB2 := zB HB hb;clear hb a0 a1 a2 a3 a4;have a0 := zC K2.out;have l2 := zL K2.out;cases hL : b.listsB with
 | false =>
  have hR : Res = false := by rw [← hRes.out, hL]; simp
  subst hR;clear hRes hL;go_wp2_with fail;go_ret;exact ⟨rfl, HB2.out⟩
 | true =>
 have HR := zH (zz5b hL);rw [hL, Bool.true_and] at hRes;clear hL;by_cases h0 : b.n < 0
 ·have t0 : decide (b.n < 0) = true := decide_eq_true h0
  have hR : Res = false := by rw [← hRes.out, t0]; simp
  subst hR;clear hRes h0;go_wp2_with fail;go_ret;exact ⟨rfl, HB2.out⟩
 have t0 : decide (b.n < 0) = false := decide_eq_false h0;by_cases h1 : 1099511627776 < b.n
 ·have t1 : decide (1099511627776 < b.n) = true := decide_eq_true h1
  have hR : Res = false := by rw [← hRes.out, t1]; simp
  subst hR;clear hRes h0 h1;go_wp2_with fail;go_ret;exact ⟨rfl, HB2.out⟩
 have t1 : decide (1099511627776 < b.n) = false := decide_eq_false h1;rw [t0, t1, Bool.not_false, Bool.true_and, Bool.true_and] at hRes;clear h0 h1;obtain ⟨w3, hw3⟩ : ∃ w3, w2.alloc (.cells #[.func (.func 62) #[] #[.pointer (some ⟨w.heap.size, 0, none⟩)]] 114) = w3 := ⟨_, rfl⟩;have hb := zM0 hw3;have K3 := zK K2 hb;have BA3 := zH (BA2.out.call hb);have HB3 := zB HB2 hb;have P3 : ZB w3 w2.heap.size #[.func (.func 62) #[] #[.pointer (some ⟨w.heap.size, 0, none⟩)]] 114 := by rw [← hw3]; exact zz02 _ _
 replace hw3 := zH hw3;clear hb;have hst := fun (a : Addr) (c : Array Value) (wz : World) => run_store Tryz.prog wz a (.func (.func 62) #[] c) .plain rfl
 go_wp2_with fail;rw [hw3.out];clear a0 t0 t1;have hrow : Hid (RecAt w3 (.slice Ah b.h.length ch) 4 b.h) := by
  obtain ⟨_, _, _, _, hh, r1, r2, r3, r4⟩ := BA3.out;injection hh with hh
  simp only [Array.mk.injEq, List.cons.injEq] at hh;obtain ⟨rfl, rfl, rfl, rfl, _⟩ := hh;exact r1.rec'
 have q := zH (zz3j 65 #[] (enters_of Tryz.func65 zk rfl) (.slice Ah b.h.length ch) b.h (badH) w3 hrow hlh (badH_pred b _ KH.out));have a0 := zC K3.out;obtain ⟨F, hF⟩ : ∃ F, b.h.any (badH) = F := ⟨_, rfl⟩;rw [hF] at q hRes;clear hF hrow;go_wp2_with fail;(with_reducible refine q.out.mono ?_);rintro e w4 ⟨rfl, hb⟩;have K4 := zK K3 hb;have P4 := zK P3 hb;have BA4 := zH (BA3.out.call hb);have HB4 := zB HB3 hb;clear hb q a0;cases F with
 | true =>
  have hR : Res = false := by rw [← hRes.out]; simp
  subst hR;clear hRes;go_wp2_with fail;go_ret;exact ⟨rfl, HB4.out⟩
 | false =>
 rw [Bool.not_false, Bool.true_and] at hRes;have hrow : Hid (RecAt w4 (.slice Ar b.r.length cr) 2 b.r) := by
  obtain ⟨_, _, _, _, hh, r1, r2, r3, r4⟩ := BA4.out;injection hh with hh
  simp only [Array.mk.injEq, List.cons.injEq] at hh;obtain ⟨rfl, rfl, rfl, rfl, _⟩ := hh;exact r4.rec'
 have q := zH (zz4x 66 #[] (enters_of Tryz.func66 zk rfl) (.slice Ar b.r.length cr) b.r (badR) w4 hrow hlr (badR_pred b _ KR.out));have a0 := zC K4.out;obtain ⟨F, hF⟩ : ∃ F, b.r.any (badR) = F := ⟨_, rfl⟩;rw [hF] at q hRes;clear hF hrow;go_wp2_with fail;(with_reducible refine q.out.mono ?_);rintro e w5 ⟨rfl, hb⟩;have K5 := zK K4 hb;have P5 := zK P4 hb;have BA5 := zH (BA4.out.call hb);have HB5 := zB HB4 hb;clear hb q a0;cases F with
 | true =>
  have hR : Res = false := by rw [← hRes.out]; simp
  subst hR;clear hRes;go_wp2_with fail;go_ret;exact ⟨rfl, HB5.out⟩
 | false =>
 rw [Bool.not_false, Bool.true_and] at hRes;have hrow : Hid (RecAt w5 (.slice As b.s.length cs) 3 b.s) := by
  obtain ⟨_, _, _, _, hh, r1, r2, r3, r4⟩ := BA5.out;injection hh with hh
  simp only [Array.mk.injEq, List.cons.injEq] at hh;obtain ⟨rfl, rfl, rfl, rfl, _⟩ := hh;exact r2.rec'
 have q := zH (zz3q 67 #[.pointer (some ⟨w2.heap.size, 0, none⟩)] (enters_of Tryz.func67 zk rfl) (.slice As b.s.length cs) b.s (badS b) w5 hrow hls (badS_pred _ b _ _ _ BA5 ⟨_, rfl, K5.out⟩ P5 hs HR KS.out));have a0 := zC K5.out;obtain ⟨F, hF⟩ : ∃ F, b.s.any (badS b) = F := ⟨_, rfl⟩;rw [hF] at q hRes;clear hF hrow;go_wp2_with fail;(with_reducible refine q.out.mono ?_);rintro e w6 ⟨rfl, hb⟩;have K6 := zK K5 hb;have P6 := zK P5 hb;have BA6 := zH (BA5.out.call hb);have HB6 := zB HB5 hb;clear hb q a0;cases F with
 | true =>
  have hR : Res = false := by rw [← hRes.out]; simp
  subst hR;clear hRes;go_wp2_with fail;go_ret;exact ⟨rfl, HB6.out⟩
 | false =>
 rw [Bool.not_false, Bool.true_and] at hRes;have hrow : Hid (RecAt w6 (.slice Ao b.o.length co) 6 b.o) := by
  obtain ⟨_, _, _, _, hh, r1, r2, r3, r4⟩ := BA6.out;injection hh with hh
  simp only [Array.mk.injEq, List.cons.injEq] at hh;obtain ⟨rfl, rfl, rfl, rfl, _⟩ := hh;exact r3.rec'
 have q := zH (zz4y 68 #[.pointer (some ⟨w2.heap.size, 0, none⟩)] (enters_of Tryz.func68 zk rfl) (.slice Ao b.o.length co) b.o (badO b) w6 hrow hlo (badO_pred _ b _ _ _ BA6 ⟨_, rfl, K6.out⟩ P6 hs HR KO.out));have a0 := zC K6.out;obtain ⟨F, hF⟩ : ∃ F, b.o.any (badO b) = F := ⟨_, rfl⟩;rw [hF] at q hRes;clear hF hrow;go_wp2_with fail;(with_reducible refine q.out.mono ?_);rintro e w7 ⟨rfl, hb⟩;have K7 := zK K6 hb;have P7 := zK P6 hb;have BA7 := zH (BA6.out.call hb);have HB7 := zB HB6 hb;clear hb q a0;cases F with
 | true =>
  have hR : Res = false := by rw [← hRes.out]; rfl
  subst hR;clear hRes;go_wp2_with fail;go_ret;exact ⟨rfl, HB7.out⟩
 | false =>
  have hR : Res = true := by rw [← hRes.out]; rfl
  subst hR;clear hRes;go_wp2_with fail;go_ret;exact ⟨rfl, HB7.out⟩
end
end Go.Proofs.YtajogedbacpohaaGreatDoor
namespace Go.Proofs.YtajogedbacpohaaGreatDoor
open Go
namespace Bg
def pv (f : Nat → Nat) : Nat → Nat
 | 0 => 0
 | n + 1 => pv f n + f n * 10000 ^ n
structure Dg (f : Nat → Nat) (n : Nat) : Prop where
 lt : ∀ i, f i < 10000
 zero : ∀ i, n ≤ i → f i = 0
structure Canon (f : Nat → Nat) (n : Nat) : Prop extends Dg f n where
 top : n = 0 ∨ f (n - 1) ≠ 0
theorem zz3e {f g : Nat → Nat} : ∀ n, (∀ i, i < n → f i = g i) → pv f n = pv g n
 | 0, _ => rfl
 | n + 1, h => by unfold pv; rw [zz3e n (fun i hi => h i zw), h n zw]
theorem zz28 {f : Nat → Nat} {n : Nat} (h : ∀ i, n ≤ i → f i = 0) : ∀ m, n ≤ m → pv f m = pv f n
 | 0, hm => by obtain rfl : n = 0 := by omega
               rfl
 | m + 1, hm => by
  by_cases e : n = m + 1
  ·rw [e]
  ·show pv f m + f m * 10000 ^ m = _
   rw [zz28 h m zw, h m zw]; omega
theorem pv_lt {f : Nat → Nat} : ∀ n, (∀ i, i < n → f i < 10000) → pv f n < 10000 ^ n
 | 0, _ => Nat.one_pos
 | n + 1, h => by
  have h1 := pv_lt n (fun i hi => h i zw)
  have h2 := h n zw;have h3 : f n * 10000 ^ n ≤ 9999 * 10000 ^ n := Nat.mul_le_mul_right _ zw;show pv f n + f n * 10000 ^ n < 10000 ^ (n + 1);rw [Nat.pow_succ]; omega
theorem zzay {a b : Nat → Nat} {i : Nat} (ha : ∀ i, a i < 10000) (hi : a i < b i) : ∀ n, i < n → (∀ j, i < j → j < n → a j = b j) → pv a n < pv b n
 | 0, h, _ => by omega
 | n + 1, h, he => by
  show pv a n + a n * 10000 ^ n < pv b n + b n * 10000 ^ n;by_cases e : i = n
  ·subst e
   have h1 := pv_lt i (fun j _ => ha j)
   have h2 : (a i + 1) * 10000 ^ i ≤ b i * 10000 ^ i := Nat.mul_le_mul_right _ hi;rw [Nat.add_mul] at h2;omega
  ·have := zzay ha hi n zw (fun j h1 h2 => he j h1 zw)
   rw [he n zw zw];omega
theorem pv_top {f : Nat → Nat} {n : Nat} (h : Canon f n) (hn : 0 < n) : 10000 ^ (n - 1) ≤ pv f n := by
 obtain ⟨k, rfl⟩ : ∃ k, n = k + 1 := ⟨n - 1, by omega⟩
 have h1 := h.top;simp only [Nat.add_sub_cancel] at h1 ⊢;have h2 : 1 * 10000 ^ k ≤ f k * 10000 ^ k := Nat.mul_le_mul_right _ zw;show _ ≤ pv f k + f k * 10000 ^ k;omega
theorem zz1q {f : Nat → Nat} {n k : Nat} (h : Canon f n) (hv : pv f n < 10000 ^ k) : n ≤ k := by
 by_cases hn : n = 0
 ·omega
 ·have h1 := pv_top h zw
  have h2 : 10000 ^ (n - 1) < 10000 ^ k := by omega
  have h3 := (Nat.pow_lt_pow_iff_right (by decide : 1 < 10000)).1 h2
  omega
theorem canon_pos {f : Nat → Nat} {n : Nat} (h : Canon f n) : pv f n = 0 ↔ n = 0 := by
 constructor
 ·intro h0
  by_cases hn : n = 0
  ·exact hn
  ·have h1 := pv_top h zw
   have h2 : 0 < 10000 ^ (n - 1) := Nat.pow_pos zx;omega
 ·intro h0; subst h0; rfl
def dg (ds : List Nat) (i : Nat) : Nat := ds.getD i 0
def vl (ds : List Nat) : Nat := pv (dg ds) ds.length
theorem zz87 (ds : List Nat) (d i : Nat) (h : i < ds.length) : dg (ds ++ [d]) i = dg ds i := by
 unfold dg; simp [List.getD, List.getElem?_append_left h]
theorem zz4o (ds : List Nat) (d : Nat) : dg (ds ++ [d]) ds.length = d := by
 unfold dg; simp [List.getD]
theorem zz3r (ds : List Nat) (d : Nat) : vl (ds ++ [d]) = vl ds + d * 10000 ^ ds.length := by
 unfold vl;rw [List.length_append];show pv _ ds.length + _ = _;rw [zz4o, zz3e ds.length (fun i hi => zz87 ds d i hi)]
theorem vl_nil : vl [] = 0 := rfl
theorem dg_zero (ds : List Nat) (i : Nat) (h : ds.length ≤ i) : dg ds i = 0 := by
 unfold dg; simp [List.getD, List.getElem?_eq_none h]
theorem dg_dg {ds : List Nat} (h : ∀ d ∈ ds, d < 10000) : Dg (dg ds) ds.length := ⟨fun i => by
 by_cases hi : i < ds.length
 ·unfold dg; simp only [List.getD, List.getElem?_eq_getElem hi, Option.getD_some]; exact h _ (List.getElem_mem hi)
 ·rw [dg_zero ds i zw]; decide, dg_zero ds⟩
def cut (f : Nat → Nat) (m i : Nat) : Nat := if i < m then f i else 0
theorem dg_cut {f : Nat → Nat} {n m : Nat} (h : Dg f n) : Dg (cut f m) m := ⟨fun i => by unfold cut; split; exact h.lt i; decide, fun i hi => by unfold cut; rw [if_neg zw]⟩
theorem pv_cut (f : Nat → Nat) (m : Nat) : pv (cut f m) m = pv f m := zz3e m fun i hi => by unfold cut; rw [if_pos hi]
theorem add_step {o A B c q x y : Nat} (h : o + c * q = A + B) : o + (x + y + c) % 10000 * q + (x + y + c) / 10000 * (q * 10000) = A + x * q + (B + y * q) := by
 have h1 := Nat.div_add_mod (x + y + c) 10000;generalize (x + y + c) % 10000 = m at *;generalize (x + y + c) / 10000 = d at *;have h2 : (10000 * d + m) * q = (x + y + c) * q := by rw [h1]
 grind
theorem zzad {o A B c q x y : Nat} (h : o + B = A + c * q) (hc : c ≤ 1) (hx : x < 10000) (hy : y < 10000) :
  (y + c ≤ x → o + (x - y - c) * q + (B + y * q) = A + x * q + 0 * (q * 10000)) ∧ (x < y + c → o + (x + 10000 - y - c) * q + (B + y * q) = A + x * q + 1 * (q * 10000)) := by
 constructor
 ·intro h1
  obtain ⟨t, ht⟩ : ∃ t, x = t + y + c := ⟨x - y - c, by omega⟩
  rw [show x - y - c = t by omega, ht]
  grind
 ·intro h1
  obtain ⟨t, ht⟩ : ∃ t, x + 10000 = t + y + c := ⟨x + 10000 - y - c, by omega⟩
  rw [show x + 10000 - y - c = t by omega]
  have h2 : (x + 10000) * q = (t + y + c) * q := by rw [ht]
  grind
end Bg
end Go.Proofs.YtajogedbacpohaaGreatDoor
namespace Go.Proofs.YtajogedbacpohaaGreatDoor
open Go
namespace Mon
abbrev M : Int := 18446744073709551616
abbrev M3 : Int := 6277101735386680763835789423207666416102355444464034512896
def w0 (V : Int) : Int := V % M
def w1 (V : Int) : Int := V / M % M
def w2 (V : Int) : Int := V / M / M
def Ok (V : Int) : Prop := 0 ≤ V ∧ V < M3
def sg (V : Int) : Int := if V < 3138550867693340381917894711603833208051177722232017256448 then V else V - M3
def fits (x : Int) : Bool := decide (-9223372036854775808 ≤ x) && decide (x ≤ 9223372036854775807)
def total (V : Int) : Int × Bool := if fits (sg V) then (sg V, true) else (0, false)
def share (V r : Int) : Int × Bool :=
 if V < 3138550867693340381917894711603833208051177722232017256448 ∧ 0 ≤ r ∧ r ≤ 1000 then
  (if ((V * r) % M3 + 99) % M3 / 100 ≤ 9223372036854775807 then (((V * r) % M3 + 99) % M3 / 100, true) else (0, false))
 else (0, false)
theorem w_ok {V : Int} (h : Ok V) : (0 ≤ w0 V ∧ w0 V < M) ∧ (0 ≤ w1 V ∧ w1 V < M) ∧ (0 ≤ w2 V ∧ w2 V < M) := by
 obtain ⟨a, b⟩ := h;unfold w0 w1 w2 M M3 at *;omega
theorem w_back {V : Int} (h : Ok V) : w0 V + w1 V * M + w2 V * (M * M) = V := by
 obtain ⟨a, b⟩ := h;unfold w0 w1 w2 M M3 at *;omega
theorem w_of {V a b c : Int} (ha : 0 ≤ a ∧ a < M) (hb : 0 ≤ b ∧ b < M) (hc : 0 ≤ c ∧ c < M) (h : V = a + b * M + c * (M * M)) : w0 V = a ∧ w1 V = b ∧ w2 V = c ∧ Ok V := by
 unfold w0 w1 w2 Ok M M3 at *;omega
theorem add_words {a b c d e f : Int} (ha : 0 ≤ a ∧ a < M) (hb : 0 ≤ b ∧ b < M) (hc : 0 ≤ c ∧ c < M) (hd : 0 ≤ d ∧ d < M) (he : 0 ≤ e ∧ e < M) (hf : 0 ≤ f ∧ f < M) :
  (a + b * M + c * (M * M) + (d + e * M + f * (M * M))) % M3 =
   (a + d) % M + ((b + e + (a + d) / M) % M) * M + ((c + f + (b + e + (a + d) / M) / M) % M) * (M * M) := by
 unfold M M3 at *;omega
theorem neg_words {a b c : Int} (ha : 0 ≤ a ∧ a < M) (hb : 0 ≤ b ∧ b < M) (hc : 0 ≤ c ∧ c < M) :
  (M3 - (a + b * M + c * (M * M))) % M3 =
   (M - 1 - a + 1) % M + ((M - 1 - b + (M - 1 - a + 1) / M) % M) * M + ((M - 1 - c + (M - 1 - b + (M - 1 - a + 1) / M) / M) % M) * (M * M) := by
 unfold M M3 at *;omega
theorem div_words {a b c : Int} (ha : 0 ≤ a ∧ a < M) (hb : 0 ≤ b ∧ b < M) (hc : 0 ≤ c ∧ c < M) :
  (a + b * M + c * (M * M)) / 100 = (((c % 100) * M + b) % 100 * M + a) / 100 + (((c % 100) * M + b) / 100) * M + (c / 100) * (M * M) := by
 unfold M at *;omega
end Mon
section
open Go Go.RowKit Mon
theorem add64 (x y c : Int) (hx : 0 ≤ x) (hy : 0 ≤ y) (hc0 : 0 ≤ c) (hc : c ≤ 1) (w : World) : (callFunc 184 #[.int .u64 x, .int .u64 y, .int .u64 c]).run Tryz.prog w =
  .ok (.value (.tuple #[.int .u64 ((x + y + c) % 18446744073709551616), .int .u64 ((x + y + c) / 18446744073709551616)])) w := by
 rw [run_callFunc_extern Tryz.func184 zk zk zk (e := add64Entry) zk, run_add64 x y c hx hy hc0 hc]
 rfl
theorem zz7a (x y : Int) (hx : 0 ≤ x) (hy : 0 ≤ y) (w : World) : (callFunc 184 #[.int .u64 x, .int .u64 y, .int .u64 0]).run Tryz.prog w =
  .ok (.value (.tuple #[.int .u64 ((x + y) % 18446744073709551616), .int .u64 ((x + y) / 18446744073709551616)])) w := by
 simpa using add64 x y 0 hx hy (Int.le_refl 0) zx w
namespace Mul64
theorem maskN (a : Nat) (ha : a < 18446744073709551616) : bits .and .u64 (a : Int) 4294967295 = ((a % 4294967296 : Nat) : Int) := by
 have h := bits_and_u64_nat a 4294967295 ha zw;have e : a &&& 4294967295 = a % 4294967296 := Nat.and_two_pow_sub_one_eq_mod a 32;rw [e] at h;exact h
theorem divN (a : Nat) : (a : Int) / 4294967296 = ((a / 4294967296 : Nat) : Int) := by omega
theorem mulN (a b : Nat) : (a : Int) * (b : Int) = ((a * b : Nat) : Int) := (Int.natCast_mul a b).symm
theorem addN (a b : Nat) : (a : Int) + (b : Int) = ((a + b : Nat) : Int) := (Int.natCast_add a b).symm
theorem wrapN (a : Nat) (ha : a < 18446744073709551616) : IntKind.u64.wrap (a : Int) = (a : Int) := by rw [IntKind.wrap_u64]; omega
theorem wrapM (a : Nat) : IntKind.u64.wrap (a : Int) = ((a % 18446744073709551616 : Nat) : Int) := by rw [IntKind.wrap_u64]; omega
end Mul64
theorem mul64_nat (x y : Nat) (hx : x < 18446744073709551616) (hy : y < 18446744073709551616) (w : World) :
  Calls Tryz.prog 176 #[.int .u64 x, .int .u64 y] w fun e w' => e = .returned (.tuple #[.int .u64 ((x * y / 18446744073709551616 : Nat) : Int), .int .u64 ((x * y % 18446744073709551616 : Nat) : Int)]) ∧ w' = w := by
 obtain ⟨bd, bt, bw, hhi⟩ := Lib.mul64_hi x y hx hy;have ba := Lib.half_mul_le (a := x / 4294967296) (b := y / 4294967296) zw zw;have bb := Lib.half_mul_le (a := x / 4294967296) (b := y % 4294967296) zw zw;have bc := Lib.half_mul_le (a := x % 4294967296) (b := y / 4294967296) zw zw;have ba' : x / 4294967296 * (y / 4294967296) < 18446744073709551616 := by omega
 have bb' : x / 4294967296 * (y % 4294967296) < 18446744073709551616 := by omega
 have bc' : x % 4294967296 * (y / 4294967296) < 18446744073709551616 := by omega
 have bh1 : x / 4294967296 * (y / 4294967296) + (x / 4294967296 * (y % 4294967296) + x % 4294967296 * (y % 4294967296) / 4294967296) / 4294967296 < 18446744073709551616 := by omega
 have bh : x / 4294967296 * (y / 4294967296) + (x / 4294967296 * (y % 4294967296) + x % 4294967296 * (y % 4294967296) / 4294967296) / 4294967296 + ((x / 4294967296 * (y % 4294967296) + x % 4294967296 * (y % 4294967296) / 4294967296) % 4294967296 + x % 4294967296 * (y / 4294967296)) / 4294967296 < 18446744073709551616 := by omega
 go_in;go_wp2;simp only [Mul64.maskN x hx, Mul64.maskN y hy, Mul64.divN, Mul64.mulN, Mul64.addN, Mul64.wrapN _ bd, Mul64.wrapN _ bb', Mul64.wrapN _ bt, Mul64.maskN _ bt, Mul64.wrapN _ bc', Mul64.wrapN _ bw, Mul64.wrapN _ ba', Mul64.wrapN _ bh1, Mul64.wrapN _ bh, Mul64.wrapM (x * y)];rw [hhi];go_ret2;exact ⟨rfl, rfl⟩
theorem mul64 (x y : Int) (hx : 0 ≤ x ∧ x < M) (hy : 0 ≤ y ∧ y < M) (w : World) :
  Calls Tryz.prog 176 #[.int .u64 x, .int .u64 y] w fun e w' => e = .returned (.tuple #[.int .u64 (x * y / 18446744073709551616), .int .u64 (x * y % 18446744073709551616)]) ∧ w' = w := by
 obtain ⟨a, rfl⟩ := Int.eq_ofNat_of_zero_le hx.1;obtain ⟨b, rfl⟩ := Int.eq_ofNat_of_zero_le hy.1;have := mul64_nat a b (by unfold M at hx; omega) (by unfold M at hy; omega) w
 simpa using this
end
end Go.Proofs.YtajogedbacpohaaGreatDoor
