/- Part 6 of what the claim rests on. -/
import Derived.Test.YtajogedbacpohaaGreatDoorR00
import Derived.Test.YtajogedbacpohaaGreatDoorR04
import Derived.Shelf.GgClosure.Gives
set_option linter.unusedVariables false
set_option linter.unusedSimpArgs false
set_option maxRecDepth 1000000
set_option maxHeartbeats 32000000
namespace Go.Proofs.YtajogedbacpohaaGreatDoor
section
open Go Go.RowKit
def Bk.Fit (b : Bk) : Prop := b.h.length ≤ 40 ∧ b.o.length ≤ 70 ∧ b.r.length ≤ 40 ∧ b.s.length ≤ 200
theorem Bk.Fit.small {b : Bk} (h : b.Fit) : b.Small := by unfold Bk.Fit at h; unfold Bk.Small; omega
theorem Great_any (v : Value) (b : Bk) (w : World) (hb : Hid (BkAt w v b)) :
  Calls Tryz.prog 9 #[v] w fun e w' => ∃ g, e = .returned (.bool g) ∧ (g = false → b.Fit) ∧ Below w.heap.size w w' := by
 obtain ⟨vh, vs, vo, vr, rfl, ⟨Ah, ch, rfl, _⟩, ⟨As, cs, rfl, _⟩, ⟨Ao, co, rfl, _⟩, ⟨Ar, cr, rfl, _⟩⟩ := hb.out;have HB : Hid (Below w.heap.size w (w.alloc (.cells (BF Ah ch As cs Ao co Ar cr b b.n) 27))) := zBa;have k := zz02 w (.cells (BF Ah ch As cs Ao co Ar cr b b.n) 27);have c0 := zC k;clear k hb;by_cases h0 : 40 < b.h.length
 ·have t0 : decide ((40 : Int) < (b.h.length : Int)) = true := decide_eq_true zw
  clear h0;go_in;go_wp2_with fail;go_ret;exact ⟨_, rfl, fun h => (by cases h), HB.out⟩
 ·have t0 : decide ((40 : Int) < (b.h.length : Int)) = false := decide_eq_false zw
  by_cases h1 : 70 < b.o.length
  ·have t1 : decide ((70 : Int) < (b.o.length : Int)) = true := decide_eq_true zw
   clear h0 h1;go_in;go_wp2_with fail;go_ret;exact ⟨_, rfl, fun h => (by cases h), HB.out⟩
  ·have t1 : decide ((70 : Int) < (b.o.length : Int)) = false := decide_eq_false zw
   by_cases h2 : 40 < b.r.length
   ·have t2 : decide ((40 : Int) < (b.r.length : Int)) = true := decide_eq_true zw
    clear h0 h1 h2;go_in;go_wp2_with fail;go_ret;exact ⟨_, rfl, fun h => (by cases h), HB.out⟩
   ·have t2 : decide ((40 : Int) < (b.r.length : Int)) = false := decide_eq_false zw
    by_cases h3 : 200 < b.s.length
    ·have t3 : decide ((200 : Int) < (b.s.length : Int)) = true := decide_eq_true zw
     clear h0 h1 h2 h3;go_in;go_wp2_with fail;go_ret;exact ⟨_, rfl, fun h => (by cases h), HB.out⟩
    ·have t3 : decide ((200 : Int) < (b.s.length : Int)) = false := decide_eq_false zw
     have hf := zH (show b.Fit from ⟨by omega, by omega, by omega, by omega⟩)
     clear h0 h1 h2 h3;go_in;go_wp2_with fail;go_ret;exact ⟨_, rfl, fun _ => hf.out, HB.out⟩
def riseHB : List (List Int) → Bool
 | a :: b :: t => decide (a.headD 0 < b.headD 0) && riseHB (b :: t)
 | _ => true
def stLt' (a b : List Int) : Prop := a.headD 0 < b.headD 0 ∨ a.headD 0 = b.headD 0 ∧ a.tail.headD 0 < b.tail.headD 0
instance (a b : List Int) : Decidable (stLt' a b) := by unfold stLt'; infer_instance
def riseSB : List (List Int) → Bool
 | a :: b :: t => decide (stLt' a b) && riseSB (b :: t)
 | _ => true
theorem zz6n : ∀ (l : List (List Int)), riseHB l = true ↔ riseH l
 | [] => by simp [riseHB, riseH]
 | [a] => by simp [riseHB, riseH]
 | a :: b :: t => by
  rw [riseHB, Bool.and_eq_true, zz6n (b :: t), decide_eq_true_eq];unfold riseH;rw [List.pairwise_cons (a := a)];constructor
  ·rintro ⟨h1, h2⟩
   refine ⟨fun x hx => ?_, h2⟩
   rcases List.mem_cons.1 hx with rfl | hx
   ·exact h1
   ·have := (List.pairwise_cons.1 h2).1 x hx; omega
  ·rintro ⟨h1, h2⟩
   exact ⟨h1 b (by simp), h2⟩
theorem zz6l : ∀ (l : List (List Int)), riseSB l = true ↔ riseS l
 | [] => by simp [riseSB, riseS]
 | [a] => by simp [riseSB, riseS]
 | a :: b :: t => by
  rw [riseSB, Bool.and_eq_true, zz6l (b :: t), decide_eq_true_eq];unfold riseS;rw [List.pairwise_cons (a := a)];constructor
  ·rintro ⟨h1, h2⟩
   refine ⟨fun x hx => ?_, h2⟩
   rcases List.mem_cons.1 hx with rfl | hx
   ·exact h1
   ·have := (List.pairwise_cons.1 h2).1 x hx; unfold stLt at this ⊢; unfold stLt' at h1; omega
  ·rintro ⟨h1, h2⟩
   exact ⟨h1 b (by simp), h2⟩
theorem zzbo {α : Type} {l : List α} {i : Nat} {a b : α} (ha : l[i]? = some a) (hb : l[i + 1]? = some b) : l.drop i = a :: b :: l.drop (i + 2) := by
 obtain ⟨h1, rfl⟩ := List.getElem?_eq_some_iff.1 ha;obtain ⟨h2, rfl⟩ := List.getElem?_eq_some_iff.1 hb;rw [List.drop_eq_getElem_cons h1, List.drop_eq_getElem_cons h2]
theorem zz1f {l : List (List Int)} {i : Nat} {a b : List Int} (ha : l[i]? = some a) (hb : l[i + 1]? = some b) : riseHB (l.drop i) = (decide (a.headD 0 < b.headD 0) && riseHB (l.drop (i + 1))) := by
 rw [zzbo ha hb];obtain ⟨h2, rfl⟩ := List.getElem?_eq_some_iff.1 hb;rw [List.drop_eq_getElem_cons h2, riseHB]
theorem zz5b {l : List (List Int)} {i : Nat} {a b : List Int} (ha : l[i]? = some a) (hb : l[i + 1]? = some b) : riseSB (l.drop i) = (decide (stLt' a b) && riseSB (l.drop (i + 1))) := by
 rw [zzbo ha hb];obtain ⟨h2, rfl⟩ := List.getElem?_eq_some_iff.1 hb;rw [List.drop_eq_getElem_cons h2, riseSB]
theorem zz34 {l : List (List Int)} {i : Nat} (h : l.length ≤ i + 1) : riseHB (l.drop i) = true := by
 have : (l.drop i).length ≤ 1 := by simp; omega
 match l.drop i, this with
 | [], _ => rfl
 | [a], _ => rfl
theorem zz6m {l : List (List Int)} {i : Nat} (h : l.length ≤ i + 1) : riseSB (l.drop i) = true := by
 have : (l.drop i).length ≤ 1 := by simp; omega
 match l.drop i, this with
 | [], _ => rfl
 | [a], _ => rfl
def Bk.riseB (b : Bk) : Bool := riseHB b.h && (riseHB b.o && (riseHB b.r && riseSB b.s))
theorem Bk.riseB_iff (b : Bk) : b.riseB = true ↔ b.Rise := by
 unfold Bk.riseB Bk.Rise;simp only [Bool.and_eq_true, zz6n, zz6l]
theorem zt23 {p : Prop} (h : p := by
 go_wp2_with fail;go_quiet (fail);go_wp2_with fail;go_roundw
 case rel => exact ⟨j + 1, by go_num, by show _ ≤ _; omega, hst2.out, zz0b hBr.out _⟩
 case measure => simp [intOf]; omega) : p := h
theorem zt42 {p : Prop} (h : p := by
 replace hst := hst.out;rw [show decide (stLt' ([y0, y1, y2] : List Int) [z0, z1, z2]) = false from decide_eq_false (by unfold stLt'; simp only [List.headD_cons, List.tail_cons]; omega), Bool.false_and] at hst
 have hst2 := zH (hrest.out.trans hst);clear hst;go_wp2_with fail;go_region
 all_goals
  go_wp2_with fail;go_ret;have hR : Res = false := by simp only [← hRes.out, T0.out, T1.out, T2.out, hst2.out, Bool.false_and, Bool.and_false, Bool.true_and]
  subst hR;exact ⟨rfl, HB.out.trans ((zz01 (zz01 (Below.drew hBr.out) (by have := hBr.out.size; first | (simp; omega) | omega) _) (by have := hBr.out.size; first | (simp; omega) | omega) _).mono HB.out.size)⟩) : p := h
theorem zt45 {p : Prop} (h : p := by
 replace hst := hst.out;rw [show decide (stLt' ([y0, y1, y2] : List Int) [z0, z1, z2]) = true from decide_eq_true (by unfold stLt'; simp only [List.headD_cons, List.tail_cons]; omega), Bool.true_and] at hst
 have hst2 := zH (hrest.out.trans hst);clear hst;go_wp2_with fail;go_region
 all_goals
  go_wp2_with fail;go_roundw
  case rel => exact ⟨j + 1, by go_num, by show _ ≤ _; omega, hst2.out, zz01 (zz01 (Below.drew hBr.out) (by have := hBr.out.size; first | (simp; omega) | omega) _) (by have := hBr.out.size; first | (simp; omega) | omega) _⟩
  case measure => simp [intOf]; omega) : p := h
theorem rRise_any (v : Value) (b : Bk) (w : World) (hb : Hid (BkAt w v b)) (hs : Hid b.Small) :
  Calls Tryz.prog 50 #[v] w fun e w' => e = .returned (.bool b.riseB) ∧ Below w.heap.size w w' := by
 obtain ⟨vh, vs, vo, vr, rfl, g1, g2, g3, g4⟩ := hb.out;obtain ⟨Ah, ch, rfl, _⟩ := g1;obtain ⟨As, cs, rfl, _⟩ := g2;obtain ⟨Ao, co, rfl, _⟩ := g3;obtain ⟨Ar, cr, rfl, _⟩ := g4;obtain ⟨w1, hw1⟩ : ∃ w1, w.alloc (.cells (BF Ah ch As cs Ao co Ar cr b b.n) 27) = w1 := ⟨_, rfl⟩;have HB : Hid (Below w.heap.size w w1) := by rw [← hw1]; exact zBa
 have K : ZB w1 w.heap.size (BF Ah ch As cs Ao co Ar cr b b.n) 27 := by rw [← hw1]; exact zz02 w _
 obtain ⟨_, _, _, _, hh, g1, g2, g3, g4⟩ := hb.out.call HB.out;injection hh with hh
 simp only [Array.mk.injEq, List.cons.injEq] at hh;obtain ⟨rfl, rfl, rfl, rfl, _⟩ := hh;have R0 := zH g1.rec';have R1 := zH g2.rec';have R2 := zH g3.rec';have R3 := zH g4.rec';have hl : b.h.length ≤ 1000000 ∧ b.s.length ≤ 1000000 ∧ b.o.length ≤ 1000000 ∧ b.r.length ≤ 1000000 := by have := hs.out; unfold Bk.Small at this; omega
 obtain ⟨hlh, hls, hlo, hlr⟩ := hl;obtain ⟨Res, hRes⟩ : ∃ Res, b.riseB = Res := ⟨_, rfl⟩;rw [hRes];unfold Bk.riseB at hRes;replace hRes := zH hRes;have hw1' := zH hw1;clear hb g1 g2 g3 g4 hw1 hs;go_in;go_wp2_with fail;rw [hw1'.out];go_loopw [3] (fun s6 wr => ∃ j : Nat, s6 = .int .i64 ((j : Int) + 1) ∧ Hid (j ≤ b.h.length) ∧ Hid (riseHB b.h = riseHB (b.h.drop j)) ∧ Hid (Below w1.heap.size w1 wr)) (fun s6 _ => b.h.length + 1 - (intOf s6).toNat)
 case atStart => exact ⟨0, rfl, Nat.zero_le _, rfl, Below.refl _ _⟩
 case round =>
  obtain ⟨j, rfl, hjl, hrest, hBr⟩ := hrel;replace hjl := hjl.out;have cb := zz00 (zK K hBr.out).out 0 _ rfl;by_cases hin : j + 1 < b.h.length
  ·have tn : decide ((j : Int) + 1 < (b.h.length : Int)) = true := decide_eq_true zw
   have hge : b.h[j]? = some b.h[j] := List.getElem?_eq_getElem zw;have hge2 : b.h[j + 1]? = some b.h[j + 1] := List.getElem?_eq_getElem hin;obtain ⟨A', c', hA', hi⟩ := R0.out;injection hA' with hA1 hA2 hA3
   subst hA1 hA3;obtain ⟨hk, b0, o0, hA0, hbl, hc⟩ := hi j _ hge;obtain ⟨hk2, b0', o0', hA0', hbl', hc2⟩ := hi (j + 1) _ hge2;subst hA0;injection hA0' with hA0'
   injection hA0' with hx1 hx2
   subst hx1 hx2;have hst := zH (zz1f hge hge2);clear hA2 hge hge2 hi;generalize b.h[j] = r at *;generalize b.h[j + 1] = r2 at *;obtain ⟨y0, y1, y2, y3, rfl⟩ : ∃ y0 y1 y2 y3, r = [y0, y1, y2, y3] := by
    match r, hk with
    | [y0, y1, y2, y3], _ => exact ⟨y0, y1, y2, y3, rfl⟩
   obtain ⟨z0, z1, z2, z3, rfl⟩ : ∃ z0 z1 z2 z3, r2 = [z0, z1, z2, z3] := by
    match r2, hk2 with
    | [z0, z1, z2, z3], _ => exact ⟨z0, z1, z2, z3, rfl⟩
   have c0 : wr.cell? ⟨b0, o0 + j * 4, none⟩ = some (.int .i64 y0) := (hBr.out.cell (p := ⟨b0, o0 + j * 4 + 0, none⟩) hbl).trans (hc 0 _ rfl);have d0 : wr.cell? ⟨b0, o0 + (j + 1) * 4, none⟩ = some (.int .i64 z0) := (hBr.out.cell (p := ⟨b0, o0 + (j + 1) * 4 + 0, none⟩) hbl).trans (hc2 0 _ rfl);have hm0 : IntKind.i64.wrap ((j : Int) + 1 - 1) = (j : Int) := by rw [IntKind.wrap_i64]; omega
   have hm1 : (j : Int) + 1 - 1 = (j : Int) := by omega
   have htn : ((j : Int) + 1).toNat = j + 1 := by omega
   have hb1 : (0 : Int) ≤ (j : Int) + 1 := by omega
   have hb2 : (j : Int) + 1 < (b.h.length : Int) := by omega
   have hb3 : (j : Int) < (b.h.length : Int) := by omega
   have hmj : IntKind.i64.wrap (j : Int) = (j : Int) := by rw [IntKind.wrap_i64]; omega
   have hwl : w.heap.size < wr.heap.size := Nat.lt_of_lt_of_le (zL K.out) hBr.out.size;have hbl3 : b0 < wr.heap.size := Nat.lt_of_lt_of_le hbl hBr.out.size;have hw2 : IntKind.i64.wrap ((j : Int) + 1 + 1) = (j : Int) + 1 + 1 := by rw [IntKind.wrap_i64]; omega
   clear hc hc2 hk hk2;by_cases hlt : y0 < z0
   ·have tl : decide (z0 ≤ y0) = false := decide_eq_false zw
    have hlt' : ¬ z0 ≤ y0 := by omega
    replace hst := hst.out;rw [show decide (([y0, y1, y2, y3] : List Int).headD 0 < ([z0, z1, z2, z3] : List Int).headD 0) = true from decide_eq_true hlt, Bool.true_and] at hst
    have hst2 := zH (hrest.out.trans hst);clear hst hlt;exact zt23
   ·have tl : decide (z0 ≤ y0) = true := decide_eq_true zw
    have hlt' : z0 ≤ y0 := by omega
    replace hst := hst.out;rw [show decide (([y0, y1, y2, y3] : List Int).headD 0 < ([z0, z1, z2, z3] : List Int).headD 0) = false from decide_eq_false hlt, Bool.false_and] at hst
    have hst2 := zH (hrest.out.trans hst);clear hst hlt;go_wp2_with fail;go_quiet (fail);go_wp2_with fail;go_ret;have hR : Res = false := by simp only [← hRes.out, hst2.out, Bool.false_and, Bool.and_false, Bool.true_and]
    subst hR;exact ⟨rfl, HB.out.trans ((zz0b hBr.out _).mono HB.out.size)⟩
  ·have tn : decide ((j : Int) + 1 < (b.h.length : Int)) = false := decide_eq_false zw
   have T0 : Hid (riseHB b.h = true) := hrest.out.trans (zz34 zw);have hBr0 := hBr;clear hrest hBr hjl;go_wp2_with fail;go_loopw [4] (fun s6 wr => ∃ j : Nat, s6 = .int .i64 ((j : Int) + 1) ∧ Hid (j ≤ b.o.length) ∧ Hid (riseHB b.o = riseHB (b.o.drop j)) ∧ Hid (Below w1.heap.size w1 wr)) (fun s6 _ => b.o.length + 1 - (intOf s6).toNat)
   case atStart => exact ⟨0, rfl, Nat.zero_le _, rfl, hBr0.out⟩
   case round =>
    obtain ⟨j, rfl, hjl, hrest, hBr⟩ := hrel;replace hjl := hjl.out;have cb := zz00 (zK K hBr.out).out 2 _ rfl;by_cases hin : j + 1 < b.o.length
    ·have tn : decide ((j : Int) + 1 < (b.o.length : Int)) = true := decide_eq_true zw
     have hge : b.o[j]? = some b.o[j] := List.getElem?_eq_getElem zw;have hge2 : b.o[j + 1]? = some b.o[j + 1] := List.getElem?_eq_getElem hin;obtain ⟨A', c', hA', hi⟩ := R2.out;injection hA' with hA1 hA2 hA3
     subst hA1 hA3;obtain ⟨hk, b0, o0, hA0, hbl, hc⟩ := hi j _ hge;obtain ⟨hk2, b0', o0', hA0', hbl', hc2⟩ := hi (j + 1) _ hge2;subst hA0;injection hA0' with hA0'
     injection hA0' with hx1 hx2
     subst hx1 hx2;have hst := zH (zz1f hge hge2);clear hA2 hge hge2 hi;generalize b.o[j] = r at *;generalize b.o[j + 1] = r2 at *;obtain ⟨y0, y1, y2, y3, y4, y5, rfl⟩ : ∃ y0 y1 y2 y3 y4 y5, r = [y0, y1, y2, y3, y4, y5] := by
      match r, hk with
      | [y0, y1, y2, y3, y4, y5], _ => exact ⟨y0, y1, y2, y3, y4, y5, rfl⟩
     obtain ⟨z0, z1, z2, z3, z4, z5, rfl⟩ : ∃ z0 z1 z2 z3 z4 z5, r2 = [z0, z1, z2, z3, z4, z5] := by
      match r2, hk2 with
      | [z0, z1, z2, z3, z4, z5], _ => exact ⟨z0, z1, z2, z3, z4, z5, rfl⟩
     have c0 : wr.cell? ⟨b0, o0 + j * 6, none⟩ = some (.int .i64 y0) := (hBr.out.cell (p := ⟨b0, o0 + j * 6 + 0, none⟩) hbl).trans (hc 0 _ rfl);have d0 : wr.cell? ⟨b0, o0 + (j + 1) * 6, none⟩ = some (.int .i64 z0) := (hBr.out.cell (p := ⟨b0, o0 + (j + 1) * 6 + 0, none⟩) hbl).trans (hc2 0 _ rfl);have hm0 : IntKind.i64.wrap ((j : Int) + 1 - 1) = (j : Int) := by rw [IntKind.wrap_i64]; omega
     have hm1 : (j : Int) + 1 - 1 = (j : Int) := by omega
     have htn : ((j : Int) + 1).toNat = j + 1 := by omega
     have hb1 : (0 : Int) ≤ (j : Int) + 1 := by omega
     have hb2 : (j : Int) + 1 < (b.o.length : Int) := by omega
     have hb3 : (j : Int) < (b.o.length : Int) := by omega
     have hmj : IntKind.i64.wrap (j : Int) = (j : Int) := by rw [IntKind.wrap_i64]; omega
     have hwl : w.heap.size < wr.heap.size := Nat.lt_of_lt_of_le (zL K.out) hBr.out.size;have hbl3 : b0 < wr.heap.size := Nat.lt_of_lt_of_le hbl hBr.out.size;have hw2 : IntKind.i64.wrap ((j : Int) + 1 + 1) = (j : Int) + 1 + 1 := by rw [IntKind.wrap_i64]; omega
     clear hc hc2 hk hk2;by_cases hlt : y0 < z0
     ·have tl : decide (z0 ≤ y0) = false := decide_eq_false zw
      have hlt' : ¬ z0 ≤ y0 := by omega
      replace hst := hst.out;rw [show decide (([y0, y1, y2, y3, y4, y5] : List Int).headD 0 < ([z0, z1, z2, z3, z4, z5] : List Int).headD 0) = true from decide_eq_true hlt, Bool.true_and] at hst
      have hst2 := zH (hrest.out.trans hst);clear hst hlt;exact zt23
     ·have tl : decide (z0 ≤ y0) = true := decide_eq_true zw
      have hlt' : z0 ≤ y0 := by omega
      replace hst := hst.out;rw [show decide (([y0, y1, y2, y3, y4, y5] : List Int).headD 0 < ([z0, z1, z2, z3, z4, z5] : List Int).headD 0) = false from decide_eq_false hlt, Bool.false_and] at hst
      have hst2 := zH (hrest.out.trans hst);clear hst hlt;go_wp2_with fail;go_quiet (fail);go_wp2_with fail;go_ret;have hR : Res = false := by simp only [← hRes.out, T0.out, hst2.out, Bool.false_and, Bool.and_false, Bool.true_and]
      subst hR;exact ⟨rfl, HB.out.trans ((zz0b hBr.out _).mono HB.out.size)⟩
    ·have tn : decide ((j : Int) + 1 < (b.o.length : Int)) = false := decide_eq_false zw
     have T1 : Hid (riseHB b.o = true) := hrest.out.trans (zz34 zw);have hBr1 := hBr;clear hrest hBr hjl;go_wp2_with fail;go_loopw [5] (fun s6 wr => ∃ j : Nat, s6 = .int .i64 ((j : Int) + 1) ∧ Hid (j ≤ b.r.length) ∧ Hid (riseHB b.r = riseHB (b.r.drop j)) ∧ Hid (Below w1.heap.size w1 wr)) (fun s6 _ => b.r.length + 1 - (intOf s6).toNat)
     case atStart => exact ⟨0, rfl, Nat.zero_le _, rfl, hBr1.out⟩
     case round =>
      obtain ⟨j, rfl, hjl, hrest, hBr⟩ := hrel;replace hjl := hjl.out;have cb := zz00 (zK K hBr.out).out 3 _ rfl;by_cases hin : j + 1 < b.r.length
      ·have tn : decide ((j : Int) + 1 < (b.r.length : Int)) = true := decide_eq_true zw
       have hge : b.r[j]? = some b.r[j] := List.getElem?_eq_getElem zw;have hge2 : b.r[j + 1]? = some b.r[j + 1] := List.getElem?_eq_getElem hin;obtain ⟨A', c', hA', hi⟩ := R3.out;injection hA' with hA1 hA2 hA3
       subst hA1 hA3;obtain ⟨hk, b0, o0, hA0, hbl, hc⟩ := hi j _ hge;obtain ⟨hk2, b0', o0', hA0', hbl', hc2⟩ := hi (j + 1) _ hge2;subst hA0;injection hA0' with hA0'
       injection hA0' with hx1 hx2
       subst hx1 hx2;have hst := zH (zz1f hge hge2);clear hA2 hge hge2 hi;generalize b.r[j] = r at *;generalize b.r[j + 1] = r2 at *;obtain ⟨y0, y1, rfl⟩ : ∃ y0 y1, r = [y0, y1] := by
        match r, hk with
        | [y0, y1], _ => exact ⟨y0, y1, rfl⟩
       obtain ⟨z0, z1, rfl⟩ : ∃ z0 z1, r2 = [z0, z1] := by
        match r2, hk2 with
        | [z0, z1], _ => exact ⟨z0, z1, rfl⟩
       have c0 : wr.cell? ⟨b0, o0 + j * 2, none⟩ = some (.int .i64 y0) := (hBr.out.cell (p := ⟨b0, o0 + j * 2 + 0, none⟩) hbl).trans (hc 0 _ rfl);have d0 : wr.cell? ⟨b0, o0 + (j + 1) * 2, none⟩ = some (.int .i64 z0) := (hBr.out.cell (p := ⟨b0, o0 + (j + 1) * 2 + 0, none⟩) hbl).trans (hc2 0 _ rfl);have hm0 : IntKind.i64.wrap ((j : Int) + 1 - 1) = (j : Int) := by rw [IntKind.wrap_i64]; omega
       have hm1 : (j : Int) + 1 - 1 = (j : Int) := by omega
       have htn : ((j : Int) + 1).toNat = j + 1 := by omega
       have hb1 : (0 : Int) ≤ (j : Int) + 1 := by omega
       have hb2 : (j : Int) + 1 < (b.r.length : Int) := by omega
       have hb3 : (j : Int) < (b.r.length : Int) := by omega
       have hmj : IntKind.i64.wrap (j : Int) = (j : Int) := by rw [IntKind.wrap_i64]; omega
       have hwl : w.heap.size < wr.heap.size := Nat.lt_of_lt_of_le (zL K.out) hBr.out.size;have hbl3 : b0 < wr.heap.size := Nat.lt_of_lt_of_le hbl hBr.out.size;have hw2 : IntKind.i64.wrap ((j : Int) + 1 + 1) = (j : Int) + 1 + 1 := by rw [IntKind.wrap_i64]; omega
       clear hc hc2 hk hk2;by_cases hlt : y0 < z0
       ·have tl : decide (z0 ≤ y0) = false := decide_eq_false zw
        have hlt' : ¬ z0 ≤ y0 := by omega
        replace hst := hst.out;rw [show decide (([y0, y1] : List Int).headD 0 < ([z0, z1] : List Int).headD 0) = true from decide_eq_true hlt, Bool.true_and] at hst
        have hst2 := zH (hrest.out.trans hst);clear hst hlt;exact zt23
       ·have tl : decide (z0 ≤ y0) = true := decide_eq_true zw
        have hlt' : z0 ≤ y0 := by omega
        replace hst := hst.out;rw [show decide (([y0, y1] : List Int).headD 0 < ([z0, z1] : List Int).headD 0) = false from decide_eq_false hlt, Bool.false_and] at hst
        have hst2 := zH (hrest.out.trans hst);clear hst hlt;go_wp2_with fail;go_quiet (fail);go_wp2_with fail;go_ret;have hR : Res = false := by simp only [← hRes.out, T0.out, T1.out, hst2.out, Bool.false_and, Bool.and_false, Bool.true_and]
        subst hR;exact ⟨rfl, HB.out.trans ((zz0b hBr.out _).mono HB.out.size)⟩
      ·have tn : decide ((j : Int) + 1 < (b.r.length : Int)) = false := decide_eq_false zw
       have T2 : Hid (riseHB b.r = true) := hrest.out.trans (zz34 zw);have hBr2 := hBr;clear hrest hBr hjl;go_wp2_with fail;go_loopw [6] (fun s6 wr => ∃ j : Nat, s6 = .int .i64 ((j : Int) + 1) ∧ Hid (j ≤ b.s.length) ∧ Hid (riseSB b.s = riseSB (b.s.drop j)) ∧ Hid (Below w1.heap.size w1 wr)) (fun s6 _ => b.s.length + 1 - (intOf s6).toNat)
       case atStart => exact ⟨0, rfl, Nat.zero_le _, rfl, hBr2.out⟩
       case round =>
        obtain ⟨j, rfl, hjl, hrest, hBr⟩ := hrel;replace hjl := hjl.out;have cb := zz00 (zK K hBr.out).out 1 _ rfl;by_cases hin : j + 1 < b.s.length
        ·have tn : decide ((j : Int) + 1 < (b.s.length : Int)) = true := decide_eq_true zw
         have hge : b.s[j]? = some b.s[j] := List.getElem?_eq_getElem zw;have hge2 : b.s[j + 1]? = some b.s[j + 1] := List.getElem?_eq_getElem hin;obtain ⟨A', c', hA', hi⟩ := R1.out;injection hA' with hA1 hA2 hA3
         subst hA1 hA3;obtain ⟨hk, b0, o0, hA0, hbl, hc⟩ := hi j _ hge;obtain ⟨hk2, b0', o0', hA0', hbl', hc2⟩ := hi (j + 1) _ hge2;subst hA0;injection hA0' with hA0'
         injection hA0' with hx1 hx2
         subst hx1 hx2;have hst := zH (zz5b hge hge2);clear hA2 hge hge2 hi;generalize b.s[j] = r at *;generalize b.s[j + 1] = r2 at *;obtain ⟨y0, y1, y2, rfl⟩ : ∃ y0 y1 y2, r = [y0, y1, y2] := by
          match r, hk with
          | [y0, y1, y2], _ => exact ⟨y0, y1, y2, rfl⟩
         obtain ⟨z0, z1, z2, rfl⟩ : ∃ z0 z1 z2, r2 = [z0, z1, z2] := by
          match r2, hk2 with
          | [z0, z1, z2], _ => exact ⟨z0, z1, z2, rfl⟩
         have c0 : wr.cell? ⟨b0, o0 + j * 3, none⟩ = some (.int .i64 y0) := (hBr.out.cell (p := ⟨b0, o0 + j * 3 + 0, none⟩) hbl).trans (hc 0 _ rfl);have d0 : wr.cell? ⟨b0, o0 + (j + 1) * 3, none⟩ = some (.int .i64 z0) := (hBr.out.cell (p := ⟨b0, o0 + (j + 1) * 3 + 0, none⟩) hbl).trans (hc2 0 _ rfl);have c1 : wr.cell? ⟨b0, o0 + j * 3 + 1, none⟩ = some (.int .i64 y1) := (hBr.out.cell (p := ⟨b0, o0 + j * 3 + 1, none⟩) hbl).trans (hc 1 _ rfl);have d1 : wr.cell? ⟨b0, o0 + (j + 1) * 3 + 1, none⟩ = some (.int .i64 z1) := (hBr.out.cell (p := ⟨b0, o0 + (j + 1) * 3 + 1, none⟩) hbl).trans (hc2 1 _ rfl);have c2 : wr.cell? ⟨b0, o0 + j * 3 + 2, none⟩ = some (.int .i64 y2) := (hBr.out.cell (p := ⟨b0, o0 + j * 3 + 2, none⟩) hbl).trans (hc 2 _ rfl);have d2 : wr.cell? ⟨b0, o0 + (j + 1) * 3 + 2, none⟩ = some (.int .i64 z2) := (hBr.out.cell (p := ⟨b0, o0 + (j + 1) * 3 + 2, none⟩) hbl).trans (hc2 2 _ rfl);have hm0 : IntKind.i64.wrap ((j : Int) + 1 - 1) = (j : Int) := by rw [IntKind.wrap_i64]; omega
         have hm1 : (j : Int) + 1 - 1 = (j : Int) := by omega
         have htn : ((j : Int) + 1).toNat = j + 1 := by omega
         have hb1 : (0 : Int) ≤ (j : Int) + 1 := by omega
         have hb2 : (j : Int) + 1 < (b.s.length : Int) := by omega
         have hb3 : (j : Int) < (b.s.length : Int) := by omega
         have hmj : IntKind.i64.wrap (j : Int) = (j : Int) := by rw [IntKind.wrap_i64]; omega
         have hwl : w.heap.size < wr.heap.size := Nat.lt_of_lt_of_le (zL K.out) hBr.out.size;have hbl3 : b0 < wr.heap.size := Nat.lt_of_lt_of_le hbl hBr.out.size;have hw2 : IntKind.i64.wrap ((j : Int) + 1 + 1) = (j : Int) + 1 + 1 := by rw [IntKind.wrap_i64]; omega
         clear hc hc2 hk hk2;by_cases h1 : z0 < y0
         ·have t1 : decide (z0 < y0) = true := decide_eq_true h1
          exact zt42
         ·have t1 : decide (z0 < y0) = false := decide_eq_false h1
          by_cases h2 : y0 = z0
          ·have t2 : (y0 == z0) = true := by simp [h2]
           by_cases h3 : z1 ≤ y1
           ·have t3 : decide (z1 ≤ y1) = true := decide_eq_true h3
            exact zt42
           ·have t3 : decide (z1 ≤ y1) = false := decide_eq_false h3
            exact zt45
          ·have t2 : (y0 == z0) = false := by simp [h2]
           exact zt45
        ·have tn : decide ((j : Int) + 1 < (b.s.length : Int)) = false := decide_eq_false zw
         have T3 : Hid (riseSB b.s = true) := hrest.out.trans (zz6m zw);have hBr3 := hBr;clear hrest hBr hjl;go_wp2_with fail;go_ret;have hR : Res = true := by simp only [← hRes.out, T0.out, T1.out, T2.out, T3.out, Bool.true_and]
         subst hR;exact ⟨rfl, HB.out.trans (hBr3.out.mono HB.out.size)⟩
theorem orI_ge (a b x y : Int) : decide (0 ≤ orI (cmpI a x) (cmpI b y)) = !decide (a < x ∨ a = x ∧ b < y) := by
 unfold orI cmpI;by_cases h : a < x ∨ a = x ∧ b < y
 ·rw [decide_eq_true h]
  refine decide_eq_false ?_
  split <;> split <;> omega
 ·rw [decide_eq_false h]
  refine decide_eq_true ?_
  split <;> split <;> omega
theorem zzbt (a b : Int) : decide (0 ≤ cmpI a b) = !decide (a < b) := by
 unfold cmpI;by_cases h : a < b
 ·rw [decide_eq_true h, if_pos h]; rfl
 ·rw [decide_eq_false h, if_neg h]
  split <;> rfl
theorem zz6z (y0 y1 y2 y3 : Int) (w : World) : Calls Tryz.prog 124 #[.agg #[y0, y1, y2, y3]] w fun e w' => e = .returned (.int .i64 y0) ∧ Below w.heap.size w w' := by
 go_in;go_wp2_with fail;go_ret;exact ⟨rfl, zBa⟩
theorem zt15 {p : Prop} (h : p := by
 have hst2 := zH (hrest.out.trans hst);clear hst hlt;go_wp2_with fail;refine zz0o zk zk ?_
 repeat (go_big_quiet_step (first | (with_reducible exact zz1q (qk1.out _)) | (with_reducible exact zz1q (qb1.out _))))
 refine wpQuiet_nil ?_;rintro w2 ⟨y, rfl⟩;have HB2 := zH (hBr.out.trans (y.below.mono hBr.out.size));go_wp2_with fail;go_roundw
 case rel => exact ⟨j + 1, by go_num, by show _ ≤ _; omega, hst2.out, HB2.out⟩
 case measure => simp [intOf]; omega) : p := h
theorem zt19 {p : Prop} (h : p := by
 have hst2 := zH (hrest.out.trans hst);clear hst hlt;go_wp2_with fail;refine zz0o zk zk ?_
 repeat (go_big_quiet_step (first | (with_reducible exact zz1q (qk1.out _)) | (with_reducible exact zz1q (qb1.out _))))
 refine wpQuiet_nil ?_;rintro w2 ⟨y, rfl⟩;have HB2 := zH (hBr.out.trans (y.below.mono hBr.out.size));go_wp2_with fail;go_ret;have hR : Res = false := hRes.out.symm.trans hst2.out;subst hR;exact ⟨rfl, HB2.out⟩) : p := h
theorem zt49 {p : Prop} (h : p := by
 have tn : decide ((j : Int) + 1 < (l.length : Int)) = false := decide_eq_false zw;have hR : Hid (Res = true) := (show _ = _ from hRes.out.symm.trans (hrest.out.trans (zz34 zw)))
 clear hrest hjl hRes;obtain rfl := hR.out;go_wp2_with fail;go_ret;exact ⟨rfl, hBr.out⟩) : p := h
theorem zz4g (v : Value) (l : List (List Int)) (w : World) (hv : Hid (RecAt w v 4 l)) (hl : l.length ≤ 1000000) :
  Calls Tryz.prog 123 #[v, .func (.func 124) #[] #[], .func (.func 125) #[] #[]] w fun e w' => e = .returned (.bool (riseHB l)) ∧ Below w.heap.size w w' := by
 obtain ⟨A, c, rfl, hi⟩ := hv.out;have HI := zH hi;clear hi hv;have qk := zH (fun x0 x1 x2 x3 w => zz6z x0 x1 x2 x3 w)
 have qb := zH (fun x0 x1 x2 x3 id w => zz4u x0 x1 x2 x3 id w)
 obtain ⟨Res, hRes⟩ : ∃ Res, riseHB l = Res := ⟨_, rfl⟩;rw [hRes];replace hRes := zH hRes;go_in;go_wp2_with fail;go_loopw [7] (fun s6 wr => ∃ j : Nat, s6 = .int .i64 ((j : Int) + 1) ∧ Hid (j ≤ l.length) ∧ Hid (riseHB l = riseHB (l.drop j)) ∧ Hid (Below w.heap.size w wr)) (fun s6 _ => l.length + 1 - (intOf s6).toNat)
 case atStart => exact ⟨0, rfl, Nat.zero_le _, rfl, Below.refl _ _⟩
 case round =>
  obtain ⟨j, rfl, hjl, hrest, hBr⟩ := hrel;replace hjl := hjl.out;by_cases hin : j + 1 < l.length
  ·have tn : decide ((j : Int) + 1 < (l.length : Int)) = true := decide_eq_true zw
   have hge : l[j]? = some l[j] := List.getElem?_eq_getElem zw;have hge2 : l[j + 1]? = some l[j + 1] := List.getElem?_eq_getElem hin;obtain ⟨hk, b0, o0, hA0, hbl, hc⟩ := HI.out j _ hge;obtain ⟨hk2, b0', o0', hA0', hbl', hc2⟩ := HI.out (j + 1) _ hge2;subst hA0;injection hA0' with hA0'
   injection hA0' with hx1 hx2
   subst hx1 hx2;have hst := zH (zz1f hge hge2);clear hge hge2;generalize l[j] = r at *;generalize l[j + 1] = r2 at *;obtain ⟨y0, y1, y2, y3, rfl⟩ : ∃ y0 y1 y2 y3, r = [y0, y1, y2, y3] := by
    match r, hk with
    | [y0, y1, y2, y3], _ => exact ⟨y0, y1, y2, y3, rfl⟩
   obtain ⟨z0, z1, z2, z3, rfl⟩ : ∃ z0 z1 z2 z3, r2 = [z0, z1, z2, z3] := by
    match r2, hk2 with
    | [z0, z1, z2, z3], _ => exact ⟨z0, z1, z2, z3, rfl⟩
   have c0 : wr.cell? ⟨b0, o0 + j * 4, none⟩ = some (.int .i64 y0) := (hBr.out.cell (p := ⟨b0, o0 + j * 4 + 0, none⟩) hbl).trans (hc 0 _ rfl);have d0 : wr.cell? ⟨b0, o0 + (j + 1) * 4, none⟩ = some (.int .i64 z0) := (hBr.out.cell (p := ⟨b0, o0 + (j + 1) * 4 + 0, none⟩) hbl).trans (hc2 0 _ rfl);have c1 : wr.cell? ⟨b0, o0 + j * 4 + 1, none⟩ = some (.int .i64 y1) := (hBr.out.cell (p := ⟨b0, o0 + j * 4 + 1, none⟩) hbl).trans (hc 1 _ rfl);have d1 : wr.cell? ⟨b0, o0 + (j + 1) * 4 + 1, none⟩ = some (.int .i64 z1) := (hBr.out.cell (p := ⟨b0, o0 + (j + 1) * 4 + 1, none⟩) hbl).trans (hc2 1 _ rfl);have c2 : wr.cell? ⟨b0, o0 + j * 4 + 2, none⟩ = some (.int .i64 y2) := (hBr.out.cell (p := ⟨b0, o0 + j * 4 + 2, none⟩) hbl).trans (hc 2 _ rfl);have d2 : wr.cell? ⟨b0, o0 + (j + 1) * 4 + 2, none⟩ = some (.int .i64 z2) := (hBr.out.cell (p := ⟨b0, o0 + (j + 1) * 4 + 2, none⟩) hbl).trans (hc2 2 _ rfl);have c3 : wr.cell? ⟨b0, o0 + j * 4 + 3, none⟩ = some (.int .i64 y3) := (hBr.out.cell (p := ⟨b0, o0 + j * 4 + 3, none⟩) hbl).trans (hc 3 _ rfl);have d3 : wr.cell? ⟨b0, o0 + (j + 1) * 4 + 3, none⟩ = some (.int .i64 z3) := (hBr.out.cell (p := ⟨b0, o0 + (j + 1) * 4 + 3, none⟩) hbl).trans (hc2 3 _ rfl);have hm0 : IntKind.i64.wrap ((j : Int) + 1 - 1) = (j : Int) := by rw [IntKind.wrap_i64]; omega
   have hm1 : (j : Int) + 1 - 1 = (j : Int) := by omega
   have htn : ((j : Int) + 1).toNat = j + 1 := by omega
   have hb1 : (0 : Int) ≤ (j : Int) + 1 := by omega
   have hb2 : (j : Int) + 1 < (l.length : Int) := by omega
   have hb3 : (j : Int) < (l.length : Int) := by omega
   have hmj : IntKind.i64.wrap (j : Int) = (j : Int) := by rw [IntKind.wrap_i64]; omega
   have hbl3 : b0 < wr.heap.size := Nat.lt_of_lt_of_le hbl hBr.out.size;have hw2 : IntKind.i64.wrap ((j : Int) + 1 + 1) = (j : Int) + 1 + 1 := by rw [IntKind.wrap_i64]; omega
   obtain ⟨CC, hCC⟩ : ∃ CC, cmpI y0 z0 = CC := ⟨_, rfl⟩;have tt := zzbt y0 z0;rw [hCC] at tt;have qk1 := zH (fun w => qk.out z0 z1 z2 z3 w)
   have qb1 := zH (fun w => qb.out y0 y1 y2 y3 z0 w)
   rw [hCC] at qb1;clear hCC hc hc2 hk hk2;by_cases hlt : y0 < z0
   ·rw [decide_eq_true hlt] at tt
    have tt : decide (0 ≤ CC) = false := tt;have t3 : CC < 0 := by have := of_decide_eq_false tt; omega
    replace hst := hst.out;rw [show decide (([y0, y1, y2, y3] : List Int).headD 0 < ([z0, z1, z2, z3] : List Int).headD 0) = true from decide_eq_true hlt, Bool.true_and] at hst
    exact zt15
   ·rw [decide_eq_false hlt] at tt
    have tt : decide (0 ≤ CC) = true := tt;have t3 : 0 ≤ CC := of_decide_eq_true tt;replace hst := hst.out;rw [show decide (([y0, y1, y2, y3] : List Int).headD 0 < ([z0, z1, z2, z3] : List Int).headD 0) = false from decide_eq_false hlt, Bool.false_and] at hst
    exact zt19
  ·exact zt49
theorem zz9v (y0 y1 y2 y3 y4 y5 : Int) (w : World) : Calls Tryz.prog 127 #[.agg #[y0, y1, y2, y3, y4, y5]] w fun e w' => e = .returned (.int .i64 y0) ∧ Below w.heap.size w w' := by
 go_in;go_wp2_with fail;go_ret;exact ⟨rfl, zBa⟩
theorem zz5o (v : Value) (l : List (List Int)) (w : World) (hv : Hid (RecAt w v 6 l)) (hl : l.length ≤ 1000000) :
  Calls Tryz.prog 126 #[v, .func (.func 127) #[] #[], .func (.func 128) #[] #[]] w fun e w' => e = .returned (.bool (riseHB l)) ∧ Below w.heap.size w w' := by
 obtain ⟨A, c, rfl, hi⟩ := hv.out;have HI := zH hi;clear hi hv;have qk := zH (fun x0 x1 x2 x3 x4 x5 w => zz9v x0 x1 x2 x3 x4 x5 w)
 have qb := zH (fun x0 x1 x2 x3 x4 x5 id w => zz75 x0 x1 x2 x3 x4 x5 id w)
 obtain ⟨Res, hRes⟩ : ∃ Res, riseHB l = Res := ⟨_, rfl⟩;rw [hRes];replace hRes := zH hRes;go_in;go_wp2_with fail;go_loopw [7] (fun s6 wr => ∃ j : Nat, s6 = .int .i64 ((j : Int) + 1) ∧ Hid (j ≤ l.length) ∧ Hid (riseHB l = riseHB (l.drop j)) ∧ Hid (Below w.heap.size w wr)) (fun s6 _ => l.length + 1 - (intOf s6).toNat)
 case atStart => exact ⟨0, rfl, Nat.zero_le _, rfl, Below.refl _ _⟩
 case round =>
  obtain ⟨j, rfl, hjl, hrest, hBr⟩ := hrel;replace hjl := hjl.out;by_cases hin : j + 1 < l.length
  ·have tn : decide ((j : Int) + 1 < (l.length : Int)) = true := decide_eq_true zw
   have hge : l[j]? = some l[j] := List.getElem?_eq_getElem zw;have hge2 : l[j + 1]? = some l[j + 1] := List.getElem?_eq_getElem hin;obtain ⟨hk, b0, o0, hA0, hbl, hc⟩ := HI.out j _ hge;obtain ⟨hk2, b0', o0', hA0', hbl', hc2⟩ := HI.out (j + 1) _ hge2;subst hA0;injection hA0' with hA0'
   injection hA0' with hx1 hx2
   subst hx1 hx2;have hst := zH (zz1f hge hge2);clear hge hge2;generalize l[j] = r at *;generalize l[j + 1] = r2 at *;obtain ⟨y0, y1, y2, y3, y4, y5, rfl⟩ : ∃ y0 y1 y2 y3 y4 y5, r = [y0, y1, y2, y3, y4, y5] := by
    match r, hk with
    | [y0, y1, y2, y3, y4, y5], _ => exact ⟨y0, y1, y2, y3, y4, y5, rfl⟩
   obtain ⟨z0, z1, z2, z3, z4, z5, rfl⟩ : ∃ z0 z1 z2 z3 z4 z5, r2 = [z0, z1, z2, z3, z4, z5] := by
    match r2, hk2 with
    | [z0, z1, z2, z3, z4, z5], _ => exact ⟨z0, z1, z2, z3, z4, z5, rfl⟩
   have c0 : wr.cell? ⟨b0, o0 + j * 6, none⟩ = some (.int .i64 y0) := (hBr.out.cell (p := ⟨b0, o0 + j * 6 + 0, none⟩) hbl).trans (hc 0 _ rfl);have d0 : wr.cell? ⟨b0, o0 + (j + 1) * 6, none⟩ = some (.int .i64 z0) := (hBr.out.cell (p := ⟨b0, o0 + (j + 1) * 6 + 0, none⟩) hbl).trans (hc2 0 _ rfl);have c1 : wr.cell? ⟨b0, o0 + j * 6 + 1, none⟩ = some (.int .i64 y1) := (hBr.out.cell (p := ⟨b0, o0 + j * 6 + 1, none⟩) hbl).trans (hc 1 _ rfl);have d1 : wr.cell? ⟨b0, o0 + (j + 1) * 6 + 1, none⟩ = some (.int .i64 z1) := (hBr.out.cell (p := ⟨b0, o0 + (j + 1) * 6 + 1, none⟩) hbl).trans (hc2 1 _ rfl);have c2 : wr.cell? ⟨b0, o0 + j * 6 + 2, none⟩ = some (.int .i64 y2) := (hBr.out.cell (p := ⟨b0, o0 + j * 6 + 2, none⟩) hbl).trans (hc 2 _ rfl);have d2 : wr.cell? ⟨b0, o0 + (j + 1) * 6 + 2, none⟩ = some (.int .i64 z2) := (hBr.out.cell (p := ⟨b0, o0 + (j + 1) * 6 + 2, none⟩) hbl).trans (hc2 2 _ rfl);have c3 : wr.cell? ⟨b0, o0 + j * 6 + 3, none⟩ = some (.int .i64 y3) := (hBr.out.cell (p := ⟨b0, o0 + j * 6 + 3, none⟩) hbl).trans (hc 3 _ rfl);have d3 : wr.cell? ⟨b0, o0 + (j + 1) * 6 + 3, none⟩ = some (.int .i64 z3) := (hBr.out.cell (p := ⟨b0, o0 + (j + 1) * 6 + 3, none⟩) hbl).trans (hc2 3 _ rfl);have c4 : wr.cell? ⟨b0, o0 + j * 6 + 4, none⟩ = some (.int .i64 y4) := (hBr.out.cell (p := ⟨b0, o0 + j * 6 + 4, none⟩) hbl).trans (hc 4 _ rfl);have d4 : wr.cell? ⟨b0, o0 + (j + 1) * 6 + 4, none⟩ = some (.int .i64 z4) := (hBr.out.cell (p := ⟨b0, o0 + (j + 1) * 6 + 4, none⟩) hbl).trans (hc2 4 _ rfl);have c5 : wr.cell? ⟨b0, o0 + j * 6 + 5, none⟩ = some (.int .i64 y5) := (hBr.out.cell (p := ⟨b0, o0 + j * 6 + 5, none⟩) hbl).trans (hc 5 _ rfl);have d5 : wr.cell? ⟨b0, o0 + (j + 1) * 6 + 5, none⟩ = some (.int .i64 z5) := (hBr.out.cell (p := ⟨b0, o0 + (j + 1) * 6 + 5, none⟩) hbl).trans (hc2 5 _ rfl);have hm0 : IntKind.i64.wrap ((j : Int) + 1 - 1) = (j : Int) := by rw [IntKind.wrap_i64]; omega
   have hm1 : (j : Int) + 1 - 1 = (j : Int) := by omega
   have htn : ((j : Int) + 1).toNat = j + 1 := by omega
   have hb1 : (0 : Int) ≤ (j : Int) + 1 := by omega
   have hb2 : (j : Int) + 1 < (l.length : Int) := by omega
   have hb3 : (j : Int) < (l.length : Int) := by omega
   have hmj : IntKind.i64.wrap (j : Int) = (j : Int) := by rw [IntKind.wrap_i64]; omega
   have hbl3 : b0 < wr.heap.size := Nat.lt_of_lt_of_le hbl hBr.out.size;have hw2 : IntKind.i64.wrap ((j : Int) + 1 + 1) = (j : Int) + 1 + 1 := by rw [IntKind.wrap_i64]; omega
   obtain ⟨CC, hCC⟩ : ∃ CC, cmpI y0 z0 = CC := ⟨_, rfl⟩;have tt := zzbt y0 z0;rw [hCC] at tt;have qk1 := zH (fun w => qk.out z0 z1 z2 z3 z4 z5 w)
   have qb1 := zH (fun w => qb.out y0 y1 y2 y3 y4 y5 z0 w)
   rw [hCC] at qb1;clear hCC hc hc2 hk hk2;by_cases hlt : y0 < z0
   ·rw [decide_eq_true hlt] at tt
    have tt : decide (0 ≤ CC) = false := tt;have t3 : CC < 0 := by have := of_decide_eq_false tt; omega
    replace hst := hst.out;rw [show decide (([y0, y1, y2, y3, y4, y5] : List Int).headD 0 < ([z0, z1, z2, z3, z4, z5] : List Int).headD 0) = true from decide_eq_true hlt, Bool.true_and] at hst
    exact zt15
   ·rw [decide_eq_false hlt] at tt
    have tt : decide (0 ≤ CC) = true := tt;have t3 : 0 ≤ CC := of_decide_eq_true tt;replace hst := hst.out;rw [show decide (([y0, y1, y2, y3, y4, y5] : List Int).headD 0 < ([z0, z1, z2, z3, z4, z5] : List Int).headD 0) = false from decide_eq_false hlt, Bool.false_and] at hst
    exact zt19
  ·exact zt49
theorem zz9h (y0 y1 : Int) (w : World) : Calls Tryz.prog 130 #[.agg #[y0, y1]] w fun e w' => e = .returned (.int .i64 y0) ∧ Below w.heap.size w w' := by
 go_in;go_wp2_with fail;go_ret;exact ⟨rfl, zBa⟩
theorem zz5n (v : Value) (l : List (List Int)) (w : World) (hv : Hid (RecAt w v 2 l)) (hl : l.length ≤ 1000000) :
  Calls Tryz.prog 129 #[v, .func (.func 130) #[] #[], .func (.func 131) #[] #[]] w fun e w' => e = .returned (.bool (riseHB l)) ∧ Below w.heap.size w w' := by
 obtain ⟨A, c, rfl, hi⟩ := hv.out;have HI := zH hi;clear hi hv;have qk := zH (fun x0 x1 w => zz9h x0 x1 w)
 have qb := zH (fun x0 x1 id w => zz74 x0 x1 id w)
 obtain ⟨Res, hRes⟩ : ∃ Res, riseHB l = Res := ⟨_, rfl⟩;rw [hRes];replace hRes := zH hRes;go_in;go_wp2_with fail;go_loopw [7] (fun s6 wr => ∃ j : Nat, s6 = .int .i64 ((j : Int) + 1) ∧ Hid (j ≤ l.length) ∧ Hid (riseHB l = riseHB (l.drop j)) ∧ Hid (Below w.heap.size w wr)) (fun s6 _ => l.length + 1 - (intOf s6).toNat)
 case atStart => exact ⟨0, rfl, Nat.zero_le _, rfl, Below.refl _ _⟩
 case round =>
  obtain ⟨j, rfl, hjl, hrest, hBr⟩ := hrel;replace hjl := hjl.out;by_cases hin : j + 1 < l.length
  ·have tn : decide ((j : Int) + 1 < (l.length : Int)) = true := decide_eq_true zw
   have hge : l[j]? = some l[j] := List.getElem?_eq_getElem zw;have hge2 : l[j + 1]? = some l[j + 1] := List.getElem?_eq_getElem hin;obtain ⟨hk, b0, o0, hA0, hbl, hc⟩ := HI.out j _ hge;obtain ⟨hk2, b0', o0', hA0', hbl', hc2⟩ := HI.out (j + 1) _ hge2;subst hA0;injection hA0' with hA0'
   injection hA0' with hx1 hx2
   subst hx1 hx2;have hst := zH (zz1f hge hge2);clear hge hge2;generalize l[j] = r at *;generalize l[j + 1] = r2 at *;obtain ⟨y0, y1, rfl⟩ : ∃ y0 y1, r = [y0, y1] := by
    match r, hk with
    | [y0, y1], _ => exact ⟨y0, y1, rfl⟩
   obtain ⟨z0, z1, rfl⟩ : ∃ z0 z1, r2 = [z0, z1] := by
    match r2, hk2 with
    | [z0, z1], _ => exact ⟨z0, z1, rfl⟩
   have c0 : wr.cell? ⟨b0, o0 + j * 2, none⟩ = some (.int .i64 y0) := (hBr.out.cell (p := ⟨b0, o0 + j * 2 + 0, none⟩) hbl).trans (hc 0 _ rfl);have d0 : wr.cell? ⟨b0, o0 + (j + 1) * 2, none⟩ = some (.int .i64 z0) := (hBr.out.cell (p := ⟨b0, o0 + (j + 1) * 2 + 0, none⟩) hbl).trans (hc2 0 _ rfl);have c1 : wr.cell? ⟨b0, o0 + j * 2 + 1, none⟩ = some (.int .i64 y1) := (hBr.out.cell (p := ⟨b0, o0 + j * 2 + 1, none⟩) hbl).trans (hc 1 _ rfl);have d1 : wr.cell? ⟨b0, o0 + (j + 1) * 2 + 1, none⟩ = some (.int .i64 z1) := (hBr.out.cell (p := ⟨b0, o0 + (j + 1) * 2 + 1, none⟩) hbl).trans (hc2 1 _ rfl);have hm0 : IntKind.i64.wrap ((j : Int) + 1 - 1) = (j : Int) := by rw [IntKind.wrap_i64]; omega
   have hm1 : (j : Int) + 1 - 1 = (j : Int) := by omega
   have htn : ((j : Int) + 1).toNat = j + 1 := by omega
   have hb1 : (0 : Int) ≤ (j : Int) + 1 := by omega
   have hb2 : (j : Int) + 1 < (l.length : Int) := by omega
   have hb3 : (j : Int) < (l.length : Int) := by omega
   have hmj : IntKind.i64.wrap (j : Int) = (j : Int) := by rw [IntKind.wrap_i64]; omega
   have hbl3 : b0 < wr.heap.size := Nat.lt_of_lt_of_le hbl hBr.out.size;have hw2 : IntKind.i64.wrap ((j : Int) + 1 + 1) = (j : Int) + 1 + 1 := by rw [IntKind.wrap_i64]; omega
   obtain ⟨CC, hCC⟩ : ∃ CC, cmpI y0 z0 = CC := ⟨_, rfl⟩;have tt := zzbt y0 z0;rw [hCC] at tt;have qk1 := zH (fun w => qk.out z0 z1 w)
   have qb1 := zH (fun w => qb.out y0 y1 z0 w)
   rw [hCC] at qb1;clear hCC hc hc2 hk hk2;by_cases hlt : y0 < z0
   ·rw [decide_eq_true hlt] at tt
    have tt : decide (0 ≤ CC) = false := tt;have t3 : CC < 0 := by have := of_decide_eq_false tt; omega
    replace hst := hst.out;rw [show decide (([y0, y1] : List Int).headD 0 < ([z0, z1] : List Int).headD 0) = true from decide_eq_true hlt, Bool.true_and] at hst
    exact zt15
   ·rw [decide_eq_false hlt] at tt
    have tt : decide (0 ≤ CC) = true := tt;have t3 : 0 ≤ CC := of_decide_eq_true tt;replace hst := hst.out;rw [show decide (([y0, y1] : List Int).headD 0 < ([z0, z1] : List Int).headD 0) = false from decide_eq_false hlt, Bool.false_and] at hst
    exact zt19
  ·exact zt49
theorem zz53 (v : Value) (l : List (List Int)) (w : World) (hv : Hid (RecAt w v 3 l)) (hl : l.length ≤ 1000000) :
  Calls Tryz.prog 132 #[v, .func (.func 133) #[] #[], .func (.func 134) #[] #[]] w fun e w' => e = .returned (.bool (riseSB l)) ∧ Below w.heap.size w w' := by
 obtain ⟨A, c, rfl, hi⟩ := hv.out;have HI := zH hi;clear hi hv;have qk := zH (fun x0 x1 x2 w => zz4b x0 x1 x2 w)
 have qb := zH (fun x0 x1 x2 kx ky w => zz5g x0 x1 x2 kx ky w)
 obtain ⟨Res, hRes⟩ : ∃ Res, riseSB l = Res := ⟨_, rfl⟩;rw [hRes];replace hRes := zH hRes;go_in;go_wp2_with fail;go_loopw [7] (fun s6 wr => ∃ j : Nat, s6 = .int .i64 ((j : Int) + 1) ∧ Hid (j ≤ l.length) ∧ Hid (riseSB l = riseSB (l.drop j)) ∧ Hid (Below w.heap.size w wr)) (fun s6 _ => l.length + 1 - (intOf s6).toNat)
 case atStart => exact ⟨0, rfl, Nat.zero_le _, rfl, Below.refl _ _⟩
 case round =>
  obtain ⟨j, rfl, hjl, hrest, hBr⟩ := hrel;replace hjl := hjl.out;by_cases hin : j + 1 < l.length
  ·have tn : decide ((j : Int) + 1 < (l.length : Int)) = true := decide_eq_true zw
   have hge : l[j]? = some l[j] := List.getElem?_eq_getElem zw;have hge2 : l[j + 1]? = some l[j + 1] := List.getElem?_eq_getElem hin;obtain ⟨hk, b0, o0, hA0, hbl, hc⟩ := HI.out j _ hge;obtain ⟨hk2, b0', o0', hA0', hbl', hc2⟩ := HI.out (j + 1) _ hge2;subst hA0;injection hA0' with hA0'
   injection hA0' with hx1 hx2
   subst hx1 hx2;have hst := zH (zz5b hge hge2);clear hge hge2;generalize l[j] = r at *;generalize l[j + 1] = r2 at *;obtain ⟨y0, y1, y2, rfl⟩ : ∃ y0 y1 y2, r = [y0, y1, y2] := by
    match r, hk with
    | [y0, y1, y2], _ => exact ⟨y0, y1, y2, rfl⟩
   obtain ⟨z0, z1, z2, rfl⟩ : ∃ z0 z1 z2, r2 = [z0, z1, z2] := by
    match r2, hk2 with
    | [z0, z1, z2], _ => exact ⟨z0, z1, z2, rfl⟩
   have c0 : wr.cell? ⟨b0, o0 + j * 3, none⟩ = some (.int .i64 y0) := (hBr.out.cell (p := ⟨b0, o0 + j * 3 + 0, none⟩) hbl).trans (hc 0 _ rfl);have d0 : wr.cell? ⟨b0, o0 + (j + 1) * 3, none⟩ = some (.int .i64 z0) := (hBr.out.cell (p := ⟨b0, o0 + (j + 1) * 3 + 0, none⟩) hbl).trans (hc2 0 _ rfl);have c1 : wr.cell? ⟨b0, o0 + j * 3 + 1, none⟩ = some (.int .i64 y1) := (hBr.out.cell (p := ⟨b0, o0 + j * 3 + 1, none⟩) hbl).trans (hc 1 _ rfl);have d1 : wr.cell? ⟨b0, o0 + (j + 1) * 3 + 1, none⟩ = some (.int .i64 z1) := (hBr.out.cell (p := ⟨b0, o0 + (j + 1) * 3 + 1, none⟩) hbl).trans (hc2 1 _ rfl);have c2 : wr.cell? ⟨b0, o0 + j * 3 + 2, none⟩ = some (.int .i64 y2) := (hBr.out.cell (p := ⟨b0, o0 + j * 3 + 2, none⟩) hbl).trans (hc 2 _ rfl);have d2 : wr.cell? ⟨b0, o0 + (j + 1) * 3 + 2, none⟩ = some (.int .i64 z2) := (hBr.out.cell (p := ⟨b0, o0 + (j + 1) * 3 + 2, none⟩) hbl).trans (hc2 2 _ rfl);have hm0 : IntKind.i64.wrap ((j : Int) + 1 - 1) = (j : Int) := by rw [IntKind.wrap_i64]; omega
   have hm1 : (j : Int) + 1 - 1 = (j : Int) := by omega
   have htn : ((j : Int) + 1).toNat = j + 1 := by omega
   have hb1 : (0 : Int) ≤ (j : Int) + 1 := by omega
   have hb2 : (j : Int) + 1 < (l.length : Int) := by omega
   have hb3 : (j : Int) < (l.length : Int) := by omega
   have hmj : IntKind.i64.wrap (j : Int) = (j : Int) := by rw [IntKind.wrap_i64]; omega
   have hbl3 : b0 < wr.heap.size := Nat.lt_of_lt_of_le hbl hBr.out.size;have hw2 : IntKind.i64.wrap ((j : Int) + 1 + 1) = (j : Int) + 1 + 1 := by rw [IntKind.wrap_i64]; omega
   obtain ⟨CC, hCC⟩ : ∃ CC, orI (cmpI y0 z0) (cmpI y1 z1) = CC := ⟨_, rfl⟩;have tt := orI_ge y0 y1 z0 z1;rw [hCC] at tt;have qk1 := zH (fun w => qk.out z0 z1 z2 w)
   have qb1 := zH (fun w => qb.out y0 y1 y2 z0 z1 w)
   rw [hCC] at qb1;clear hCC hc hc2 hk hk2;by_cases hlt : y0 < z0 ∨ y0 = z0 ∧ y1 < z1
   ·rw [decide_eq_true hlt] at tt
    have tt : decide (0 ≤ CC) = false := tt;have t3 : CC < 0 := by have := of_decide_eq_false tt; omega
    replace hst := hst.out;rw [show decide (stLt' ([y0, y1, y2] : List Int) [z0, z1, z2]) = true from decide_eq_true hlt, Bool.true_and] at hst
    exact zt15
   ·rw [decide_eq_false hlt] at tt
    have tt : decide (0 ≤ CC) = true := tt;have t3 : 0 ≤ CC := of_decide_eq_true tt;replace hst := hst.out;rw [show decide (stLt' ([y0, y1, y2] : List Int) [z0, z1, z2]) = false from decide_eq_false hlt, Bool.false_and] at hst
    exact zt19
  ·have tn : decide ((j : Int) + 1 < (l.length : Int)) = false := decide_eq_false zw
   have hR : Hid (Res = true) := (show _ = _ from hRes.out.symm.trans (hrest.out.trans (zz6m zw)))
   clear hrest hjl hRes;obtain rfl := hR.out;go_wp2_with fail;go_ret;exact ⟨rfl, hBr.out⟩
end
section
open Go Go.RowKit Go.Shelf
def rowV (r : List Int) : Value := .agg (r.map (Value.int .i64)).toArray
def PredOn (g : Nat) (lb : Array Value) (l : List (List Int)) (p : List Int → Bool) (w : World) : Prop :=
 ∀ (W : World) (r : List Int), r ∈ l → Below w.heap.size w W → Calls Tryz.prog g (#[rowV r] ++ lb) W fun e w' => e = .returned (.bool (p r)) ∧ Below W.heap.size W w'
theorem zt10 {p : Prop} (h : p := by
 rw [hF] at hcall2 hst;clear hc hk hcall hF;cases F with
 | true =>
  go_wp2_with (go_at_fn g; refine hcall2.out.mono ?_; rintro e w2 ⟨rfl, hb2⟩);go_ret;have hR : Res = true := hRes.out.symm.trans (hrest.out.trans hst.out);subst hR;exact ⟨_, rfl, by simp, hBr.out.trans (hb2.mono hBr.out.size)⟩
 | false =>
  have hst2 := zH (hrest.out.trans hst.out);go_wp2_with (go_at_fn g; refine hcall2.out.mono ?_; rintro e w2 ⟨rfl, hb2⟩);have HB2 := zB hBr hb2;clear hb2;go_roundw
  case rel => exact ⟨j + 1, by go_num, by show _ ≤ _; omega, hst2.out, HB2.out⟩
  case measure => simp [intOf]; omega) : p := h
theorem zt38 {p : Prop} (h : p := by
 have tn : decide ((j : Int) < (l.length : Int)) = false := decide_eq_false zw;have hR : Res = false := hRes.out.symm.trans (hrest.out.trans (by rw [List.drop_eq_nil_of_le zw]; rfl))
 subst hR;clear hrest hjl hRes;go_wp2_with fail;go_ret;exact ⟨_, rfl, rfl, hBr.out⟩) : p := h
theorem zz55 (g : Nat) (lb : Array Value) (eg : ∀ args w, (callFunc g args).run Tryz.prog w = .ok (.enter g args) w) (v : Value) (l : List (List Int)) (p : List Int → Bool) (w : World) (hv : Hid (RecAt w v 4 l)) (hl : l.length ≤ 1000000) (hp : Hid (PredOn g lb l p w)) :
  Calls Tryz.prog 137 #[v, .func (.func g) #[] lb] w fun e w' => ∃ i : Int, e = .returned (.int .i64 i) ∧ decide (0 ≤ i) = l.any p ∧ Below w.heap.size w w' := by
 obtain ⟨A, c, rfl, hi⟩ := hv.out;have HI := zH hi;clear hi hv;obtain ⟨Res, hRes⟩ : ∃ Res, l.any p = Res := ⟨_, rfl⟩;rw [hRes];replace hRes := zH hRes;go_in;go_wp2_with fail;go_loopw [5, 8] (fun _ s8 wr => ∃ j : Nat, s8 = .int .i64 (j : Int) ∧ Hid (j ≤ l.length) ∧ Hid (l.any p = (l.drop j).any p) ∧ Hid (Below w.heap.size w wr)) (fun _ s8 _ => l.length - (intOf s8).toNat)
 case atStart => exact ⟨0, rfl, Nat.zero_le _, rfl, Below.refl _ _⟩
 case round =>
  obtain ⟨j, rfl, hjl, hrest, hBr⟩ := hrel;replace hjl := hjl.out;by_cases hin : j < l.length
  ·have tn : decide ((j : Int) < (l.length : Int)) = true := decide_eq_true zw
   have hge : l[j]? = some l[j] := List.getElem?_eq_getElem hin;obtain ⟨hk, b0, o0, hA0, hbl, hc⟩ := HI.out j _ hge;subst hA0;have hst : Hid ((l.drop j).any p = (p l[j] || (l.drop (j + 1)).any p)) := (show _ = _ from by rw [List.drop_eq_getElem_cons hin, List.any_cons])
   have hcall := hp.out wr l[j] (List.getElem_mem hin) hBr.out;clear hge;generalize l[j] = r at *;obtain ⟨y0, y1, y2, y3, rfl⟩ : ∃ y0 y1 y2 y3, r = [y0, y1, y2, y3] := by
    match r, hk with
    | [y0, y1, y2, y3], _ => exact ⟨y0, y1, y2, y3, rfl⟩
   obtain ⟨c0, c1, c2, c3⟩ := zR4 hBr.out hbl hc;have hcall : Calls Tryz.prog g (#[.agg #[y0, y1, y2, y3]] ++ lb) wr _ := hcall;have hcall2 := zH hcall;obtain ⟨F, hF⟩ : ∃ F, p [y0, y1, y2, y3] = F := ⟨_, rfl⟩;exact zt10
  ·exact zt38
theorem zt34 {p : Prop} (h : p := by
 obtain ⟨A, c, rfl, hi⟩ := hv.out;clear hv hp hi;go_in;go_wp2_with fail;(with_reducible refine q.out.mono ?_);rintro e w2 ⟨i, rfl, hi', hb⟩;have hi := zH hi';clear hi';go_wp2_with fail;go_ret;refine ⟨?_, hb⟩;show Ending.returned (.bool (decide (0 ≤ i))) = _;rw [hi.out]) : p := h
theorem zz3q (g : Nat) (lb : Array Value) (eg : ∀ args w, (callFunc g args).run Tryz.prog w = .ok (.enter g args) w) (v : Value) (l : List (List Int)) (p : List Int → Bool) (w : World) (hv : Hid (RecAt w v 4 l)) (hl : l.length ≤ 1000000) (hp : Hid (PredOn g lb l p w)) :
  Calls Tryz.prog 69 #[v, .func (.func g) #[] lb] w fun e w' => e = .returned (.bool (l.any p)) ∧ Below w.heap.size w w' := by
 have q := zH (zz55 g lb eg v l p w hv hl hp);exact zt34
theorem zz7a (g : Nat) (lb : Array Value) (eg : ∀ args w, (callFunc g args).run Tryz.prog w = .ok (.enter g args) w) (v : Value) (l : List (List Int)) (p : List Int → Bool) (w : World) (hv : Hid (RecAt w v 6 l)) (hl : l.length ≤ 1000000) (hp : Hid (PredOn g lb l p w)) :
  Calls Tryz.prog 140 #[v, .func (.func g) #[] lb] w fun e w' => ∃ i : Int, e = .returned (.int .i64 i) ∧ decide (0 ≤ i) = l.any p ∧ Below w.heap.size w w' := by
 obtain ⟨A, c, rfl, hi⟩ := hv.out;have HI := zH hi;clear hi hv;obtain ⟨Res, hRes⟩ : ∃ Res, l.any p = Res := ⟨_, rfl⟩;rw [hRes];replace hRes := zH hRes;go_in;go_wp2_with fail;go_loopw [5, 8] (fun _ s8 wr => ∃ j : Nat, s8 = .int .i64 (j : Int) ∧ Hid (j ≤ l.length) ∧ Hid (l.any p = (l.drop j).any p) ∧ Hid (Below w.heap.size w wr)) (fun _ s8 _ => l.length - (intOf s8).toNat)
 case atStart => exact ⟨0, rfl, Nat.zero_le _, rfl, Below.refl _ _⟩
 case round =>
  obtain ⟨j, rfl, hjl, hrest, hBr⟩ := hrel;replace hjl := hjl.out;by_cases hin : j < l.length
  ·have tn : decide ((j : Int) < (l.length : Int)) = true := decide_eq_true zw
   have hge : l[j]? = some l[j] := List.getElem?_eq_getElem hin;obtain ⟨hk, b0, o0, hA0, hbl, hc⟩ := HI.out j _ hge;subst hA0;have hst : Hid ((l.drop j).any p = (p l[j] || (l.drop (j + 1)).any p)) := (show _ = _ from by rw [List.drop_eq_getElem_cons hin, List.any_cons])
   have hcall := hp.out wr l[j] (List.getElem_mem hin) hBr.out;clear hge;generalize l[j] = r at *;obtain ⟨y0, y1, y2, y3, y4, y5, rfl⟩ : ∃ y0 y1 y2 y3 y4 y5, r = [y0, y1, y2, y3, y4, y5] := by
    match r, hk with
    | [y0, y1, y2, y3, y4, y5], _ => exact ⟨y0, y1, y2, y3, y4, y5, rfl⟩
   obtain ⟨c0, c1, c2, c3, c4, c5⟩ := zR6 hBr.out hbl hc;have hcall : Calls Tryz.prog g (#[.agg #[y0, y1, y2, y3, y4, y5]] ++ lb) wr _ := hcall;have hcall2 := zH hcall;obtain ⟨F, hF⟩ : ∃ F, p [y0, y1, y2, y3, y4, y5] = F := ⟨_, rfl⟩;exact zt10
  ·exact zt38
theorem zz52 (g : Nat) (lb : Array Value) (eg : ∀ args w, (callFunc g args).run Tryz.prog w = .ok (.enter g args) w) (v : Value) (l : List (List Int)) (p : List Int → Bool) (w : World) (hv : Hid (RecAt w v 6 l)) (hl : l.length ≤ 1000000) (hp : Hid (PredOn g lb l p w)) :
  Calls Tryz.prog 72 #[v, .func (.func g) #[] lb] w fun e w' => e = .returned (.bool (l.any p)) ∧ Below w.heap.size w w' := by
 have q := zH (zz7a g lb eg v l p w hv hl hp);exact zt34
theorem zz79 (g : Nat) (lb : Array Value) (eg : ∀ args w, (callFunc g args).run Tryz.prog w = .ok (.enter g args) w) (v : Value) (l : List (List Int)) (p : List Int → Bool) (w : World) (hv : Hid (RecAt w v 2 l)) (hl : l.length ≤ 1000000) (hp : Hid (PredOn g lb l p w)) :
  Calls Tryz.prog 138 #[v, .func (.func g) #[] lb] w fun e w' => ∃ i : Int, e = .returned (.int .i64 i) ∧ decide (0 ≤ i) = l.any p ∧ Below w.heap.size w w' := by
 obtain ⟨A, c, rfl, hi⟩ := hv.out;have HI := zH hi;clear hi hv;obtain ⟨Res, hRes⟩ : ∃ Res, l.any p = Res := ⟨_, rfl⟩;rw [hRes];replace hRes := zH hRes;go_in;go_wp2_with fail;go_loopw [5, 8] (fun _ s8 wr => ∃ j : Nat, s8 = .int .i64 (j : Int) ∧ Hid (j ≤ l.length) ∧ Hid (l.any p = (l.drop j).any p) ∧ Hid (Below w.heap.size w wr)) (fun _ s8 _ => l.length - (intOf s8).toNat)
 case atStart => exact ⟨0, rfl, Nat.zero_le _, rfl, Below.refl _ _⟩
 case round =>
  obtain ⟨j, rfl, hjl, hrest, hBr⟩ := hrel;replace hjl := hjl.out;by_cases hin : j < l.length
  ·have tn : decide ((j : Int) < (l.length : Int)) = true := decide_eq_true zw
   have hge : l[j]? = some l[j] := List.getElem?_eq_getElem hin;obtain ⟨hk, b0, o0, hA0, hbl, hc⟩ := HI.out j _ hge;subst hA0;have hst : Hid ((l.drop j).any p = (p l[j] || (l.drop (j + 1)).any p)) := (show _ = _ from by rw [List.drop_eq_getElem_cons hin, List.any_cons])
   have hcall := hp.out wr l[j] (List.getElem_mem hin) hBr.out;clear hge;generalize l[j] = r at *;obtain ⟨y0, y1, rfl⟩ : ∃ y0 y1, r = [y0, y1] := by
    match r, hk with
    | [y0, y1], _ => exact ⟨y0, y1, rfl⟩
   obtain ⟨c0, c1⟩ := zR2 hBr.out hbl hc;have hcall : Calls Tryz.prog g (#[.agg #[y0, y1]] ++ lb) wr _ := hcall;have hcall2 := zH hcall;obtain ⟨F, hF⟩ : ∃ F, p [y0, y1] = F := ⟨_, rfl⟩;exact zt10
  ·exact zt38
theorem zz51 (g : Nat) (lb : Array Value) (eg : ∀ args w, (callFunc g args).run Tryz.prog w = .ok (.enter g args) w) (v : Value) (l : List (List Int)) (p : List Int → Bool) (w : World) (hv : Hid (RecAt w v 2 l)) (hl : l.length ≤ 1000000) (hp : Hid (PredOn g lb l p w)) :
  Calls Tryz.prog 70 #[v, .func (.func g) #[] lb] w fun e w' => e = .returned (.bool (l.any p)) ∧ Below w.heap.size w w' := by
 have q := zH (zz79 g lb eg v l p w hv hl hp);exact zt34
theorem zz65 (g : Nat) (lb : Array Value) (eg : ∀ args w, (callFunc g args).run Tryz.prog w = .ok (.enter g args) w) (v : Value) (l : List (List Int)) (p : List Int → Bool) (w : World) (hv : Hid (RecAt w v 3 l)) (hl : l.length ≤ 1000000) (hp : Hid (PredOn g lb l p w)) :
  Calls Tryz.prog 139 #[v, .func (.func g) #[] lb] w fun e w' => ∃ i : Int, e = .returned (.int .i64 i) ∧ decide (0 ≤ i) = l.any p ∧ Below w.heap.size w w' := by
 obtain ⟨A, c, rfl, hi⟩ := hv.out;have HI := zH hi;clear hi hv;obtain ⟨Res, hRes⟩ : ∃ Res, l.any p = Res := ⟨_, rfl⟩;rw [hRes];replace hRes := zH hRes;go_in;go_wp2_with fail;go_loopw [5, 8] (fun _ s8 wr => ∃ j : Nat, s8 = .int .i64 (j : Int) ∧ Hid (j ≤ l.length) ∧ Hid (l.any p = (l.drop j).any p) ∧ Hid (Below w.heap.size w wr)) (fun _ s8 _ => l.length - (intOf s8).toNat)
 case atStart => exact ⟨0, rfl, Nat.zero_le _, rfl, Below.refl _ _⟩
 case round =>
  obtain ⟨j, rfl, hjl, hrest, hBr⟩ := hrel;replace hjl := hjl.out;by_cases hin : j < l.length
  ·have tn : decide ((j : Int) < (l.length : Int)) = true := decide_eq_true zw
   have hge : l[j]? = some l[j] := List.getElem?_eq_getElem hin;obtain ⟨hk, b0, o0, hA0, hbl, hc⟩ := HI.out j _ hge;subst hA0;have hst : Hid ((l.drop j).any p = (p l[j] || (l.drop (j + 1)).any p)) := (show _ = _ from by rw [List.drop_eq_getElem_cons hin, List.any_cons])
   have hcall := hp.out wr l[j] (List.getElem_mem hin) hBr.out;clear hge;generalize l[j] = r at *;obtain ⟨y0, y1, y2, rfl⟩ : ∃ y0 y1 y2, r = [y0, y1, y2] := by
    match r, hk with
    | [y0, y1, y2], _ => exact ⟨y0, y1, y2, rfl⟩
   obtain ⟨c0, c1, c2⟩ := zR3 hBr.out hbl hc;have hcall : Calls Tryz.prog g (#[.agg #[y0, y1, y2]] ++ lb) wr _ := hcall;have hcall2 := zH hcall;obtain ⟨F, hF⟩ : ∃ F, p [y0, y1, y2] = F := ⟨_, rfl⟩;exact zt10
  ·exact zt38
theorem zz3w (g : Nat) (lb : Array Value) (eg : ∀ args w, (callFunc g args).run Tryz.prog w = .ok (.enter g args) w) (v : Value) (l : List (List Int)) (p : List Int → Bool) (w : World) (hv : Hid (RecAt w v 3 l)) (hl : l.length ≤ 1000000) (hp : Hid (PredOn g lb l p w)) :
  Calls Tryz.prog 71 #[v, .func (.func g) #[] lb] w fun e w' => e = .returned (.bool (l.any p)) ∧ Below w.heap.size w w' := by
 have q := zH (zz65 g lb eg v l p w hv hl hp);exact zt34
end
section
open Go Go.RowKit
theorem BkOwn.form {w : World} {B : Nat} {v : Value} {b : Bk} (h : BkOwn w B v b) : ∃ A1 c1 A2 c2 A3 c3 A4 c4, v = .agg (BF A1 c1 A2 c2 A3 c3 A4 c4 b b.n) := by
 obtain ⟨vh, vs, vo, vr, rfl, h1, h2, h3, h4⟩ := h;obtain ⟨A1, c1, rfl⟩ := h1.form;obtain ⟨A2, c2, rfl⟩ := h2.form;obtain ⟨A3, c3, rfl⟩ := h3.form;obtain ⟨A4, c4, rfl⟩ := h4.form;exact ⟨A1, c1, A2, c2, A3, c3, A4, c4, rfl⟩
theorem zz13 {k : Nat} {l : List (List Int)} (h : ∀ r ∈ l, r.length = k) (E : List Int → Bool) : ∃ r F, r.length = k ∧ recOf k (l.find? E) = (r, F) := by
 cases hf : l.find? E with
 | none => exact ⟨_, _, List.length_replicate, rfl⟩
 | some r => exact ⟨r, true, h r (List.mem_of_find?_eq_some hf), rfl⟩
end
end Go.Proofs.YtajogedbacpohaaGreatDoor
