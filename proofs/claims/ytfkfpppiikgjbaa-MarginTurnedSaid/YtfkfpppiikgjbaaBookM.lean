/- Books: Great; the reference's Rise. PRINTED BY genBookM.py. -/
import Derived.Test.YtfkfpppiikgjbaaBookL
namespace Go.Proofs.Ytfkfpppiikgjbaa
open Go Go.RowKit
set_option linter.unusedVariables false
set_option linter.unusedSimpArgs false

def Bk.Fit (b : Bk) : Prop := b.h.length ≤ 40 ∧ b.o.length ≤ 70 ∧ b.r.length ≤ 40 ∧ b.s.length ≤ 200
theorem Bk.Fit.small {b : Bk} (h : b.Fit) : b.Small := by unfold Bk.Fit at h; unfold Bk.Small; omega
set_option maxRecDepth 100000 in
theorem Great_any (v : Value) (b : Bk) (w : World) (hb : Hid (BkAt w v b)) :
    Calls Try.prog 15 #[v] w fun e w' => ∃ g, e = .returned (.bool g) ∧ (g = false → b.Fit) ∧ Below w.heap.size w w' := by
  obtain ⟨vh, vs, vo, vr, rfl, ⟨Ah, ch, rfl, _⟩, ⟨As, cs, rfl, _⟩, ⟨Ao, co, rfl, _⟩, ⟨Ar, cr, rfl, _⟩⟩ := hb.out
  have HB : Hid (Below w.heap.size w (w.alloc (.cells #[.slice Ah b.h.length ch, .slice As b.s.length cs, .slice Ao b.o.length co, .slice Ar b.r.length cr, .int .i64 b.n] 37))) := below_alloc (Below.refl _ _) (Nat.le_refl _) _
  have k := heap_new w (.cells #[.slice Ah b.h.length ch, .slice As b.s.length cs, .slice Ao b.o.length co, .slice Ar b.r.length cr, .int .i64 b.n] 37)
  have c0 := cells_of_blk k 0 _ rfl
  have c1 := cells_of_blk k 1 _ rfl
  have c2 := cells_of_blk k 2 _ rfl
  have c3 := cells_of_blk k 3 _ rfl
  clear k hb
  by_cases h0 : 40 < b.h.length
  · have t0 : decide ((40 : Int) < (b.h.length : Int)) = true := decide_eq_true (by omega)
    clear h0
    go_enter Try.func15, Try.ntmps15
    go_wp2_with fail
    go_ret
    exact ⟨_, rfl, fun h => (by cases h), HB.out⟩
  · have t0 : decide ((40 : Int) < (b.h.length : Int)) = false := decide_eq_false (by omega)
    by_cases h1 : 70 < b.o.length
    · have t1 : decide ((70 : Int) < (b.o.length : Int)) = true := decide_eq_true (by omega)
      clear h0 h1
      go_enter Try.func15, Try.ntmps15
      go_wp2_with fail
      go_ret
      exact ⟨_, rfl, fun h => (by cases h), HB.out⟩
    · have t1 : decide ((70 : Int) < (b.o.length : Int)) = false := decide_eq_false (by omega)
      by_cases h2 : 40 < b.r.length
      · have t2 : decide ((40 : Int) < (b.r.length : Int)) = true := decide_eq_true (by omega)
        clear h0 h1 h2
        go_enter Try.func15, Try.ntmps15
        go_wp2_with fail
        go_ret
        exact ⟨_, rfl, fun h => (by cases h), HB.out⟩
      · have t2 : decide ((40 : Int) < (b.r.length : Int)) = false := decide_eq_false (by omega)
        by_cases h3 : 200 < b.s.length
        · have t3 : decide ((200 : Int) < (b.s.length : Int)) = true := decide_eq_true (by omega)
          clear h0 h1 h2 h3
          go_enter Try.func15, Try.ntmps15
          go_wp2_with fail
          go_ret
          exact ⟨_, rfl, fun h => (by cases h), HB.out⟩
        · have t3 : decide ((200 : Int) < (b.s.length : Int)) = false := decide_eq_false (by omega)
          have hf := Lib.hid (show b.Fit from ⟨by omega, by omega, by omega, by omega⟩)
          clear h0 h1 h2 h3
          go_enter Try.func15, Try.ntmps15
          go_wp2_with fail
          go_ret
          exact ⟨_, rfl, fun _ => hf.out, HB.out⟩

def riseHB : List (List Int) → Bool
  | a :: b :: t => decide (a.headD 0 < b.headD 0) && riseHB (b :: t)
  | _ => true
def stLt' (a b : List Int) : Prop := a.headD 0 < b.headD 0 ∨ a.headD 0 = b.headD 0 ∧ a.tail.headD 0 < b.tail.headD 0
instance (a b : List Int) : Decidable (stLt' a b) := by unfold stLt'; infer_instance
def riseSB : List (List Int) → Bool
  | a :: b :: t => decide (stLt' a b) && riseSB (b :: t)
  | _ => true
theorem riseHB_iff : ∀ (l : List (List Int)), riseHB l = true ↔ riseH l
  | [] => by simp [riseHB, riseH]
  | [a] => by simp [riseHB, riseH]
  | a :: b :: t => by
    rw [riseHB, Bool.and_eq_true, riseHB_iff (b :: t), decide_eq_true_eq]
    unfold riseH
    rw [List.pairwise_cons (a := a)]
    constructor
    · rintro ⟨h1, h2⟩
      refine ⟨fun x hx => ?_, h2⟩
      rcases List.mem_cons.1 hx with rfl | hx
      · exact h1
      · have := (List.pairwise_cons.1 h2).1 x hx; omega
    · rintro ⟨h1, h2⟩
      exact ⟨h1 b (by simp), h2⟩
theorem riseSB_iff : ∀ (l : List (List Int)), riseSB l = true ↔ riseS l
  | [] => by simp [riseSB, riseS]
  | [a] => by simp [riseSB, riseS]
  | a :: b :: t => by
    rw [riseSB, Bool.and_eq_true, riseSB_iff (b :: t), decide_eq_true_eq]
    unfold riseS
    rw [List.pairwise_cons (a := a)]
    constructor
    · rintro ⟨h1, h2⟩
      refine ⟨fun x hx => ?_, h2⟩
      rcases List.mem_cons.1 hx with rfl | hx
      · exact h1
      · have := (List.pairwise_cons.1 h2).1 x hx; unfold stLt at this ⊢; unfold stLt' at h1; omega
    · rintro ⟨h1, h2⟩
      exact ⟨h1 b (by simp), h2⟩
theorem drop_two {α : Type} {l : List α} {i : Nat} {a b : α} (ha : l[i]? = some a) (hb : l[i + 1]? = some b) : l.drop i = a :: b :: l.drop (i + 2) := by
  obtain ⟨h1, rfl⟩ := List.getElem?_eq_some_iff.1 ha
  obtain ⟨h2, rfl⟩ := List.getElem?_eq_some_iff.1 hb
  rw [List.drop_eq_getElem_cons h1, List.drop_eq_getElem_cons h2]
theorem riseHB_step {l : List (List Int)} {i : Nat} {a b : List Int} (ha : l[i]? = some a) (hb : l[i + 1]? = some b) : riseHB (l.drop i) = (decide (a.headD 0 < b.headD 0) && riseHB (l.drop (i + 1))) := by
  rw [drop_two ha hb]
  obtain ⟨h2, rfl⟩ := List.getElem?_eq_some_iff.1 hb
  rw [List.drop_eq_getElem_cons h2, riseHB]
theorem riseSB_step {l : List (List Int)} {i : Nat} {a b : List Int} (ha : l[i]? = some a) (hb : l[i + 1]? = some b) : riseSB (l.drop i) = (decide (stLt' a b) && riseSB (l.drop (i + 1))) := by
  rw [drop_two ha hb]
  obtain ⟨h2, rfl⟩ := List.getElem?_eq_some_iff.1 hb
  rw [List.drop_eq_getElem_cons h2, riseSB]
theorem riseHB_end {l : List (List Int)} {i : Nat} (h : l.length ≤ i + 1) : riseHB (l.drop i) = true := by
  have : (l.drop i).length ≤ 1 := by simp; omega
  match l.drop i, this with
  | [], _ => rfl
  | [a], _ => rfl
theorem riseSB_end {l : List (List Int)} {i : Nat} (h : l.length ≤ i + 1) : riseSB (l.drop i) = true := by
  have : (l.drop i).length ≤ 1 := by simp; omega
  match l.drop i, this with
  | [], _ => rfl
  | [a], _ => rfl
def Bk.riseB (b : Bk) : Bool := riseHB b.h && (riseHB b.o && (riseHB b.r && riseSB b.s))
theorem Bk.riseB_iff (b : Bk) : b.riseB = true ↔ b.Rise := by
  unfold Bk.riseB Bk.Rise
  simp only [Bool.and_eq_true, riseHB_iff, riseSB_iff]

set_option maxRecDepth 100000 in
set_option maxHeartbeats 8000000 in
theorem rRise_any (v : Value) (b : Bk) (w : World) (hb : Hid (BkAt w v b)) (hs : Hid b.Small) :
    Calls Try.prog 16 #[v] w fun e w' => e = .returned (.bool b.riseB) ∧ Below w.heap.size w w' := by
  obtain ⟨vh, vs, vo, vr, rfl, g1, g2, g3, g4⟩ := hb.out
  obtain ⟨Ah, ch, rfl, _⟩ := g1
  obtain ⟨As, cs, rfl, _⟩ := g2
  obtain ⟨Ao, co, rfl, _⟩ := g3
  obtain ⟨Ar, cr, rfl, _⟩ := g4
  obtain ⟨w1, hw1⟩ : ∃ w1, w.alloc (.cells #[.slice Ah b.h.length ch, .slice As b.s.length cs, .slice Ao b.o.length co, .slice Ar b.r.length cr, .int .i64 b.n] 37) = w1 := ⟨_, rfl⟩
  have HB : Hid (Below w.heap.size w w1) := by rw [← hw1]; exact below_alloc (Below.refl _ _) (Nat.le_refl _) _
  have K : Hid (w1.heap[w.heap.size]? = some (.cells #[.slice Ah b.h.length ch, .slice As b.s.length cs, .slice Ao b.o.length co, .slice Ar b.r.length cr, .int .i64 b.n] 37 (0, 0))) := by rw [← hw1]; exact heap_new w _
  obtain ⟨_, _, _, _, hh, g1, g2, g3, g4⟩ := hb.out.call HB.out
  injection hh with hh
  simp only [Array.mk.injEq, List.cons.injEq] at hh
  obtain ⟨rfl, rfl, rfl, rfl, _⟩ := hh
  have R0 := Lib.hid g1.rec'
  have R1 := Lib.hid g2.rec'
  have R2 := Lib.hid g3.rec'
  have R3 := Lib.hid g4.rec'
  have hl : b.h.length ≤ 1000000 ∧ b.s.length ≤ 1000000 ∧ b.o.length ≤ 1000000 ∧ b.r.length ≤ 1000000 := by have := hs.out; unfold Bk.Small at this; omega
  obtain ⟨hlh, hls, hlo, hlr⟩ := hl
  obtain ⟨Res, hRes⟩ : ∃ Res, b.riseB = Res := ⟨_, rfl⟩
  rw [hRes]
  unfold Bk.riseB at hRes
  replace hRes := Lib.hid hRes
  have hw1' := Lib.hid hw1
  clear hb g1 g2 g3 g4 hw1 hs
  go_enter Try.func16, Try.ntmps16
  go_wp2_with fail
  rw [hw1'.out]
  go_loopw [3] (fun s6 wr => ∃ j : Nat, s6 = .int .i64 ((j : Int) + 1) ∧ Hid (j ≤ b.h.length) ∧ Hid (riseHB b.h = riseHB (b.h.drop j)) ∧ Hid (Below w1.heap.size w1 wr)) (fun s6 _ => b.h.length + 1 - (intOf s6).toNat)
  case atStart => exact ⟨0, rfl, Nat.zero_le _, rfl, Below.refl _ _⟩
  case round =>
    obtain ⟨j, rfl, hjl, hrest, hBr⟩ := hrel
    replace hjl := hjl.out
    have cb := (hBr.out.cell (p := ⟨w.heap.size, 0, none⟩) (Array.getElem?_eq_some_iff.1 K.out).1).trans (cells_of_blk K.out 0 _ rfl)
    by_cases hin : j + 1 < b.h.length
    · have tn : decide ((j : Int) + 1 < (b.h.length : Int)) = true := decide_eq_true (by omega)
      have hge : b.h[j]? = some b.h[j] := List.getElem?_eq_getElem (by omega)
      have hge2 : b.h[j + 1]? = some b.h[j + 1] := List.getElem?_eq_getElem hin
      obtain ⟨A', c', hA', hi⟩ := R0.out
      injection hA' with hA1 hA2 hA3
      subst hA1 hA3
      obtain ⟨hk, b0, o0, hA0, hbl, hc⟩ := hi j _ hge
      obtain ⟨hk2, b0', o0', hA0', hbl', hc2⟩ := hi (j + 1) _ hge2
      subst hA0
      injection hA0' with hA0'
      injection hA0' with hx1 hx2
      subst hx1 hx2
      have hst := Lib.hid (riseHB_step hge hge2)
      clear hA2 hge hge2 hi
      generalize b.h[j] = r at *
      generalize b.h[j + 1] = r2 at *
      obtain ⟨y0, y1, y2, y3, rfl⟩ : ∃ y0 y1 y2 y3, r = [y0, y1, y2, y3] := by
        match r, hk with
        | [y0, y1, y2, y3], _ => exact ⟨y0, y1, y2, y3, rfl⟩
      obtain ⟨z0, z1, z2, z3, rfl⟩ : ∃ z0 z1 z2 z3, r2 = [z0, z1, z2, z3] := by
        match r2, hk2 with
        | [z0, z1, z2, z3], _ => exact ⟨z0, z1, z2, z3, rfl⟩
      have c0 : wr.cell? ⟨b0, o0 + j * 4, none⟩ = some (.int .i64 y0) := (hBr.out.cell (p := ⟨b0, o0 + j * 4 + 0, none⟩) hbl).trans (hc 0 _ rfl)
      have d0 : wr.cell? ⟨b0, o0 + (j + 1) * 4, none⟩ = some (.int .i64 z0) := (hBr.out.cell (p := ⟨b0, o0 + (j + 1) * 4 + 0, none⟩) hbl).trans (hc2 0 _ rfl)
      have hm0 : IntKind.i64.wrap ((j : Int) + 1 - 1) = (j : Int) := by rw [IntKind.wrap_i64]; omega
      have hm1 : (j : Int) + 1 - 1 = (j : Int) := by omega
      have htn : ((j : Int) + 1).toNat = j + 1 := by omega
      have hb1 : (0 : Int) ≤ (j : Int) + 1 := by omega
      have hb2 : (j : Int) + 1 < (b.h.length : Int) := by omega
      have hb3 : (j : Int) < (b.h.length : Int) := by omega
      have hmj : IntKind.i64.wrap (j : Int) = (j : Int) := by rw [IntKind.wrap_i64]; omega
      have hwl : w.heap.size < wr.heap.size := Nat.lt_of_lt_of_le (Array.getElem?_eq_some_iff.1 K.out).1 hBr.out.size
      have hbl3 : b0 < wr.heap.size := Nat.lt_of_lt_of_le hbl hBr.out.size
      have hw2 : IntKind.i64.wrap ((j : Int) + 1 + 1) = (j : Int) + 1 + 1 := by rw [IntKind.wrap_i64]; omega
      clear hc hc2 hk hk2
      by_cases hlt : y0 < z0
      · have tl : decide (z0 ≤ y0) = false := decide_eq_false (by omega)
        have hlt' : ¬ z0 ≤ y0 := by omega
        replace hst := hst.out
        rw [show decide (([y0, y1, y2, y3] : List Int).headD 0 < ([z0, z1, z2, z3] : List Int).headD 0) = true from decide_eq_true hlt, Bool.true_and] at hst
        have hst2 := Lib.hid (hrest.out.trans hst)
        clear hst hlt
        go_wp2_with fail
        go_quiet (fail)
        go_wp2_with fail
        go_roundw
        case rel => exact ⟨j + 1, by go_num, by show _ ≤ _; omega, hst2.out, below_drewN hBr.out _⟩
        case measure => simp [intOf]; omega
      · have tl : decide (z0 ≤ y0) = true := decide_eq_true (by omega)
        have hlt' : z0 ≤ y0 := by omega
        replace hst := hst.out
        rw [show decide (([y0, y1, y2, y3] : List Int).headD 0 < ([z0, z1, z2, z3] : List Int).headD 0) = false from decide_eq_false hlt, Bool.false_and] at hst
        have hst2 := Lib.hid (hrest.out.trans hst)
        clear hst hlt
        go_wp2_with fail
        go_quiet (fail)
        go_wp2_with fail
        go_ret
        have hR : Res = false := by simp only [← hRes.out, hst2.out, Bool.false_and, Bool.and_false, Bool.true_and]
        subst hR
        exact ⟨rfl, HB.out.trans ((below_drewN hBr.out _).mono HB.out.size)⟩
    · have tn : decide ((j : Int) + 1 < (b.h.length : Int)) = false := decide_eq_false (by omega)
      have T0 : Hid (riseHB b.h = true) := hrest.out.trans (riseHB_end (by omega))
      have hBr0 := hBr
      clear hrest hBr hjl
      go_wp2_with fail
      go_loopw [4] (fun s6 wr => ∃ j : Nat, s6 = .int .i64 ((j : Int) + 1) ∧ Hid (j ≤ b.o.length) ∧ Hid (riseHB b.o = riseHB (b.o.drop j)) ∧ Hid (Below w1.heap.size w1 wr)) (fun s6 _ => b.o.length + 1 - (intOf s6).toNat)
      case atStart => exact ⟨0, rfl, Nat.zero_le _, rfl, hBr0.out⟩
      case round =>
        obtain ⟨j, rfl, hjl, hrest, hBr⟩ := hrel
        replace hjl := hjl.out
        have cb := (hBr.out.cell (p := ⟨w.heap.size, 2, none⟩) (Array.getElem?_eq_some_iff.1 K.out).1).trans (cells_of_blk K.out 2 _ rfl)
        by_cases hin : j + 1 < b.o.length
        · have tn : decide ((j : Int) + 1 < (b.o.length : Int)) = true := decide_eq_true (by omega)
          have hge : b.o[j]? = some b.o[j] := List.getElem?_eq_getElem (by omega)
          have hge2 : b.o[j + 1]? = some b.o[j + 1] := List.getElem?_eq_getElem hin
          obtain ⟨A', c', hA', hi⟩ := R2.out
          injection hA' with hA1 hA2 hA3
          subst hA1 hA3
          obtain ⟨hk, b0, o0, hA0, hbl, hc⟩ := hi j _ hge
          obtain ⟨hk2, b0', o0', hA0', hbl', hc2⟩ := hi (j + 1) _ hge2
          subst hA0
          injection hA0' with hA0'
          injection hA0' with hx1 hx2
          subst hx1 hx2
          have hst := Lib.hid (riseHB_step hge hge2)
          clear hA2 hge hge2 hi
          generalize b.o[j] = r at *
          generalize b.o[j + 1] = r2 at *
          obtain ⟨y0, y1, y2, y3, y4, y5, rfl⟩ : ∃ y0 y1 y2 y3 y4 y5, r = [y0, y1, y2, y3, y4, y5] := by
            match r, hk with
            | [y0, y1, y2, y3, y4, y5], _ => exact ⟨y0, y1, y2, y3, y4, y5, rfl⟩
          obtain ⟨z0, z1, z2, z3, z4, z5, rfl⟩ : ∃ z0 z1 z2 z3 z4 z5, r2 = [z0, z1, z2, z3, z4, z5] := by
            match r2, hk2 with
            | [z0, z1, z2, z3, z4, z5], _ => exact ⟨z0, z1, z2, z3, z4, z5, rfl⟩
          have c0 : wr.cell? ⟨b0, o0 + j * 6, none⟩ = some (.int .i64 y0) := (hBr.out.cell (p := ⟨b0, o0 + j * 6 + 0, none⟩) hbl).trans (hc 0 _ rfl)
          have d0 : wr.cell? ⟨b0, o0 + (j + 1) * 6, none⟩ = some (.int .i64 z0) := (hBr.out.cell (p := ⟨b0, o0 + (j + 1) * 6 + 0, none⟩) hbl).trans (hc2 0 _ rfl)
          have hm0 : IntKind.i64.wrap ((j : Int) + 1 - 1) = (j : Int) := by rw [IntKind.wrap_i64]; omega
          have hm1 : (j : Int) + 1 - 1 = (j : Int) := by omega
          have htn : ((j : Int) + 1).toNat = j + 1 := by omega
          have hb1 : (0 : Int) ≤ (j : Int) + 1 := by omega
          have hb2 : (j : Int) + 1 < (b.o.length : Int) := by omega
          have hb3 : (j : Int) < (b.o.length : Int) := by omega
          have hmj : IntKind.i64.wrap (j : Int) = (j : Int) := by rw [IntKind.wrap_i64]; omega
          have hwl : w.heap.size < wr.heap.size := Nat.lt_of_lt_of_le (Array.getElem?_eq_some_iff.1 K.out).1 hBr.out.size
          have hbl3 : b0 < wr.heap.size := Nat.lt_of_lt_of_le hbl hBr.out.size
          have hw2 : IntKind.i64.wrap ((j : Int) + 1 + 1) = (j : Int) + 1 + 1 := by rw [IntKind.wrap_i64]; omega
          clear hc hc2 hk hk2
          by_cases hlt : y0 < z0
          · have tl : decide (z0 ≤ y0) = false := decide_eq_false (by omega)
            have hlt' : ¬ z0 ≤ y0 := by omega
            replace hst := hst.out
            rw [show decide (([y0, y1, y2, y3, y4, y5] : List Int).headD 0 < ([z0, z1, z2, z3, z4, z5] : List Int).headD 0) = true from decide_eq_true hlt, Bool.true_and] at hst
            have hst2 := Lib.hid (hrest.out.trans hst)
            clear hst hlt
            go_wp2_with fail
            go_quiet (fail)
            go_wp2_with fail
            go_roundw
            case rel => exact ⟨j + 1, by go_num, by show _ ≤ _; omega, hst2.out, below_drewN hBr.out _⟩
            case measure => simp [intOf]; omega
          · have tl : decide (z0 ≤ y0) = true := decide_eq_true (by omega)
            have hlt' : z0 ≤ y0 := by omega
            replace hst := hst.out
            rw [show decide (([y0, y1, y2, y3, y4, y5] : List Int).headD 0 < ([z0, z1, z2, z3, z4, z5] : List Int).headD 0) = false from decide_eq_false hlt, Bool.false_and] at hst
            have hst2 := Lib.hid (hrest.out.trans hst)
            clear hst hlt
            go_wp2_with fail
            go_quiet (fail)
            go_wp2_with fail
            go_ret
            have hR : Res = false := by simp only [← hRes.out, T0.out, hst2.out, Bool.false_and, Bool.and_false, Bool.true_and]
            subst hR
            exact ⟨rfl, HB.out.trans ((below_drewN hBr.out _).mono HB.out.size)⟩
        · have tn : decide ((j : Int) + 1 < (b.o.length : Int)) = false := decide_eq_false (by omega)
          have T1 : Hid (riseHB b.o = true) := hrest.out.trans (riseHB_end (by omega))
          have hBr1 := hBr
          clear hrest hBr hjl
          go_wp2_with fail
          go_loopw [5] (fun s6 wr => ∃ j : Nat, s6 = .int .i64 ((j : Int) + 1) ∧ Hid (j ≤ b.r.length) ∧ Hid (riseHB b.r = riseHB (b.r.drop j)) ∧ Hid (Below w1.heap.size w1 wr)) (fun s6 _ => b.r.length + 1 - (intOf s6).toNat)
          case atStart => exact ⟨0, rfl, Nat.zero_le _, rfl, hBr1.out⟩
          case round =>
            obtain ⟨j, rfl, hjl, hrest, hBr⟩ := hrel
            replace hjl := hjl.out
            have cb := (hBr.out.cell (p := ⟨w.heap.size, 3, none⟩) (Array.getElem?_eq_some_iff.1 K.out).1).trans (cells_of_blk K.out 3 _ rfl)
            by_cases hin : j + 1 < b.r.length
            · have tn : decide ((j : Int) + 1 < (b.r.length : Int)) = true := decide_eq_true (by omega)
              have hge : b.r[j]? = some b.r[j] := List.getElem?_eq_getElem (by omega)
              have hge2 : b.r[j + 1]? = some b.r[j + 1] := List.getElem?_eq_getElem hin
              obtain ⟨A', c', hA', hi⟩ := R3.out
              injection hA' with hA1 hA2 hA3
              subst hA1 hA3
              obtain ⟨hk, b0, o0, hA0, hbl, hc⟩ := hi j _ hge
              obtain ⟨hk2, b0', o0', hA0', hbl', hc2⟩ := hi (j + 1) _ hge2
              subst hA0
              injection hA0' with hA0'
              injection hA0' with hx1 hx2
              subst hx1 hx2
              have hst := Lib.hid (riseHB_step hge hge2)
              clear hA2 hge hge2 hi
              generalize b.r[j] = r at *
              generalize b.r[j + 1] = r2 at *
              obtain ⟨y0, y1, rfl⟩ : ∃ y0 y1, r = [y0, y1] := by
                match r, hk with
                | [y0, y1], _ => exact ⟨y0, y1, rfl⟩
              obtain ⟨z0, z1, rfl⟩ : ∃ z0 z1, r2 = [z0, z1] := by
                match r2, hk2 with
                | [z0, z1], _ => exact ⟨z0, z1, rfl⟩
              have c0 : wr.cell? ⟨b0, o0 + j * 2, none⟩ = some (.int .i64 y0) := (hBr.out.cell (p := ⟨b0, o0 + j * 2 + 0, none⟩) hbl).trans (hc 0 _ rfl)
              have d0 : wr.cell? ⟨b0, o0 + (j + 1) * 2, none⟩ = some (.int .i64 z0) := (hBr.out.cell (p := ⟨b0, o0 + (j + 1) * 2 + 0, none⟩) hbl).trans (hc2 0 _ rfl)
              have hm0 : IntKind.i64.wrap ((j : Int) + 1 - 1) = (j : Int) := by rw [IntKind.wrap_i64]; omega
              have hm1 : (j : Int) + 1 - 1 = (j : Int) := by omega
              have htn : ((j : Int) + 1).toNat = j + 1 := by omega
              have hb1 : (0 : Int) ≤ (j : Int) + 1 := by omega
              have hb2 : (j : Int) + 1 < (b.r.length : Int) := by omega
              have hb3 : (j : Int) < (b.r.length : Int) := by omega
              have hmj : IntKind.i64.wrap (j : Int) = (j : Int) := by rw [IntKind.wrap_i64]; omega
              have hwl : w.heap.size < wr.heap.size := Nat.lt_of_lt_of_le (Array.getElem?_eq_some_iff.1 K.out).1 hBr.out.size
              have hbl3 : b0 < wr.heap.size := Nat.lt_of_lt_of_le hbl hBr.out.size
              have hw2 : IntKind.i64.wrap ((j : Int) + 1 + 1) = (j : Int) + 1 + 1 := by rw [IntKind.wrap_i64]; omega
              clear hc hc2 hk hk2
              by_cases hlt : y0 < z0
              · have tl : decide (z0 ≤ y0) = false := decide_eq_false (by omega)
                have hlt' : ¬ z0 ≤ y0 := by omega
                replace hst := hst.out
                rw [show decide (([y0, y1] : List Int).headD 0 < ([z0, z1] : List Int).headD 0) = true from decide_eq_true hlt, Bool.true_and] at hst
                have hst2 := Lib.hid (hrest.out.trans hst)
                clear hst hlt
                go_wp2_with fail
                go_quiet (fail)
                go_wp2_with fail
                go_roundw
                case rel => exact ⟨j + 1, by go_num, by show _ ≤ _; omega, hst2.out, below_drewN hBr.out _⟩
                case measure => simp [intOf]; omega
              · have tl : decide (z0 ≤ y0) = true := decide_eq_true (by omega)
                have hlt' : z0 ≤ y0 := by omega
                replace hst := hst.out
                rw [show decide (([y0, y1] : List Int).headD 0 < ([z0, z1] : List Int).headD 0) = false from decide_eq_false hlt, Bool.false_and] at hst
                have hst2 := Lib.hid (hrest.out.trans hst)
                clear hst hlt
                go_wp2_with fail
                go_quiet (fail)
                go_wp2_with fail
                go_ret
                have hR : Res = false := by simp only [← hRes.out, T0.out, T1.out, hst2.out, Bool.false_and, Bool.and_false, Bool.true_and]
                subst hR
                exact ⟨rfl, HB.out.trans ((below_drewN hBr.out _).mono HB.out.size)⟩
            · have tn : decide ((j : Int) + 1 < (b.r.length : Int)) = false := decide_eq_false (by omega)
              have T2 : Hid (riseHB b.r = true) := hrest.out.trans (riseHB_end (by omega))
              have hBr2 := hBr
              clear hrest hBr hjl
              go_wp2_with fail
              go_loopw [6] (fun s6 wr => ∃ j : Nat, s6 = .int .i64 ((j : Int) + 1) ∧ Hid (j ≤ b.s.length) ∧ Hid (riseSB b.s = riseSB (b.s.drop j)) ∧ Hid (Below w1.heap.size w1 wr)) (fun s6 _ => b.s.length + 1 - (intOf s6).toNat)
              case atStart => exact ⟨0, rfl, Nat.zero_le _, rfl, hBr2.out⟩
              case round =>
                obtain ⟨j, rfl, hjl, hrest, hBr⟩ := hrel
                replace hjl := hjl.out
                have cb := (hBr.out.cell (p := ⟨w.heap.size, 1, none⟩) (Array.getElem?_eq_some_iff.1 K.out).1).trans (cells_of_blk K.out 1 _ rfl)
                by_cases hin : j + 1 < b.s.length
                · have tn : decide ((j : Int) + 1 < (b.s.length : Int)) = true := decide_eq_true (by omega)
                  have hge : b.s[j]? = some b.s[j] := List.getElem?_eq_getElem (by omega)
                  have hge2 : b.s[j + 1]? = some b.s[j + 1] := List.getElem?_eq_getElem hin
                  obtain ⟨A', c', hA', hi⟩ := R1.out
                  injection hA' with hA1 hA2 hA3
                  subst hA1 hA3
                  obtain ⟨hk, b0, o0, hA0, hbl, hc⟩ := hi j _ hge
                  obtain ⟨hk2, b0', o0', hA0', hbl', hc2⟩ := hi (j + 1) _ hge2
                  subst hA0
                  injection hA0' with hA0'
                  injection hA0' with hx1 hx2
                  subst hx1 hx2
                  have hst := Lib.hid (riseSB_step hge hge2)
                  clear hA2 hge hge2 hi
                  generalize b.s[j] = r at *
                  generalize b.s[j + 1] = r2 at *
                  obtain ⟨y0, y1, y2, rfl⟩ : ∃ y0 y1 y2, r = [y0, y1, y2] := by
                    match r, hk with
                    | [y0, y1, y2], _ => exact ⟨y0, y1, y2, rfl⟩
                  obtain ⟨z0, z1, z2, rfl⟩ : ∃ z0 z1 z2, r2 = [z0, z1, z2] := by
                    match r2, hk2 with
                    | [z0, z1, z2], _ => exact ⟨z0, z1, z2, rfl⟩
                  have c0 : wr.cell? ⟨b0, o0 + j * 3, none⟩ = some (.int .i64 y0) := (hBr.out.cell (p := ⟨b0, o0 + j * 3 + 0, none⟩) hbl).trans (hc 0 _ rfl)
                  have d0 : wr.cell? ⟨b0, o0 + (j + 1) * 3, none⟩ = some (.int .i64 z0) := (hBr.out.cell (p := ⟨b0, o0 + (j + 1) * 3 + 0, none⟩) hbl).trans (hc2 0 _ rfl)
                  have c1 : wr.cell? ⟨b0, o0 + j * 3 + 1, none⟩ = some (.int .i64 y1) := (hBr.out.cell (p := ⟨b0, o0 + j * 3 + 1, none⟩) hbl).trans (hc 1 _ rfl)
                  have d1 : wr.cell? ⟨b0, o0 + (j + 1) * 3 + 1, none⟩ = some (.int .i64 z1) := (hBr.out.cell (p := ⟨b0, o0 + (j + 1) * 3 + 1, none⟩) hbl).trans (hc2 1 _ rfl)
                  have c2 : wr.cell? ⟨b0, o0 + j * 3 + 2, none⟩ = some (.int .i64 y2) := (hBr.out.cell (p := ⟨b0, o0 + j * 3 + 2, none⟩) hbl).trans (hc 2 _ rfl)
                  have d2 : wr.cell? ⟨b0, o0 + (j + 1) * 3 + 2, none⟩ = some (.int .i64 z2) := (hBr.out.cell (p := ⟨b0, o0 + (j + 1) * 3 + 2, none⟩) hbl).trans (hc2 2 _ rfl)
                  have hm0 : IntKind.i64.wrap ((j : Int) + 1 - 1) = (j : Int) := by rw [IntKind.wrap_i64]; omega
                  have hm1 : (j : Int) + 1 - 1 = (j : Int) := by omega
                  have htn : ((j : Int) + 1).toNat = j + 1 := by omega
                  have hb1 : (0 : Int) ≤ (j : Int) + 1 := by omega
                  have hb2 : (j : Int) + 1 < (b.s.length : Int) := by omega
                  have hb3 : (j : Int) < (b.s.length : Int) := by omega
                  have hmj : IntKind.i64.wrap (j : Int) = (j : Int) := by rw [IntKind.wrap_i64]; omega
                  have hwl : w.heap.size < wr.heap.size := Nat.lt_of_lt_of_le (Array.getElem?_eq_some_iff.1 K.out).1 hBr.out.size
                  have hbl3 : b0 < wr.heap.size := Nat.lt_of_lt_of_le hbl hBr.out.size
                  have hw2 : IntKind.i64.wrap ((j : Int) + 1 + 1) = (j : Int) + 1 + 1 := by rw [IntKind.wrap_i64]; omega
                  clear hc hc2 hk hk2
                  by_cases h1 : z0 < y0
                  · have t1 : decide (z0 < y0) = true := decide_eq_true h1
                    replace hst := hst.out
                    rw [show decide (stLt' ([y0, y1, y2] : List Int) [z0, z1, z2]) = false from decide_eq_false (by unfold stLt'; simp only [List.headD_cons, List.tail_cons]; omega), Bool.false_and] at hst
                    have hst2 := Lib.hid (hrest.out.trans hst)
                    clear hst
                    go_wp2_with fail
                    go_region
                    all_goals
                      go_wp2_with fail
                      go_ret
                      have hR : Res = false := by simp only [← hRes.out, T0.out, T1.out, T2.out, hst2.out, Bool.false_and, Bool.and_false, Bool.true_and]
                      subst hR
                      exact ⟨rfl, HB.out.trans ((below_alloc (below_alloc (Below.drew hBr.out) (by have := hBr.out.size; first | (simp; omega) | omega) _) (by have := hBr.out.size; first | (simp; omega) | omega) _).mono HB.out.size)⟩
                  · have t1 : decide (z0 < y0) = false := decide_eq_false h1
                    by_cases h2 : y0 = z0
                    · have t2 : (y0 == z0) = true := by simp [h2]
                      by_cases h3 : z1 ≤ y1
                      · have t3 : decide (z1 ≤ y1) = true := decide_eq_true h3
                        replace hst := hst.out
                        rw [show decide (stLt' ([y0, y1, y2] : List Int) [z0, z1, z2]) = false from decide_eq_false (by unfold stLt'; simp only [List.headD_cons, List.tail_cons]; omega), Bool.false_and] at hst
                        have hst2 := Lib.hid (hrest.out.trans hst)
                        clear hst
                        go_wp2_with fail
                        go_region
                        all_goals
                          go_wp2_with fail
                          go_ret
                          have hR : Res = false := by simp only [← hRes.out, T0.out, T1.out, T2.out, hst2.out, Bool.false_and, Bool.and_false, Bool.true_and]
                          subst hR
                          exact ⟨rfl, HB.out.trans ((below_alloc (below_alloc (Below.drew hBr.out) (by have := hBr.out.size; first | (simp; omega) | omega) _) (by have := hBr.out.size; first | (simp; omega) | omega) _).mono HB.out.size)⟩
                      · have t3 : decide (z1 ≤ y1) = false := decide_eq_false h3
                        replace hst := hst.out
                        rw [show decide (stLt' ([y0, y1, y2] : List Int) [z0, z1, z2]) = true from decide_eq_true (by unfold stLt'; simp only [List.headD_cons, List.tail_cons]; omega), Bool.true_and] at hst
                        have hst2 := Lib.hid (hrest.out.trans hst)
                        clear hst
                        go_wp2_with fail
                        go_region
                        all_goals
                          go_wp2_with fail
                          go_roundw
                          case rel => exact ⟨j + 1, by go_num, by show _ ≤ _; omega, hst2.out, below_alloc (below_alloc (Below.drew hBr.out) (by have := hBr.out.size; first | (simp; omega) | omega) _) (by have := hBr.out.size; first | (simp; omega) | omega) _⟩
                          case measure => simp [intOf]; omega
                    · have t2 : (y0 == z0) = false := by simp [h2]
                      replace hst := hst.out
                      rw [show decide (stLt' ([y0, y1, y2] : List Int) [z0, z1, z2]) = true from decide_eq_true (by unfold stLt'; simp only [List.headD_cons, List.tail_cons]; omega), Bool.true_and] at hst
                      have hst2 := Lib.hid (hrest.out.trans hst)
                      clear hst
                      go_wp2_with fail
                      go_region
                      all_goals
                        go_wp2_with fail
                        go_roundw
                        case rel => exact ⟨j + 1, by go_num, by show _ ≤ _; omega, hst2.out, below_alloc (below_alloc (Below.drew hBr.out) (by have := hBr.out.size; first | (simp; omega) | omega) _) (by have := hBr.out.size; first | (simp; omega) | omega) _⟩
                        case measure => simp [intOf]; omega
                · have tn : decide ((j : Int) + 1 < (b.s.length : Int)) = false := decide_eq_false (by omega)
                  have T3 : Hid (riseSB b.s = true) := hrest.out.trans (riseSB_end (by omega))
                  have hBr3 := hBr
                  clear hrest hBr hjl
                  go_wp2_with fail
                  go_ret
                  have hR : Res = true := by simp only [← hRes.out, T0.out, T1.out, T2.out, T3.out, Bool.true_and]
                  subst hR
                  exact ⟨rfl, HB.out.trans (hBr3.out.mono HB.out.size)⟩

end Go.Proofs.Ytfkfpppiikgjbaa
