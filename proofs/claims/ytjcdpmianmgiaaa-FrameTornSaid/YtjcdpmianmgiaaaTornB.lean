/- What FrameTorn counts: plain laws. -/
import Derived.Test.YtjcdpmianmgiaaaTornA
namespace Go.Proofs.Ytjcdpmianmgiaaa
open Go.RowKit

def kOf (kept : List Nat) (i : Nat) (s : ByteArray) : Nat := match kept[i]? with
  | some k => min (frameStr s).size k
  | none => (frameStr s).size
/-- The rows, and how many bytes of each one's frame are kept. -/
def pairsOf (kept : List Nat) : Nat → List ByteArray → List (ByteArray × Nat)
  | _, [] => []
  | i, s :: l => (s, kOf kept i s) :: pairsOf kept (i + 1) l
theorem pairsOf_length (kept : List Nat) : ∀ (l : List ByteArray) (i : Nat), (pairsOf kept i l).length = l.length
  | [], _ => rfl
  | s :: l, i => by simp [pairsOf, pairsOf_length kept l]
theorem pairsOf_get (kept : List Nat) : ∀ (l : List ByteArray) (i j : Nat), (pairsOf kept i l)[j]? = (l[j]?).map fun s => (s, kOf kept (i + j) s)
  | [], _, _ => by simp [pairsOf]
  | s :: l, i, 0 => by simp [pairsOf]
  | s :: l, i, j + 1 => by
    rw [pairsOf, List.getElem?_cons_succ, pairsOf_get kept l, List.getElem?_cons_succ, show i + 1 + j = i + (j + 1) by omega]
theorem kOf_le (kept : List Nat) (i : Nat) (s : ByteArray) : kOf kept i s ≤ (frameStr s).size := by
  unfold kOf; split
  · exact Nat.min_le_left _ _
  · exact Nat.le_refl _
def fullB (p : ByteArray × Nat) : Bool := p.2 == (frameStr p.1).size
/-- Are all whole till i; how many are at the beginning. -/
def wholeB (l : List (ByteArray × Nat)) (i : Nat) : Bool := (l.take i).all fullB
def wantN (l : List (ByteArray × Nat)) : Nat → Nat
  | 0 => 0
  | i + 1 => if wholeB l (i + 1) then wantN l i + 1 else wantN l i
theorem take_succ_get {α : Type} {l : List α} {i : Nat} {p : α} (h : l[i]? = some p) : l.take (i + 1) = l.take i ++ [p] := by
  rw [List.take_add_one, h]; rfl
theorem wholeB_succ {l : List (ByteArray × Nat)} {i : Nat} {p : ByteArray × Nat} (h : l[i]? = some p) : wholeB l (i + 1) = (wholeB l i && fullB p) := by
  unfold wholeB
  rw [take_succ_get h, List.all_append]
  simp
theorem wantN_spec (l : List (ByteArray × Nat)) : ∀ i, i ≤ l.length → wantN l i ≤ i ∧ (∀ j p, j < wantN l i → l[j]? = some p → fullB p = true) ∧ (wholeB l i = true → wantN l i = i) ∧ (wholeB l i = false → wantN l i < i ∧ ∀ p, l[wantN l i]? = some p → fullB p = false)
  | 0, _ => by
    refine ⟨Nat.le_refl _, fun j p hj => absurd hj (Nat.not_lt_zero _), fun _ => rfl, fun h => ?_⟩
    unfold wholeB at h
    simp at h
  | i + 1, h => by
    obtain ⟨h1, h2, h3, h4⟩ := wantN_spec l i (by omega)
    obtain ⟨p, hp⟩ : ∃ p, l[i]? = some p := ⟨_, List.getElem?_eq_getElem (by omega)⟩
    have hs := wholeB_succ hp
    unfold wantN
    cases hw : wholeB l (i + 1) with
    | true =>
      rw [hw] at hs
      have hs' := hs.symm
      rw [Bool.and_eq_true] at hs'
      have h5 := h3 hs'.1
      simp only [if_true]
      refine ⟨by omega, fun j q hj hq => ?_, fun _ => by omega, fun h => by cases h⟩
      by_cases hji : j < wantN l i
      · exact h2 j q hji hq
      · obtain rfl : j = i := by omega
        rw [hp] at hq
        cases hq
        exact hs'.2
    | false =>
      rw [if_neg (by simp)]
      refine ⟨by omega, h2, (fun h => by cases h), fun _ => ?_⟩
      cases hwi : wholeB l i with
      | false => exact ⟨by have := (h4 hwi).1; omega, (h4 hwi).2⟩
      | true =>
        rw [hw, hwi] at hs
        have h5 := h3 hwi
        refine ⟨by omega, fun q hq => ?_⟩
        rw [h5, hp] at hq
        cases hq
        simpa using hs.symm
theorem preL_succ {l : List (ByteArray × Nat)} {i : Nat} {p : ByteArray × Nat} (h : l[i]? = some p) : preL l (i + 1) = preL l i + (frameStr p.1).size := by
  unfold preL
  rw [take_succ_get h, List.map_append, List.sum_append]
  simp
theorem preL_mono (l : List (ByteArray × Nat)) : ∀ i j, i ≤ j → preL l i ≤ preL l j := by
  intro i j h
  induction h with
  | refl => exact Nat.le_refl _
  | step _ ih =>
    refine Nat.le_trans ih ?_
    rename_i m _
    cases hm : l[m]? with
    | none =>
      unfold preL
      rw [List.take_add_one, hm]
      simp
    | some p => rw [preL_succ hm]; omega
/-- How many of the first i lie ahead of m. -/
def cntN (l : List (ByteArray × Nat)) (m : Nat) : Nat → Nat
  | 0 => 0
  | i + 1 => if preL l (i + 1) ≤ m then cntN l m i + 1 else cntN l m i
theorem cntN_spec (l : List (ByteArray × Nat)) (m : Nat) : ∀ i, cntN l m i ≤ i ∧ preL l (cntN l m i) ≤ m ∧ (cntN l m i < i → m < preL l (cntN l m i + 1))
  | 0 => ⟨Nat.le_refl _, by simp [cntN, preL], fun h => absurd h (Nat.lt_irrefl _)⟩
  | i + 1 => by
    obtain ⟨h1, h2, h3⟩ := cntN_spec l m i
    unfold cntN
    split
    · rename_i h
      have : cntN l m i = i := by
        by_cases hlt : cntN l m i < i
        · have := h3 hlt
          have := preL_mono l (cntN l m i + 1) (i + 1) (by omega)
          omega
        · omega
      rw [this]
      exact ⟨Nat.le_refl _, h, fun h => absurd h (Nat.lt_irrefl _)⟩
    · rename_i h
      refine ⟨by omega, h2, fun _ => ?_⟩
      by_cases hlt : cntN l m i < i
      · exact h3 hlt
      · have : cntN l m i = i := by omega
        rw [this]; omega
/-- What Scan tells of the pieces, cut at m. -/
theorem torn_told (rows : List ByteArray) (kept : List Nat) (m : Nat) (x : ByteArray) (hr : ∀ s ∈ rows, 1 ≤ s.size ∧ s.size ≤ 200) (hx : x.data.toList = (tornL (pairsOf kept 0 rows)).take m) :
    framesOf x = (rows.take (cntN (pairsOf kept 0 rows) m (wantN (pairsOf kept 0 rows) rows.length))).map fun s => (s, (frameStr s).size) := by
  have hlen := pairsOf_length kept rows 0
  have hget := pairsOf_get kept rows 0
  have hmap : (pairsOf kept 0 rows).map (·.1) = rows := by
    apply List.ext_getElem?
    intro j
    rw [List.getElem?_map, hget]
    cases rows[j]? <;> rfl
  generalize pairsOf kept 0 rows = L at *
  obtain ⟨w1, w2, w3, w4⟩ := wantN_spec L rows.length (by omega)
  obtain ⟨c1, c2, c3⟩ := cntN_spec L m (wantN L rows.length)
  generalize hw : wantN L rows.length = wn at *
  generalize hc : cntN L m wn = c at *
  have hmem : ∀ p, p ∈ L → 1 ≤ p.1.size ∧ p.1.size ≤ 200 ∧ p.2 ≤ (frameStr p.1).size := by
    intro p hp
    obtain ⟨j, hj, rfl⟩ := List.getElem_of_mem hp
    have h1 := hget j
    rw [List.getElem?_eq_getElem hj] at h1
    cases hs : rows[j]? with
    | none => rw [hs] at h1; cases h1
    | some s =>
      rw [hs] at h1
      simp only [Option.map_some, Option.some.injEq] at h1
      rw [h1]
      obtain ⟨h2, h3⟩ := hr s (List.mem_of_getElem? hs)
      exact ⟨h2, h3, kOf_le _ _ _⟩
  rw [frames_torn L m x hmem hx, wholes_take L m c (by omega) (fun j p hj hp => by have := w2 j p (by omega) hp; unfold fullB at this; simpa using this) c2 ?_, ← hmap, List.map_take]
  intro p hp
  by_cases hlt : c < wn
  · exact .inr (c3 hlt)
  · obtain rfl : c = wn := by omega
    left
    cases hwb : wholeB L rows.length with
    | true =>
      have := w3 hwb
      have := (List.getElem?_eq_some_iff.1 hp).1
      omega
    | false =>
      have := (w4 hwb).2 p hp
      unfold fullB at this
      simpa using this
end Go.Proofs.Ytjcdpmianmgiaaa
