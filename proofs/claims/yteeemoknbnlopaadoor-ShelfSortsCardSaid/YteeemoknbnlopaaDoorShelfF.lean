/- The numbers of files by their kinds: plain laws; how the map of slices reads. -/
import Derived.Test.YteeemoknbnlopaaDoorShelfP
import Derived.Maps.GroupsBeside
namespace Go.Proofs.YteeemoknbnlopaaDoor
open Go Go.RowKit Go.Maps
open Go.ChangeShapes (lits)
set_option linter.unusedVariables false

namespace Shelf
def kOf (s : ByteArray) : Int := (kindP s.data.toList).1
def nOf (s : ByteArray) : Int := (kindP s.data.toList).2.1
def numsP (κ : Int) (l : List ByteArray) : List Int := (l.filter (fun s => decide (kOf s = κ))).map nOf

theorem numsP_snoc (κ : Int) (l : List ByteArray) (s : ByteArray) : numsP κ (l ++ [s]) = if kOf s = κ then numsP κ l ++ [nOf s] else numsP κ l := by
  unfold numsP
  rw [List.filter_append, List.map_append]
  by_cases h : kOf s = κ <;> simp [h]
theorem numsP_len (κ : Int) (l : List ByteArray) : (numsP κ l).length ≤ l.length := by
  unfold numsP
  rw [List.length_map]
  exact List.length_filter_le _ _
theorem numP_range (l : List UInt8) : 0 ≤ (numP l).1 ∧ (numP l).1 ≤ 1099511627776 := by
  unfold numP
  cases h : goN l 0 0 with
  | none => simp
  | some n =>
    have := (goN_dec l [] 0 n (.inl ⟨rfl, rfl⟩) (by omega) h).2
    simp
    omega
theorem kindP_range (l : List UInt8) : (0 ≤ (kindP l).1 ∧ (kindP l).1 < 4) ∧ 0 ≤ (kindP l).2.1 ∧ (kindP l).2.1 ≤ 1099511627776 := by
  unfold kindP
  split
  · simp
  · split
    · simp
    · rename_i b r _
      have := numP_range r
      split
      · simp; omega
      · split
        · simp; omega
        · simp
theorem kOf_range (s : ByteArray) : 0 ≤ kOf s ∧ kOf s < 4 := (kindP_range _).1
theorem nOf_range (s : ByteArray) : 0 ≤ nOf s ∧ nOf s ≤ 1099511627776 := (kindP_range _).2

/-- How many of the kinds below j have files. -/
def cntTo (l : List ByteArray) : Nat → Nat
  | 0 => 0
  | j + 1 => cntTo l j + (if numsP j l = [] then 0 else 1)
theorem cntTo_le (l : List ByteArray) : ∀ j, cntTo l j ≤ j
  | 0 => Nat.le_refl _
  | j + 1 => by
    have := cntTo_le l j
    unfold cntTo
    split <;> omega
theorem cntTo_nil : ∀ j, cntTo [] j = 0
  | 0 => rfl
  | j + 1 => by
    unfold cntTo
    rw [cntTo_nil j]
    rfl
theorem cntTo_snoc (l : List ByteArray) (s : ByteArray) : ∀ j : Nat, cntTo (l ++ [s]) j = cntTo l j + (if kOf s < j ∧ numsP (kOf s) l = [] then 1 else 0)
  | 0 => by
    have := (kOf_range s).1
    rw [if_neg (by omega)]; rfl
  | j + 1 => by
    unfold cntTo
    rw [cntTo_snoc l s j, numsP_snoc]
    by_cases hj : kOf s = j
    · have hA : ¬ (kOf s < (j : Int) ∧ numsP (kOf s) l = []) := fun h => by omega
      have hB : kOf s < ((j + 1 : Nat) : Int) := by omega
      have hC : ¬ (numsP (j : Int) l ++ [nOf s] = []) := by simp
      rw [if_pos hj, if_neg hA, if_neg hC, hj]
      by_cases h0 : numsP (j : Int) l = []
      · rw [if_pos h0, if_pos ⟨by omega, h0⟩]
      · rw [if_neg h0, if_neg (fun h => h0 h.2)]
    · rw [if_neg hj]
      by_cases h1 : kOf s < (j : Int) ∧ numsP (kOf s) l = []
      · have h2 : kOf s < ((j + 1 : Nat) : Int) ∧ numsP (kOf s) l = [] := ⟨by omega, h1.2⟩
        rw [if_pos h1, if_pos h2]; omega
      · have h2 : ¬ (kOf s < ((j + 1 : Nat) : Int) ∧ numsP (kOf s) l = []) := fun h => h1 ⟨by omega, h.2⟩
        rw [if_neg h1, if_neg h2]; rfl

variable {H : Type}
def rowD (zs : List Int) : DataW H := if zs = [] then .nil else .slice (lits .i64 zs) []
/-- How the map reads behind these files. -/
structure IsG (D : DataW H) (l : List ByteArray) : Prop where
  tidy : Tidy D
  at' : ∀ κ : Int, D.atKey (.int .i64 κ) .nil = rowD (numsP κ l)
  has' : ∀ κ : Int, Maps.has D (.int .i64 κ) = decide (numsP κ l ≠ [])
  size' : Maps.size D = cntTo l 4
theorem IsG.nil : IsG (.map [] : DataW H) [] := ⟨tidy_empty, fun _ => rfl, fun _ => rfl, by rw [cntTo_nil]; rfl⟩
theorem key_lit (κ : Int) : WideAt.IsKeyLit (.int .i64 κ) := by first | trivial | exact ⟨_, _, rfl⟩ | simp [WideAt.IsKeyLit]
theorem IsG.step {D : DataW H} {l : List ByteArray} (h : IsG D l) (s : ByteArray) :
    IsG (D.put (.int .i64 (kOf s)) (.slice (lits .i64 (numsP (kOf s) l ++ [nOf s])) [])) (l ++ [s]) := by
  have hne : ∀ κ : Int, ¬ kOf s = κ → (Lit.int .i64 κ) ≠ .int .i64 (kOf s) := fun κ hk e => by injection e with _ e2; exact hk e2.symm
  refine ⟨h.tidy.put (key_lit _) _, fun κ => ?_, fun κ => ?_, ?_⟩
  · rw [numsP_snoc]
    by_cases hk : kOf s = κ
    · subst hk
      rw [if_pos rfl, atKey_put_same h.tidy.isMap (key_lit _)]
      unfold rowD
      rw [if_neg (by simp)]
    · rw [if_neg hk, atKey_put_other (hne κ hk)]
      exact h.at' κ
  · rw [numsP_snoc]
    by_cases hk : kOf s = κ
    · subst hk
      rw [if_pos rfl, has_put_same h.tidy.isMap (key_lit _)]
      simp
    · rw [if_neg hk, has_put_other (hne κ hk)]
      exact h.has' κ
  · rw [size_put h.tidy, h.has' (kOf s), cntTo_snoc, h.size']
    have := kOf_range s
    by_cases h0 : numsP (kOf s) l = []
    · rw [if_neg (by simp [h0]), if_pos ⟨by omega, h0⟩]
    · rw [if_pos (by simp [h0]), if_neg (fun h => h0 h.2)]; rfl
theorem lits_inj {a b : List Int} (h : (lits .i64 a : List (DataW H)) = lits .i64 b) : a = b := by
  unfold lits at h
  exact (List.map_inj_right (fun x y hxy => by injection hxy with h1; injection h1)).1 h
/-- What is found at a key. -/
theorem IsG.found {D : DataW H} {l : List ByteArray} (h : IsG D l) {w : World} {base : Nat} {e : TypeId} {v : Value} {zs : List Int} (κ : Int) (ho : w.ownsInts base e .i64 v zs)
    (hat : D.atKey (.int .i64 κ) .nil = rowDatum .i64 v zs) : zs = numsP κ l := by
  rw [h.at' κ] at hat
  unfold rowD at hat
  rcases ho.datum (H := H) with ⟨h1, rfl⟩ | h1
  · rw [h1] at hat
    split at hat
    · rename_i h2; exact h2.symm
    · cases hat
  · rw [h1] at hat
    split at hat
    · cases hat
    · injection hat with h2 _
      exact (lits_inj h2).symm
end Shelf
end Go.Proofs.YteeemoknbnlopaaDoor
