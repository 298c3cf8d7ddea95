/- The reference's Chain. -/
import Derived.Test.YtaigngdlioplaaaDoorHeadD
namespace Go.Proofs.YtaigngdlioplaaaDoor
open Go Go.RowKit

/-- What the headers chain to. -/
def chainR (K : Nat → Int) (H : St) (m : Nat) (g : Nat → Hd) : Nat → Option (Int × ByteArray)
  | 0 => some (0, cutS K H ⟨#[]⟩ m)
  | k + 1 => match chainR K H m g k with
    | none => none
    | some (f, p) => if mayB (g k) m = true ∧ (g k).i = k ∧ (g k).f = f ∧ (g k).p = p then some (f + (g k).c, hashS K H (g k) m) else none
theorem chainR_none (K : Nat → Int) (H : St) (m : Nat) (g : Nat → Hd) (k : Nat) (h : chainR K H m g k = none) : ∀ d, chainR K H m g (k + d) = none
  | 0 => h
  | d + 1 => by
    show chainR K H m g (k + d + 1) = none
    rw [chainR, chainR_none K H m g k h d]
theorem chainR_off {K : Nat → Int} {H : St} {m : Nat} {g : Nat → Hd} {k n : Nat} {f : Int} {p : ByteArray} (h : chainR K H m g k = some (f, p)) (hk : k < n) (hx : ¬ (mayB (g k) m = true ∧ (g k).i = k ∧ (g k).f = f ∧ (g k).p = p)) : chainR K H m g n = none := by
  obtain ⟨d, rfl⟩ : ∃ d, n = k + 1 + d := ⟨n - (k + 1), by omega⟩
  refine chainR_none K H m g (k + 1) ?_ d
  rw [chainR, h]
  simp only []
  rw [if_neg hx]
theorem chainR_on {K : Nat → Int} {H : St} {m : Nat} {g : Nat → Hd} {k : Nat} {f : Int} {p : ByteArray} (h : chainR K H m g k = some (f, p)) (hx : mayB (g k) m = true ∧ (g k).i = k ∧ (g k).f = f ∧ (g k).p = p) : chainR K H m g (k + 1) = some (f + (g k).c, hashS K H (g k) m) := by
  rw [chainR, h]
  simp only []
  rw [if_pos hx]
/-- The headers lie in the slice. -/
def HdsAt (w : World) (A : Option Addr) (n : Nat) (g : Nat → Hd) : Prop :=
  ∀ i, i < n → ∃ b o, A = some ⟨b, o, none⟩ ∧ b < w.heap.size ∧ ∀ j v, (g i).cells[j]? = some v → w.cell? ⟨b, o + i * 6 + j, none⟩ = some v
theorem HdsAt.below {w w' : World} {A : Option Addr} {n : Nat} {g : Nat → Hd} (h : HdsAt w A n g) (hb : Below w.heap.size w w') : HdsAt w' A n g := fun i hi => by
  obtain ⟨b, o, ha, hlt, hc⟩ := h i hi
  exact ⟨b, o, ha, Nat.lt_of_lt_of_le hlt hb.size, fun j v hv => (hb.cell (p := ⟨b, o + i * 6 + j, none⟩) hlt).trans (hc j v hv)⟩
theorem may_c {h : Hd} {n : Int} (hm : mayB h n = true) : 1 ≤ h.c ∧ h.c ≤ 64 := by
  unfold mayB numsB at hm
  simp only [Bool.and_eq_true, decide_eq_true_eq] at hm
  exact hm.1.1.1.2

theorem str_ne {a b : ByteArray} (h : ¬ a = b) : (a.toList == b.toList) = false := by
  rw [beq_eq_false_iff_ne, ByteArray.toList_eq, ByteArray.toList_eq]
  intro h2
  exact h (ByteArray.ext (Array.toList_inj.1 h2))
def chainOut : Option (Int × ByteArray) → Value
  | none => .tuple #[.string ⟨#[]⟩, .bool false]
  | some (_, p) => .tuple #[.string p, .bool true]
theorem chainR_end {K : Nat → Int} {H : St} {m : Nat} {g : Nat → Hd} {k n : Nat} {f : Int} {p : ByteArray} (h : chainR K H m g k = some (f, p)) (hk : k = n) : chainR K H m g n = some (f, p) := by rw [← hk]; exact h

end Go.Proofs.YtaigngdlioplaaaDoor
