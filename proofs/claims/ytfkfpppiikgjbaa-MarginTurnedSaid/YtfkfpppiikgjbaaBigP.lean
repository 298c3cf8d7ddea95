/- Numbers as rows of digits of base 10000: plain arithmetic, no program in sight. -/
import Derived.Test.YtfkfpppiikgjbaaLib
namespace Go.Proofs.Ytfkfpppiikgjbaa
open Go
set_option linter.unusedVariables false

namespace Bg
/-- The number of the first n digits. -/
def pv (f : Nat → Nat) : Nat → Nat
  | 0 => 0
  | n + 1 => pv f n + f n * 10000 ^ n
/-- Digits: each below 10000, noughts from n on. -/
structure Dg (f : Nat → Nat) (n : Nat) : Prop where
  lt : ∀ i, f i < 10000
  zero : ∀ i, n ≤ i → f i = 0
/-- No nought ahead. -/
structure Canon (f : Nat → Nat) (n : Nat) : Prop extends Dg f n where
  top : n = 0 ∨ f (n - 1) ≠ 0

theorem pv_congr {f g : Nat → Nat} : ∀ n, (∀ i, i < n → f i = g i) → pv f n = pv g n
  | 0, _ => rfl
  | n + 1, h => by unfold pv; rw [pv_congr n (fun i hi => h i (by omega)), h n (by omega)]
theorem pv_more {f : Nat → Nat} {n : Nat} (h : ∀ i, n ≤ i → f i = 0) : ∀ m, n ≤ m → pv f m = pv f n
  | 0, hm => by obtain rfl : n = 0 := by omega
                rfl
  | m + 1, hm => by
    by_cases e : n = m + 1
    · rw [e]
    · show pv f m + f m * 10000 ^ m = _
      rw [pv_more h m (by omega), h m (by omega)]; omega
theorem pv_lt {f : Nat → Nat} : ∀ n, (∀ i, i < n → f i < 10000) → pv f n < 10000 ^ n
  | 0, _ => Nat.one_pos
  | n + 1, h => by
    have h1 := pv_lt n (fun i hi => h i (by omega))
    have h2 := h n (by omega)
    have h3 : f n * 10000 ^ n ≤ 9999 * 10000 ^ n := Nat.mul_le_mul_right _ (by omega)
    show pv f n + f n * 10000 ^ n < 10000 ^ (n + 1)
    rw [Nat.pow_succ]; omega
theorem pv_cmp {a b : Nat → Nat} {i : Nat} (ha : ∀ i, a i < 10000) (hi : a i < b i) : ∀ n, i < n → (∀ j, i < j → j < n → a j = b j) → pv a n < pv b n
  | 0, h, _ => by omega
  | n + 1, h, he => by
    show pv a n + a n * 10000 ^ n < pv b n + b n * 10000 ^ n
    by_cases e : i = n
    · subst e
      have h1 := pv_lt i (fun j _ => ha j)
      have h2 : (a i + 1) * 10000 ^ i ≤ b i * 10000 ^ i := Nat.mul_le_mul_right _ hi
      rw [Nat.add_mul] at h2
      omega
    · have := pv_cmp ha hi n (by omega) (fun j h1 h2 => he j h1 (by omega))
      rw [he n (by omega) (by omega)]
      omega
theorem pv_top {f : Nat → Nat} {n : Nat} (h : Canon f n) (hn : 0 < n) : 10000 ^ (n - 1) ≤ pv f n := by
  obtain ⟨k, rfl⟩ : ∃ k, n = k + 1 := ⟨n - 1, by omega⟩
  have h1 := h.top
  simp only [Nat.add_sub_cancel] at h1 ⊢
  have h2 : 1 * 10000 ^ k ≤ f k * 10000 ^ k := Nat.mul_le_mul_right _ (by omega)
  show _ ≤ pv f k + f k * 10000 ^ k
  omega
theorem canon_len {f : Nat → Nat} {n k : Nat} (h : Canon f n) (hv : pv f n < 10000 ^ k) : n ≤ k := by
  by_cases hn : n = 0
  · omega
  · have h1 := pv_top h (by omega)
    have h2 : 10000 ^ (n - 1) < 10000 ^ k := by omega
    have h3 := (Nat.pow_lt_pow_iff_right (by decide : 1 < 10000)).1 h2
    omega
theorem canon_pos {f : Nat → Nat} {n : Nat} (h : Canon f n) : pv f n = 0 ↔ n = 0 := by
  constructor
  · intro h0
    by_cases hn : n = 0
    · exact hn
    · have h1 := pv_top h (by omega)
      have h2 : 0 < 10000 ^ (n - 1) := Nat.pow_pos (by decide)
      omega
  · intro h0; subst h0; rfl

/-- The digits of a list. -/
def dg (ds : List Nat) (i : Nat) : Nat := ds.getD i 0
def vl (ds : List Nat) : Nat := pv (dg ds) ds.length
theorem dg_append_lo (ds : List Nat) (d i : Nat) (h : i < ds.length) : dg (ds ++ [d]) i = dg ds i := by
  unfold dg; simp [List.getD, List.getElem?_append_left h]
theorem dg_append_at (ds : List Nat) (d : Nat) : dg (ds ++ [d]) ds.length = d := by
  unfold dg; simp [List.getD]
theorem vl_append (ds : List Nat) (d : Nat) : vl (ds ++ [d]) = vl ds + d * 10000 ^ ds.length := by
  unfold vl
  rw [List.length_append]
  show pv _ ds.length + _ = _
  rw [dg_append_at, pv_congr ds.length (fun i hi => dg_append_lo ds d i hi)]
theorem vl_nil : vl [] = 0 := rfl
theorem dg_zero (ds : List Nat) (i : Nat) (h : ds.length ≤ i) : dg ds i = 0 := by
  unfold dg; simp [List.getD, List.getElem?_eq_none h]
theorem dg_dg {ds : List Nat} (h : ∀ d ∈ ds, d < 10000) : Dg (dg ds) ds.length := ⟨fun i => by
  by_cases hi : i < ds.length
  · unfold dg; simp only [List.getD, List.getElem?_eq_getElem hi, Option.getD_some]; exact h _ (List.getElem_mem hi)
  · rw [dg_zero ds i (by omega)]; decide, dg_zero ds⟩
/-- The first m digits of digits whose others are noughts. -/
def cut (f : Nat → Nat) (m i : Nat) : Nat := if i < m then f i else 0
theorem dg_cut {f : Nat → Nat} {n m : Nat} (h : Dg f n) : Dg (cut f m) m := ⟨fun i => by unfold cut; split; exact h.lt i; decide, fun i hi => by unfold cut; rw [if_neg (by omega)]⟩
theorem pv_cut (f : Nat → Nat) (m : Nat) : pv (cut f m) m = pv f m := pv_congr m fun i hi => by unfold cut; rw [if_pos hi]

/-- One digit more of a sum. -/
theorem add_step {o A B c q x y : Nat} (h : o + c * q = A + B) : o + (x + y + c) % 10000 * q + (x + y + c) / 10000 * (q * 10000) = A + x * q + (B + y * q) := by
  have h1 := Nat.div_add_mod (x + y + c) 10000
  generalize (x + y + c) % 10000 = m at *
  generalize (x + y + c) / 10000 = d at *
  have h2 : (10000 * d + m) * q = (x + y + c) * q := by rw [h1]
  grind
/-- One digit more of a difference. -/
theorem sub_step {o A B c q x y : Nat} (h : o + B = A + c * q) (hc : c ≤ 1) (hx : x < 10000) (hy : y < 10000) :
    (y + c ≤ x → o + (x - y - c) * q + (B + y * q) = A + x * q + 0 * (q * 10000)) ∧ (x < y + c → o + (x + 10000 - y - c) * q + (B + y * q) = A + x * q + 1 * (q * 10000)) := by
  constructor
  · intro h1
    obtain ⟨t, ht⟩ : ∃ t, x = t + y + c := ⟨x - y - c, by omega⟩
    rw [show x - y - c = t by omega, ht]
    grind
  · intro h1
    obtain ⟨t, ht⟩ : ∃ t, x + 10000 = t + y + c := ⟨x + 10000 - y - c, by omega⟩
    rw [show x + 10000 - y - c = t by omega]
    have h2 : (x + 10000) * q = (t + y + c) * q := by rw [ht]
    grind
end Bg
end Go.Proofs.Ytfkfpppiikgjbaa
