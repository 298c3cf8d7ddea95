/- Digits of numbers with a sign: plain laws. -/
import Derived.Test.YteeemoknbnlopaaDoorShelfP
namespace Go.Proofs.YteeemoknbnlopaaDoor
open Go Go.Lib Shelf
set_option linter.unusedVariables false

theorem dec_len {n : Nat} (h : n ≤ 9223372036854775808) : (decDigits n).length ≤ 19 := by
  rw [decDigits_length]
  have key : ∀ k n, n < 10 ^ (k + 1) → nDigits n ≤ k + 1 := by
    intro k
    induction k with
    | zero => intro n hn; rw [nDigits_small (by omega)]; omega
    | succ k ih =>
      intro n hn
      by_cases h1 : n < 10
      · rw [nDigits_small h1]; omega
      · rw [nDigits_big h1]
        have := ih (n / 10) (by rw [Nat.pow_succ] at hn; omega)
        omega
  exact key 18 n (by have : (10 : Nat) ^ 19 = 10000000000000000000 := by decide
                     omega)
theorem itoa_len {x : Int} (h0 : -9223372036854775808 ≤ x) (h1 : x ≤ 9223372036854775807) : (itoa x).length ≤ 20 := by
  unfold itoa
  split
  · have := dec_len (n := x.natAbs) (by omega)
    simp; omega
  · have := dec_len (n := x.toNat) (by omega)
    omega
theorem itoa_neg {x : Int} (h : x < 0) : itoa x = 45 :: decDigits x.natAbs := if_pos h
theorem itoa_of (n : Nat) : itoa (n : Int) = decDigits n := by
  unfold itoa; rw [if_neg (by omega)]; rfl

/-- What is written, and what is still to be. -/
def restD (m : Nat) (s : List UInt8) : List UInt8 := if m = 0 then s else decDigits m ++ s
theorem restD_start {n : Nat} (h : 0 < n) : restD n [] = decDigits n := by
  unfold restD; rw [if_neg (by omega)]; simp
theorem restD_step {m : Nat} (h : 0 < m) (s : List UInt8) : restD (m / 10) (UInt8.ofNat (48 + m % 10) :: s) = restD m s := by
  unfold restD
  rw [if_neg (show ¬ m = 0 by omega)]
  by_cases h1 : m < 10
  · rw [if_pos (show m / 10 = 0 by omega), decDigits_one h1, show m % 10 = m by omega]; rfl
  · rw [if_neg (show ¬ m / 10 = 0 by omega), decDigits.eq_def m, dif_neg h1]
    simp
theorem restD_len {m n : Nat} {s : List UInt8} (h : restD m s = decDigits n) (hn : n ≤ 9223372036854775808) : s.length ≤ 19 := by
  have := dec_len hn
  rw [← h] at this
  unfold restD at this
  split at this
  · exact this
  · rw [List.length_append] at this; omega
end Go.Proofs.YteeemoknbnlopaaDoor
