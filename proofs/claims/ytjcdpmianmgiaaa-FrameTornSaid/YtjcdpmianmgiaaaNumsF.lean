/- The reader of the reference: it answers what the program's reader answers. -/
import Derived.Test.YtjcdpmianmgiaaaNumsE
import Derived.Lib.IndexBytes
namespace Go.Proofs.Ytjcdpmianmgiaaa
open Go.RowKit

theorem mul_digit (k d : Nat) (hd : d < 128) (hk : k ≤ 9) (h9 : k = 9 → d ≤ 1) : d * 128 ^ k < 18446744073709551616 := by
  by_cases h : k = 9
  · subst h
    have h2 := Nat.mul_le_mul_right (128 ^ 9) (h9 rfl)
    omega
  · have h1 : 128 ^ k ≤ 128 ^ 8 := Nat.pow_le_pow_right (by decide) (by omega)
    have h2 := Nat.mul_le_mul (show d ≤ 127 by omega) h1
    omega
theorem add_digit (n k d : Nat) (hn : n < 128 ^ k) (hd : d < 128) (hk : k ≤ 9) (h9 : k = 9 → d ≤ 1) : n + d * 128 ^ k < 18446744073709551616 := by
  by_cases h : k = 9
  · subst h
    have h2 := Nat.mul_le_mul_right (128 ^ 9) (h9 rfl)
    omega
  · have h1 : 128 ^ k ≤ 128 ^ 8 := Nat.pow_le_pow_right (by decide) (by omega)
    have h2 := Nat.mul_le_mul (show d ≤ 127 by omega) h1
    omega

/-- A number beside no fault. -/
def okNat (e : Int) (n : Nat) : Int := if e = 0 then (n : Int) else 0
theorem okNat_zero (n : Nat) : okNat 0 n = (n : Int) := rfl
theorem okNat_three (n : Nat) : okNat 3 n = 0 := rfl
theorem ret3i {k k' k'' : IntKind} {a a' b b' c c' : Int} (h : a = a') (h' : b = b') (h'' : c = c') : Ending.returned (.tuple #[.int k a, .int k' b, .int k'' c]) = .returned (.tuple #[.int k a', .int k' b', .int k'' c']) := by rw [h, h', h'']

theorem rest_data (s : ByteArray) (p : Nat) : (s.extract p s.size).data.toList = s.data.toList.drop p := Lib.extract_to_end s p

theorem quiet_same {P : Program} {f : FuncId} {args : Array Value} {w : World} {n : Nat} {v : Value}
    (h : Calls P f args (w.drewN n) fun e w' => e = .returned v ∧ w.drewN n = w') : Calls P f args (w.drewN n) fun e w'' => e = .returned v ∧ ∃ m, w'' = w.drewN m :=
  h.mono fun _ _ ⟨he, hb⟩ => ⟨he, n, hb.symm⟩

end Go.Proofs.Ytjcdpmianmgiaaa
