/- The walk of MoneyTwo (printed by genBigJ.py). -/
import Derived.Test.YtfkfpppiikgjbaaBigI
import Derived.Test.YtfkfpppiikgjbaaRegD
namespace Go.Proofs.Ytfkfpppiikgjbaa
open Go Go.RowKit Bg Mon
set_option linter.unusedVariables false

theorem BigAt.abs {w : World} {z : Int} {t : Bool} {A : Option Addr} {n c : Nat} (h : BigAt w (.agg #[.bool t, .slice A n c]) z) : BigAt w (.agg #[.bool false, .slice A n c]) (z.natAbs : Int) := by
  obtain ⟨A', n', c', f, e, hc, hv, hd, hn⟩ := h
  cases e
  exact ⟨A, n, c, f, by rw [decide_eq_false (by omega)], hc, by rw [hv]; simp, hd, hn⟩
theorem small40 {X : Int} (h : X.natAbs ≤ 1569275433846670190958947355801916604025588861116008628224) : X.natAbs < 10000 ^ 40 := by
  have : (10000 : Nat) ^ 40 = 10000 ^ 20 * 10000 ^ 20 := by rw [← Nat.pow_add]
  have h2 : (10000 : Nat) ^ 20 = 100000000000000000000000000000000000000000000000000000000000000000000000000000000 := by decide
  rw [this, h2]
  omega
theorem prod_bound {a b : Int} (ha : I64 a) (hb : I64 b) : (a * b).natAbs ≤ 85070591730234615865843651857942052864 := by
  rw [Int.natAbs_mul]
  have h1 : a.natAbs ≤ 9223372036854775808 := by unfold I64 at ha; omega
  have h2 : b.natAbs ≤ 9223372036854775808 := by unfold I64 at hb; omega
  exact Nat.mul_le_mul h1 h2

end Go.Proofs.Ytfkfpppiikgjbaa
