/- Sums in another order: plain arithmetic, no program in sight. -/
import Derived.Test.YtfkfpppiikgjbaaMoneyP
namespace Go.Proofs.Ytfkfpppiikgjbaa
open Go
set_option linter.unusedVariables false

namespace Mon
def sumTo (f : Nat → Int) : Nat → Int
  | 0 => 0
  | n + 1 => sumTo f n + f n

theorem sumTo_congr {f g : Nat → Int} : ∀ n, (∀ i, i < n → f i = g i) → sumTo f n = sumTo g n
  | 0, _ => rfl
  | n + 1, h => by
    unfold sumTo
    rw [sumTo_congr n (fun i hi => h i (by omega)), h n (by omega)]
theorem sumTo_shift (f : Nat → Int) : ∀ n, sumTo (fun i => f (i + 1)) n = sumTo f n + f n - f 0
  | 0 => by simp [sumTo]
  | n + 1 => by
    show sumTo (fun i => f (i + 1)) n + f (n + 1) = sumTo f n + f n + f (n + 1) - f 0
    rw [sumTo_shift f n]; omega
theorem sumTo_turn (f : Nat → Int) (n : Nat) : ∀ b, sumTo (fun j => f ((j + b) % n)) n = sumTo f n
  | 0 => sumTo_congr n fun i hi => by rw [Nat.add_zero, Nat.mod_eq_of_lt hi]
  | b + 1 => by
    have h := sumTo_shift (fun j => f ((j + b) % n)) n
    have e : (fun i => f ((i + 1 + b) % n)) = fun j => f ((j + (b + 1)) % n) := by funext i; rw [Nat.add_assoc, Nat.add_comm 1 b]
    simp only [e] at h
    rw [h, sumTo_turn f n b, Nat.add_mod_left, Nat.zero_add]
    omega

/-- A sum that turns. -/
theorem turn_add (x y : Int) : (x % M3 + y) % M3 = (x + y) % M3 := by
  unfold M3; omega
theorem ok_mod (x : Int) : Ok (x % M3) := by unfold Ok M3; omega
end Mon
end Go.Proofs.Ytfkfpppiikgjbaa
