/- The sums of three words: plain arithmetic, no program in sight. -/
import Derived.Test.YtfkfpppiikgjbaaLib
namespace Go.Proofs.Ytfkfpppiikgjbaa
open Go
set_option linter.unusedVariables false

namespace Mon
/-- Two words and three words: the numbers behind which they turn. -/
abbrev M : Int := 18446744073709551616
abbrev M3 : Int := 6277101735386680763835789423207666416102355444464034512896

/-- The words of a sum. -/
def w0 (V : Int) : Int := V % M
def w1 (V : Int) : Int := V / M % M
def w2 (V : Int) : Int := V / M / M

/-- A sum. -/
def Ok (V : Int) : Prop := 0 ≤ V ∧ V < M3

/-- What a sum is, with its sign. -/
def sg (V : Int) : Int := if V < 3138550867693340381917894711603833208051177722232017256448 then V else V - M3

def fits (x : Int) : Bool := decide (-9223372036854775808 ≤ x) && decide (x ≤ 9223372036854775807)

def total (V : Int) : Int × Bool := if fits (sg V) then (sg V, true) else (0, false)

def share (V r : Int) : Int × Bool :=
  if V < 3138550867693340381917894711603833208051177722232017256448 ∧ 0 ≤ r ∧ r ≤ 1000 then
    (if ((V * r) % M3 + 99) % M3 / 100 ≤ 9223372036854775807 then (((V * r) % M3 + 99) % M3 / 100, true) else (0, false))
  else (0, false)

theorem w_ok {V : Int} (h : Ok V) : (0 ≤ w0 V ∧ w0 V < M) ∧ (0 ≤ w1 V ∧ w1 V < M) ∧ (0 ≤ w2 V ∧ w2 V < M) := by
  obtain ⟨a, b⟩ := h
  unfold w0 w1 w2 M M3 at *
  omega

theorem w_back {V : Int} (h : Ok V) : w0 V + w1 V * M + w2 V * (M * M) = V := by
  obtain ⟨a, b⟩ := h
  unfold w0 w1 w2 M M3 at *
  omega

/-- Words that are a number's. -/
theorem w_of {V a b c : Int} (ha : 0 ≤ a ∧ a < M) (hb : 0 ≤ b ∧ b < M) (hc : 0 ≤ c ∧ c < M) (h : V = a + b * M + c * (M * M)) : w0 V = a ∧ w1 V = b ∧ w2 V = c ∧ Ok V := by
  unfold w0 w1 w2 Ok M M3 at *
  omega

/-- Three words and three words. -/
theorem add_words {a b c d e f : Int} (ha : 0 ≤ a ∧ a < M) (hb : 0 ≤ b ∧ b < M) (hc : 0 ≤ c ∧ c < M) (hd : 0 ≤ d ∧ d < M) (he : 0 ≤ e ∧ e < M) (hf : 0 ≤ f ∧ f < M) :
    (a + b * M + c * (M * M) + (d + e * M + f * (M * M))) % M3 =
      (a + d) % M + ((b + e + (a + d) / M) % M) * M + ((c + f + (b + e + (a + d) / M) / M) % M) * (M * M) := by
  unfold M M3 at *
  omega

theorem neg_words {a b c : Int} (ha : 0 ≤ a ∧ a < M) (hb : 0 ≤ b ∧ b < M) (hc : 0 ≤ c ∧ c < M) :
    (M3 - (a + b * M + c * (M * M))) % M3 =
      (M - 1 - a + 1) % M + ((M - 1 - b + (M - 1 - a + 1) / M) % M) * M + ((M - 1 - c + (M - 1 - b + (M - 1 - a + 1) / M) / M) % M) * (M * M) := by
  unfold M M3 at *
  omega

/-- Long division of three words by 100. -/
theorem div_words {a b c : Int} (ha : 0 ≤ a ∧ a < M) (hb : 0 ≤ b ∧ b < M) (hc : 0 ≤ c ∧ c < M) :
    (a + b * M + c * (M * M)) / 100 = (((c % 100) * M + b) % 100 * M + a) / 100 + (((c % 100) * M + b) / 100) * M + (c / 100) * (M * M) := by
  unfold M at *
  omega

end Mon
end Go.Proofs.Ytfkfpppiikgjbaa
