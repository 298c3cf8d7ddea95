/- money: sums and differences of two numbers, any without its sign; is what is told the reference's. -/
import Derived.Test.YtfkfpppiikgjbaaBigH
import Derived.Test.YtfkfpppiikgjbaaMoneyG
namespace Go.Proofs.Ytfkfpppiikgjbaa
open Go Go.RowKit Bg Mon
set_option linter.unusedVariables false

theorem total_fits {x : Int} (h : -1569275433846670190958947355801916604025588861116008628224 ≤ x ∧ x ≤ 1569275433846670190958947355801916604025588861116008628224) : total (x % M3) = fitsP x := by
  have e : sg (x % M3) = x := by unfold sg M3; split <;> omega
  unfold total fitsP
  rw [e]

end Go.Proofs.Ytfkfpppiikgjbaa
