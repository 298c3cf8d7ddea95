/- BookFinds: the walk. PRINTED BY genBookO.py. -/
import Derived.Test.YtfkfpppiikgjbaaBookM
import Derived.Test.YtfkfpppiikgjbaaBookN
namespace Go.Proofs.Ytfkfpppiikgjbaa
open Go Go.RowKit
set_option linter.unusedVariables false
set_option linter.unusedSimpArgs false

theorem rec_of {k : Nat} {l : List (List Int)} (h : ∀ r ∈ l, r.length = k) (E : List Int → Bool) : ∃ r F, r.length = k ∧ recOf k (l.find? E) = (r, F) := by
  cases hf : l.find? E with
  | none => exact ⟨_, _, List.length_replicate, rfl⟩
  | some r => exact ⟨r, true, h r (List.mem_of_find?_eq_some hf), rfl⟩
end Go.Proofs.Ytfkfpppiikgjbaa
