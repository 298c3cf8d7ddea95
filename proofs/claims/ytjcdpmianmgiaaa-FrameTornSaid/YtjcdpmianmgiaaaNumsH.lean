/- The row that the reference's reader reads. -/
import Derived.Test.YtjcdpmianmgiaaaNumsG
namespace Go.Proofs.Ytjcdpmianmgiaaa
open Go.RowKit

theorem i64_u64 (n : Int) (h0 : 0 ≤ n) (h : n ≤ 1099511627776) : IntKind.u64.wrap n = n ∧ wrap64 n = n := by
  simp only [wrap64, IntKind.wrap_u64]; omega

end Go.Proofs.Ytjcdpmianmgiaaa
