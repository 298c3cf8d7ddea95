/- The reference's bytes; the document's example; the walk of NumsWrites. -/
import Derived.Test.YtjcdpmianmgiaaaNumsH
namespace Go.Proofs.Ytjcdpmianmgiaaa
open Go.RowKit

theorem refNum_any (n : Int) (w : World) (hn : Hid (U64 n)) :
    Calls Try.prog 13 #[.int .u64 n] w fun e w' => e = .returned (.string (numStr n.toNat)) ∧ Below w.heap.size w w' := by
  obtain ⟨m, rfl⟩ := Int.eq_ofNat_of_zero_le hn.out.1
  exact rNum_nat 9 m w ⟨by have := hn.out.2; omega, by omega⟩

set_option maxRecDepth 100000 in
theorem refRow_any (s : ByteArray) (w : World) (hs : Hid (s.size ≤ 1099511627776)) :
    Calls Try.prog 9 #[.string s] w fun e w' => e = .returned (.string (rowStr s)) ∧ Below w.heap.size w w' := by
  have e1 := Lib.hid (wrap_size s hs.out)
  go_enter Try.func9, Try.ntmps9
  go_wp2_with fail
  rw [e1.out]
  refine (refNum_any _ _ (by have := hs.out; show U64 _; unfold U64; omega)).mono ?_; rintro e w' ⟨rfl, hb⟩
  rw [Int.toNat_natCast]
  have h1 := numStr_size s.size
  have h2 : s.size ≤ 1099511627776 := hs.out
  go_wp2_with fail
  go_ret
  exact ⟨rfl, hb⟩

end Go.Proofs.Ytjcdpmianmgiaaa
