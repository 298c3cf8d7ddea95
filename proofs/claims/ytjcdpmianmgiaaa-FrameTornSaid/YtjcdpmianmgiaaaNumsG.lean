/- The reader of the reference, its other steps; the program's reader at nil. -/
import Derived.Test.YtjcdpmianmgiaaaNumsF
namespace Go.Proofs.Ytjcdpmianmgiaaa
open Go.RowKit

def maxU64 : Nat := 18446744073709551615
theorem numC_max (l : List UInt8) : numC l maxU64 = dig l 0 0 := by
  unfold numC
  have := dig_u64 l 0 0 (by omega) (by omega)
  rw [if_neg (by unfold maxU64; omega)]
theorem rInt_of_rNum (s : ByteArray) (p : Nat) (f : Int) : zag (rNum s p f maxU64).1 = (rInt s p f).1 ∧ (rNum s p f maxU64).2 = (rInt s p f).2 := by
  unfold rNum rInt
  rw [numC_max]
  by_cases h0 : f = 0
  · simp only [h0, if_true]
    by_cases h1 : (dig (s.data.toList.drop p) 0 0).1 = 0
    · simp only [h1, if_true]; exact ⟨trivial, trivial⟩
    · simp only [h1, if_false]; exact ⟨by decide, trivial⟩
  · simp only [h0, if_false]; exact ⟨by decide, trivial⟩
theorem rNum_U64 (s : ByteArray) (p : Nat) (f : Int) (m : Nat) : U64 (rNum s p f m).1 := by
  have h := dig_U64 (s.data.toList.drop p)
  have h0 : U64 0 := by unfold U64; omega
  unfold rNum numC
  repeat' split
  all_goals first | exact h | exact h0

/-! The program's reader at nil. -/
set_option maxRecDepth 100000 in
theorem nil_Num (x : Int) (w : World) : Calls Try.prog 18 #[.pointer none, .int .u64 x] w fun e w' => e = .returned (.int .u64 0) ∧ Below w.heap.size w w' := by
  go_enter Try.func18, Try.ntmps18
  go_wp2_with fail
  refine (guarded_uint64_nil _ _).mono ?_
  rintro e w1 ⟨rfl, rfl⟩
  go_wp2_with fail
  go_ret
  exact ⟨rfl, ((Below.refl _ _).alloc (Nat.le_refl _) _).alloc (by simp) _⟩
set_option maxRecDepth 100000 in
theorem nil_Take (x : Int) (w : World) : Calls Try.prog 20 #[.pointer none, .int .i64 x] w fun e w' => e = .returned (.string ⟨#[]⟩) ∧ Below w.heap.size w w' := by
  go_enter Try.func20, Try.ntmps20
  go_wp2_with fail
  refine (guarded_string_nil _ _).mono ?_
  rintro e w1 ⟨rfl, rfl⟩
  go_wp2_with fail
  go_ret
  exact ⟨rfl, ((Below.refl _ _).alloc (Nat.le_refl _) _).alloc (by simp) _⟩
set_option maxRecDepth 100000 in
theorem nil_Fail (x : Int) (w : World) : Calls Try.prog 19 #[.pointer none, .int .i64 x] w fun e w' => e = .returned (.tuple #[]) ∧ Below w.heap.size w w' := by
  go_enter Try.func19, Try.ntmps19
  go_wp2_with fail
  refine (guarded_int_nil _ _).mono ?_
  rintro e w1 ⟨rfl, rfl⟩
  go_wp2_with fail
  go_end0
  exact ⟨rfl, (Below.refl _ _).alloc (Nat.le_refl _) _⟩
set_option maxRecDepth 100000 in
theorem nil_Left (w : World) : Calls Try.prog 22 #[.pointer none] w fun e w' => e = .returned (.int .i64 0) ∧ w = w' := by
  go_enter Try.func22, Try.ntmps22
  go_wp2_with fail
  go_ret
  exact ⟨rfl, rfl⟩
set_option maxRecDepth 100000 in
theorem nil_Fault (w : World) : Calls Try.prog 21 #[.pointer none] w fun e w' => e = .returned (.int .i64 1) ∧ w = w' := by
  go_enter Try.func21, Try.ntmps21
  go_wp2_with fail
  go_ret
  exact ⟨rfl, rfl⟩
end Go.Proofs.Ytjcdpmianmgiaaa
