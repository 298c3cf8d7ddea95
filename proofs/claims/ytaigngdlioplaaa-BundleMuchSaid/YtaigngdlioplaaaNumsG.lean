/- The reader of the reference, its other steps; the program's reader at nil. -/
import Derived.Test.YtaigngdlioplaaaNumsF
namespace Go.Proofs.Ytaigngdlioplaaa
open Go.RowKit

def maxU64 : Nat := 18446744073709551615
theorem numC_max (l : List UInt8) : numC l maxU64 = dig l 0 0 := by
  unfold numC
  have := dig_u64 l 0 0 (by omega) (by omega)
  rw [if_neg (by unfold maxU64; omega)]
theorem rInt_of_rNum (s : ByteArray) (p : Nat) (f : Int) : zag (rNum s p f maxU64).1 = (rInt s p f).1 ∧ (rNum s p f maxU64).2 = (rInt s p f).2 := by
  unfold rNum rInt
  rw [numC_max]
  by_cases h0 : f = 0
  · simp only [h0, if_true]
    by_cases h1 : (dig (s.data.toList.drop p) 0 0).1 = 0
    · simp only [h1, if_true]; exact ⟨trivial, trivial⟩
    · simp only [h1, if_false]; exact ⟨by decide, trivial⟩
  · simp only [h0, if_false]; exact ⟨by decide, trivial⟩
theorem rNum_U64 (s : ByteArray) (p : Nat) (f : Int) (m : Nat) : U64 (rNum s p f m).1 := by
  have h := dig_U64 (s.data.toList.drop p)
  have h0 : U64 0 := by unfold U64; omega
  unfold rNum numC
  repeat' split
  all_goals first | exact h | exact h0

set_option maxRecDepth 100000 in
theorem FLeft_any (g : Nat) (s : ByteArray) (p : Nat) (f : Int) (w : World) (hr : Hid (Ref w g s p f)) (hs : Hid (s.size ≤ 1099511627776)) (hp : Hid (p ≤ s.size)) :
    Calls Try.prog 22 #[.pointer (some ⟨g, 0, none⟩)] w fun e w' => e = .returned (.int .i64 ((s.size : Int) - p)) ∧ ∃ n, w' = w.drewN n := by
  have c0 := hr.out.s
  have c1 := hr.out.p
  have h1 : s.size ≤ 1099511627776 := hs.out
  have h2 : p ≤ s.size := hp.out
  go_enter Try.func22, Try.ntmps22
  go_wp2_with fail
  go_quiet (fail)
  go_wp2_with fail
  go_ret
  exact ⟨rfl, _, rfl⟩
set_option maxRecDepth 100000 in
theorem Of_any (s : ByteArray) (w : World) :
    Calls Try.prog 19 #[.string s] w fun e w' => e = .returned (.pointer (some ⟨w.heap.size, 0, none⟩)) ∧ Ref w' w.heap.size s 0 0 ∧ Below w.heap.size w w' ∧ w'.heap.size = w.heap.size + 1 := by
  go_enter Try.func19, Try.ntmps19
  go_wp2_with fail
  go_ret
  exact ⟨rfl, heap_alloc_new w _, (Below.refl _ _).alloc (Nat.le_refl _) _, by simp⟩

/-! The program's reader at nil. -/
set_option maxRecDepth 100000 in
theorem nil_Num (x : Int) (w : World) : Calls Try.prog 13 #[.pointer none, .int .u64 x] w fun e w' => e = .returned (.int .u64 0) ∧ Below w.heap.size w w' := by
  go_enter Try.func13, Try.ntmps13
  go_wp2_with fail
  refine (guarded_uint64_nil _ _).mono ?_
  rintro e w1 ⟨rfl, rfl⟩
  go_wp2_with fail
  go_ret
  exact ⟨rfl, ((Below.refl _ _).alloc (Nat.le_refl _) _).alloc (by simp) _⟩
set_option maxRecDepth 100000 in
theorem nil_Row (x : Int) (w : World) : Calls Try.prog 12 #[.pointer none, .int .i64 x] w fun e w' => e = .returned (.string ⟨#[]⟩) ∧ Below w.heap.size w w' := by
  go_enter Try.func12, Try.ntmps12
  go_wp2_with fail
  refine (guarded_string_nil _ _).mono ?_
  rintro e w1 ⟨rfl, rfl⟩
  go_wp2_with fail
  go_ret
  exact ⟨rfl, ((Below.refl _ _).alloc (Nat.le_refl _) _).alloc (by simp) _⟩
set_option maxRecDepth 100000 in
theorem nil_Fail (x : Int) (w : World) : Calls Try.prog 17 #[.pointer none, .int .i64 x] w fun e w' => e = .returned (.tuple #[]) ∧ Below w.heap.size w w' := by
  go_enter Try.func17, Try.ntmps17
  go_wp2_with fail
  refine (guarded_int_nil _ _).mono ?_
  rintro e w1 ⟨rfl, rfl⟩
  go_wp2_with fail
  go_end0
  exact ⟨rfl, (Below.refl _ _).alloc (Nat.le_refl _) _⟩
set_option maxRecDepth 100000 in
theorem nil_Left (w : World) : Calls Try.prog 15 #[.pointer none] w fun e w' => e = .returned (.int .i64 0) ∧ w = w' := by
  go_enter Try.func15, Try.ntmps15
  go_wp2_with fail
  go_ret
  exact ⟨rfl, rfl⟩
set_option maxRecDepth 100000 in
theorem nil_Fault (w : World) : Calls Try.prog 14 #[.pointer none] w fun e w' => e = .returned (.int .i64 1) ∧ w = w' := by
  go_enter Try.func14, Try.ntmps14
  go_wp2_with fail
  go_ret
  exact ⟨rfl, rfl⟩
end Go.Proofs.Ytaigngdlioplaaa
