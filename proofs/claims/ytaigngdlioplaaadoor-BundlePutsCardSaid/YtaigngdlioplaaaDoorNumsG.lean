/- The reader of the reference, its other steps; the program's reader at nil. -/
import Derived.Test.YtaigngdlioplaaaDoorNumsF
namespace Go.Proofs.YtaigngdlioplaaaDoor
open Go.RowKit

def maxU64 : Nat := 18446744073709551615
theorem numC_max (l : List UInt8) : numC l maxU64 = dig l 0 0 := by
  unfold numC
  have := dig_u64 l 0 0 (by omega) (by omega)
  rw [if_neg (by unfold maxU64; omega)]
theorem rInt_of_rNum (s : ByteArray) (p : Nat) (f : Int) : zag (rNum s p f maxU64).1 = (rInt s p f).1 ∧ (rNum s p f maxU64).2 = (rInt s p f).2 := by
  unfold rNum rInt
  rw [numC_max]
  by_cases h0 : f = 0
  · simp only [h0, if_true]
    by_cases h1 : (dig (s.data.toList.drop p) 0 0).1 = 0
    · simp only [h1, if_true]; exact ⟨trivial, trivial⟩
    · simp only [h1, if_false]; exact ⟨by decide, trivial⟩
  · simp only [h0, if_false]; exact ⟨by decide, trivial⟩
theorem rNum_U64 (s : ByteArray) (p : Nat) (f : Int) (m : Nat) : U64 (rNum s p f m).1 := by
  have h := dig_U64 (s.data.toList.drop p)
  have h0 : U64 0 := by unfold U64; omega
  unfold rNum numC
  repeat' split
  all_goals first | exact h | exact h0

set_option maxRecDepth 100000 in
theorem FLeft_any (g : Nat) (s : ByteArray) (p : Nat) (f : Int) (w : World) (hr : Hid (Ref w g s p f)) (hs : Hid (s.size ≤ 1099511627776)) (hp : Hid (p ≤ s.size)) :
    Calls Tryd.prog 75 #[.pointer (some ⟨g, 0, none⟩)] w fun e w' => e = .returned (.int .i64 ((s.size : Int) - p)) ∧ ∃ n, w' = w.drewN n := by
  have c0 := hr.out.s
  have c1 := hr.out.p
  have h1 : s.size ≤ 1099511627776 := hs.out
  have h2 : p ≤ s.size := hp.out
  go_enter Tryd.func75, Tryd.ntmps75
  go_wp2_with fail
  go_quiet (fail)
  go_wp2_with fail
  go_ret
  exact ⟨rfl, _, rfl⟩
set_option maxRecDepth 100000 in
theorem Of_any (s : ByteArray) (w : World) :
    Calls Tryd.prog 72 #[.string s] w fun e w' => e = .returned (.pointer (some ⟨w.heap.size, 0, none⟩)) ∧ Ref w' w.heap.size s 0 0 ∧ Below w.heap.size w w' ∧ w'.heap.size = w.heap.size + 1 := by
  go_enter Tryd.func72, Tryd.ntmps72
  go_wp2_with fail
  go_ret
  exact ⟨rfl, heap_alloc_new w _, (Below.refl _ _).alloc (Nat.le_refl _) _, by simp⟩

/-! The program's reader at nil. -/
set_option maxRecDepth 100000 in
theorem nil_Num (x : Int) (w : World) : Calls Tryd.prog 61 #[.pointer none, .int .u64 x] w fun e w' => e = .returned (.int .u64 0) ∧ Below w.heap.size w w' := by
  go_enter Tryd.func61, Tryd.ntmps61
  go_wp2_with fail
  refine (guarded_uint64_nil _ _).mono ?_
  rintro e w1 ⟨rfl, rfl⟩
  go_wp2_with fail
  go_ret
  exact ⟨rfl, ((Below.refl _ _).alloc (Nat.le_refl _) _).alloc (by simp) _⟩
set_option maxRecDepth 100000 in
theorem nil_Row (x : Int) (w : World) : Calls Tryd.prog 62 #[.pointer none, .int .i64 x] w fun e w' => e = .returned (.string ⟨#[]⟩) ∧ Below w.heap.size w w' := by
  go_enter Tryd.func62, Tryd.ntmps62
  go_wp2_with fail
  refine (guarded_string_nil _ _).mono ?_
  rintro e w1 ⟨rfl, rfl⟩
  go_wp2_with fail
  go_ret
  exact ⟨rfl, ((Below.refl _ _).alloc (Nat.le_refl _) _).alloc (by simp) _⟩
set_option maxRecDepth 100000 in
theorem nil_Fail (x : Int) (w : World) : Calls Tryd.prog 64 #[.pointer none, .int .i64 x] w fun e w' => e = .returned (.tuple #[]) ∧ Below w.heap.size w w' := by
  go_enter Tryd.func64, Tryd.ntmps64
  go_wp2_with fail
  refine (guarded_int_nil _ _).mono ?_
  rintro e w1 ⟨rfl, rfl⟩
  go_wp2_with fail
  go_end0
  exact ⟨rfl, (Below.refl _ _).alloc (Nat.le_refl _) _⟩
set_option maxRecDepth 100000 in
theorem nil_Left (w : World) : Calls Tryd.prog 63 #[.pointer none] w fun e w' => e = .returned (.int .i64 0) ∧ w = w' := by
  go_enter Tryd.func63, Tryd.ntmps63
  go_wp2_with fail
  go_ret
  exact ⟨rfl, rfl⟩
set_option maxRecDepth 100000 in
theorem nil_Fault (w : World) : Calls Tryd.prog 65 #[.pointer none] w fun e w' => e = .returned (.int .i64 1) ∧ w = w' := by
  go_enter Tryd.func65, Tryd.ntmps65
  go_wp2_with fail
  go_ret
  exact ⟨rfl, rfl⟩
end Go.Proofs.YtaigngdlioplaaaDoor
