/- The reader of the reference, its other steps; the program's reader at nil. -/
import Derived.Test.YtgjehokkmdbknaaDoorNumsF
namespace Go.Proofs.YtgjehokkmdbknaaDoor
open Go.RowKit

def maxU64 : Nat := 18446744073709551615
theorem numC_max (l : List UInt8) : numC l maxU64 = dig l 0 0 := by
  unfold numC
  have := dig_u64 l 0 0 (by omega) (by omega)
  rw [if_neg (by unfold maxU64; omega)]
theorem rInt_of_rNum (s : ByteArray) (p : Nat) (f : Int) : zag (rNum s p f maxU64).1 = (rInt s p f).1 ∧ (rNum s p f maxU64).2 = (rInt s p f).2 := by
  unfold rNum rInt
  rw [numC_max]
  by_cases h0 : f = 0
  · simp only [h0, if_true]
    by_cases h1 : (dig (s.data.toList.drop p) 0 0).1 = 0
    · simp only [h1, if_true]; exact ⟨trivial, trivial⟩
    · simp only [h1, if_false]; exact ⟨by decide, trivial⟩
  · simp only [h0, if_false]; exact ⟨by decide, trivial⟩
theorem rNum_U64 (s : ByteArray) (p : Nat) (f : Int) (m : Nat) : U64 (rNum s p f m).1 := by
  have h := dig_U64 (s.data.toList.drop p)
  have h0 : U64 0 := by unfold U64; omega
  unfold rNum numC
  repeat' split
  all_goals first | exact h | exact h0

set_option maxRecDepth 100000 in
theorem FInt_any (g : Nat) (s : ByteArray) (p : Nat) (f : Int) (w : World) (hr : Hid (Ref w g s p f)) (hs : Hid (s.size ≤ 1099511627776)) (hp : Hid (p ≤ s.size)) :
    Calls Tryd.prog 73 #[.pointer (some ⟨g, 0, none⟩)] w fun e w' => e = .returned (.int .i64 (rInt s p f).1) ∧
      Ref w' g s (rInt s p f).2.1 (rInt s p f).2.2 ∧ w.grownBy w' (some g) := by
  have hq := FNum_nat g s p f maxU64 w hr hs hp
  have hz := rInt_of_rNum s p f
  have hu := Lib.hid (rNum_U64 s p f maxU64)
  rw [← hz.1]
  rw [hz.2] at hq
  generalize rInt s p f = r at *
  generalize (rNum s p f maxU64).1 = v at *
  have Hq := Lib.hid hq; clear hq hz
  go_enter Tryd.func73, Tryd.ntmps73
  go_wp2_with fail
  refine Hq.out.mono ?_
  rintro e w1 ⟨rfl, hR1, hG1⟩
  have HR1 := Lib.hid hR1; clear hR1
  have HG1 := Lib.hid hG1; clear hG1
  go_wp2_with fail
  refine (rZag_any _ _ hu).mono ?_
  rintro e w2 ⟨rfl, rfl⟩
  go_wp2_with fail
  go_ret
  exact ⟨rfl, HR1.out, HG1.out⟩

set_option maxRecDepth 100000 in
theorem FFail_any (g : Nat) (s : ByteArray) (p : Nat) (f : Int) (x : Int) (w : World) (hr : Hid (Ref w g s p f)) :
    Calls Tryd.prog 75 #[.pointer (some ⟨g, 0, none⟩), .int .i64 x] w fun e w' => e = .returned (.tuple #[]) ∧
      Ref w' g s p (rFail f x) ∧ w.grownBy w' (some g) := by
  have c2 := hr.out.f
  have z2 := hr.out.z 2
  unfold rFail
  by_cases h0 : f = 0
  · rw [if_pos h0]
    subst h0
    go_enter Tryd.func75, Tryd.ntmps75
    go_wp2_with fail
    go_end0
    exact ⟨rfl, hr.out.setf 0 _, grown_set (World.grownBy.refl _ _) 0 _ _⟩
  · rw [if_neg h0]
    have h0' : (f == 0) = false := by simpa using h0
    clear h0
    go_enter Tryd.func75, Tryd.ntmps75
    go_wp2_with fail
    go_end0
    exact ⟨rfl, hr.out, World.grownBy.refl _ _⟩
set_option maxRecDepth 100000 in
theorem FLeft_any (g : Nat) (s : ByteArray) (p : Nat) (f : Int) (w : World) (hr : Hid (Ref w g s p f)) (hs : Hid (s.size ≤ 1099511627776)) (hp : Hid (p ≤ s.size)) :
    Calls Tryd.prog 74 #[.pointer (some ⟨g, 0, none⟩)] w fun e w' => e = .returned (.int .i64 ((s.size : Int) - p)) ∧ ∃ n, w' = w.drewN n := by
  have c0 := hr.out.s
  have c1 := hr.out.p
  have h1 : s.size ≤ 1099511627776 := hs.out
  have h2 : p ≤ s.size := hp.out
  go_enter Tryd.func74, Tryd.ntmps74
  go_wp2_with fail
  go_quiet (fail)
  go_wp2_with fail
  go_ret
  exact ⟨rfl, _, rfl⟩
set_option maxRecDepth 100000 in
theorem Of_any (s : ByteArray) (w : World) :
    Calls Tryd.prog 72 #[.string s] w fun e w' => e = .returned (.pointer (some ⟨w.heap.size, 0, none⟩)) ∧ Ref w' w.heap.size s 0 0 ∧ Below w.heap.size w w' ∧ w'.heap.size = w.heap.size + 1 := by
  go_enter Tryd.func72, Tryd.ntmps72
  go_wp2_with fail
  go_ret
  exact ⟨rfl, heap_alloc_new w _, (Below.refl _ _).alloc (Nat.le_refl _) _, by simp⟩

/-! The program's reader at nil. -/
set_option maxRecDepth 100000 in
theorem nil_Int (w : World) : Calls Tryd.prog 66 #[.pointer none] w fun e w' => e = .returned (.int .i64 0) ∧ Below w.heap.size w w' := by
  go_enter Tryd.func66, Tryd.ntmps66
  go_wp2_with fail
  refine (guarded_int64_nil _ _).mono ?_
  rintro e w1 ⟨rfl, rfl⟩
  go_wp2_with fail
  go_ret
  exact ⟨rfl, (Below.refl _ _).alloc (Nat.le_refl _) _⟩
set_option maxRecDepth 100000 in
theorem nil_Fail (x : Int) (w : World) : Calls Tryd.prog 68 #[.pointer none, .int .i64 x] w fun e w' => e = .returned (.tuple #[]) ∧ Below w.heap.size w w' := by
  go_enter Tryd.func68, Tryd.ntmps68
  go_wp2_with fail
  refine (guarded_int_nil _ _).mono ?_
  rintro e w1 ⟨rfl, rfl⟩
  go_wp2_with fail
  go_end0
  exact ⟨rfl, (Below.refl _ _).alloc (Nat.le_refl _) _⟩
set_option maxRecDepth 100000 in
theorem nil_Left (w : World) : Calls Tryd.prog 67 #[.pointer none] w fun e w' => e = .returned (.int .i64 0) ∧ w = w' := by
  go_enter Tryd.func67, Tryd.ntmps67
  go_wp2_with fail
  go_ret
  exact ⟨rfl, rfl⟩
set_option maxRecDepth 100000 in
theorem nil_Fault (w : World) : Calls Tryd.prog 69 #[.pointer none] w fun e w' => e = .returned (.int .i64 1) ∧ w = w' := by
  go_enter Tryd.func69, Tryd.ntmps69
  go_wp2_with fail
  go_ret
  exact ⟨rfl, rfl⟩
end Go.Proofs.YtgjehokkmdbknaaDoor
