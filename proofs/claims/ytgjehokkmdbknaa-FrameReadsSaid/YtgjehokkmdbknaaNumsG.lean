/- The reader of the reference, its other steps; the program's reader at nil. -/
import Derived.Test.YtgjehokkmdbknaaNumsF
namespace Go.Proofs.Ytgjehokkmdbknaa
open Go.RowKit

def maxU64 : Nat := 18446744073709551615
theorem numC_max (l : List UInt8) : numC l maxU64 = dig l 0 0 := by
  unfold numC
  have := dig_u64 l 0 0 (by omega) (by omega)
  rw [if_neg (by unfold maxU64; omega)]
theorem rInt_of_rNum (s : ByteArray) (p : Nat) (f : Int) : zag (rNum s p f maxU64).1 = (rInt s p f).1 ∧ (rNum s p f maxU64).2 = (rInt s p f).2 := by
  unfold rNum rInt
  rw [numC_max]
  by_cases h0 : f = 0
  · simp only [h0, if_true]
    by_cases h1 : (dig (s.data.toList.drop p) 0 0).1 = 0
    · simp only [h1, if_true]; exact ⟨trivial, trivial⟩
    · simp only [h1, if_false]; exact ⟨by decide, trivial⟩
  · simp only [h0, if_false]; exact ⟨by decide, trivial⟩
theorem rNum_U64 (s : ByteArray) (p : Nat) (f : Int) (m : Nat) : U64 (rNum s p f m).1 := by
  have h := dig_U64 (s.data.toList.drop p)
  have h0 : U64 0 := by unfold U64; omega
  unfold rNum numC
  repeat' split
  all_goals first | exact h | exact h0

set_option maxRecDepth 100000 in
theorem FInt_any (g : Nat) (s : ByteArray) (p : Nat) (f : Int) (w : World) (hr : Hid (Ref w g s p f)) (hs : Hid (s.size ≤ 1099511627776)) (hp : Hid (p ≤ s.size)) :
    Calls Try.prog 30 #[.pointer (some ⟨g, 0, none⟩)] w fun e w' => e = .returned (.int .i64 (rInt s p f).1) ∧
      Ref w' g s (rInt s p f).2.1 (rInt s p f).2.2 ∧ w.grownBy w' (some g) := by
  have hq := FNum_nat g s p f maxU64 w hr hs hp
  have hz := rInt_of_rNum s p f
  have hu := Lib.hid (rNum_U64 s p f maxU64)
  rw [← hz.1]
  rw [hz.2] at hq
  generalize rInt s p f = r at *
  generalize (rNum s p f maxU64).1 = v at *
  have Hq := Lib.hid hq; clear hq hz
  go_enter Try.func30, Try.ntmps30
  go_wp2_with fail
  refine Hq.out.mono ?_
  rintro e w1 ⟨rfl, hR1, hG1⟩
  have HR1 := Lib.hid hR1; clear hR1
  have HG1 := Lib.hid hG1; clear hG1
  go_wp2_with fail
  refine (rZag_any _ _ hu).mono ?_
  rintro e w2 ⟨rfl, rfl⟩
  go_wp2_with fail
  go_ret
  exact ⟨rfl, HR1.out, HG1.out⟩

set_option maxRecDepth 100000 in
set_option maxHeartbeats 400000 in
theorem FTake_any (g : Nat) (s : ByteArray) (p : Nat) (f : Int) (n : Int) (w : World) (hr : Hid (Ref w g s p f)) (hs : Hid (s.size ≤ 1099511627776)) (hp : Hid (p ≤ s.size)) :
    Calls Try.prog 32 #[.pointer (some ⟨g, 0, none⟩), .int .i64 n] w fun e w' => e = .returned (.string (rTake s p f n).1) ∧
      Ref w' g s (rTake s p f n).2.1 (rTake s p f n).2.2 ∧ w.grownBy w' (some g) := by
  have c0 := hr.out.s
  have c1 := hr.out.p
  have c2 := hr.out.f
  have z1 := hr.out.z 1
  have z2 := hr.out.z 2
  have hsz : s.size ≤ 1099511627776 := hs.out
  have hps : p ≤ s.size := hp.out
  by_cases hf : f = 0
  · subst hf
    by_cases h0 : n < 0
    · have hT : rTake s p 0 n = (⟨#[]⟩, p, 1) := by unfold rTake takeC; simp only [h0, if_true]; rfl
      rw [hT]
      clear hT
      go_enter Try.func32, Try.ntmps32
      go_wp2_with fail
      go_ret
      exact ⟨rfl, hr.out.setf 0 _, grown_set (World.grownBy.refl _ _) 0 _ _⟩
    · by_cases h1 : (s.size - p : Int) < n
      · have hT : rTake s p 0 n = (⟨#[]⟩, p, 2) := by unfold rTake takeC; simp only [h0, h1, if_true, if_false]; rfl
        rw [hT]
        clear hT
        go_enter Try.func32, Try.ntmps32
        go_wp2_with fail
        go_quiet (fail)
        go_wp2_with fail
        go_ret
        exact ⟨rfl, hr.out.setf _ _, grown_set (World.grownBy.refl _ _) _ _ _⟩
      · have hT : rTake s p 0 n = (s.extract p (p + n.toNat), p + n.toNat, 0) := by unfold rTake takeC; simp only [h0, h1, if_true, if_false]
        rw [hT]
        clear hT
        obtain ⟨m, rfl⟩ := Int.eq_ofNat_of_zero_le (show 0 ≤ n by omega)
        rw [Int.toNat_natCast]
        have hd1 : decide ((s.size : Int) - p < m) = false := by simpa using h1
        have c1' : ∀ k, ((w.drewN k).setCell ⟨g, 1, none⟩ (.int .i64 ((p : Int) + m))).cell? ⟨g, 1, none⟩ = some (.int .i64 ((p : Int) + m)) := fun k => (hr.out.setp k _ (p + m) (by simp)).p.trans (by simp)
        have c0' : ∀ k, ((w.drewN k).setCell ⟨g, 1, none⟩ (.int .i64 ((p : Int) + m))).cell? ⟨g, 0, none⟩ = some (.string s) := fun k => (hr.out.setp k _ (p + m) (by simp)).s
        have hpm : p + m ≤ s.size := by omega
        go_enter Try.func32, Try.ntmps32
        go_wp2_with fail
        go_quiet (fail)
        go_wp2_with fail
        go_quiet (fail)
        go_wp2_with fail
        go_ret
        exact ⟨rfl, (hr.out.setp _ _ (p + m) (by simp)).drewN _, grown_drewN (grown_set (World.grownBy.refl _ _) _ _ _) _⟩
  · have hT : rTake s p f n = (⟨#[]⟩, p, f) := by unfold rTake; rw [if_neg hf]
    rw [hT]
    have h0' : (f == 0) = false := by simpa using hf
    clear hT hf
    go_enter Try.func32, Try.ntmps32
    go_wp2_with fail
    go_ret
    exact ⟨rfl, hr.out, World.grownBy.refl _ _⟩

set_option maxRecDepth 100000 in
theorem FFail_any (g : Nat) (s : ByteArray) (p : Nat) (f : Int) (x : Int) (w : World) (hr : Hid (Ref w g s p f)) :
    Calls Try.prog 34 #[.pointer (some ⟨g, 0, none⟩), .int .i64 x] w fun e w' => e = .returned (.tuple #[]) ∧
      Ref w' g s p (rFail f x) ∧ w.grownBy w' (some g) := by
  have c2 := hr.out.f
  have z2 := hr.out.z 2
  unfold rFail
  by_cases h0 : f = 0
  · rw [if_pos h0]
    subst h0
    go_enter Try.func34, Try.ntmps34
    go_wp2_with fail
    go_end0
    exact ⟨rfl, hr.out.setf 0 _, grown_set (World.grownBy.refl _ _) 0 _ _⟩
  · rw [if_neg h0]
    have h0' : (f == 0) = false := by simpa using h0
    clear h0
    go_enter Try.func34, Try.ntmps34
    go_wp2_with fail
    go_end0
    exact ⟨rfl, hr.out, World.grownBy.refl _ _⟩
set_option maxRecDepth 100000 in
theorem FLeft_any (g : Nat) (s : ByteArray) (p : Nat) (f : Int) (w : World) (hr : Hid (Ref w g s p f)) (hs : Hid (s.size ≤ 1099511627776)) (hp : Hid (p ≤ s.size)) :
    Calls Try.prog 35 #[.pointer (some ⟨g, 0, none⟩)] w fun e w' => e = .returned (.int .i64 ((s.size : Int) - p)) ∧ ∃ n, w' = w.drewN n := by
  have c0 := hr.out.s
  have c1 := hr.out.p
  have h1 : s.size ≤ 1099511627776 := hs.out
  have h2 : p ≤ s.size := hp.out
  go_enter Try.func35, Try.ntmps35
  go_wp2_with fail
  go_quiet (fail)
  go_wp2_with fail
  go_ret
  exact ⟨rfl, _, rfl⟩
set_option maxRecDepth 100000 in
theorem Of_any (s : ByteArray) (w : World) :
    Calls Try.prog 28 #[.string s] w fun e w' => e = .returned (.pointer (some ⟨w.heap.size, 0, none⟩)) ∧ Ref w' w.heap.size s 0 0 ∧ Below w.heap.size w w' ∧ w'.heap.size = w.heap.size + 1 := by
  go_enter Try.func28, Try.ntmps28
  go_wp2_with fail
  go_ret
  exact ⟨rfl, heap_alloc_new w _, (Below.refl _ _).alloc (Nat.le_refl _) _, by simp⟩

/-! The program's reader at nil. -/
set_option maxRecDepth 100000 in
theorem nil_Num (x : Int) (w : World) : Calls Try.prog 22 #[.pointer none, .int .u64 x] w fun e w' => e = .returned (.int .u64 0) ∧ Below w.heap.size w w' := by
  go_enter Try.func22, Try.ntmps22
  go_wp2_with fail
  refine (guarded_uint64_nil _ _).mono ?_
  rintro e w1 ⟨rfl, rfl⟩
  go_wp2_with fail
  go_ret
  exact ⟨rfl, ((Below.refl _ _).alloc (Nat.le_refl _) _).alloc (by simp) _⟩
set_option maxRecDepth 100000 in
theorem nil_Row (x : Int) (w : World) : Calls Try.prog 25 #[.pointer none, .int .i64 x] w fun e w' => e = .returned (.string ⟨#[]⟩) ∧ Below w.heap.size w w' := by
  go_enter Try.func25, Try.ntmps25
  go_wp2_with fail
  refine (guarded_string_nil _ _).mono ?_
  rintro e w1 ⟨rfl, rfl⟩
  go_wp2_with fail
  go_ret
  exact ⟨rfl, ((Below.refl _ _).alloc (Nat.le_refl _) _).alloc (by simp) _⟩
set_option maxRecDepth 100000 in
theorem nil_Take (x : Int) (w : World) : Calls Try.prog 27 #[.pointer none, .int .i64 x] w fun e w' => e = .returned (.string ⟨#[]⟩) ∧ Below w.heap.size w w' := by
  go_enter Try.func27, Try.ntmps27
  go_wp2_with fail
  refine (guarded_string_nil _ _).mono ?_
  rintro e w1 ⟨rfl, rfl⟩
  go_wp2_with fail
  go_ret
  exact ⟨rfl, ((Below.refl _ _).alloc (Nat.le_refl _) _).alloc (by simp) _⟩
set_option maxRecDepth 100000 in
theorem nil_Int (w : World) : Calls Try.prog 26 #[.pointer none] w fun e w' => e = .returned (.int .i64 0) ∧ Below w.heap.size w w' := by
  go_enter Try.func26, Try.ntmps26
  go_wp2_with fail
  refine (guarded_int64_nil _ _).mono ?_
  rintro e w1 ⟨rfl, rfl⟩
  go_wp2_with fail
  go_ret
  exact ⟨rfl, (Below.refl _ _).alloc (Nat.le_refl _) _⟩
set_option maxRecDepth 100000 in
theorem nil_Fail (x : Int) (w : World) : Calls Try.prog 33 #[.pointer none, .int .i64 x] w fun e w' => e = .returned (.tuple #[]) ∧ Below w.heap.size w w' := by
  go_enter Try.func33, Try.ntmps33
  go_wp2_with fail
  refine (guarded_int_nil _ _).mono ?_
  rintro e w1 ⟨rfl, rfl⟩
  go_wp2_with fail
  go_end0
  exact ⟨rfl, (Below.refl _ _).alloc (Nat.le_refl _) _⟩
set_option maxRecDepth 100000 in
theorem nil_Left (w : World) : Calls Try.prog 24 #[.pointer none] w fun e w' => e = .returned (.int .i64 0) ∧ w = w' := by
  go_enter Try.func24, Try.ntmps24
  go_wp2_with fail
  go_ret
  exact ⟨rfl, rfl⟩
set_option maxRecDepth 100000 in
theorem nil_Fault (w : World) : Calls Try.prog 23 #[.pointer none] w fun e w' => e = .returned (.int .i64 1) ∧ w = w' := by
  go_enter Try.func23, Try.ntmps23
  go_wp2_with fail
  go_ret
  exact ⟨rfl, rfl⟩
end Go.Proofs.Ytgjehokkmdbknaa
