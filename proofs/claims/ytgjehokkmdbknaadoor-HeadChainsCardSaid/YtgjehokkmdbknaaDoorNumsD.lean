/- The reader of the program: its steps, and the guard around them. -/
import Derived.Test.YtgjehokkmdbknaaDoorNumsC
namespace Go.Proofs.YtgjehokkmdbknaaDoor
open Go.RowKit

/-- What the step of Num answers. -/
def numC (l : List UInt8) (most : Nat) : Int × Nat × Nat := if (dig l 0 0).1 = 0 ∧ most < (dig l 0 0).2.1 then (4, (dig l 0 0).2.1, (dig l 0 0).2.2) else dig l 0 0

set_option maxRecDepth 100000 in
set_option maxHeartbeats 400000 in
theorem IntC_any (g b : Nat) (s : ByteArray) (p : Nat) (f : Int) (w : World) (hr : Hid (Rdr w g s p f)) (hs : Hid (s.size ≤ 1099511627776)) (hp : Hid (p ≤ s.size)) (hu : Hid (U64 (dig (s.data.toList.drop p) 0 0).2.1))
    (hb : w.cell? ⟨b, 0, none⟩ = some (.pointer (some ⟨g, 0, none⟩))) :
    Calls Tryd.prog 85 #[.pointer (some ⟨b, 0, none⟩)] w fun e w' => e = .returned (.tuple #[.int .i64 (zag (dig (s.data.toList.drop p) 0 0).2.1), .int .i64 (dig (s.data.toList.drop p) 0 0).1]) ∧
      Rdr w' g s (p + (dig (s.data.toList.drop p) 0 0).2.2) f ∧ w.grownBy w' (some g) := by
  have hd := digits_any g s p f w hr hs hp
  generalize dig (s.data.toList.drop p) 0 0 = x at *
  obtain ⟨er, n, u⟩ := x
  simp only [] at hd hu ⊢
  have Hd := Lib.hid hd; clear hd
  go_enter Tryd.func85, Tryd.ntmps85
  go_wp2_with fail
  refine Hd.out.mono ?_
  rintro e w1 ⟨rfl, hR1, hG1⟩
  have HR1 := Lib.hid hR1; clear hR1
  have HG1 := Lib.hid hG1; clear hG1
  go_wp2_with fail
  refine (Zag_any _ _ hu).mono ?_
  rintro e w1 ⟨rfl, rfl⟩
  go_wp2_with fail
  go_ret2
  exact ⟨rfl, HR1.out, HG1.out⟩

/-- What 'take' answers. -/
def takeC (s : ByteArray) (p : Nat) (n : Int) : Int × ByteArray × Nat := if n < 0 then (1, ⟨#[]⟩, p) else if (s.size - p : Int) < n then (2, ⟨#[]⟩, p) else (0, s.extract p (p + n.toNat), p + n.toNat)

set_option maxRecDepth 100000 in
set_option maxHeartbeats 400000 in
theorem guarded_int64_faulted (g : Nat) (s : ByteArray) (p : Nat) (f : Int) (c : Value) (w : World) (hr : Hid (Rdr w g s p f)) (hf : (f == 0) = false) :
    Calls Tryd.prog 84 #[.pointer (some ⟨g, 0, none⟩), c] w fun e w' => e = .returned (.int .i64 0) ∧ w = w' := by
  have c2 := hr.out.f
  go_enter Tryd.func84, Tryd.ntmps84
  go_wp2_with fail
  go_ret
  exact ⟨rfl, rfl⟩
set_option maxRecDepth 100000 in
set_option maxHeartbeats 400000 in
theorem guarded_int64_nil (c : Value) (w : World) :
    Calls Tryd.prog 84 #[.pointer none, c] w fun e w' => e = .returned (.int .i64 0) ∧ w = w' := by
  go_enter Tryd.func84, Tryd.ntmps84
  go_wp2_with fail
  go_ret
  exact ⟨rfl, rfl⟩
set_option maxRecDepth 100000 in
set_option maxHeartbeats 400000 in
theorem guarded_int_faulted (g : Nat) (s : ByteArray) (p : Nat) (f : Int) (c : Value) (w : World) (hr : Hid (Rdr w g s p f)) (hf : (f == 0) = false) :
    Calls Tryd.prog 88 #[.pointer (some ⟨g, 0, none⟩), c] w fun e w' => e = .returned (.int .i64 0) ∧ w = w' := by
  have c2 := hr.out.f
  go_enter Tryd.func88, Tryd.ntmps88
  go_wp2_with fail
  go_ret
  exact ⟨rfl, rfl⟩
set_option maxRecDepth 100000 in
set_option maxHeartbeats 400000 in
theorem guarded_int_nil (c : Value) (w : World) :
    Calls Tryd.prog 88 #[.pointer none, c] w fun e w' => e = .returned (.int .i64 0) ∧ w = w' := by
  go_enter Tryd.func88, Tryd.ntmps88
  go_wp2_with fail
  go_ret
  exact ⟨rfl, rfl⟩
set_option maxRecDepth 100000 in
set_option maxHeartbeats 400000 in
theorem guarded_Int (g b c : Nat) (s : ByteArray) (p p1 : Nat) (v : Int) (err : Int) (w : World) (_ : c = c) (hr : Hid (Rdr w g s p 0))
    (hc : Hid (Calls Tryd.prog 85 #[.pointer (some ⟨b, 0, none⟩)] w fun e w1 => e = .returned (.tuple #[.int .i64 v, .int .i64 err]) ∧ Rdr w1 g s p1 0 ∧ w.grownBy w1 (some g))) :
    Calls Tryd.prog 84 #[.pointer (some ⟨g, 0, none⟩), .func (.func 85) #[] #[.pointer (some ⟨b, 0, none⟩)]] w fun e w' =>
      e = .returned (if err = 0 then .int .i64 v else .int .i64 0) ∧ Rdr w' g s (if err = 0 then p1 else p) err ∧ w.grownBy w' (some g) := by
  have c2 := hr.out.f
  have c1 := hr.out.p
  by_cases h0 : err = 0
  · subst h0
    rw [if_pos rfl, if_pos rfl]
    go_enter Tryd.func84, Tryd.ntmps84
    go_wp2_with fail
    refine hc.out.mono ?_
    rintro e w1 ⟨rfl, hR1, hG1⟩
    have HR1 := Lib.hid hR1; clear hR1
    have HG1 := Lib.hid hG1; clear hG1
    go_wp2_with fail
    go_ret
    exact ⟨rfl, HR1.out, HG1.out⟩
  · rw [if_neg h0, if_neg h0]
    have h0' : ((err : Int) == 0) = false := by simpa using h0
    go_enter Tryd.func84, Tryd.ntmps84
    go_wp2_with fail
    refine hc.out.mono ?_
    rintro e w1 ⟨rfl, hR1, hG1⟩
    have d1 := hR1.p
    have d2 := hR1.f
    have z1 := hR1.z 1
    have z2 := hR1.z 2
    have HR1 := Lib.hid hR1; clear hR1
    have HG1 := Lib.hid hG1; clear hG1
    go_wp2_with fail
    go_ret
    exact ⟨rfl, HR1.out.set2 _ _ rfl _, grown_set0 (grown_set0 HG1.out _ _) _ _⟩
set_option maxRecDepth 100000 in
set_option maxHeartbeats 400000 in
theorem guarded_Fail (g b c : Nat) (s : ByteArray) (p p1 : Nat) (v : Int) (err : Int) (w : World) (_ : c = c) (hr : Hid (Rdr w g s p 0))
    (hc : Hid (Calls Tryd.prog 89 #[.pointer (some ⟨b, 0, none⟩)] w fun e w1 => e = .returned (.tuple #[.int .i64 v, .int .i64 err]) ∧ Rdr w1 g s p1 0 ∧ w.grownBy w1 (some g))) :
    Calls Tryd.prog 88 #[.pointer (some ⟨g, 0, none⟩), .func (.func 89) #[] #[.pointer (some ⟨b, 0, none⟩)]] w fun e w' =>
      e = .returned (if err = 0 then .int .i64 v else .int .i64 0) ∧ Rdr w' g s (if err = 0 then p1 else p) err ∧ w.grownBy w' (some g) := by
  have c2 := hr.out.f
  have c1 := hr.out.p
  by_cases h0 : err = 0
  · subst h0
    rw [if_pos rfl, if_pos rfl]
    go_enter Tryd.func88, Tryd.ntmps88
    go_wp2_with fail
    refine hc.out.mono ?_
    rintro e w1 ⟨rfl, hR1, hG1⟩
    have HR1 := Lib.hid hR1; clear hR1
    have HG1 := Lib.hid hG1; clear hG1
    go_wp2_with fail
    go_ret
    exact ⟨rfl, HR1.out, HG1.out⟩
  · rw [if_neg h0, if_neg h0]
    have h0' : ((err : Int) == 0) = false := by simpa using h0
    go_enter Tryd.func88, Tryd.ntmps88
    go_wp2_with fail
    refine hc.out.mono ?_
    rintro e w1 ⟨rfl, hR1, hG1⟩
    have d1 := hR1.p
    have d2 := hR1.f
    have z1 := hR1.z 1
    have z2 := hR1.z 2
    have HR1 := Lib.hid hR1; clear hR1
    have HG1 := Lib.hid hG1; clear hG1
    go_wp2_with fail
    go_ret
    exact ⟨rfl, HR1.out.set2 _ _ rfl _, grown_set0 (grown_set0 HG1.out _ _) _ _⟩
end Go.Proofs.YtgjehokkmdbknaaDoor
