/- The reader of the program: its steps, and the guard around them. -/
import Derived.Test.YtjcdpmianmgiaaaNumsC
namespace Go.Proofs.Ytjcdpmianmgiaaa
open Go.RowKit

/-- What the step of Num answers. -/
def numC (l : List UInt8) (most : Nat) : Int × Nat × Nat := if (dig l 0 0).1 = 0 ∧ most < (dig l 0 0).2.1 then (4, (dig l 0 0).2.1, (dig l 0 0).2.2) else dig l 0 0

set_option maxRecDepth 100000 in
set_option maxHeartbeats 400000 in
theorem NumC_any (g b c : Nat) (s : ByteArray) (p : Nat) (f : Int) (most : Nat) (w : World) (hr : Hid (Rdr w g s p f)) (hs : Hid (s.size ≤ 1099511627776)) (hp : Hid (p ≤ s.size))
    (hb : w.cell? ⟨b, 0, none⟩ = some (.pointer (some ⟨g, 0, none⟩))) (hc : w.cell? ⟨c, 0, none⟩ = some (.int .u64 most)) (hgc : Hid (g ≠ c)) :
    Calls Try.prog 24 #[.pointer (some ⟨b, 0, none⟩), .pointer (some ⟨c, 0, none⟩)] w fun e w' => e = .returned (.tuple #[.int .u64 (numC (s.data.toList.drop p) most).2.1, .int .i64 (numC (s.data.toList.drop p) most).1]) ∧
      Rdr w' g s (p + (numC (s.data.toList.drop p) most).2.2) f ∧ w.grownBy w' (some g) := by
  have hd := digits_any g s p f w hr hs hp
  have hn : numC (s.data.toList.drop p) most = if (dig (s.data.toList.drop p) 0 0).1 = 0 ∧ most < (dig (s.data.toList.drop p) 0 0).2.1 then (4, (dig (s.data.toList.drop p) 0 0).2.1, (dig (s.data.toList.drop p) 0 0).2.2) else dig (s.data.toList.drop p) 0 0 := rfl
  generalize numC (s.data.toList.drop p) most = y at *
  generalize dig (s.data.toList.drop p) 0 0 = x at *
  obtain ⟨er, n, u⟩ := x
  simp only [] at hn hd
  have Hd := Lib.hid hd; clear hd
  have Hn := Lib.hid hn; clear hn
  by_cases h0 : er = 0
  · subst h0
    have hmm : most < n ∨ ¬ most < n := by omega
    rcases hmm with hm | hm
    all_goals
      go_enter Try.func24, Try.ntmps24
      go_wp2_with fail
      refine Hd.out.mono ?_
      rintro e w1 ⟨rfl, hR1, hG1⟩
      have hc1 : w1.cell? ⟨c, 0, none⟩ = some (.int .u64 most) := hG1.cell hc (by intro h; injection h with h; exact hgc.out h.symm)
      have HR1 := Lib.hid hR1; clear hR1
      have HG1 := Lib.hid hG1; clear hG1
      go_wp2_with fail
      go_ret2
      rw [Hn.out]
      simp only [hm, and_self, and_false, if_true, if_false]
      exact ⟨rfl, HR1.out, HG1.out⟩
  · have h0' : ((er : Int) == 0) = false := by simpa using h0
    go_enter Try.func24, Try.ntmps24
    go_wp2_with fail
    refine Hd.out.mono ?_
    rintro e w1 ⟨rfl, hR1, hG1⟩
    have HR1 := Lib.hid hR1; clear hR1
    have HG1 := Lib.hid hG1; clear hG1
    go_wp2_with fail
    go_ret2
    rw [Hn.out]
    simp only [h0, false_and, if_false]
    exact ⟨rfl, HR1.out, HG1.out⟩

/-- What 'take' answers. -/
def takeC (s : ByteArray) (p : Nat) (n : Int) : Int × ByteArray × Nat := if n < 0 then (1, ⟨#[]⟩, p) else if (s.size - p : Int) < n then (2, ⟨#[]⟩, p) else (0, s.extract p (p + n.toNat), p + n.toNat)

set_option maxRecDepth 100000 in
set_option maxHeartbeats 400000 in
theorem take_any (g : Nat) (s : ByteArray) (p : Nat) (f : Int) (n : Int) (w : World) (hr : Hid (Rdr w g s p f)) (hs : Hid (s.size ≤ 1099511627776)) (hp : Hid (p ≤ s.size)) :
    Calls Try.prog 30 #[.pointer (some ⟨g, 0, none⟩), .int .i64 n] w fun e w' => e = .returned (.tuple #[.string (takeC s p n).2.1, .int .i64 (takeC s p n).1]) ∧
      Rdr w' g s (takeC s p n).2.2 f ∧ w.grownBy w' (some g) := by
  have c0 := hr.out.s
  have c1 := hr.out.p
  have z1 := hr.out.z 1
  have hsz : s.size ≤ 1099511627776 := hs.out
  have hps : p ≤ s.size := hp.out
  unfold takeC
  by_cases h0 : n < 0
  · rw [if_pos h0]
    go_enter Try.func30, Try.ntmps30
    go_wp2_with fail
    go_ret2
    exact ⟨rfl, hr.out, World.grownBy.refl _ _⟩
  · rw [if_neg h0]
    by_cases h1 : (s.size - p : Int) < n
    · rw [if_pos h1]
      go_enter Try.func30, Try.ntmps30
      go_wp2_with fail
      go_quiet (fail)
      go_wp2_with fail
      go_ret2
      exact ⟨rfl, hr.out, grown_drewN (World.grownBy.refl _ _) _⟩
    · rw [if_neg h1]
      obtain ⟨m, rfl⟩ := Int.eq_ofNat_of_zero_le (show 0 ≤ n by omega)
      rw [Int.toNat_natCast]
      have hd1 : decide ((s.size : Int) - p < m) = false := by simpa using h1
      have c1' : ∀ k, ((w.drewN k).setCell ⟨g, 1, none⟩ (.int .i64 ((p : Int) + m))).cell? ⟨g, 1, none⟩ = some (.int .i64 ((p : Int) + m)) := fun k => (hr.out.setp k _ (p + m) (by simp)).p.trans (by simp)
      have c0' : ∀ k, ((w.drewN k).setCell ⟨g, 1, none⟩ (.int .i64 ((p : Int) + m))).cell? ⟨g, 0, none⟩ = some (.string s) := fun k => (hr.out.setp k _ (p + m) (by simp)).s
      have hpm : p + m ≤ s.size := by omega
      go_enter Try.func30, Try.ntmps30
      go_wp2_with fail
      go_quiet (fail)
      go_wp2_with fail
      go_quiet (fail)
      go_wp2_with fail
      go_ret2
      exact ⟨rfl, (hr.out.setp _ _ (p + m) (by simp)).drewN _, grown_drewN (grown_set (World.grownBy.refl _ _) _ _ _) _⟩

set_option maxRecDepth 100000 in
set_option maxHeartbeats 400000 in
theorem guarded_uint64_faulted (g : Nat) (s : ByteArray) (p : Nat) (f : Int) (c : Value) (w : World) (hr : Hid (Rdr w g s p f)) (hf : (f == 0) = false) :
    Calls Try.prog 23 #[.pointer (some ⟨g, 0, none⟩), c] w fun e w' => e = .returned (.int .u64 0) ∧ w = w' := by
  have c2 := hr.out.f
  go_enter Try.func23, Try.ntmps23
  go_wp2_with fail
  go_ret
  exact ⟨rfl, rfl⟩
set_option maxRecDepth 100000 in
set_option maxHeartbeats 400000 in
theorem guarded_uint64_nil (c : Value) (w : World) :
    Calls Try.prog 23 #[.pointer none, c] w fun e w' => e = .returned (.int .u64 0) ∧ w = w' := by
  go_enter Try.func23, Try.ntmps23
  go_wp2_with fail
  go_ret
  exact ⟨rfl, rfl⟩
set_option maxRecDepth 100000 in
set_option maxHeartbeats 400000 in
theorem guarded_string_faulted (g : Nat) (s : ByteArray) (p : Nat) (f : Int) (c : Value) (w : World) (hr : Hid (Rdr w g s p f)) (hf : (f == 0) = false) :
    Calls Try.prog 28 #[.pointer (some ⟨g, 0, none⟩), c] w fun e w' => e = .returned (.string ⟨#[]⟩) ∧ w = w' := by
  have c2 := hr.out.f
  go_enter Try.func28, Try.ntmps28
  go_wp2_with fail
  go_ret
  exact ⟨rfl, rfl⟩
set_option maxRecDepth 100000 in
set_option maxHeartbeats 400000 in
theorem guarded_string_nil (c : Value) (w : World) :
    Calls Try.prog 28 #[.pointer none, c] w fun e w' => e = .returned (.string ⟨#[]⟩) ∧ w = w' := by
  go_enter Try.func28, Try.ntmps28
  go_wp2_with fail
  go_ret
  exact ⟨rfl, rfl⟩
set_option maxRecDepth 100000 in
set_option maxHeartbeats 400000 in
theorem guarded_int_faulted (g : Nat) (s : ByteArray) (p : Nat) (f : Int) (c : Value) (w : World) (hr : Hid (Rdr w g s p f)) (hf : (f == 0) = false) :
    Calls Try.prog 26 #[.pointer (some ⟨g, 0, none⟩), c] w fun e w' => e = .returned (.int .i64 0) ∧ w = w' := by
  have c2 := hr.out.f
  go_enter Try.func26, Try.ntmps26
  go_wp2_with fail
  go_ret
  exact ⟨rfl, rfl⟩
set_option maxRecDepth 100000 in
set_option maxHeartbeats 400000 in
theorem guarded_int_nil (c : Value) (w : World) :
    Calls Try.prog 26 #[.pointer none, c] w fun e w' => e = .returned (.int .i64 0) ∧ w = w' := by
  go_enter Try.func26, Try.ntmps26
  go_wp2_with fail
  go_ret
  exact ⟨rfl, rfl⟩
set_option maxRecDepth 100000 in
set_option maxHeartbeats 400000 in
theorem guarded_Num (g b c : Nat) (s : ByteArray) (p p1 : Nat) (v : Int) (err : Int) (w : World) (_ : c = c) (hr : Hid (Rdr w g s p 0))
    (hc : Hid (Calls Try.prog 24 #[.pointer (some ⟨b, 0, none⟩), .pointer (some ⟨c, 0, none⟩)] w fun e w1 => e = .returned (.tuple #[.int .u64 v, .int .i64 err]) ∧ Rdr w1 g s p1 0 ∧ w.grownBy w1 (some g))) :
    Calls Try.prog 23 #[.pointer (some ⟨g, 0, none⟩), .func (.func 24) #[] #[.pointer (some ⟨b, 0, none⟩), .pointer (some ⟨c, 0, none⟩)]] w fun e w' =>
      e = .returned (if err = 0 then .int .u64 v else .int .u64 0) ∧ Rdr w' g s (if err = 0 then p1 else p) err ∧ w.grownBy w' (some g) := by
  have c2 := hr.out.f
  have c1 := hr.out.p
  by_cases h0 : err = 0
  · subst h0
    rw [if_pos rfl, if_pos rfl]
    go_enter Try.func23, Try.ntmps23
    go_wp2_with fail
    refine hc.out.mono ?_
    rintro e w1 ⟨rfl, hR1, hG1⟩
    have HR1 := Lib.hid hR1; clear hR1
    have HG1 := Lib.hid hG1; clear hG1
    go_wp2_with fail
    go_ret
    exact ⟨rfl, HR1.out, HG1.out⟩
  · rw [if_neg h0, if_neg h0]
    have h0' : ((err : Int) == 0) = false := by simpa using h0
    go_enter Try.func23, Try.ntmps23
    go_wp2_with fail
    refine hc.out.mono ?_
    rintro e w1 ⟨rfl, hR1, hG1⟩
    have d1 := hR1.p
    have d2 := hR1.f
    have z1 := hR1.z 1
    have z2 := hR1.z 2
    have HR1 := Lib.hid hR1; clear hR1
    have HG1 := Lib.hid hG1; clear hG1
    go_wp2_with fail
    go_ret
    exact ⟨rfl, HR1.out.set2 _ _ rfl _, grown_set0 (grown_set0 HG1.out _ _) _ _⟩
set_option maxRecDepth 100000 in
set_option maxHeartbeats 400000 in
theorem guarded_Take (g b c : Nat) (s : ByteArray) (p p1 : Nat) (v : ByteArray) (err : Int) (w : World) (_ : c = c) (hr : Hid (Rdr w g s p 0))
    (hc : Hid (Calls Try.prog 29 #[.pointer (some ⟨b, 0, none⟩), .pointer (some ⟨c, 0, none⟩)] w fun e w1 => e = .returned (.tuple #[.string v, .int .i64 err]) ∧ Rdr w1 g s p1 0 ∧ w.grownBy w1 (some g))) :
    Calls Try.prog 28 #[.pointer (some ⟨g, 0, none⟩), .func (.func 29) #[] #[.pointer (some ⟨b, 0, none⟩), .pointer (some ⟨c, 0, none⟩)]] w fun e w' =>
      e = .returned (if err = 0 then .string v else .string ⟨#[]⟩) ∧ Rdr w' g s (if err = 0 then p1 else p) err ∧ w.grownBy w' (some g) := by
  have c2 := hr.out.f
  have c1 := hr.out.p
  by_cases h0 : err = 0
  · subst h0
    rw [if_pos rfl, if_pos rfl]
    go_enter Try.func28, Try.ntmps28
    go_wp2_with fail
    refine hc.out.mono ?_
    rintro e w1 ⟨rfl, hR1, hG1⟩
    have HR1 := Lib.hid hR1; clear hR1
    have HG1 := Lib.hid hG1; clear hG1
    go_wp2_with fail
    go_ret
    exact ⟨rfl, HR1.out, HG1.out⟩
  · rw [if_neg h0, if_neg h0]
    have h0' : ((err : Int) == 0) = false := by simpa using h0
    go_enter Try.func28, Try.ntmps28
    go_wp2_with fail
    refine hc.out.mono ?_
    rintro e w1 ⟨rfl, hR1, hG1⟩
    have d1 := hR1.p
    have d2 := hR1.f
    have z1 := hR1.z 1
    have z2 := hR1.z 2
    have HR1 := Lib.hid hR1; clear hR1
    have HG1 := Lib.hid hG1; clear hG1
    go_wp2_with fail
    go_ret
    exact ⟨rfl, HR1.out.set2 _ _ rfl _, grown_set0 (grown_set0 HG1.out _ _) _ _⟩
set_option maxRecDepth 100000 in
set_option maxHeartbeats 400000 in
theorem guarded_Fail (g b c : Nat) (s : ByteArray) (p p1 : Nat) (v : Int) (err : Int) (w : World) (_ : c = c) (hr : Hid (Rdr w g s p 0))
    (hc : Hid (Calls Try.prog 27 #[.pointer (some ⟨b, 0, none⟩)] w fun e w1 => e = .returned (.tuple #[.int .i64 v, .int .i64 err]) ∧ Rdr w1 g s p1 0 ∧ w.grownBy w1 (some g))) :
    Calls Try.prog 26 #[.pointer (some ⟨g, 0, none⟩), .func (.func 27) #[] #[.pointer (some ⟨b, 0, none⟩)]] w fun e w' =>
      e = .returned (if err = 0 then .int .i64 v else .int .i64 0) ∧ Rdr w' g s (if err = 0 then p1 else p) err ∧ w.grownBy w' (some g) := by
  have c2 := hr.out.f
  have c1 := hr.out.p
  by_cases h0 : err = 0
  · subst h0
    rw [if_pos rfl, if_pos rfl]
    go_enter Try.func26, Try.ntmps26
    go_wp2_with fail
    refine hc.out.mono ?_
    rintro e w1 ⟨rfl, hR1, hG1⟩
    have HR1 := Lib.hid hR1; clear hR1
    have HG1 := Lib.hid hG1; clear hG1
    go_wp2_with fail
    go_ret
    exact ⟨rfl, HR1.out, HG1.out⟩
  · rw [if_neg h0, if_neg h0]
    have h0' : ((err : Int) == 0) = false := by simpa using h0
    go_enter Try.func26, Try.ntmps26
    go_wp2_with fail
    refine hc.out.mono ?_
    rintro e w1 ⟨rfl, hR1, hG1⟩
    have d1 := hR1.p
    have d2 := hR1.f
    have z1 := hR1.z 1
    have z2 := hR1.z 2
    have HR1 := Lib.hid hR1; clear hR1
    have HG1 := Lib.hid hG1; clear hG1
    go_wp2_with fail
    go_ret
    exact ⟨rfl, HR1.out.set2 _ _ rfl _, grown_set0 (grown_set0 HG1.out _ _) _ _⟩
end Go.Proofs.Ytjcdpmianmgiaaa
