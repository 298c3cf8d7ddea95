/- The reader of the program: Read, Num, Int, Row, Take, Left, Fail, Fault. -/
import Derived.Test.YtjcdpmianmgiaaaNumsD
namespace Go.Proofs.Ytjcdpmianmgiaaa
open Go.RowKit

theorem dig_used (l : List UInt8) : ∀ k n, (dig l k n).2.2 ≤ l.length := by
  induction l with
  | nil => intro k n; simp [dig]
  | cons b r ih =>
    intro k n
    unfold dig
    split
    · simp
    · split
      · split <;> simp
      · simp only [List.length_cons]; have := ih (k + 1) (n + b.toNat % 128 * 128 ^ k); omega
theorem dig_u64 (l : List UInt8) : ∀ k n, k ≤ 9 → n < 128 ^ k → (dig l k n).2.1 < 18446744073709551616 := by
  induction l with
  | nil => intro k n _ _; simp [dig]
  | cons b r ih =>
    intro k n hk hn
    unfold dig
    split
    · simp
    · rename_i h1
      split
      · rename_i h2
        split
        · simp
        · simp only []
          by_cases h9 : k = 9
          · subst h9
            have hb : b.toNat ≤ 1 := by omega
            have := Nat.mul_le_mul_right (128 ^ 9) hb
            omega
          · have h3 : 128 ^ k ≤ 128 ^ 8 := Nat.pow_le_pow_right (by decide) (by omega)
            have := Nat.mul_le_mul (show b.toNat ≤ 127 by omega) h3
            omega
      · rename_i h2
        have h9 : k ≠ 9 := by omega
        simp only []
        refine ih _ _ (by omega) ?_
        rw [Nat.pow_succ]
        have := Nat.mul_le_mul_right (128 ^ k) (show b.toNat % 128 ≤ 127 by omega)
        omega
theorem drop_len (s : ByteArray) (p : Nat) : (s.data.toList.drop p).length = s.size - p := by simp
theorem dig_fits (s : ByteArray) (p : Nat) (hp : p ≤ s.size) : p + (dig (s.data.toList.drop p) 0 0).2.2 ≤ s.size := by
  have := dig_used (s.data.toList.drop p) 0 0
  rw [drop_len] at this; omega
theorem dig_U64 (l : List UInt8) : U64 (dig l 0 0).2.1 := by
  have := dig_u64 l 0 0 (by omega) (by omega)
  unfold U64; omega
theorem numC_used (l : List UInt8) (most : Nat) : (numC l most).2.2 = (dig l 0 0).2.2 := by unfold numC; split <;> rfl

/-- What the step of Row answers. -/
def rowC (s : ByteArray) (p : Nat) (most : Int) : Int × ByteArray × Nat :=
  if (dig (s.data.toList.drop p) 0 0).1 = 0 then
    (if most < 0 ∨ most < (dig (s.data.toList.drop p) 0 0).2.1 then (4, ⟨#[]⟩, p + (dig (s.data.toList.drop p) 0 0).2.2)
    else takeC s (p + (dig (s.data.toList.drop p) 0 0).2.2) (dig (s.data.toList.drop p) 0 0).2.1)
  else ((dig (s.data.toList.drop p) 0 0).1, ⟨#[]⟩, p + (dig (s.data.toList.drop p) 0 0).2.2)

set_option maxRecDepth 100000 in
set_option maxHeartbeats 400000 in
theorem TakeC_any (g b c : Nat) (s : ByteArray) (p : Nat) (f : Int) (n : Int) (w : World) (hr : Hid (Rdr w g s p f)) (hs : Hid (s.size ≤ 1099511627776)) (hp : Hid (p ≤ s.size))
    (hb : w.cell? ⟨b, 0, none⟩ = some (.pointer (some ⟨g, 0, none⟩))) (hc : w.cell? ⟨c, 0, none⟩ = some (.int .i64 n)) :
    Calls Try.prog 29 #[.pointer (some ⟨b, 0, none⟩), .pointer (some ⟨c, 0, none⟩)] w fun e w' => e = .returned (.tuple #[.string (takeC s p n).2.1, .int .i64 (takeC s p n).1]) ∧
      Rdr w' g s (takeC s p n).2.2 f ∧ w.grownBy w' (some g) := by
  go_enter Try.func29, Try.ntmps29
  go_wp2_with fail
  refine (take_any _ _ _ _ _ _ hr hs hp).mono ?_
  rintro e w2 ⟨rfl, hR2, hG2⟩
  have HR2 := Lib.hid hR2; clear hR2
  have HG2 := Lib.hid hG2; clear hG2
  go_wp2_with fail
  go_ret2
  exact ⟨rfl, HR2.out, HG2.out⟩

set_option maxRecDepth 100000 in
set_option maxHeartbeats 400000 in
theorem FailC_any (b : Nat) (x : Int) (w : World) (hb : w.cell? ⟨b, 0, none⟩ = some (.int .i64 x)) :
    Calls Try.prog 27 #[.pointer (some ⟨b, 0, none⟩)] w fun e w' => e = .returned (.tuple #[.int .i64 0, .int .i64 x]) ∧ ∃ n, w' = w.drewN n := by
  go_enter Try.func27, Try.ntmps27
  go_wp2_with fail
  go_quiet (fail)
  go_wp2_with fail
  go_ret2
  exact ⟨rfl, _, rfl⟩

theorem grown_alloc (w : World) (o : Obj) (row : Option Nat) : w.grownBy (w.alloc o) row := World.grownBy_alloc w o row
theorem two_new (w : World) (u v : Value) (t t' : TypeId) :
    ((w.alloc (.cells #[u] t)).alloc (.cells #[v] t')).cell? ⟨w.heap.size, 0, none⟩ = some u ∧ ((w.alloc (.cells #[u] t)).alloc (.cells #[v] t')).cell? ⟨w.heap.size + 1, 0, none⟩ = some v := by
  refine ⟨?_, ?_⟩
  · rw [World.cell?_alloc_past _ _ _ (by simp), World.cell?_alloc_at _ _ _ _ rfl]; rfl
  · rw [World.cell?_alloc_at _ _ _ _ (by simp)]; rfl

theorem ne_new {g : Nat} {w : World} (h : Hid (g < w.heap.size)) (k : Nat) : Hid (g ≠ w.heap.size + k) := by have := h.out; show _ ≠ _; omega

def rNum (s : ByteArray) (p : Nat) (f : Int) (most : Nat) : Int × Nat × Int :=
  if f = 0 then (if (numC (s.data.toList.drop p) most).1 = 0 then (((numC (s.data.toList.drop p) most).2.1 : Int), p + (numC (s.data.toList.drop p) most).2.2, 0) else (0, p, (numC (s.data.toList.drop p) most).1)) else (0, p, f)
def rInt (s : ByteArray) (p : Nat) (f : Int) : Int × Nat × Int :=
  if f = 0 then (if (dig (s.data.toList.drop p) 0 0).1 = 0 then (zag (dig (s.data.toList.drop p) 0 0).2.1, p + (dig (s.data.toList.drop p) 0 0).2.2, 0) else (0, p, (dig (s.data.toList.drop p) 0 0).1)) else (0, p, f)
def rRow (s : ByteArray) (p : Nat) (f : Int) (most : Int) : ByteArray × Nat × Int :=
  if f = 0 then (if (rowC s p most).1 = 0 then ((rowC s p most).2.1, (rowC s p most).2.2, 0) else (⟨#[]⟩, p, (rowC s p most).1)) else (⟨#[]⟩, p, f)
def rTake (s : ByteArray) (p : Nat) (f : Int) (n : Int) : ByteArray × Nat × Int :=
  if f = 0 then (if (takeC s p n).1 = 0 then ((takeC s p n).2.1, (takeC s p n).2.2, 0) else (⟨#[]⟩, p, (takeC s p n).1)) else (⟨#[]⟩, p, f)
def rFail (f e : Int) : Int := if f = 0 then e else f

set_option maxRecDepth 100000 in
set_option maxHeartbeats 400000 in
theorem RNum_nat (g : Nat) (s : ByteArray) (p : Nat) (f : Int) (m : Nat) (w : World) (hr : Hid (Rdr w g s p f)) (hs : Hid (s.size ≤ 1099511627776)) (hp : Hid (p ≤ s.size)) :
    Calls Try.prog 18 #[.pointer (some ⟨g, 0, none⟩), (.int .u64 m)] w fun e w' => e = .returned (.int .u64 (rNum s p f m).1) ∧
      Rdr w' g s (rNum s p f m).2.1 (rNum s p f m).2.2 ∧ w.grownBy w' (some g) := by
  have hlt := Lib.hid hr.out.lt
  have HR := Lib.hid ((hr.out.alloc (.cells #[.pointer (some ⟨g, 0, none⟩)] 44)).alloc (.cells #[.int .u64 m] 40))
  by_cases h0 : f = 0
  · subst h0
    have hC := Lib.hid (NumC_any g w.heap.size (w.heap.size + 1) s p 0 m _ HR hs hp (two_new _ _ _ _ _).1 (two_new _ _ _ _ _).2 (ne_new hlt 1))
    have hQ := guarded_Num g w.heap.size (w.heap.size + 1) s p _ _ _ _ rfl HR hC
    by_cases h1 : (numC (s.data.toList.drop p) m).1 = 0
    · have hR0 : (rNum s p 0 m) = ((((numC (s.data.toList.drop p) m).2.1 : Int)), p + (numC (s.data.toList.drop p) m).2.2, 0) := by show (if (0 : Int) = 0 then _ else _) = _; rw [if_pos rfl, if_pos h1]
      rw [h1] at hQ
      rw [if_pos rfl, if_pos rfl] at hQ
      rw [hR0]
      have HQ := Lib.hid hQ
      clear hQ hR0 h1
      go_enter Try.func18, Try.ntmps18
      go_wp2_with fail
      refine HQ.out.mono ?_
      rintro e w1 ⟨rfl, hR1, hG1⟩
      have HR1 := Lib.hid hR1; clear hR1
      have HG1 := Lib.hid hG1; clear hG1
      go_wp2_with fail
      go_ret
      exact ⟨rfl, HR1.out, grown_trans (grown_trans (grown_alloc w _ _) (grown_alloc _ _ _)) HG1.out⟩
    · have hR0 : (rNum s p 0 m) = ((0 : Int), p, (numC (s.data.toList.drop p) m).1) := by show (if (0 : Int) = 0 then _ else _) = _; rw [if_pos rfl, if_neg h1]
      rw [if_neg h1, if_neg h1] at hQ
      rw [hR0]
      have HQ := Lib.hid hQ
      clear hQ hR0 h1
      go_enter Try.func18, Try.ntmps18
      go_wp2_with fail
      refine HQ.out.mono ?_
      rintro e w1 ⟨rfl, hR1, hG1⟩
      have HR1 := Lib.hid hR1; clear hR1
      have HG1 := Lib.hid hG1; clear hG1
      go_wp2_with fail
      go_ret
      exact ⟨rfl, HR1.out, grown_trans (grown_trans (grown_alloc w _ _) (grown_alloc _ _ _)) HG1.out⟩
  · have hR0 : (rNum s p f m) = ((0 : Int), p, f) := by show (if f = 0 then _ else _) = _; rw [if_neg h0]
    rw [hR0]
    have h0' : (f == 0) = false := by simpa using h0
    clear h0 hR0
    go_enter Try.func18, Try.ntmps18
    go_wp2_with fail
    refine (guarded_uint64_faulted g s p f _ _ HR h0').mono ?_
    rintro e w1 ⟨rfl, rfl⟩
    go_wp2_with fail
    go_ret
    exact ⟨rfl, HR.out, grown_trans (grown_alloc w _ _) (grown_alloc _ _ _)⟩
set_option maxRecDepth 100000 in
set_option maxHeartbeats 400000 in
theorem RTake_nat (g : Nat) (s : ByteArray) (p : Nat) (f : Int) (m : Int) (w : World) (hr : Hid (Rdr w g s p f)) (hs : Hid (s.size ≤ 1099511627776)) (hp : Hid (p ≤ s.size)) :
    Calls Try.prog 20 #[.pointer (some ⟨g, 0, none⟩), (.int .i64 m)] w fun e w' => e = .returned (.string (rTake s p f m).1) ∧
      Rdr w' g s (rTake s p f m).2.1 (rTake s p f m).2.2 ∧ w.grownBy w' (some g) := by
  have hlt := Lib.hid hr.out.lt
  have HR := Lib.hid ((hr.out.alloc (.cells #[.pointer (some ⟨g, 0, none⟩)] 44)).alloc (.cells #[.int .i64 m] 3))
  by_cases h0 : f = 0
  · subst h0
    have hC := Lib.hid (TakeC_any g w.heap.size (w.heap.size + 1) s p 0 m _ HR hs hp (two_new _ _ _ _ _).1 (two_new _ _ _ _ _).2)
    have hQ := guarded_Take g w.heap.size (w.heap.size + 1) s p _ _ _ _ rfl HR hC
    by_cases h1 : (takeC s p m).1 = 0
    · have hR0 : (rTake s p 0 m) = (((takeC s p m).2.1), (takeC s p m).2.2, 0) := by show (if (0 : Int) = 0 then _ else _) = _; rw [if_pos rfl, if_pos h1]
      rw [h1] at hQ
      rw [if_pos rfl, if_pos rfl] at hQ
      rw [hR0]
      have HQ := Lib.hid hQ
      clear hQ hR0 h1
      go_enter Try.func20, Try.ntmps20
      go_wp2_with fail
      refine HQ.out.mono ?_
      rintro e w1 ⟨rfl, hR1, hG1⟩
      have HR1 := Lib.hid hR1; clear hR1
      have HG1 := Lib.hid hG1; clear hG1
      go_wp2_with fail
      go_ret
      exact ⟨rfl, HR1.out, grown_trans (grown_trans (grown_alloc w _ _) (grown_alloc _ _ _)) HG1.out⟩
    · have hR0 : (rTake s p 0 m) = ((⟨#[]⟩ : ByteArray), p, (takeC s p m).1) := by show (if (0 : Int) = 0 then _ else _) = _; rw [if_pos rfl, if_neg h1]
      rw [if_neg h1, if_neg h1] at hQ
      rw [hR0]
      have HQ := Lib.hid hQ
      clear hQ hR0 h1
      go_enter Try.func20, Try.ntmps20
      go_wp2_with fail
      refine HQ.out.mono ?_
      rintro e w1 ⟨rfl, hR1, hG1⟩
      have HR1 := Lib.hid hR1; clear hR1
      have HG1 := Lib.hid hG1; clear hG1
      go_wp2_with fail
      go_ret
      exact ⟨rfl, HR1.out, grown_trans (grown_trans (grown_alloc w _ _) (grown_alloc _ _ _)) HG1.out⟩
  · have hR0 : (rTake s p f m) = ((⟨#[]⟩ : ByteArray), p, f) := by show (if f = 0 then _ else _) = _; rw [if_neg h0]
    rw [hR0]
    have h0' : (f == 0) = false := by simpa using h0
    clear h0 hR0
    go_enter Try.func20, Try.ntmps20
    go_wp2_with fail
    refine (guarded_string_faulted g s p f _ _ HR h0').mono ?_
    rintro e w1 ⟨rfl, rfl⟩
    go_wp2_with fail
    go_ret
    exact ⟨rfl, HR.out, grown_trans (grown_alloc w _ _) (grown_alloc _ _ _)⟩
theorem Rdr.rest {w w' : World} {g : Nat} {s : ByteArray} {p : Nat} {f : Int} (h : Rdr w g s p f) (hb : Below w.heap.size w w') : Rdr w' g s p f := (hb.block g h.lt).trans h
theorem grown_below {w w' : World} (h : Below w.heap.size w w') (row : Option Nat) : w.grownBy w' row := ⟨h.os, h.tape, h.output, h.size, fun k hk _ => h.block k hk⟩

set_option maxRecDepth 100000 in
set_option maxHeartbeats 400000 in
theorem RFail_any (g : Nat) (s : ByteArray) (p : Nat) (f : Int) (x : Int) (w : World) (hr : Hid (Rdr w g s p f)) :
    Calls Try.prog 19 #[.pointer (some ⟨g, 0, none⟩), .int .i64 x] w fun e w' => e = .returned (.tuple #[]) ∧
      Rdr w' g s p (rFail f x) ∧ w.grownBy w' (some g) := by
  have HR := Lib.hid (hr.out.alloc (.cells #[.int .i64 x] 32))
  by_cases h0 : f = 0
  · subst h0
    have hC : Hid (Calls Try.prog 27 #[.pointer (some ⟨w.heap.size, 0, none⟩)] (w.alloc (.cells #[.int .i64 x] 32)) fun e w1 => e = .returned (.tuple #[.int .i64 0, .int .i64 x]) ∧ Rdr w1 g s p 0 ∧ (w.alloc (.cells #[.int .i64 x] 32)).grownBy w1 (some g)) :=
      (FailC_any w.heap.size x _ (by rw [World.cell?_alloc_at _ _ _ _ rfl]; rfl)).mono fun e w1 ⟨he, n, hn⟩ => ⟨he, by subst hn; exact HR.out.drewN n, by subst hn; exact grown_drewN (World.grownBy.refl _ _) n⟩
    have hQ := guarded_Fail g w.heap.size 0 s p _ _ _ _ rfl HR hC
    have e1 : (if x = 0 then Value.int .i64 0 else .int .i64 0) = .int .i64 0 := by split <;> rfl
    have e2 : (if x = 0 then p else p) = p := by split <;> rfl
    rw [e1, e2] at hQ
    have HQ := Lib.hid hQ
    clear hQ e1 e2
    go_enter Try.func19, Try.ntmps19
    go_wp2_with fail
    refine HQ.out.mono ?_
    rintro e w1 ⟨rfl, hR1, hG1⟩
    have HR1 := Lib.hid hR1; clear hR1
    have HG1 := Lib.hid hG1; clear hG1
    go_wp2_with fail
    go_end0
    exact ⟨rfl, HR1.out, grown_trans (grown_alloc w _ _) HG1.out⟩
  · have h0' : (f == 0) = false := by simpa using h0
    have hf : rFail f x = f := by unfold rFail; rw [if_neg h0]
    rw [hf]
    clear h0 hf
    go_enter Try.func19, Try.ntmps19
    go_wp2_with fail
    refine (guarded_int_faulted g s p f _ _ HR h0').mono ?_
    rintro e w1 ⟨rfl, rfl⟩
    go_wp2_with fail
    go_end0
    exact ⟨rfl, HR.out, grown_alloc w _ _⟩

set_option maxRecDepth 100000 in
theorem RFault_any (g : Nat) (s : ByteArray) (p : Nat) (f : Int) (w : World) (hr : Hid (Rdr w g s p f)) :
    Calls Try.prog 21 #[.pointer (some ⟨g, 0, none⟩)] w fun e w' => e = .returned (.int .i64 f) ∧ w = w' := by
  have c2 := hr.out.f
  go_enter Try.func21, Try.ntmps21
  go_wp2_with fail
  go_ret
  exact ⟨rfl, rfl⟩
set_option maxRecDepth 100000 in
theorem RLeft_any (g : Nat) (s : ByteArray) (p : Nat) (f : Int) (w : World) (hr : Hid (Rdr w g s p f)) (hs : Hid (s.size ≤ 1099511627776)) (hp : Hid (p ≤ s.size)) :
    Calls Try.prog 22 #[.pointer (some ⟨g, 0, none⟩)] w fun e w' => e = .returned (.int .i64 ((s.size : Int) - p)) ∧ ∃ n, w' = w.drewN n := by
  have c0 := hr.out.s
  have c1 := hr.out.p
  have h1 : s.size ≤ 1099511627776 := hs.out
  have h2 : p ≤ s.size := hp.out
  go_enter Try.func22, Try.ntmps22
  go_wp2_with fail
  go_quiet (fail)
  go_wp2_with fail
  go_ret
  exact ⟨rfl, _, rfl⟩
set_option maxRecDepth 100000 in
theorem Read_any (s : ByteArray) (w : World) :
    Calls Try.prog 17 #[.string s] w fun e w' => e = .returned (.pointer (some ⟨w.heap.size, 0, none⟩)) ∧ Rdr w' w.heap.size s 0 0 ∧ Below w.heap.size w w' ∧ w'.heap.size = w.heap.size + 1 := by
  go_enter Try.func17, Try.ntmps17
  go_wp2_with fail
  go_ret
  exact ⟨rfl, heap_alloc_new w _, (Below.refl _ _).alloc (Nat.le_refl _) _, by simp⟩

theorem RNum_any (g : Nat) (s : ByteArray) (p : Nat) (f : Int) (most : Int) (w : World) (hr : Hid (Rdr w g s p f)) (hs : Hid (s.size ≤ 1099511627776)) (hp : Hid (p ≤ s.size)) (hm : Hid (U64 most)) :
    Calls Try.prog 18 #[.pointer (some ⟨g, 0, none⟩), .int .u64 most] w fun e w' => e = .returned (.int .u64 (rNum s p f most.toNat).1) ∧
      Rdr w' g s (rNum s p f most.toNat).2.1 (rNum s p f most.toNat).2.2 ∧ w.grownBy w' (some g) := by
  obtain ⟨m, rfl⟩ := Int.eq_ofNat_of_zero_le hm.out.1
  exact RNum_nat g s p f m w hr hs hp
end Go.Proofs.Ytjcdpmianmgiaaa
