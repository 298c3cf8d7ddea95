/- The head: within, digest, May, First; the reference's May, Cut. -/
import Derived.Test.YtaigngdlioplaaaDoorShaK
namespace Go.Proofs.YtaigngdlioplaaaDoor
open Go Go.RowKit

set_option maxRecDepth 100000 in
theorem within_any (x lo hi : Int) (w : World) : Calls Tryd.prog 66 #[.int .i64 x, .int .i64 lo, .int .i64 hi] w fun e w' => e = .returned (.bool (decide (lo ≤ x ∧ x ≤ hi))) ∧ w = w' := by
  by_cases h1 : lo ≤ x
  · by_cases h2 : x ≤ hi
    · rw [show decide (lo ≤ x ∧ x ≤ hi) = true by simp [h1, h2]]
      go_enter Tryd.func66, Tryd.ntmps66
      go_wp2_with fail
      go_ret
      exact ⟨rfl, rfl⟩
    · rw [show decide (lo ≤ x ∧ x ≤ hi) = false by simp [h2]]
      go_enter Tryd.func66, Tryd.ntmps66
      go_wp2_with fail
      go_ret
      exact ⟨rfl, rfl⟩
  · rw [show decide (lo ≤ x ∧ x ≤ hi) = false by simp [h1]]
    go_enter Tryd.func66, Tryd.ntmps66
    go_wp2_with fail
    go_ret
    exact ⟨rfl, rfl⟩
set_option maxRecDepth 100000 in
theorem hdigest_any (x : Int) (w : World) : Calls Tryd.prog 59 #[.int .i64 x] w fun e w' => e = .returned (.bool (decide (1 ≤ x ∧ x ≤ 32))) ∧ w = w' := by
  by_cases h1 : 1 ≤ x
  · by_cases h2 : x ≤ 32
    · rw [show decide (1 ≤ x ∧ x ≤ 32) = true by simp [h1, h2]]
      go_enter Tryd.func59, Tryd.ntmps59
      go_wp2_with fail
      go_ret
      exact ⟨rfl, rfl⟩
    · rw [show decide (1 ≤ x ∧ x ≤ 32) = false by simp [h2]]
      go_enter Tryd.func59, Tryd.ntmps59
      go_wp2_with fail
      go_ret
      exact ⟨rfl, rfl⟩
  · rw [show decide (1 ≤ x ∧ x ≤ 32) = false by simp [h1]]
    go_enter Tryd.func59, Tryd.ntmps59
    go_wp2_with fail
    go_ret
    exact ⟨rfl, rfl⟩

/-- A header. -/
structure Hd where
  i : Int
  f : Int
  c : Int
  b : Int
  p : ByteArray
  r : ByteArray
def Hd.cells (h : Hd) : Array Value := #[.int .i64 h.i, .int .i64 h.f, .int .i64 h.c, .int .i64 h.b, .string h.p, .string h.r]
def numsB (h : Hd) : Bool := decide (0 ≤ h.i ∧ h.i ≤ 1099511627776) && decide (0 ≤ h.f ∧ h.f ≤ 1099511627776) && decide (1 ≤ h.c ∧ h.c ≤ 64) && decide (0 ≤ h.b ∧ h.b ≤ 1099511627776)
def mayB (h : Hd) (n : Int) : Bool := numsB h && decide ((h.p.size : Int) = n) && decide ((h.r.size : Int) = n)

set_option maxRecDepth 100000 in
set_option maxHeartbeats 4000000 in
theorem May_any (h : Hd) (n : Int) (w : World) (hn : Hid (1 ≤ n ∧ n ≤ 32)) :
    Calls Tryd.prog 17 #[.agg h.cells, .int .i64 n] w fun e w' => e = .returned (.bool (mayB h n)) ∧ Below w.heap.size w w' := by
  obtain ⟨i, f, c, b, p, r⟩ := h
  have q1 := Lib.hid (fun w => within_any i 0 1099511627776 w)
  have q2 := Lib.hid (fun w => within_any f 0 1099511627776 w)
  have q3 := Lib.hid (fun w => within_any c 1 64 w)
  have q4 := Lib.hid (fun w => within_any b 0 1099511627776 w)
  have q5 := Lib.hid (fun w => hdigest_any n w)
  rw [show decide (1 ≤ n ∧ n ≤ 32) = true by simpa using hn.out] at q5
  unfold mayB numsB Hd.cells
  simp only []
  generalize decide (0 ≤ i ∧ i ≤ 1099511627776) = b1 at *
  generalize decide (0 ≤ f ∧ f ≤ 1099511627776) = b2 at *
  generalize decide (1 ≤ c ∧ c ≤ 64) = b3 at *
  generalize decide (0 ≤ b ∧ b ≤ 1099511627776) = b4 at *
  obtain ⟨b5, h5⟩ : ∃ b5, decide ((p.size : Int) = n) = b5 := ⟨_, rfl⟩
  obtain ⟨b6, h6⟩ : ∃ b6, decide ((r.size : Int) = n) = b6 := ⟨_, rfl⟩
  rw [h5, h6]
  have H5 := Lib.hid h5
  have H6 := Lib.hid h6
  clear h5 h6
  have HB : Hid (∀ o, Below w.heap.size w (w.alloc o)) := fun o => below_alloc (Below.refl _ _) (Nat.le_refl _) o
  go_enter Tryd.func17, Tryd.ntmps17
  go_wp2_with fail
  refine (q1.out _).mono ?_
  rintro e w1 ⟨rfl, rfl⟩
  cases b1 with
  | false =>
    go_wp2_with fail
    refine (q5.out _).mono ?_
    rintro e w1 ⟨rfl, rfl⟩
    go_wp2_with fail
    go_ret
    exact ⟨rfl, HB.out _⟩
  | true =>
  go_wp2_with fail
  refine (q2.out _).mono ?_
  rintro e w1 ⟨rfl, rfl⟩
  cases b2 with
  | false =>
    go_wp2_with fail
    refine (q5.out _).mono ?_
    rintro e w1 ⟨rfl, rfl⟩
    go_wp2_with fail
    go_ret
    exact ⟨rfl, HB.out _⟩
  | true =>
  go_wp2_with fail
  refine (q3.out _).mono ?_
  rintro e w1 ⟨rfl, rfl⟩
  cases b3 with
  | false =>
    go_wp2_with fail
    refine (q5.out _).mono ?_
    rintro e w1 ⟨rfl, rfl⟩
    go_wp2_with fail
    go_ret
    exact ⟨rfl, HB.out _⟩
  | true =>
  go_wp2_with fail
  refine (q4.out _).mono ?_
  rintro e w1 ⟨rfl, rfl⟩
  cases b4 with
  | false =>
    go_wp2_with fail
    refine (q5.out _).mono ?_
    rintro e w1 ⟨rfl, rfl⟩
    go_wp2_with fail
    go_ret
    exact ⟨rfl, HB.out _⟩
  | true =>
  go_wp2_with fail
  refine (q5.out _).mono ?_
  rintro e w1 ⟨rfl, rfl⟩
  by_cases hp : (p.size : Int) = n
  · obtain rfl : b5 = true := by rw [← H5.out]; simp [hp]
    by_cases hr : (r.size : Int) = n
    · obtain rfl : b6 = true := by rw [← H6.out]; simp [hr]
      go_wp2_with fail
      go_ret
      exact ⟨rfl, HB.out _⟩
    · obtain rfl : b6 = false := by rw [← H6.out]; simp [hr]
      go_wp2_with fail
      go_ret
      exact ⟨ret_bool (by simp [hr]), HB.out _⟩
  · obtain rfl : b5 = false := by rw [← H5.out]; simp [hp]
    go_wp2_with fail
    go_ret
    exact ⟨rfl, HB.out _⟩

set_option maxRecDepth 100000 in
set_option maxHeartbeats 4000000 in
theorem May_bad (h : Hd) (n : Int) (w : World) (hn : ¬ (1 ≤ n ∧ n ≤ 32)) :
    Calls Tryd.prog 17 #[.agg h.cells, .int .i64 n] w fun e w' => e = .returned (.bool false) ∧ Below w.heap.size w w' := by
  obtain ⟨i, f, c, b, p, r⟩ := h
  have q1 := Lib.hid (fun w => within_any i 0 1099511627776 w)
  have q2 := Lib.hid (fun w => within_any f 0 1099511627776 w)
  have q3 := Lib.hid (fun w => within_any c 1 64 w)
  have q4 := Lib.hid (fun w => within_any b 0 1099511627776 w)
  have q5 := Lib.hid (fun w => hdigest_any n w)
  rw [show decide (1 ≤ n ∧ n ≤ 32) = false by simpa using hn] at q5
  unfold Hd.cells
  simp only []
  generalize decide (0 ≤ i ∧ i ≤ 1099511627776) = b1 at *
  generalize decide (0 ≤ f ∧ f ≤ 1099511627776) = b2 at *
  generalize decide (1 ≤ c ∧ c ≤ 64) = b3 at *
  generalize decide (0 ≤ b ∧ b ≤ 1099511627776) = b4 at *
  have HB : Hid (∀ o, Below w.heap.size w (w.alloc o)) := fun o => below_alloc (Below.refl _ _) (Nat.le_refl _) o
  clear hn
  go_enter Tryd.func17, Tryd.ntmps17
  go_wp2_with fail
  refine (q1.out _).mono ?_
  rintro e w1 ⟨rfl, rfl⟩
  cases b1 with
  | false =>
    go_wp2_with fail
    refine (q5.out _).mono ?_
    rintro e w1 ⟨rfl, rfl⟩
    go_wp2_with fail
    go_ret
    exact ⟨rfl, HB.out _⟩
  | true =>
  go_wp2_with fail
  refine (q2.out _).mono ?_
  rintro e w1 ⟨rfl, rfl⟩
  cases b2 with
  | false =>
    go_wp2_with fail
    refine (q5.out _).mono ?_
    rintro e w1 ⟨rfl, rfl⟩
    go_wp2_with fail
    go_ret
    exact ⟨rfl, HB.out _⟩
  | true =>
  go_wp2_with fail
  refine (q3.out _).mono ?_
  rintro e w1 ⟨rfl, rfl⟩
  cases b3 with
  | false =>
    go_wp2_with fail
    refine (q5.out _).mono ?_
    rintro e w1 ⟨rfl, rfl⟩
    go_wp2_with fail
    go_ret
    exact ⟨rfl, HB.out _⟩
  | true =>
  go_wp2_with fail
  refine (q4.out _).mono ?_
  rintro e w1 ⟨rfl, rfl⟩
  cases b4 with
  | false =>
    go_wp2_with fail
    refine (q5.out _).mono ?_
    rintro e w1 ⟨rfl, rfl⟩
    go_wp2_with fail
    go_ret
    exact ⟨rfl, HB.out _⟩
  | true =>
  go_wp2_with fail
  refine (q5.out _).mono ?_
  rintro e w1 ⟨rfl, rfl⟩
  go_wp2_with fail
  go_ret
  exact ⟨rfl, HB.out _⟩

theorem mayB_off {h : Hd} (n : Int) (hx : h.i < 0 ∨ 1099511627776 < h.i ∨ h.f < 0 ∨ 1099511627776 < h.f ∨ h.c < 1 ∨ 64 < h.c ∨ h.b < 0 ∨ 1099511627776 < h.b) : mayB h n = false := by
  unfold mayB numsB
  rw [Bool.eq_false_iff]
  intro hh
  simp only [Bool.and_eq_true, decide_eq_true_eq] at hh
  omega

set_option maxRecDepth 100000 in
set_option maxHeartbeats 4000000 in
theorem rMay_any (h : Hd) (n : Int) (w : World) :
    Calls Tryd.prog 21 #[.agg h.cells, .int .i64 n] w fun e w' => e = .returned (.bool (mayB h n)) ∧ Below w.heap.size w w' := by
  have HB : Hid (∀ o, Below w.heap.size w (w.alloc o)) := fun o => below_alloc (Below.refl _ _) (Nat.le_refl _) o
  obtain ⟨B, hB⟩ : ∃ B, mayB h n = B := ⟨_, rfl⟩
  rw [hB]
  have HBB := Lib.hid hB
  clear hB
  have OFF := Lib.hid (@mayB_off h n)
  obtain ⟨i, f, c, b, p, r⟩ := h
  unfold Hd.cells
  simp only [] at OFF ⊢
  by_cases h1 : i < 0
  · obtain rfl : B = false := by rw [← HBB.out]; exact OFF.out (by omega)
    go_enter Tryd.func21, Tryd.ntmps21
    go_wp2_with fail
    go_ret
    exact ⟨rfl, HB.out _⟩
  by_cases h2 : 1099511627776 < i
  · obtain rfl : B = false := by rw [← HBB.out]; exact OFF.out (by omega)
    go_enter Tryd.func21, Tryd.ntmps21
    go_wp2_with fail
    go_ret
    exact ⟨rfl, HB.out _⟩
  by_cases h3 : f < 0
  · obtain rfl : B = false := by rw [← HBB.out]; exact OFF.out (by omega)
    go_enter Tryd.func21, Tryd.ntmps21
    go_wp2_with fail
    go_ret
    exact ⟨rfl, HB.out _⟩
  by_cases h4 : 1099511627776 < f
  · obtain rfl : B = false := by rw [← HBB.out]; exact OFF.out (by omega)
    go_enter Tryd.func21, Tryd.ntmps21
    go_wp2_with fail
    go_ret
    exact ⟨rfl, HB.out _⟩
  by_cases h5 : c < 1
  · obtain rfl : B = false := by rw [← HBB.out]; exact OFF.out (by omega)
    go_enter Tryd.func21, Tryd.ntmps21
    go_wp2_with fail
    go_ret
    exact ⟨rfl, HB.out _⟩
  by_cases h6 : 64 < c
  · obtain rfl : B = false := by rw [← HBB.out]; exact OFF.out (by omega)
    go_enter Tryd.func21, Tryd.ntmps21
    go_wp2_with fail
    go_ret
    exact ⟨rfl, HB.out _⟩
  by_cases h7 : b < 0
  · obtain rfl : B = false := by rw [← HBB.out]; exact OFF.out (by omega)
    go_enter Tryd.func21, Tryd.ntmps21
    go_wp2_with fail
    go_ret
    exact ⟨rfl, HB.out _⟩
  by_cases h8 : 1099511627776 < b
  · obtain rfl : B = false := by rw [← HBB.out]; exact OFF.out (by omega)
    go_enter Tryd.func21, Tryd.ntmps21
    go_wp2_with fail
    go_ret
    exact ⟨rfl, HB.out _⟩
  have hnb : numsB ⟨i, f, c, b, p, r⟩ = true := by
    unfold numsB
    simp only [Bool.and_eq_true, decide_eq_true_eq]
    omega
  have HNB := Lib.hid hnb
  clear hnb
  by_cases hp : (p.size : Int) = n
  · by_cases hr : (r.size : Int) = n
    · obtain rfl : B = true := by rw [← HBB.out]; unfold mayB; rw [HNB.out]; simp [hp, hr]
      go_enter Tryd.func21, Tryd.ntmps21
      go_wp2_with fail
      go_ret
      exact ⟨rfl, HB.out _⟩
    · obtain rfl : B = false := by rw [← HBB.out]; unfold mayB; rw [HNB.out]; simp [hr]
      go_enter Tryd.func21, Tryd.ntmps21
      go_wp2_with fail
      go_ret
      exact ⟨ret_bool (by simp [hr]), HB.out _⟩
  · obtain rfl : B = false := by rw [← HBB.out]; unfold mayB; rw [HNB.out]; simp [hp]
    go_enter Tryd.func21, Tryd.ntmps21
    go_wp2_with fail
    go_ret
    exact ⟨rfl, HB.out _⟩
end Go.Proofs.YtaigngdlioplaaaDoor
