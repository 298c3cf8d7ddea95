/- frame: Wrap, Next; the reference's Wrap, Next. -/
import Derived.Test.YtjcdpmianmgiaaaNumsReadsA
namespace Go.Proofs.Ytjcdpmianmgiaaa
open Go.RowKit

def frameStr (s : ByteArray) : ByteArray := rowStr s ++ ⟨#[165]⟩
theorem frameStr_size (s : ByteArray) : (frameStr s).size ≤ s.size + 11 := by
  unfold frameStr; rw [ByteArray.size_append]; have := rowStr_size s; have h : (⟨#[165]⟩ : ByteArray).size = 1 := rfl; omega

set_option maxRecDepth 100000 in
theorem Wrap_any (s : ByteArray) (w : World) (hs : Hid (s.size ≤ 65536)) (h0 : s.toList.isEmpty = false) :
    Calls Try.prog 8 #[.string s] w fun e w' => e = .returned (.tuple #[.string (frameStr s), .int .i64 0]) ∧ Below w.heap.size w w' := by
  have h1 : ¬ 65536 < (s.size : Int) := by have := hs.out; omega
  have hs2 : Hid (s.size ≤ 1099511627776) := by have := hs.out; show _ ≤ _; omega
  have h2 : (rowStr s).size ≤ 65546 := by have := rowStr_size s; have := hs.out; omega
  go_enter Try.func8, Try.ntmps8
  go_wp2_with fail
  refine (Row_any _ _ hs2).mono ?_; rintro e w' ⟨rfl, hb⟩
  go_wp2_with fail
  go_ret2
  exact ⟨rfl, hb⟩

set_option maxRecDepth 100000 in
theorem Wrap_empty (w : World) :
    Calls Try.prog 8 #[.string ⟨#[]⟩] w fun e w' => e = .returned (.tuple #[.string ⟨#[]⟩, .int .i64 1]) ∧ Below w.heap.size w w' := by
  go_enter Try.func8, Try.ntmps8
  go_wp2_with fail
  go_ret2
  exact ⟨rfl, Below.refl _ _⟩

set_option maxRecDepth 100000 in
theorem Wrap_long (s : ByteArray) (w : World) (hs : 65536 < s.size) (h0 : s.toList.isEmpty = false) :
    Calls Try.prog 8 #[.string s] w fun e w' => e = .returned (.tuple #[.string ⟨#[]⟩, .int .i64 4]) ∧ Below w.heap.size w w' := by
  have h1 : 65536 < (s.size : Int) := by omega
  go_enter Try.func8, Try.ntmps8
  go_wp2_with fail
  go_ret2
  exact ⟨rfl, Below.refl _ _⟩

set_option maxRecDepth 100000 in
theorem refWrap_any (s : ByteArray) (w : World) (hs : Hid (s.size ≤ 65536)) :
    Calls Try.prog 6 #[.string s] w fun e w' => e = .returned (.string (frameStr s)) ∧ Below w.heap.size w w' := by
  have hs2 : Hid (s.size ≤ 1099511627776) := by have := hs.out; show _ ≤ _; omega
  have h2 : (rowStr s).size ≤ 65546 := by have := rowStr_size s; have := hs.out; omega
  go_enter Try.func6, Try.ntmps6
  go_wp2_with fail
  refine (refRow_any _ _ hs2).mono ?_; rintro e w' ⟨rfl, hb⟩
  go_wp2_with fail
  go_ret
  exact ⟨rfl, hb⟩

/-! ### Next -/
def nextN (s : ByteArray) : Int × Nat × Int := rNum s 0 0 65536
def nextF1 (s : ByteArray) : Int := if (nextN s).1 = 0 then rFail (nextN s).2.2 3 else (nextN s).2.2
def nextRow (s : ByteArray) : ByteArray × Nat × Int := rTake s (nextN s).2.1 (nextF1 s) (nextN s).1
def nextEnd (s : ByteArray) : ByteArray × Nat × Int := rTake s (nextRow s).2.1 (nextRow s).2.2 1
def nextF2 (s : ByteArray) : Int := if (nextEnd s).1 = ⟨#[165]⟩ then (nextEnd s).2.2 else rFail (nextEnd s).2.2 3
def nextP (s : ByteArray) : ByteArray × Nat × Int := if s.size = 0 then (⟨#[]⟩, 0, 7) else if nextF2 s = 0 then ((nextRow s).1, (nextEnd s).2.1, 0) else (⟨#[]⟩, 0, nextF2 s)

theorem rNum_le (s : ByteArray) (p : Nat) (f : Int) (m : Nat) : 0 ≤ (rNum s p f m).1 ∧ (rNum s p f m).1 ≤ m := by
  unfold rNum numC
  repeat' split
  all_goals (try simp only [])
  all_goals (first | omega | skip)

theorem empty_size (s : ByteArray) : s.toList.isEmpty = decide (s.size = 0) := by
  rw [Bool.eq_iff_iff]
  rw [ByteArray.toList_eq]
  simp only [List.isEmpty_iff, decide_eq_true_eq]
  rw [← ByteArray.size_data, ← Array.length_toList]
  exact List.length_eq_zero_iff.symm
theorem one_beq (s : ByteArray) (b : UInt8) : (s.toList == [b]) = decide (s = ⟨#[b]⟩) := by
  rw [Bool.eq_iff_iff, ByteArray.toList_eq]
  simp only [beq_iff_eq, decide_eq_true_eq]
  constructor
  · intro h; apply ByteArray.ext; apply Array.toList_inj.1; exact h
  · intro h; rw [h]
set_option maxRecDepth 100000 in
set_option maxHeartbeats 800000 in
theorem Next_any (s : ByteArray) (w : World) (hs : Hid (s.size ≤ 1099511627776)) :
    Calls Try.prog 15 #[.string s] w fun e w' => e = .returned (.tuple #[.string (nextP s).1, .int .i64 (nextP s).2.1, .int .i64 (nextP s).2.2]) ∧ Below w.heap.size w w' := by
  by_cases h0 : s.size = 0
  · have hp : nextP s = (⟨#[]⟩, 0, 7) := if_pos h0
    have h0' : s.toList.isEmpty = true := by rw [empty_size]; simpa using h0
    rw [hp]
    clear hp h0
    go_enter Try.func15, Try.ntmps15
    go_wp2_with fail
    go_ret3
    exact ⟨rfl, Below.refl _ _⟩
  · have hp : nextP s = (if nextF2 s = 0 then ((nextRow s).1, (nextEnd s).2.1, 0) else (⟨#[]⟩, 0, nextF2 s)) := if_neg h0
    have h0' : s.toList.isEmpty = false := by rw [empty_size]; simpa using h0
    clear h0
    have hp0 : Hid (0 ≤ s.size) := Nat.zero_le _
    have q1 : ∀ g w, Hid (Rdr w g s 0 0) → Calls Try.prog 18 #[.pointer (some ⟨g, 0, none⟩), .int .u64 65536] w _ := fun g w hr => RNum_any g s 0 0 65536 w hr hs hp0 (by show U64 _; unfold U64; omega)
    have hle := rNum_le s 0 0 65536
    have hr1 := rNum_p s 0 0 65536 hp0.out
    rw [show (65536 : Int).toNat = 65536 from rfl, ← show nextN s = rNum s 0 0 65536 from rfl] at q1
    rw [← show nextN s = rNum s 0 0 65536 from rfl] at hle hr1
    have hr2 : (nextRow s).2.1 ≤ s.size := rTake_p _ _ _ _ hr1
    have hr3 : (nextEnd s).2.1 ≤ s.size := rTake_p _ _ _ _ hr2
    have Q1 := Lib.hid q1; clear q1
    have H1 := Lib.hid hr1; have H2 := Lib.hid hr2; have H3 := Lib.hid hr3; clear hr1 hr2
    have hF1 : nextF1 s = if (nextN s).1 = 0 then rFail (nextN s).2.2 3 else (nextN s).2.2 := rfl
    have hF2 : nextF2 s = if (nextEnd s).1 = ⟨#[165]⟩ then (nextEnd s).2.2 else rFail (nextEnd s).2.2 3 := rfl
    have q3 : ∀ g w, Hid (Rdr w g s (nextN s).2.1 (nextF1 s)) → Calls Try.prog 20 #[.pointer (some ⟨g, 0, none⟩), .int .i64 (nextN s).1] w _ := fun g w hr => RTake_nat g s (nextN s).2.1 (nextF1 s) (nextN s).1 w hr hs H1
    have q4 : ∀ g w, Hid (Rdr w g s (nextRow s).2.1 (nextRow s).2.2) → Calls Try.prog 20 #[.pointer (some ⟨g, 0, none⟩), .int .i64 1] w _ := fun g w hr => RTake_nat g s (nextRow s).2.1 (nextRow s).2.2 1 w hr hs H2
    rw [← show nextRow s = rTake s (nextN s).2.1 (nextF1 s) (nextN s).1 from rfl] at q3
    rw [← show nextEnd s = rTake s (nextRow s).2.1 (nextRow s).2.2 1 from rfl] at q4
    generalize nextP s = np at *
    generalize nextF1 s = f1 at *
    generalize nextF2 s = f2 at *
    generalize nextN s = r1 at *
    generalize nextRow s = r3 at *
    generalize nextEnd s = r4 at *
    obtain ⟨n, p1, fa⟩ := r1
    obtain ⟨row, p3, f3⟩ := r3
    obtain ⟨en, p4, f4⟩ := r4
    simp only [] at hle hF1 hF2 hp Q1 q3 q4 H1 H2 H3 hr3
    have Q3 := Lib.hid q3; have Q4 := Lib.hid q4; clear q3 q4
    have hz : wrap64 ((s.size : Int) - ((s.size : Int) - p4)) = p4 := by have := hs.out; simp only [wrap64]; omega
    have hn1 : 0 ≤ n ∧ n ≤ 65536 := by simpa using hle
    have hconv : wrap64 n = n := by simp only [wrap64]; omega
    clear hle
    by_cases c1 : n = 0
    · by_cases c2 : en = ⟨#[165]⟩
      · by_cases c3 : f2 = 0
        · skip
          rw [if_pos c1] at hF1
          subst c1
          clear hconv hn1
          rw [if_pos c2] at hF2
          subst c2
          have c3' : (f2 == 0) = true := by simpa using c3
          rw [if_pos c3] at hp
          subst hp
          have HF1 := Lib.hid hF1; have HF2 := Lib.hid hF2; clear hF1 hF2 c3
          go_enter Try.func15, Try.ntmps15
          go_wp2_with fail
          refine (Read_any _ _).mono ?_
          rintro e w1 ⟨rfl, hR, hb, hsz⟩
          have HR := Lib.hid hR; have HB := Lib.hid hb; clear hR hb hsz
          go_wp2_with fail
          refine (Q1.out _ _ HR).mono ?_
          rintro e w2 ⟨rfl, hR, hG⟩
          have HR2 := Lib.hid hR; have HB2 := Lib.hid (HB.out.grown hG HB.out.size (fun k hk => by injection hk with hk; omega)); clear hR hG
          go_wp2_with fail
          refine (RFail_any _ _ _ _ _ _ HR2).mono ?_
          rintro e w3 ⟨rfl, hR, hG⟩
          rw [← HF1.out] at hR
          have HR3 := Lib.hid hR; have HB3 := Lib.hid (HB2.out.grown hG HB2.out.size (fun k hk => by injection hk with hk; omega)); clear hR hG
          go_wp2_with fail
          refine (Q3.out _ _ HR3).mono ?_
          rintro e w4 ⟨rfl, hR, hG⟩
          have HR4 := Lib.hid hR; have HB4 := Lib.hid (HB3.out.grown hG HB3.out.size (fun k hk => by injection hk with hk; omega)); clear hR hG
          go_wp2_with fail
          refine (Q4.out _ _ HR4).mono ?_
          rintro e w5 ⟨rfl, hR, hG⟩
          have HR5 := Lib.hid hR; have HB5 := Lib.hid (HB4.out.grown hG HB4.out.size (fun k hk => by injection hk with hk; omega)); clear hR hG
          go_wp2_with fail
          have hR := HR5.out
          rw [← HF2.out] at hR
          have HR6 := Lib.hid hR; have HB6 := HB5; clear hR
          refine (RFault_any _ _ _ _ _ HR6).mono ?_
          rintro e w' ⟨rfl, rfl⟩
          go_wp2_with fail
          refine (RLeft_any _ _ _ _ _ HR6 hs H3).mono ?_
          rintro e w7 ⟨rfl, nd, rfl⟩
          go_wp2_with fail
          go_ret3
          refine ⟨?_, below_drewN HB6.out nd⟩
          show Ending.returned (.tuple #[.string row, .int .i64 (wrap64 ((s.size : Int) - ((s.size : Int) - p4))), .int .i64 0]) = _
          rw [hz]
        · skip
          rw [if_pos c1] at hF1
          subst c1
          clear hconv hn1
          rw [if_pos c2] at hF2
          subst c2
          have c3' : (f2 == 0) = false := by simpa using c3
          rw [if_neg c3] at hp
          subst hp
          have HF1 := Lib.hid hF1; have HF2 := Lib.hid hF2; clear hF1 hF2 c3
          go_enter Try.func15, Try.ntmps15
          go_wp2_with fail
          refine (Read_any _ _).mono ?_
          rintro e w1 ⟨rfl, hR, hb, hsz⟩
          have HR := Lib.hid hR; have HB := Lib.hid hb; clear hR hb hsz
          go_wp2_with fail
          refine (Q1.out _ _ HR).mono ?_
          rintro e w2 ⟨rfl, hR, hG⟩
          have HR2 := Lib.hid hR; have HB2 := Lib.hid (HB.out.grown hG HB.out.size (fun k hk => by injection hk with hk; omega)); clear hR hG
          go_wp2_with fail
          refine (RFail_any _ _ _ _ _ _ HR2).mono ?_
          rintro e w3 ⟨rfl, hR, hG⟩
          rw [← HF1.out] at hR
          have HR3 := Lib.hid hR; have HB3 := Lib.hid (HB2.out.grown hG HB2.out.size (fun k hk => by injection hk with hk; omega)); clear hR hG
          go_wp2_with fail
          refine (Q3.out _ _ HR3).mono ?_
          rintro e w4 ⟨rfl, hR, hG⟩
          have HR4 := Lib.hid hR; have HB4 := Lib.hid (HB3.out.grown hG HB3.out.size (fun k hk => by injection hk with hk; omega)); clear hR hG
          go_wp2_with fail
          refine (Q4.out _ _ HR4).mono ?_
          rintro e w5 ⟨rfl, hR, hG⟩
          have HR5 := Lib.hid hR; have HB5 := Lib.hid (HB4.out.grown hG HB4.out.size (fun k hk => by injection hk with hk; omega)); clear hR hG
          go_wp2_with fail
          have hR := HR5.out
          rw [← HF2.out] at hR
          have HR6 := Lib.hid hR; have HB6 := HB5; clear hR
          refine (RFault_any _ _ _ _ _ HR6).mono ?_
          rintro e w' ⟨rfl, rfl⟩
          go_wp2_with fail
          go_ret3
          exact ⟨rfl, HB6.out⟩
      · by_cases c3 : f2 = 0
        · skip
          rw [if_pos c1] at hF1
          subst c1
          clear hconv hn1
          rw [if_neg c2] at hF2
          have c2' : (en.toList == [165]) = false := by rw [one_beq]; simpa using c2
          have c3' : (f2 == 0) = true := by simpa using c3
          rw [if_pos c3] at hp
          subst hp
          have HF1 := Lib.hid hF1; have HF2 := Lib.hid hF2; clear hF1 hF2 c3
          go_enter Try.func15, Try.ntmps15
          go_wp2_with fail
          refine (Read_any _ _).mono ?_
          rintro e w1 ⟨rfl, hR, hb, hsz⟩
          have HR := Lib.hid hR; have HB := Lib.hid hb; clear hR hb hsz
          go_wp2_with fail
          refine (Q1.out _ _ HR).mono ?_
          rintro e w2 ⟨rfl, hR, hG⟩
          have HR2 := Lib.hid hR; have HB2 := Lib.hid (HB.out.grown hG HB.out.size (fun k hk => by injection hk with hk; omega)); clear hR hG
          go_wp2_with fail
          refine (RFail_any _ _ _ _ _ _ HR2).mono ?_
          rintro e w3 ⟨rfl, hR, hG⟩
          rw [← HF1.out] at hR
          have HR3 := Lib.hid hR; have HB3 := Lib.hid (HB2.out.grown hG HB2.out.size (fun k hk => by injection hk with hk; omega)); clear hR hG
          go_wp2_with fail
          refine (Q3.out _ _ HR3).mono ?_
          rintro e w4 ⟨rfl, hR, hG⟩
          have HR4 := Lib.hid hR; have HB4 := Lib.hid (HB3.out.grown hG HB3.out.size (fun k hk => by injection hk with hk; omega)); clear hR hG
          go_wp2_with fail
          refine (Q4.out _ _ HR4).mono ?_
          rintro e w5 ⟨rfl, hR, hG⟩
          have HR5 := Lib.hid hR; have HB5 := Lib.hid (HB4.out.grown hG HB4.out.size (fun k hk => by injection hk with hk; omega)); clear hR hG
          go_wp2_with fail
          refine (RFail_any _ _ _ _ _ _ HR5).mono ?_
          rintro e w6 ⟨rfl, hR, hG⟩
          rw [← HF2.out] at hR
          have HR6 := Lib.hid hR; have HB6 := Lib.hid (HB5.out.grown hG HB5.out.size (fun k hk => by injection hk with hk; omega)); clear hR hG
          go_wp2_with fail
          refine (RFault_any _ _ _ _ _ HR6).mono ?_
          rintro e w' ⟨rfl, rfl⟩
          go_wp2_with fail
          refine (RLeft_any _ _ _ _ _ HR6 hs H3).mono ?_
          rintro e w7 ⟨rfl, nd, rfl⟩
          go_wp2_with fail
          go_ret3
          refine ⟨?_, below_drewN HB6.out nd⟩
          show Ending.returned (.tuple #[.string row, .int .i64 (wrap64 ((s.size : Int) - ((s.size : Int) - p4))), .int .i64 0]) = _
          rw [hz]
        · skip
          rw [if_pos c1] at hF1
          subst c1
          clear hconv hn1
          rw [if_neg c2] at hF2
          have c2' : (en.toList == [165]) = false := by rw [one_beq]; simpa using c2
          have c3' : (f2 == 0) = false := by simpa using c3
          rw [if_neg c3] at hp
          subst hp
          have HF1 := Lib.hid hF1; have HF2 := Lib.hid hF2; clear hF1 hF2 c3
          go_enter Try.func15, Try.ntmps15
          go_wp2_with fail
          refine (Read_any _ _).mono ?_
          rintro e w1 ⟨rfl, hR, hb, hsz⟩
          have HR := Lib.hid hR; have HB := Lib.hid hb; clear hR hb hsz
          go_wp2_with fail
          refine (Q1.out _ _ HR).mono ?_
          rintro e w2 ⟨rfl, hR, hG⟩
          have HR2 := Lib.hid hR; have HB2 := Lib.hid (HB.out.grown hG HB.out.size (fun k hk => by injection hk with hk; omega)); clear hR hG
          go_wp2_with fail
          refine (RFail_any _ _ _ _ _ _ HR2).mono ?_
          rintro e w3 ⟨rfl, hR, hG⟩
          rw [← HF1.out] at hR
          have HR3 := Lib.hid hR; have HB3 := Lib.hid (HB2.out.grown hG HB2.out.size (fun k hk => by injection hk with hk; omega)); clear hR hG
          go_wp2_with fail
          refine (Q3.out _ _ HR3).mono ?_
          rintro e w4 ⟨rfl, hR, hG⟩
          have HR4 := Lib.hid hR; have HB4 := Lib.hid (HB3.out.grown hG HB3.out.size (fun k hk => by injection hk with hk; omega)); clear hR hG
          go_wp2_with fail
          refine (Q4.out _ _ HR4).mono ?_
          rintro e w5 ⟨rfl, hR, hG⟩
          have HR5 := Lib.hid hR; have HB5 := Lib.hid (HB4.out.grown hG HB4.out.size (fun k hk => by injection hk with hk; omega)); clear hR hG
          go_wp2_with fail
          refine (RFail_any _ _ _ _ _ _ HR5).mono ?_
          rintro e w6 ⟨rfl, hR, hG⟩
          rw [← HF2.out] at hR
          have HR6 := Lib.hid hR; have HB6 := Lib.hid (HB5.out.grown hG HB5.out.size (fun k hk => by injection hk with hk; omega)); clear hR hG
          go_wp2_with fail
          refine (RFault_any _ _ _ _ _ HR6).mono ?_
          rintro e w' ⟨rfl, rfl⟩
          go_wp2_with fail
          go_ret3
          exact ⟨rfl, HB6.out⟩
    · by_cases c2 : en = ⟨#[165]⟩
      · by_cases c3 : f2 = 0
        · skip
          have c1' : (n == 0) = false := by simpa using c1
          rw [if_neg c1] at hF1
          rw [if_pos c2] at hF2
          subst c2
          have c3' : (f2 == 0) = true := by simpa using c3
          rw [if_pos c3] at hp
          subst hp
          have HF1 := Lib.hid hF1; have HF2 := Lib.hid hF2; clear hF1 hF2 c3
          go_enter Try.func15, Try.ntmps15
          go_wp2_with fail
          refine (Read_any _ _).mono ?_
          rintro e w1 ⟨rfl, hR, hb, hsz⟩
          have HR := Lib.hid hR; have HB := Lib.hid hb; clear hR hb hsz
          go_wp2_with fail
          refine (Q1.out _ _ HR).mono ?_
          rintro e w2 ⟨rfl, hR, hG⟩
          have HR2 := Lib.hid hR; have HB2 := Lib.hid (HB.out.grown hG HB.out.size (fun k hk => by injection hk with hk; omega)); clear hR hG
          go_wp2_with fail
          have hR := HR2.out
          rw [← HF1.out] at hR
          have HR3 := Lib.hid hR; have HB3 := HB2; clear hR
          refine (Q3.out _ _ HR3).mono ?_
          rintro e w4 ⟨rfl, hR, hG⟩
          have HR4 := Lib.hid hR; have HB4 := Lib.hid (HB3.out.grown hG HB3.out.size (fun k hk => by injection hk with hk; omega)); clear hR hG
          go_wp2_with fail
          refine (Q4.out _ _ HR4).mono ?_
          rintro e w5 ⟨rfl, hR, hG⟩
          have HR5 := Lib.hid hR; have HB5 := Lib.hid (HB4.out.grown hG HB4.out.size (fun k hk => by injection hk with hk; omega)); clear hR hG
          go_wp2_with fail
          have hR := HR5.out
          rw [← HF2.out] at hR
          have HR6 := Lib.hid hR; have HB6 := HB5; clear hR
          refine (RFault_any _ _ _ _ _ HR6).mono ?_
          rintro e w' ⟨rfl, rfl⟩
          go_wp2_with fail
          refine (RLeft_any _ _ _ _ _ HR6 hs H3).mono ?_
          rintro e w7 ⟨rfl, nd, rfl⟩
          go_wp2_with fail
          go_ret3
          refine ⟨?_, below_drewN HB6.out nd⟩
          show Ending.returned (.tuple #[.string row, .int .i64 (wrap64 ((s.size : Int) - ((s.size : Int) - p4))), .int .i64 0]) = _
          rw [hz]
        · skip
          have c1' : (n == 0) = false := by simpa using c1
          rw [if_neg c1] at hF1
          rw [if_pos c2] at hF2
          subst c2
          have c3' : (f2 == 0) = false := by simpa using c3
          rw [if_neg c3] at hp
          subst hp
          have HF1 := Lib.hid hF1; have HF2 := Lib.hid hF2; clear hF1 hF2 c3
          go_enter Try.func15, Try.ntmps15
          go_wp2_with fail
          refine (Read_any _ _).mono ?_
          rintro e w1 ⟨rfl, hR, hb, hsz⟩
          have HR := Lib.hid hR; have HB := Lib.hid hb; clear hR hb hsz
          go_wp2_with fail
          refine (Q1.out _ _ HR).mono ?_
          rintro e w2 ⟨rfl, hR, hG⟩
          have HR2 := Lib.hid hR; have HB2 := Lib.hid (HB.out.grown hG HB.out.size (fun k hk => by injection hk with hk; omega)); clear hR hG
          go_wp2_with fail
          have hR := HR2.out
          rw [← HF1.out] at hR
          have HR3 := Lib.hid hR; have HB3 := HB2; clear hR
          refine (Q3.out _ _ HR3).mono ?_
          rintro e w4 ⟨rfl, hR, hG⟩
          have HR4 := Lib.hid hR; have HB4 := Lib.hid (HB3.out.grown hG HB3.out.size (fun k hk => by injection hk with hk; omega)); clear hR hG
          go_wp2_with fail
          refine (Q4.out _ _ HR4).mono ?_
          rintro e w5 ⟨rfl, hR, hG⟩
          have HR5 := Lib.hid hR; have HB5 := Lib.hid (HB4.out.grown hG HB4.out.size (fun k hk => by injection hk with hk; omega)); clear hR hG
          go_wp2_with fail
          have hR := HR5.out
          rw [← HF2.out] at hR
          have HR6 := Lib.hid hR; have HB6 := HB5; clear hR
          refine (RFault_any _ _ _ _ _ HR6).mono ?_
          rintro e w' ⟨rfl, rfl⟩
          go_wp2_with fail
          go_ret3
          exact ⟨rfl, HB6.out⟩
      · by_cases c3 : f2 = 0
        · skip
          have c1' : (n == 0) = false := by simpa using c1
          rw [if_neg c1] at hF1
          rw [if_neg c2] at hF2
          have c2' : (en.toList == [165]) = false := by rw [one_beq]; simpa using c2
          have c3' : (f2 == 0) = true := by simpa using c3
          rw [if_pos c3] at hp
          subst hp
          have HF1 := Lib.hid hF1; have HF2 := Lib.hid hF2; clear hF1 hF2 c3
          go_enter Try.func15, Try.ntmps15
          go_wp2_with fail
          refine (Read_any _ _).mono ?_
          rintro e w1 ⟨rfl, hR, hb, hsz⟩
          have HR := Lib.hid hR; have HB := Lib.hid hb; clear hR hb hsz
          go_wp2_with fail
          refine (Q1.out _ _ HR).mono ?_
          rintro e w2 ⟨rfl, hR, hG⟩
          have HR2 := Lib.hid hR; have HB2 := Lib.hid (HB.out.grown hG HB.out.size (fun k hk => by injection hk with hk; omega)); clear hR hG
          go_wp2_with fail
          have hR := HR2.out
          rw [← HF1.out] at hR
          have HR3 := Lib.hid hR; have HB3 := HB2; clear hR
          refine (Q3.out _ _ HR3).mono ?_
          rintro e w4 ⟨rfl, hR, hG⟩
          have HR4 := Lib.hid hR; have HB4 := Lib.hid (HB3.out.grown hG HB3.out.size (fun k hk => by injection hk with hk; omega)); clear hR hG
          go_wp2_with fail
          refine (Q4.out _ _ HR4).mono ?_
          rintro e w5 ⟨rfl, hR, hG⟩
          have HR5 := Lib.hid hR; have HB5 := Lib.hid (HB4.out.grown hG HB4.out.size (fun k hk => by injection hk with hk; omega)); clear hR hG
          go_wp2_with fail
          refine (RFail_any _ _ _ _ _ _ HR5).mono ?_
          rintro e w6 ⟨rfl, hR, hG⟩
          rw [← HF2.out] at hR
          have HR6 := Lib.hid hR; have HB6 := Lib.hid (HB5.out.grown hG HB5.out.size (fun k hk => by injection hk with hk; omega)); clear hR hG
          go_wp2_with fail
          refine (RFault_any _ _ _ _ _ HR6).mono ?_
          rintro e w' ⟨rfl, rfl⟩
          go_wp2_with fail
          refine (RLeft_any _ _ _ _ _ HR6 hs H3).mono ?_
          rintro e w7 ⟨rfl, nd, rfl⟩
          go_wp2_with fail
          go_ret3
          refine ⟨?_, below_drewN HB6.out nd⟩
          show Ending.returned (.tuple #[.string row, .int .i64 (wrap64 ((s.size : Int) - ((s.size : Int) - p4))), .int .i64 0]) = _
          rw [hz]
        · skip
          have c1' : (n == 0) = false := by simpa using c1
          rw [if_neg c1] at hF1
          rw [if_neg c2] at hF2
          have c2' : (en.toList == [165]) = false := by rw [one_beq]; simpa using c2
          have c3' : (f2 == 0) = false := by simpa using c3
          rw [if_neg c3] at hp
          subst hp
          have HF1 := Lib.hid hF1; have HF2 := Lib.hid hF2; clear hF1 hF2 c3
          go_enter Try.func15, Try.ntmps15
          go_wp2_with fail
          refine (Read_any _ _).mono ?_
          rintro e w1 ⟨rfl, hR, hb, hsz⟩
          have HR := Lib.hid hR; have HB := Lib.hid hb; clear hR hb hsz
          go_wp2_with fail
          refine (Q1.out _ _ HR).mono ?_
          rintro e w2 ⟨rfl, hR, hG⟩
          have HR2 := Lib.hid hR; have HB2 := Lib.hid (HB.out.grown hG HB.out.size (fun k hk => by injection hk with hk; omega)); clear hR hG
          go_wp2_with fail
          have hR := HR2.out
          rw [← HF1.out] at hR
          have HR3 := Lib.hid hR; have HB3 := HB2; clear hR
          refine (Q3.out _ _ HR3).mono ?_
          rintro e w4 ⟨rfl, hR, hG⟩
          have HR4 := Lib.hid hR; have HB4 := Lib.hid (HB3.out.grown hG HB3.out.size (fun k hk => by injection hk with hk; omega)); clear hR hG
          go_wp2_with fail
          refine (Q4.out _ _ HR4).mono ?_
          rintro e w5 ⟨rfl, hR, hG⟩
          have HR5 := Lib.hid hR; have HB5 := Lib.hid (HB4.out.grown hG HB4.out.size (fun k hk => by injection hk with hk; omega)); clear hR hG
          go_wp2_with fail
          refine (RFail_any _ _ _ _ _ _ HR5).mono ?_
          rintro e w6 ⟨rfl, hR, hG⟩
          rw [← HF2.out] at hR
          have HR6 := Lib.hid hR; have HB6 := Lib.hid (HB5.out.grown hG HB5.out.size (fun k hk => by injection hk with hk; omega)); clear hR hG
          go_wp2_with fail
          refine (RFault_any _ _ _ _ _ HR6).mono ?_
          rintro e w' ⟨rfl, rfl⟩
          go_wp2_with fail
          go_ret3
          exact ⟨rfl, HB6.out⟩
end Go.Proofs.Ytjcdpmianmgiaaa
