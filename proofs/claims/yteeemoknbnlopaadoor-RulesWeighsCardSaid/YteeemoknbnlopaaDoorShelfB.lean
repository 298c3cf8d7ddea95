/- shelf.named Segment Column Heads; the reference's dec Segment Column. -/
import Derived.Test.YteeemoknbnlopaaDoorShelfA
import Derived.Test.YteeemoknbnlopaaDoorItoa
import Derived.Lib.AppendIntMem
namespace Go.Proofs.YteeemoknbnlopaaDoor
open Go Go.RowKit Shelf
set_option linter.unusedVariables false

abbrev TabW (w : World) : Prop := Lib.TabIs Tryd.prog w "internal/strconv.uint64pow10" .u64 Lib.pow10Tab
theorem TabW.call {w w' : World} (h : TabW w) (hb : Below w.heap.size w w') : TabW w' := Lib.tabBelow_of_tabIs h _ hb

def nameP (c : UInt8) (n : Int) : List UInt8 := if n < 0 ∨ 1099511627776 < n then [] else c :: Lib.decDigits n.toNat
theorem nameP_of (c : UInt8) (n : Nat) (h : n ≤ 1099511627776) : nameP c n = c :: Lib.decDigits n := by
  unfold nameP; rw [if_neg (by omega)]; rfl
theorem itoa_nat (n : Nat) : Lib.itoa (n : Int) = Lib.decDigits n := by unfold Lib.itoa; rw [if_neg (by omega)]; rfl
theorem bytes_cons (c : UInt8) (l : List UInt8) : (⟨#[c]⟩ ++ ⟨l.toArray⟩ : ByteArray) = ⟨(c :: l).toArray⟩ := by
  apply ByteArray.ext
  simp
theorem bytes_append (l r : List UInt8) : (⟨l.toArray⟩ ++ ⟨r.toArray⟩ : ByteArray) = ⟨(l ++ r).toArray⟩ := by
  apply ByteArray.ext
  simp

set_option maxRecDepth 100000 in
set_option maxHeartbeats 1000000 in
theorem named_any (c : UInt8) (n : Int) (hn : I64 n) (w : World) (hT : Hid (TabW w)) :
    Calls Tryd.prog 33 #[.string ⟨#[c]⟩, .int .i64 n] w fun e w' => e = .returned (.string ⟨(nameP c n).toArray⟩) ∧ Below w.heap.size w w' := by
  unfold I64 at hn
  by_cases h0 : n < 0
  · have t1 : decide (n < 0) = true := decide_eq_true h0
    have hp : Hid (nameP c n = []) := if_pos (.inl h0)
    go_enter Tryd.func33, Tryd.ntmps33
    clear h0
    go_wp2_with fail
    go_ret
    exact ⟨by rw [hp.out]; rfl, Below.refl _ _⟩
  · have t1 : decide (n < 0) = false := decide_eq_false h0
    by_cases h1 : 1099511627776 < n
    · have t2 : decide (1099511627776 < n) = true := decide_eq_true h1
      have hp : Hid (nameP c n = []) := if_pos (.inr h1)
      go_enter Tryd.func33, Tryd.ntmps33
      clear h0 h1
      go_wp2_with fail
      go_ret
      exact ⟨by rw [hp.out]; rfl, Below.refl _ _⟩
    · have t2 : decide (1099511627776 < n) = false := decide_eq_false h1
      obtain ⟨m, rfl⟩ : ∃ m : Nat, n = m := ⟨n.toNat, by omega⟩
      have hp : Hid (nameP c m = c :: Lib.decDigits m) := nameP_of c m (by omega)
      have hl := dec_short (show m ≤ 1099511627776 by omega)
      have q : Hid (Calls Tryd.prog 41 #[.int .i64 m] w fun e w' => e = .returned (.string ⟨(Lib.decDigits m).toArray⟩) ∧ Below w.heap.size w w') :=
        (Tryd.strconv_Itoa m (by omega) (by omega) w hT.out).mono fun e w' ⟨he, k, os, hw⟩ => ⟨by rw [he, itoa_nat], by rw [hw]; exact Lib.below_grow _ w (Nat.le_refl _) k os⟩
      go_enter Tryd.func33, Tryd.ntmps33
      clear h0 h1
      go_wp2_with fail
      refine q.out.mono ?_
      rintro e w' ⟨rfl, hb⟩
      have HB := Lib.hid hb
      clear hb
      go_wp2_with fail
      go_ret
      exact ⟨by rw [hp.out, ← bytes_cons]; rfl, HB.out⟩

set_option maxRecDepth 100000 in
set_option maxHeartbeats 1000000 in
theorem Segment_any (n : Int) (hn : I64 n) (w : World) (hT : Hid (TabW w)) :
    Calls Tryd.prog 12 #[.int .i64 n] w fun e w' => e = .returned (.string ⟨(nameP 115 n).toArray⟩) ∧ Below w.heap.size w w' := by
  have q := Lib.hid (named_any 115 n hn w hT)
  go_enter Tryd.func12, Tryd.ntmps12
  go_wp2_with fail
  refine q.out.mono ?_
  rintro e w' ⟨rfl, hb⟩
  go_wp2_with fail
  go_ret
  exact ⟨rfl, hb⟩
set_option maxRecDepth 100000 in
set_option maxHeartbeats 1000000 in
theorem Column_any (n : Int) (hn : I64 n) (w : World) (hT : Hid (TabW w)) :
    Calls Tryd.prog 13 #[.int .i64 n] w fun e w' => e = .returned (.string ⟨(nameP 99 n).toArray⟩) ∧ Below w.heap.size w w' := by
  have q := Lib.hid (named_any 99 n hn w hT)
  go_enter Tryd.func13, Tryd.ntmps13
  go_wp2_with fail
  refine q.out.mono ?_
  rintro e w' ⟨rfl, hb⟩
  go_wp2_with fail
  go_ret
  exact ⟨rfl, hb⟩
set_option maxRecDepth 100000 in
set_option maxHeartbeats 1000000 in
theorem Heads_any (w : World) : Calls Tryd.prog 31 #[] w fun e w' => e = .returned (.string ⟨headsL.toArray⟩) ∧ w' = w := by
  go_enter Tryd.func31, Tryd.ntmps31
  go_wp2_with fail
  go_ret
  exact ⟨rfl, rfl⟩

set_option maxRecDepth 100000 in
set_option maxHeartbeats 1000000 in
theorem dec_any (n : Nat) (hn : n ≤ 1099511627776) (w : World) :
    Calls Tryd.prog 34 #[.int .i64 n] w fun e w' => e = .returned (.string ⟨(Lib.decDigits n).toArray⟩) ∧ w' = w := by
  induction n using Nat.strongRecOn with
  | _ n ih =>
    by_cases h : n < 10
    · have hd : Hid (Lib.decDigits n = [UInt8.ofNat (48 + n)]) := by show _ = _; rw [Lib.decDigits, dif_pos h]
      have t1 : decide ((n : Int) < 10) = true := decide_eq_true (by omega)
      clear ih
      go_enter Tryd.func34, Tryd.ntmps34
      go_wp2_with fail
      go_ret
      refine ⟨?_, rfl⟩
      rw [hd.out]
      clear hd t1 hn
      obtain rfl | rfl | rfl | rfl | rfl | rfl | rfl | rfl | rfl | rfl : n = 0 ∨ n = 1 ∨ n = 2 ∨ n = 3 ∨ n = 4 ∨ n = 5 ∨ n = 6 ∨ n = 7 ∨ n = 8 ∨ n = 9 := by omega
      all_goals rfl
    · have t1 : decide ((n : Int) < 10) = false := decide_eq_false (by omega)
      have e1 : (n : Int).tdiv 10 = ((n / 10 : Nat) : Int) := by rw [Int.tdiv_eq_ediv_of_nonneg (by omega)]; omega
      have e2 : (n : Int).tmod 10 = ((n % 10 : Nat) : Int) := by rw [Int.tmod_eq_emod_of_nonneg (by omega)]; omega
      have q1 := Lib.hid (ih (n / 10) (by omega) (by omega))
      have hl1 := dec_short (show n / 10 ≤ 1099511627776 by omega)
      have hl2 := dec_short (show n % 10 ≤ 1099511627776 by omega)
      have q2 := Lib.hid (ih (n % 10) (by omega) (by omega))
      have hd : Hid (Lib.decDigits n = Lib.decDigits (n / 10) ++ Lib.decDigits (n % 10)) := by
        show _ = _
        rw [Lib.decDigits, dif_neg h, show Lib.decDigits (n % 10) = [UInt8.ofNat (48 + n % 10)] by rw [Lib.decDigits, dif_pos (by omega)]]
      obtain ⟨a, ha⟩ : ∃ a, n / 10 = a := ⟨_, rfl⟩
      obtain ⟨b, hb⟩ : ∃ b, n % 10 = b := ⟨_, rfl⟩
      rw [ha] at e1 q1 hd hl1
      rw [hb] at e2 q2 hd hl2
      have hab : a ≤ 1099511627776 := by omega
      have hbb : b < 10 := by omega
      clear ih h ha hb
      go_enter Tryd.func34, Tryd.ntmps34
      go_wp2_with fail
      refine q1.out.mono ?_
      rintro e w' ⟨rfl, rfl⟩
      go_wp2_with fail
      refine q2.out.mono ?_
      rintro e w' ⟨rfl, rfl⟩
      go_wp2_with fail
      go_ret
      exact ⟨by rw [hd.out, ← bytes_append]; rfl, rfl⟩

set_option maxRecDepth 100000 in
set_option maxHeartbeats 1000000 in
theorem rSegment_any (n : Int) (hn : I64 n) (w : World) :
    Calls Tryd.prog 14 #[.int .i64 n] w fun e w' => e = .returned (.string ⟨(nameP 115 n).toArray⟩) ∧ w' = w := by
  unfold I64 at hn
  by_cases h0 : n < 0
  · have t1 : decide (n < 0) = true := decide_eq_true h0
    have hp : Hid (nameP 115 n = []) := if_pos (.inl h0)
    go_enter Tryd.func14, Tryd.ntmps14
    clear h0
    go_wp2_with fail
    go_ret
    exact ⟨by rw [hp.out]; rfl, rfl⟩
  · have t1 : decide (n < 0) = false := decide_eq_false h0
    by_cases h1 : 1099511627776 < n
    · have t2 : decide (1099511627776 < n) = true := decide_eq_true h1
      have hp : Hid (nameP 115 n = []) := if_pos (.inr h1)
      go_enter Tryd.func14, Tryd.ntmps14
      clear h0 h1
      go_wp2_with fail
      go_ret
      exact ⟨by rw [hp.out]; rfl, rfl⟩
    · have t2 : decide (1099511627776 < n) = false := decide_eq_false h1
      obtain ⟨m, rfl⟩ : ∃ m : Nat, n = m := ⟨n.toNat, by omega⟩
      have hp : Hid (nameP 115 m = 115 :: Lib.decDigits m) := nameP_of 115 m (by omega)
      have hl := dec_short (show m ≤ 1099511627776 by omega)
      have q := Lib.hid (dec_any m (by omega) w)
      go_enter Tryd.func14, Tryd.ntmps14
      clear h0 h1
      go_wp2_with fail
      refine q.out.mono ?_
      rintro e w' ⟨rfl, rfl⟩
      go_wp2_with fail
      go_ret
      exact ⟨by rw [hp.out, ← bytes_cons]; rfl, rfl⟩
set_option maxRecDepth 100000 in
set_option maxHeartbeats 1000000 in
theorem rColumn_any (n : Int) (hn : I64 n) (w : World) :
    Calls Tryd.prog 15 #[.int .i64 n] w fun e w' => e = .returned (.string ⟨(nameP 99 n).toArray⟩) ∧ w' = w := by
  unfold I64 at hn
  by_cases h0 : n < 0
  · have t1 : decide (n < 0) = true := decide_eq_true h0
    have hp : Hid (nameP 99 n = []) := if_pos (.inl h0)
    go_enter Tryd.func15, Tryd.ntmps15
    clear h0
    go_wp2_with fail
    go_ret
    exact ⟨by rw [hp.out]; rfl, rfl⟩
  · have t1 : decide (n < 0) = false := decide_eq_false h0
    by_cases h1 : 1099511627776 < n
    · have t2 : decide (1099511627776 < n) = true := decide_eq_true h1
      have hp : Hid (nameP 99 n = []) := if_pos (.inr h1)
      go_enter Tryd.func15, Tryd.ntmps15
      clear h0 h1
      go_wp2_with fail
      go_ret
      exact ⟨by rw [hp.out]; rfl, rfl⟩
    · have t2 : decide (1099511627776 < n) = false := decide_eq_false h1
      obtain ⟨m, rfl⟩ : ∃ m : Nat, n = m := ⟨n.toNat, by omega⟩
      have hp : Hid (nameP 99 m = 99 :: Lib.decDigits m) := nameP_of 99 m (by omega)
      have hl := dec_short (show m ≤ 1099511627776 by omega)
      have q := Lib.hid (dec_any m (by omega) w)
      go_enter Tryd.func15, Tryd.ntmps15
      clear h0 h1
      go_wp2_with fail
      refine q.out.mono ?_
      rintro e w' ⟨rfl, rfl⟩
      go_wp2_with fail
      go_ret
      exact ⟨by rw [hp.out, ← bytes_cons]; rfl, rfl⟩
end Go.Proofs.YteeemoknbnlopaaDoor
