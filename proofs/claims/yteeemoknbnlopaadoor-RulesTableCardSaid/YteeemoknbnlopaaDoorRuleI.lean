/- The reference's dec. -/
import Derived.Test.YteeemoknbnlopaaDoorRuleG
namespace Go.Proofs.YteeemoknbnlopaaDoor
open Go Go.RowKit Shelf
set_option linter.unusedVariables false

set_option maxRecDepth 100000 in
set_option maxHeartbeats 1000000 in
theorem rdec_nat (n : Nat) (hn : n ≤ 9223372036854775807) (w : World) :
    Calls Tryd.prog 40 #[.int .i64 n] w fun e w' => e = .returned (.string ⟨(Lib.decDigits n).toArray⟩) ∧ w' = w := by
  induction n using Nat.strongRecOn with
  | _ n ih =>
    have t0 : decide ((n : Int) < 0) = false := decide_eq_false (by omega)
    by_cases h : n < 10
    · have hd : Hid (Lib.decDigits n = [UInt8.ofNat (48 + n)]) := by show _ = _; rw [Lib.decDigits, dif_pos h]
      have t1 : decide ((n : Int) < 10) = true := decide_eq_true (by omega)
      clear ih
      go_enter Tryd.func40, Tryd.ntmps40
      go_wp2_with fail
      go_ret
      refine ⟨?_, rfl⟩
      rw [hd.out]
      clear hd t1 hn t0
      obtain rfl | rfl | rfl | rfl | rfl | rfl | rfl | rfl | rfl | rfl : n = 0 ∨ n = 1 ∨ n = 2 ∨ n = 3 ∨ n = 4 ∨ n = 5 ∨ n = 6 ∨ n = 7 ∨ n = 8 ∨ n = 9 := by omega
      all_goals rfl
    · have t1 : decide ((n : Int) < 10) = false := decide_eq_false (by omega)
      have e1 : (n : Int).tdiv 10 = ((n / 10 : Nat) : Int) := by rw [Int.tdiv_eq_ediv_of_nonneg (by omega)]; omega
      have e2 : (n : Int).tmod 10 = ((n % 10 : Nat) : Int) := by rw [Int.tmod_eq_emod_of_nonneg (by omega)]; omega
      have q1 := Lib.hid (ih (n / 10) (by omega) (by omega))
      have hl1 := dec_len (show n / 10 ≤ 9223372036854775808 by omega)
      have hl2 := dec_len (show n % 10 ≤ 9223372036854775808 by omega)
      have q2 := Lib.hid (ih (n % 10) (by omega) (by omega))
      have hd : Hid (Lib.decDigits n = Lib.decDigits (n / 10) ++ Lib.decDigits (n % 10)) := by
        show _ = _
        rw [Lib.decDigits, dif_neg h, show Lib.decDigits (n % 10) = [UInt8.ofNat (48 + n % 10)] by rw [Lib.decDigits, dif_pos (by omega)]]
      obtain ⟨a, ha⟩ : ∃ a, n / 10 = a := ⟨_, rfl⟩
      obtain ⟨b, hb⟩ : ∃ b, n % 10 = b := ⟨_, rfl⟩
      rw [ha] at e1 q1 hd hl1
      rw [hb] at e2 q2 hd hl2
      have hab : a ≤ 9223372036854775807 := by omega
      have hbb : b < 10 := by omega
      clear ih h ha hb
      go_enter Tryd.func40, Tryd.ntmps40
      go_wp2_with fail
      refine q1.out.mono ?_
      rintro e w' ⟨rfl, rfl⟩
      go_wp2_with fail
      refine q2.out.mono ?_
      rintro e w' ⟨rfl, rfl⟩
      go_wp2_with fail
      go_ret
      exact ⟨by rw [hd.out, ← bytes_append]; rfl, rfl⟩

theorem dig_ext {d : Nat} (h : d < 10) (s : List UInt8) : (⟨#[48, 49, 50, 51, 52, 53, 54, 55, 56, 57]⟩ : ByteArray).extract d (d + 1) ++ ⟨s.toArray⟩ = ⟨(UInt8.ofNat (48 + d) :: s).toArray⟩ := by
  rw [← bytes_cons]
  congr 1
  obtain rfl | rfl | rfl | rfl | rfl | rfl | rfl | rfl | rfl | rfl : d = 0 ∨ d = 1 ∨ d = 2 ∨ d = 3 ∨ d = 4 ∨ d = 5 ∨ d = 6 ∨ d = 7 ∨ d = 8 ∨ d = 9 := by omega
  all_goals rfl
set_option maxRecDepth 100000 in
set_option maxHeartbeats 1000000 in
theorem rdec_neg (n : Nat) (h0 : 0 < n) (hn : n ≤ 9223372036854775808) (w : World) :
    Calls Tryd.prog 40 #[.int .i64 (-(n : Int))] w fun e w' => e = .returned (.string ⟨(45 :: Lib.decDigits n).toArray⟩) ∧ w' = w := by
  have t0 : decide (-(n : Int) < 0) = true := decide_eq_true (by omega)
  have H0 := Lib.hid (restD_start h0)
  go_enter Tryd.func40, Tryd.ntmps40
  go_wp2_with fail
  go_loopw [0, 3] (fun s0 s3 wr => ∃ (m : Nat) (s : List UInt8), s0 = .int .i64 (-(m : Int)) ∧ s3 = .string ⟨s.toArray⟩ ∧ Hid (m ≤ n) ∧ Hid (restD m s = Lib.decDigits n) ∧ wr = w) (fun s0 _ _ => (intOf s0).natAbs)
  case atStart => exact ⟨n, [], rfl, rfl, Nat.le_refl _, H0.out, rfl⟩
  case round =>
    obtain ⟨m, s, rfl, rfl, hm, hR, rfl⟩ := hrel
    have hls := restD_len hR.out hn
    clear t0 H0
    by_cases hm0 : m = 0
    · subst hm0
      have hs : Hid (s = Lib.decDigits n) := hR.out
      have hls2 : (Lib.decDigits n).length ≤ 19 := dec_len hn
      go_wp2_with fail
      go_ret
      exact ⟨by rw [← hs.out, ← bytes_cons]; rfl, rfl⟩
    · have t1 : (-(m : Int) != 0) = true := by simp; omega
      have hmn : m ≤ 9223372036854775808 := by have := hm.out; omega
      have e1 : (-(m : Int)).tdiv 10 = -((m / 10 : Nat) : Int) := by rw [Int.neg_tdiv, Int.tdiv_eq_ediv_of_nonneg (by omega)]; omega
      have e2 : (-(m : Int)).tmod 10 = -((m % 10 : Nat) : Int) := by rw [Int.neg_tmod, Int.tmod_eq_emod_of_nonneg (by omega)]; omega
      have hst := Lib.hid (restD_step (show 0 < m by omega) s)
      have hml : m / 10 ≤ m := Nat.div_le_self _ _
      have hmd : Hid (m / 10 < m) := Nat.div_lt_self (by omega) (by decide)
      obtain ⟨d, hd⟩ : ∃ d, m % 10 = d := ⟨_, rfl⟩
      rw [hd] at e2 hst
      have hd10 : d < 10 := by omega
      obtain ⟨m', hm'⟩ : ∃ m', m / 10 = m' := ⟨_, rfl⟩
      rw [hm'] at e1 hst hml hmd
      clear hd hm' hm0
      go_wp2_with fail
      go_roundw
      case rel => exact ⟨m', UInt8.ofNat (48 + d) :: s, rfl, by rw [dig_ext hd10], Nat.le_trans hml hm.out, hst.out.trans hR.out, trivial⟩
      case measure => simp [intOf]; exact hmd.out

/-- A number's digits. -/
theorem rdec_any (x : Int) (hx : I64 x) (w : World) : Calls Tryd.prog 40 #[.int .i64 x] w fun e w' => e = .returned (.string ⟨(Lib.itoa x).toArray⟩) ∧ w' = w := by
  unfold I64 at hx
  by_cases h : x < 0
  · obtain ⟨m, rfl⟩ : ∃ m : Nat, x = -(m : Int) := ⟨x.natAbs, by omega⟩
    rw [itoa_neg h, show (-(m : Int)).natAbs = m by omega]
    exact rdec_neg m (by omega) (by omega) w
  · obtain ⟨m, rfl⟩ : ∃ m : Nat, x = m := ⟨x.toNat, by omega⟩
    rw [itoa_of]
    exact rdec_nat m (by omega) w
end Go.Proofs.YteeemoknbnlopaaDoor
