/- The reference's constants: root, primes. -/
import Derived.Test.YtaigngdlioplaaaDoorShaG
namespace Go.Proofs.YtaigngdlioplaaaDoor
open Go Go.RowKit

theorem el_u64 : Elt Tryd.prog 131 80 (.int .u64 0) 1 8 := Elt.mk' Tryd.underlying131 (by kernel_rfl) rfl (by decide)

def rootG (p : Nat) (cube : Bool) : Nat → Nat → Nat
  | 0, x => x
  | n + 1, x => if belowF (x + 2 ^ n) p cube = true then rootG p cube n (x + 2 ^ n) else rootG p cube n x

set_option maxRecDepth 100000 in
set_option maxHeartbeats 4000000 in
theorem root_any (p : Nat) (cube : Bool) (w : World) (hp : Hid (p ≤ 1000000)) :
    Calls Tryd.prog 107 #[.int .u64 p, .bool cube] w fun e w' => e = .returned (.int .u32 ((rootG p cube 37 0 % 4294967296 : Nat) : Int)) ∧ w = w' := by
  obtain ⟨R, hR⟩ : ∃ R, rootG p cube 37 0 = R := ⟨_, rfl⟩
  rw [hR]
  have HR := Lib.hid hR
  clear hR
  go_enter Tryd.func107, Tryd.ntmps107
  go_wp2_with fail
  go_loopw [5, 6] (fun xv bv wr => ∃ n x b : Nat, xv = .int .u64 x ∧ bv = .int .u64 b ∧ Hid (b = 2 ^ n / 2) ∧ Hid (n ≤ 37) ∧ Hid (x + 2 ^ n ≤ 137438953472) ∧ Hid (rootG p cube n x = R) ∧ w = wr) (fun _ bv _ => (intOf bv).toNat)
  case atStart => exact ⟨37, 0, 68719476736, rfl, rfl, by show _ = _; decide, Nat.le_refl _, by show _ ≤ _; decide, HR, rfl⟩
  case round =>
    obtain ⟨n, x, b, rfl, rfl, hb, hn, hx, hG, rfl⟩ := hrel
    cases n with
    | zero =>
      have hb0 : b = 0 := by have := hb.out; simpa using this
      have hxR : x = R := hG.out
      have hx2 := hx.out
      subst hb0
      go_wp2_with fail
      go_ret
      refine ⟨ret_int ?_, rfl⟩
      rw [← hxR]
      try omega
    | succ n =>
      obtain ⟨q, hq⟩ : ∃ q, 2 ^ n = q := ⟨_, rfl⟩
      have hbq : b = q := by have := hb.out; rw [Nat.pow_succ, hq] at this; omega
      subst hbq
      have hpos : 0 < b := by rw [← hq]; exact Nat.pos_of_ne_zero (by simp)
      have hx2 : x + (b + b) ≤ 137438953472 := by have := hx.out; rw [Nat.pow_succ, hq] at this; omega
      have hG2 := hG.out
      unfold rootG at hG2
      rw [hq] at hG2
      have hbl := Lib.hid (fun w => below_any (x + b) p cube w (by show _ ≤ _; omega) hp)
      have hn2 := hn.out
      have hhalf : Hid (b / 2 = 2 ^ n / 2) := by show _ = _; rw [hq]
      have hsum : Hid (x + 2 ^ n ≤ 137438953472) := by show _ ≤ _; rw [hq]; omega
      have hsum2 : Hid (x + b + 2 ^ n ≤ 137438953472) := by show _ ≤ _; rw [hq]; omega
      have hN : Hid (n ≤ 37) := by show _ ≤ _; omega
      have hcast : ((x + b : Nat) : Int) = (x : Int) + (b : Int) := by simp
      rw [hcast] at hbl
      clear hq hb hn hx hG hcast
      by_cases hB : belowF (x + b) p cube = true
      · rw [if_pos hB] at hG2
        rw [hB] at hbl
        have HG := Lib.hid hG2
        clear hG2 hB
        go_wp2_with fail
        refine (hbl.out _).mono ?_
        rintro e w1 ⟨rfl, rfl⟩
        go_wp2_with fail
        go_roundw
        case rel => exact ⟨n, x + b, b / 2, by go_num, by go_num, hhalf, hN, hsum2, HG, trivial⟩
        case measure => simp [intOf]; omega
      · have hB' : belowF (x + b) p cube = false := by simpa using hB
        rw [if_neg hB] at hG2
        rw [hB'] at hbl
        have HG := Lib.hid hG2
        clear hG2 hB hB'
        go_wp2_with fail
        refine (hbl.out _).mono ?_
        rintro e w1 ⟨rfl, rfl⟩
        go_wp2_with fail
        go_roundw
        case rel => exact ⟨n, x, b / 2, by go_num, by go_num, hhalf, hN, hsum, HG, trivial⟩
        case measure => simp [intOf]; omega

def trialG (p : Nat) : Nat → Nat → Bool → Bool
  | 0, _, is => is
  | f + 1, d, is => if d * d ≤ p then trialG p f (d + 1) (is && decide (p % d ≠ 0)) else is
def isPr (p : Nat) : Bool := trialG p 20 2 true
def primesL (n : Nat) : List Nat := (List.range n).filter fun p => decide (2 ≤ p) && isPr p
theorem primesL_succ (p : Nat) (h : 2 ≤ p) : primesL (p + 1) = if isPr p = true then primesL p ++ [p] else primesL p := by
  unfold primesL
  rw [List.range_succ, List.filter_append]
  by_cases hp : isPr p = true
  · rw [if_pos hp]; simp [h, hp]
  · rw [if_neg hp]; simp [hp]
theorem primesL_mono (p d : Nat) : (primesL p).length ≤ (primesL (p + d)).length := by
  unfold primesL
  rw [List.range_add, List.filter_append, List.length_append]
  omega
theorem primesL_all : (primesL 312).length = 64 ∧ (primesL 311).length = 63 := by decide +kernel
theorem primesL_lt (p : Nat) (h : p < 312) : (primesL p).length < 64 := by
  have := primesL_mono p (311 - p)
  rw [show p + (311 - p) = 311 by omega, primesL_all.2] at this
  omega

set_option maxRecDepth 100000 in
set_option maxHeartbeats 4000000 in
theorem primes_any (w : World) :
    Calls Tryd.prog 106 #[] w fun e w' => ∃ v, e = .returned v ∧ w'.ownsRow w.heap.size 80 1 v 64 ((primesL 312).map fun p : Nat => Value.int .u64 (p : Int)) ∧ Below w.heap.size w w' := by
  go_enter Tryd.func106, Tryd.ntmps106
  go_wp2_with fail
  go_loopw [1, 2] (fun ov pv wr => ∃ p : Nat, pv = .int .u64 p ∧ Hid (2 ≤ p ∧ p ≤ 312) ∧ Hid (wr.ownsRow w.heap.size 80 1 ov (primesL p).length ((primesL p).map fun p : Nat => Value.int .u64 (p : Int))) ∧ Hid (Below w.heap.size w wr)) (fun _ pv _ => 400 - (intOf pv).toNat)
  case atStart => exact ⟨2, rfl, by show _ ∧ _; omega, World.ownsRow_nil _ _ _ _, Below.refl _ _⟩
  case round =>
    obtain ⟨p, rfl, hp, Hrow, HL⟩ := hrel
    obtain ⟨hp2, hp3⟩ := hp.out
    obtain ⟨a, c, hv⟩ := row_form Hrow.out
    subst hv
    obtain ⟨m, hm⟩ : ∃ m, (primesL p).length = m := ⟨_, rfl⟩
    rw [hm] at Hrow ⊢
    by_cases hlt : p < 312
    · have hml : m < 64 := by rw [← hm]; exact primesL_lt p hlt
      have HM := Lib.hid hm
      clear hm
      obtain ⟨wo, rfl⟩ : ∃ wo : World, wo = wr := ⟨_, rfl⟩
      go_wp2_with fail
      have hP := Lib.hid (primesL_succ p hp2)
      go_loopw [3, 4] (fun sv dv wr => ∃ (f d : Nat) (is : Bool), sv = .bool is ∧ dv = .int .u64 d ∧ Hid (trialG p f d is = isPr p) ∧ Hid (2 ≤ d ∧ d ≤ 19 ∧ 22 ≤ d + f) ∧ wo = wr) (fun _ dv _ => 400 - (intOf dv).toNat)
      case atStart => exact ⟨20, 2, true, rfl, rfl, rfl, by show _ ∧ _; omega, rfl⟩
      case round =>
        obtain ⟨f, d, is, rfl, rfl, hG, hd, rfl⟩ := hrel
        obtain ⟨hd1, hd2, hd3⟩ := hd.out
        obtain ⟨D, hD⟩ : ∃ D, d * d = D := ⟨_, rfl⟩
        have eD : (d : Int) * (d : Int) = (D : Int) := by rw [← hD]; simp
        have hD2 : D ≤ 361 := by rw [← hD]; exact mul_lt_of _ _ 19 19 hd2 hd2
        by_cases hle : D ≤ p
        · have hd17 : d ≤ 17 := by
            rcases Nat.lt_or_ge 17 d with h | h
            · have := Nat.mul_le_mul h h
              omega
            · exact h
          obtain ⟨f, rfl⟩ : ∃ g, f = g + 1 := ⟨f - 1, by omega⟩
          have hG2 := hG.out
          unfold trialG at hG2
          rw [hD, if_pos hle] at hG2
          have hdpos : 0 < d := by omega
          cases is with
          | false =>
            have HG := Lib.hid hG2
            rw [Bool.false_and] at HG
            clear hG2 hD
            go_wp2_with fail
            go_roundw
            case rel => exact ⟨f, d + 1, false, rfl, by go_num, HG, by show _ ∧ _; omega, trivial⟩
            case measure => simp [intOf]; omega
          | true =>
            rw [Bool.true_and] at hG2
            have HG := Lib.hid hG2
            clear hG2 hD
            go_wp2_with fail
            go_roundw
            case rel =>
              refine ⟨f, d + 1, decide (p % d ≠ 0), ?_, by go_num, HG, by show _ ∧ _; omega, trivial⟩
              congr 1
              rw [Bool.eq_iff_iff]
              simp
              omega
            case measure => simp [intOf]; omega
        · have hfin : is = isPr p := by
            have hG2 := hG.out
            cases f with
            | zero => exact hG2
            | succ f => unfold trialG at hG2; rw [hD, if_neg hle] at hG2; exact hG2
          have HF := Lib.hid hfin
          clear hfin hD
          cases is with
          | false =>
            have hP2 := hP.out
            rw [if_neg (by rw [← HF.out]; simp)] at hP2
            have HP2 := Lib.hid hP2
            clear hP2
            go_wp2_with fail
            go_roundw
            case rel =>
              refine ⟨p + 1, by go_num, by show _ ∧ _; omega, ?_, HL⟩
              rw [HP2.out, HM.out]
              exact Hrow
            case measure => simp [intOf]; omega
          | true =>
            have hP2 := hP.out
            rw [if_pos HF.out.symm] at hP2
            have HP2 := Lib.hid hP2
            clear hP2
            have hm1 : m + 1 ≤ 1099511627776 := by omega
            have hB := HL.out.size
            go_wp2_with (at_builtin; refine wpList_append_map _ _ _ _ _ _ el_u64 (fun p : Nat => Value.int .u64 (p : Int)) p _ _ _ HL.out Hrow hB rfl rfl rfl rfl rfl hm1 (by decide) ?_; intro v4 w4 hown4 hb4 hB4; have L4 := Lib.hid hb4; clear hb4)
            go_roundw
            case rel =>
              refine ⟨p + 1, by go_num, by show _ ∧ _; omega, ?_, L4⟩
              rw [HP2.out, List.length_append, HM.out]
              exact hown4
            case measure => simp [intOf]; omega
    · have hp312 : p = 312 := by omega
      have hm64 : m = 64 := by rw [← hm, hp312]; exact primesL_all.1
      rw [hp312, hm64] at Hrow
      rw [hm64]
      clear hm hm64
      go_wp2_with fail
      go_ret
      exact ⟨_, rfl, Hrow.out, HL.out⟩
end Go.Proofs.YtaigngdlioplaaaDoor
