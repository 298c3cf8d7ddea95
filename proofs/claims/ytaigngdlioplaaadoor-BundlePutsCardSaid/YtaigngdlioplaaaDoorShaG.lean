/- The reference's constants: below, root. -/
import Derived.Test.YtaigngdlioplaaaDoorShaF
namespace Go.Proofs.YtaigngdlioplaaaDoor
open Go Go.RowKit

/-- Is the cube (or the square) at most the number? By words, as the reference reckons. -/
def belowF (x p : Nat) (cube : Bool) : Bool :=
  let hi := x / 4294967296
  let lo := x % 4294967296
  let A := lo * lo
  let b1 := 2 * hi * lo + A / 4294967296
  let a := A % 4294967296
  let c := hi * hi + b1 / 4294967296
  let b := b1 % 4294967296
  if cube = false then decide (c < p) || (decide (c = p) && decide (a = 0) && decide (b = 0))
  else
    let d0 := a * lo
    let m := a * hi
    let n := b * lo
    let d1 := d0 / 4294967296 + m % 4294967296 + n % 4294967296
    let d2 := d1 / 4294967296 + m / 4294967296 + n / 4294967296 + b * hi + c * lo
    let d3 := c * hi + d2 / 4294967296
    decide (d3 < p) || (decide (d3 = p) && (decide (d0 % 4294967296 = 0) && decide (d1 % 4294967296 = 0) && decide (d2 % 4294967296 = 0)))

theorem ret_bool {a b : Bool} (h : a = b) : Ending.returned (.bool a) = .returned (.bool b) := by rw [h]
theorem mul_lt_of (a b x y : Nat) (ha : a ≤ x) (hb : b ≤ y) : a * b ≤ x * y := Nat.mul_le_mul ha hb
set_option maxRecDepth 100000 in
set_option maxHeartbeats 4000000 in
theorem below_any (x p : Nat) (cube : Bool) (w : World) (hx : Hid (x ≤ 137438953472)) (hp : Hid (p ≤ 1000000)) :
    Calls Tryd.prog 119 #[.int .u64 x, .int .u64 p, .bool cube] w fun e w' => e = .returned (.bool (belowF x p cube)) ∧ w = w' := by
  have hp2 := hp.out
  have hx2 := hx.out
  obtain ⟨hi, hhi⟩ : ∃ hi, x / 4294967296 = hi := ⟨_, rfl⟩
  obtain ⟨lo, hlo⟩ : ∃ lo, x % 4294967296 = lo := ⟨_, rfl⟩
  have e1 : (x : Int) / 4294967296 = (hi : Int) := by omega
  have e2 : (x : Int) % 4294967296 = (lo : Int) := by omega
  have b1 : hi ≤ 32 := by omega
  have b2 : lo ≤ 4294967295 := by omega
  obtain ⟨A, hA⟩ : ∃ A, lo * lo = A := ⟨_, rfl⟩
  have e3 : (lo : Int) * (lo : Int) = (A : Int) := by rw [← hA]; simp
  have b3 : A ≤ 18446744065119617025 := by rw [← hA]; exact mul_lt_of _ _ 4294967295 4294967295 b2 b2
  obtain ⟨B, hB⟩ : ∃ B, 2 * hi * lo = B := ⟨_, rfl⟩
  have e4 : (2 : Int) * (hi : Int) * (lo : Int) = (B : Int) := by rw [← hB]; simp
  have b4 : B ≤ 64 * 4294967295 := by rw [← hB]; exact mul_lt_of _ _ 64 4294967295 (by omega) b2
  obtain ⟨C, hC⟩ : ∃ C, hi * hi = C := ⟨_, rfl⟩
  have e5 : (hi : Int) * (hi : Int) = (C : Int) := by rw [← hC]; simp
  have b5 : C ≤ 32 * 32 := by rw [← hC]; exact mul_lt_of _ _ 32 32 b1 b1
  obtain ⟨q, hq⟩ : ∃ q, B + A / 4294967296 = q := ⟨_, rfl⟩
  have e6 : (B : Int) + (A : Int) / 4294967296 = (q : Int) := by omega
  have b6 : q ≤ 64 * 4294967295 + 4294967295 := by omega
  obtain ⟨a, ha⟩ : ∃ a, A % 4294967296 = a := ⟨_, rfl⟩
  have e7 : (A : Int) % 4294967296 = (a : Int) := by omega
  have b7 : a ≤ 4294967295 := by omega
  obtain ⟨c, hc⟩ : ∃ c, C + q / 4294967296 = c := ⟨_, rfl⟩
  have e8 : (C : Int) + (q : Int) / 4294967296 = (c : Int) := by omega
  have b8 : c ≤ 1100 := by omega
  obtain ⟨b, hb⟩ : ∃ b, q % 4294967296 = b := ⟨_, rfl⟩
  have e9 : (q : Int) % 4294967296 = (b : Int) := by omega
  have b9 : b ≤ 4294967295 := by omega
  cases cube with
  | false =>
    have hF : belowF x p false = (decide (c < p) || (decide (c = p) && decide (a = 0) && decide (b = 0))) := by
      unfold belowF
      simp only [hhi, hlo, hA, hB, hC, hq, ha, hc, hb, if_true]
    have HF := Lib.hid hF
    clear hF hhi hlo hA hB hC hq ha hc hb
    go_enter Tryd.func119, Tryd.ntmps119
    go_wp2_with fail
    all_goals
      go_ret
      refine ⟨ret_bool ?_, rfl⟩
      rw [HF.out, Bool.eq_iff_iff]
      simp
      try omega
  | true =>
    obtain ⟨d0, hd0⟩ : ∃ z, a * lo = z := ⟨_, rfl⟩
    have f0 : (a : Int) * (lo : Int) = (d0 : Int) := by rw [← hd0]; simp
    have g0 : d0 ≤ 18446744065119617025 := by rw [← hd0]; exact mul_lt_of _ _ 4294967295 4294967295 b7 b2
    obtain ⟨m, hm⟩ : ∃ z, a * hi = z := ⟨_, rfl⟩
    have f1 : (a : Int) * (hi : Int) = (m : Int) := by rw [← hm]; simp
    have g1 : m ≤ 4294967295 * 32 := by rw [← hm]; exact mul_lt_of _ _ 4294967295 32 b7 b1
    obtain ⟨n, hn⟩ : ∃ z, b * lo = z := ⟨_, rfl⟩
    have f2 : (b : Int) * (lo : Int) = (n : Int) := by rw [← hn]; simp
    have g2 : n ≤ 18446744065119617025 := by rw [← hn]; exact mul_lt_of _ _ 4294967295 4294967295 b9 b2
    obtain ⟨d1, hd1⟩ : ∃ z, d0 / 4294967296 + m % 4294967296 + n % 4294967296 = z := ⟨_, rfl⟩
    have f3 : (d0 : Int) / 4294967296 + (m : Int) % 4294967296 + (n : Int) % 4294967296 = (d1 : Int) := by omega
    have g3 : d1 ≤ 4294967295 * 3 := by omega
    obtain ⟨u, hu⟩ : ∃ z, b * hi = z := ⟨_, rfl⟩
    have f4 : (b : Int) * (hi : Int) = (u : Int) := by rw [← hu]; simp
    have g4 : u ≤ 4294967295 * 32 := by rw [← hu]; exact mul_lt_of _ _ 4294967295 32 b9 b1
    obtain ⟨v, hv⟩ : ∃ z, c * lo = z := ⟨_, rfl⟩
    have f5 : (c : Int) * (lo : Int) = (v : Int) := by rw [← hv]; simp
    have g5 : v ≤ 1100 * 4294967295 := by rw [← hv]; exact mul_lt_of _ _ 1100 4294967295 b8 b2
    obtain ⟨d2, hd2⟩ : ∃ z, d1 / 4294967296 + m / 4294967296 + n / 4294967296 + u + v = z := ⟨_, rfl⟩
    have f6 : (d1 : Int) / 4294967296 + (m : Int) / 4294967296 + (n : Int) / 4294967296 + (u : Int) + (v : Int) = (d2 : Int) := by omega
    have g6 : d2 ≤ 9000000000000 := by omega
    obtain ⟨t, ht⟩ : ∃ z, c * hi = z := ⟨_, rfl⟩
    have f7 : (c : Int) * (hi : Int) = (t : Int) := by rw [← ht]; simp
    have g7 : t ≤ 1100 * 32 := by rw [← ht]; exact mul_lt_of _ _ 1100 32 b8 b1
    obtain ⟨d3, hd3⟩ : ∃ z, t + d2 / 4294967296 = z := ⟨_, rfl⟩
    have f8 : (t : Int) + (d2 : Int) / 4294967296 = (d3 : Int) := by omega
    have hF : belowF x p true = (decide (d3 < p) || (decide (d3 = p) && (decide (d0 % 4294967296 = 0) && decide (d1 % 4294967296 = 0) && decide (d2 % 4294967296 = 0)))) := by
      unfold belowF
      simp only [hhi, hlo, hA, hB, hC, hq, ha, hc, hb, hd0, hm, hn, hd1, hu, hv, hd2, ht, hd3]
      rfl
    have HF := Lib.hid hF
    clear hF hhi hlo hA hB hC hq ha hc hb hd0 hm hn hd1 hu hv hd2 ht hd3
    go_enter Tryd.func119, Tryd.ntmps119
    go_wp2_with fail
    all_goals
      go_ret
      refine ⟨ret_bool ?_, rfl⟩
      rw [HF.out, Bool.eq_iff_iff]
      simp
      try omega
end Go.Proofs.YtaigngdlioplaaaDoor
