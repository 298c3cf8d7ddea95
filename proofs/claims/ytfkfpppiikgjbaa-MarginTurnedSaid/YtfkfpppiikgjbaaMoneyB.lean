/- math/bits.Div64 by 100. -/
import Derived.Test.YtfkfpppiikgjbaaMoneyA
namespace Go.Proofs.Ytfkfpppiikgjbaa
open Go Go.RowKit Mon

set_option maxRecDepth 100000 in
theorem len64_100 (w : World) : Calls Try.prog 165 #[.int .u64 100] w fun e w' => e = .returned (.int .i64 7) ∧ w' = w := by
  go_enter Try.func165, Try.ntmps165
  go_wp2
  go_ret
  exact ⟨by kernel_rfl, rfl⟩
theorem lead64_100 (w : World) : Calls Try.prog 152 #[.int .u64 100] w fun e w' => e = .returned (.int .i64 57) ∧ w' = w := by
  go_enter Try.func152, Try.ntmps152
  go_wp2_with (go_at_call 165; refine (len64_100 _).mono ?_; rintro e w' ⟨rfl, rfl⟩)
  go_ret
  exact ⟨rfl, rfl⟩

theorem div_or (hi lo : Int) (hh : 0 ≤ hi ∧ hi < 100) (hl : 0 ≤ lo ∧ lo < M) : bits .or .u64 (hi * 144115188075855872) (lo / 128) = hi * 144115188075855872 + lo / 128 := by
  obtain ⟨a, rfl⟩ := Int.eq_ofNat_of_zero_le hh.1
  obtain ⟨b, rfl⟩ := Int.eq_ofNat_of_zero_le hl.1
  have e1 : ((a : Int) * 144115188075855872) = ((a * 144115188075855872 : Nat) : Int) := by omega
  have e2 : ((b : Int) / 128) = ((b / 128 : Nat) : Int) := by omega
  have hb : b / 128 < 2 ^ 57 := by unfold M at hl; omega
  rw [e1, e2, bits_or_u64_nat _ _ (by omega) (by unfold M at hl; omega)]
  have := Nat.two_pow_add_eq_or_of_lt hb a
  rw [show 2 ^ 57 * a = a * 144115188075855872 by omega] at this
  rw [← this]; omega
theorem div_and (lo : Int) (hl : 0 ≤ lo ∧ lo < M) : bits .and .u64 (lo % 128 * 144115188075855872) 4294967295 = 0 := by
  obtain ⟨b, rfl⟩ := Int.eq_ofNat_of_zero_le hl.1
  have e1 : ((b : Int) % 128 * 144115188075855872) = ((b % 128 * 144115188075855872 : Nat) : Int) := by omega
  rw [e1, Mul64.maskN _ (by omega)]
  omega
set_option maxRecDepth 100000 in
set_option maxHeartbeats 1000000 in
theorem div64_100 (hi lo : Int) (hh : 0 ≤ hi ∧ hi < 100) (hl : 0 ≤ lo ∧ lo < M) (w : World) :
    Calls Try.prog 131 #[.int .u64 hi, .int .u64 lo, .int .u64 100] w fun e w' => e = .returned (.tuple #[.int .u64 ((hi * 18446744073709551616 + lo) / 100), .int .u64 ((hi * 18446744073709551616 + lo) % 100)]) ∧ ∃ n, w' = w.drewN n := by
  have h1 : ¬ (100 ≤ hi) := by omega
  by_cases h0 : hi = 0
  · subst h0
    go_enter Try.func131, Try.ntmps131
    go_wp2
    go_quiet (fail)
    go_wp2
    go_ret2
    have e1 : IntKind.u64.wrap (lo.tdiv 100) = lo / 100 := by rw [Int.tdiv_eq_ediv_of_nonneg hl.1, IntKind.wrap_u64]; unfold M at hl; omega
    have e2 : IntKind.u64.wrap (lo.tmod 100) = lo % 100 := by rw [Int.tmod_eq_emod_of_nonneg hl.1, IntKind.wrap_u64]; unfold M at hl; omega
    refine ⟨?_, _, rfl⟩
    rw [Int.zero_mul, Int.zero_add, ← e1, ← e2]
    rfl
  · have h2 : ¬ ((hi == 0) = true) := by simpa using h0
    go_enter Try.func131, Try.ntmps131
    go_wp2_with (go_at_call 152; refine (lead64_100 _).mono ?_; rintro e w' ⟨rfl, rfl⟩)
    have hor : bits .or .u64 (hi * 144115188075855872) (lo / 128) = hi * 144115188075855872 + lo / 128 := div_or hi lo hh hl
    have hand : bits .and .u64 14411518807585587200 4294967295 = 0 := by decide +kernel
    have hw : IntKind.u64.wrap (lo * 144115188075855872) = lo % 128 * 144115188075855872 := by rw [IntKind.wrap_u64]; omega
    have hand2 : bits .and .u64 (lo % 128 * 144115188075855872) 4294967295 = 0 := div_and lo hl
    have htd : (hi * 144115188075855872 + lo / 128).tdiv 3355443200 = (hi * 144115188075855872 + lo / 128) / 3355443200 := Int.tdiv_eq_ediv_of_nonneg (by unfold M at hl; omega)
    have hq0 : IntKind.u64.wrap ((hi * 144115188075855872 + lo / 128) / 3355443200) = (hi * 144115188075855872 + lo / 128) / 3355443200 := by rw [IntKind.wrap_u64]; unfold M at hl; omega
    have hq1 : IntKind.u64.wrap ((hi * 144115188075855872 + lo / 128) / 3355443200 * 3355443200) = (hi * 144115188075855872 + lo / 128) / 3355443200 * 3355443200 := by rw [IntKind.wrap_u64]; unfold M at hl; omega
    have hr : IntKind.u64.wrap (hi * 144115188075855872 + lo / 128 - (hi * 144115188075855872 + lo / 128) / 3355443200 * 3355443200) = (hi * 144115188075855872 + lo / 128) % 3355443200 := by rw [IntKind.wrap_u64]; unfold M at hl; omega
    have hun : lo % 128 * 144115188075855872 / 4294967296 = lo % 128 * 33554432 := by omega
    simp only [hor, hand, hw, hand2, htd, hq0, hq1, hr, hun]
    obtain ⟨u, hu⟩ : ∃ u : Int, hi * 144115188075855872 + lo / 128 = u := ⟨_, rfl⟩
    obtain ⟨q, hq⟩ : ∃ q : Int, u / 3355443200 = q := ⟨_, rfl⟩
    obtain ⟨r, hr'⟩ : ∃ r : Int, u % 3355443200 = r := ⟨_, rfl⟩
    obtain ⟨v, hv⟩ : ∃ v : Int, lo % 128 * 33554432 = v := ⟨_, rfl⟩
    rw [hu, hq, hr', hv]
    have H := Lib.hid (And.intro hu (And.intro hq (And.intro hr' hv)))
    have q0 : 0 ≤ q := by unfold M at hl; omega
    have q1 : q < 4294967296 := by unfold M at hl; omega
    have r0 : 0 ≤ r := by omega
    have r1 : r < 3355443200 := by omega
    have u0 : 0 ≤ u := by unfold M at hl; omega
    have u1 : u < 14411518807585587200 := by unfold M at hl; omega
    have v0 : 0 ≤ v := by omega
    have v1 : v < 4294967296 := by omega
    have q2 : ¬ (4294967296 ≤ q) := by omega
    clear hor hand hw hand2 htd hq0 hq1 hr hun hu hq hr' hv
    go_loopw [15, 16] (fun s15 s16 wr => s15 = .int .u64 q ∧ s16 = .int .u64 r ∧ wr = w') (fun _ _ _ => 0)
    case atStart => exact ⟨rfl, rfl, rfl⟩
    case round =>
      obtain ⟨rfl, rfl, rfl⟩ := hrel
      go_wp2
      have f1 : IntKind.u64.wrap (IntKind.u64.wrap (IntKind.u64.wrap (u * 4294967296) + v) - IntKind.u64.wrap (q * 14411518807585587200)) = r * 4294967296 + v := by
        simp only [IntKind.wrap_u64]; have := H.out; omega
      simp only [f1]
      obtain ⟨n, hn⟩ : ∃ n : Int, r * 4294967296 + v = n := ⟨_, rfl⟩
      rw [hn]
      have n0 : 0 ≤ n := by omega
      have n1 : n < 14411518807585587200 := by omega
      have htd : n.tdiv 3355443200 = n / 3355443200 := Int.tdiv_eq_ediv_of_nonneg n0
      have hq0 : IntKind.u64.wrap (n / 3355443200) = n / 3355443200 := by rw [IntKind.wrap_u64]; omega
      have hq1 : IntKind.u64.wrap (n / 3355443200 * 3355443200) = n / 3355443200 * 3355443200 := by rw [IntKind.wrap_u64]; omega
      have hr : IntKind.u64.wrap (n - n / 3355443200 * 3355443200) = n % 3355443200 := by rw [IntKind.wrap_u64]; omega
      simp only [htd, hq0, hq1, hr]
      obtain ⟨k, hk⟩ : ∃ k : Int, n / 3355443200 = k := ⟨_, rfl⟩
      obtain ⟨s, hs⟩ : ∃ s : Int, n % 3355443200 = s := ⟨_, rfl⟩
      rw [hk, hs]
      have H2 := Lib.hid (And.intro hn (And.intro hk hs))
      have k0 : 0 ≤ k := by omega
      have k1 : k < 4294967296 := by omega
      have k2 : ¬ (4294967296 ≤ k) := by omega
      have s0 : 0 ≤ s := by omega
      have s1 : s < 3355443200 := by omega
      clear htd hq0 hq1 hr hn hk hs f1
      go_loopw [16, 18] (fun s16 s18 wr' => s16 = .int .u64 s ∧ s18 = .int .u64 k ∧ wr' = wr) (fun _ _ _ => 0)
      case atStart => exact ⟨rfl, rfl, rfl⟩
      case round =>
        obtain ⟨rfl, rfl, rfl⟩ := hrel
        go_wp2
        have e1 : IntKind.u64.wrap (IntKind.u64.wrap (q * 4294967296) + k) = (hi * 18446744073709551616 + lo) / 100 := by
          simp only [IntKind.wrap_u64]; have := H.out; have := H2.out; omega
        have e2 : IntKind.u64.wrap (IntKind.u64.wrap (IntKind.u64.wrap (n * 4294967296)) - IntKind.u64.wrap (k * 14411518807585587200)) / 144115188075855872 = (hi * 18446744073709551616 + lo) % 100 := by
          simp only [IntKind.wrap_u64]; have := H.out; have := H2.out; omega
        go_ret2
        refine ⟨?_, 0, rfl⟩
        rw [← e2, ← e1, show IntKind.u64.wrap (IntKind.u64.wrap (q * 4294967296) + k) = q * 4294967296 + k by simp only [IntKind.wrap_u64]; omega]
        rfl
end Go.Proofs.Ytfkfpppiikgjbaa
