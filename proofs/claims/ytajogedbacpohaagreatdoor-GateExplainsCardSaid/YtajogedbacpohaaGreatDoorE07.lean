/- Part 8 of what the claim rests on. -/
import Derived.Test.YtajogedbacpohaaGreatDoorE00
import Derived.Test.YtajogedbacpohaaGreatDoorE06
set_option linter.unusedVariables false
set_option linter.unusedSimpArgs false
set_option maxRecDepth 1000000
set_option maxHeartbeats 32000000
namespace Go.Proofs.YtajogedbacpohaaGreatDoor
section
open Go Go.RowKit Mon
theorem len64_100 (w : World) : Calls Tryz.prog 192 #[.int .u64 100] w fun e w' => e = .returned (.int .i64 7) ∧ w' = w := by
 go_in;go_wp2;go_ret;exact ⟨by kernel_rfl, rfl⟩
theorem zzb8 (w : World) : Calls Tryz.prog 203 #[.int .u64 100] w fun e w' => e = .returned (.int .i64 57) ∧ w' = w := by
 go_in;go_wp2_with (go_at_call 192; refine (len64_100 _).mono ?_; rintro e w' ⟨rfl, rfl⟩);go_ret;exact ⟨rfl, rfl⟩
theorem div_or (hi lo : Int) (hh : 0 ≤ hi ∧ hi < 100) (hl : 0 ≤ lo ∧ lo < M) : bits .or .u64 (hi * 144115188075855872) (lo / 128) = hi * 144115188075855872 + lo / 128 := by
 obtain ⟨a, rfl⟩ := Int.eq_ofNat_of_zero_le hh.1;obtain ⟨b, rfl⟩ := Int.eq_ofNat_of_zero_le hl.1;have e1 : ((a : Int) * 144115188075855872) = ((a * 144115188075855872 : Nat) : Int) := by omega
 have e2 : ((b : Int) / 128) = ((b / 128 : Nat) : Int) := by omega
 have hb : b / 128 < 2 ^ 57 := by unfold M at hl; omega
 rw [e1, e2, bits_or_u64_nat _ _ zw (by unfold M at hl; omega)]
 have := Nat.two_pow_add_eq_or_of_lt hb a;rw [show 2 ^ 57 * a = a * 144115188075855872 by omega] at this
 rw [← this]; omega
theorem div_and (lo : Int) (hl : 0 ≤ lo ∧ lo < M) : bits .and .u64 (lo % 128 * 144115188075855872) 4294967295 = 0 := by
 obtain ⟨b, rfl⟩ := Int.eq_ofNat_of_zero_le hl.1;have e1 : ((b : Int) % 128 * 144115188075855872) = ((b % 128 * 144115188075855872 : Nat) : Int) := by omega
 rw [e1, Mul64.maskN _ zw];omega
theorem zz62 (hi lo : Int) (hh : 0 ≤ hi ∧ hi < 100) (hl : 0 ≤ lo ∧ lo < M) (w : World) :
  Calls Tryz.prog 185 #[.int .u64 hi, .int .u64 lo, .int .u64 100] w fun e w' => e = .returned (.tuple #[.int .u64 ((hi * 18446744073709551616 + lo) / 100), .int .u64 ((hi * 18446744073709551616 + lo) % 100)]) ∧ ∃ n, w' = w.drewN n := by
 have h1 : ¬ (100 ≤ hi) := by omega
 by_cases h0 : hi = 0
 ·subst h0
  go_in;go_wp2;go_quiet (fail);go_wp2;go_ret2;have e1 : IntKind.u64.wrap (lo.tdiv 100) = lo / 100 := by rw [Int.tdiv_eq_ediv_of_nonneg hl.1, IntKind.wrap_u64]; unfold M at hl; omega
  have e2 : IntKind.u64.wrap (lo.tmod 100) = lo % 100 := by rw [Int.tmod_eq_emod_of_nonneg hl.1, IntKind.wrap_u64]; unfold M at hl; omega
  refine ⟨?_, _, rfl⟩;rw [Int.zero_mul, Int.zero_add, ← e1, ← e2]
  rfl
 ·have h2 : ¬ ((hi == 0) = true) := by simpa using h0
  go_in;go_wp2_with (go_at_call 203; refine (zzb8 _).mono ?_; rintro e w' ⟨rfl, rfl⟩);have hor : bits .or .u64 (hi * 144115188075855872) (lo / 128) = hi * 144115188075855872 + lo / 128 := div_or hi lo hh hl;have hand : bits .and .u64 14411518807585587200 4294967295 = 0 := by decide +kernel
  have hw : IntKind.u64.wrap (lo * 144115188075855872) = lo % 128 * 144115188075855872 := by rw [IntKind.wrap_u64]; omega
  have hand2 : bits .and .u64 (lo % 128 * 144115188075855872) 4294967295 = 0 := div_and lo hl;have htd : (hi * 144115188075855872 + lo / 128).tdiv 3355443200 = (hi * 144115188075855872 + lo / 128) / 3355443200 := Int.tdiv_eq_ediv_of_nonneg (by unfold M at hl; omega)
  have hq0 : IntKind.u64.wrap ((hi * 144115188075855872 + lo / 128) / 3355443200) = (hi * 144115188075855872 + lo / 128) / 3355443200 := by rw [IntKind.wrap_u64]; unfold M at hl; omega
  have hq1 : IntKind.u64.wrap ((hi * 144115188075855872 + lo / 128) / 3355443200 * 3355443200) = (hi * 144115188075855872 + lo / 128) / 3355443200 * 3355443200 := by rw [IntKind.wrap_u64]; unfold M at hl; omega
  have hr : IntKind.u64.wrap (hi * 144115188075855872 + lo / 128 - (hi * 144115188075855872 + lo / 128) / 3355443200 * 3355443200) = (hi * 144115188075855872 + lo / 128) % 3355443200 := by rw [IntKind.wrap_u64]; unfold M at hl; omega
  have hun : lo % 128 * 144115188075855872 / 4294967296 = lo % 128 * 33554432 := by omega
  simp only [hor, hand, hw, hand2, htd, hq0, hq1, hr, hun];obtain ⟨u, hu⟩ : ∃ u : Int, hi * 144115188075855872 + lo / 128 = u := ⟨_, rfl⟩;obtain ⟨q, hq⟩ : ∃ q : Int, u / 3355443200 = q := ⟨_, rfl⟩;obtain ⟨r, hr'⟩ : ∃ r : Int, u % 3355443200 = r := ⟨_, rfl⟩;obtain ⟨v, hv⟩ : ∃ v : Int, lo % 128 * 33554432 = v := ⟨_, rfl⟩;rw [hu, hq, hr', hv];have H := zH (And.intro hu (And.intro hq (And.intro hr' hv)));have q0 : 0 ≤ q := by unfold M at hl; omega
  have q1 : q < 4294967296 := by unfold M at hl; omega
  have r0 : 0 ≤ r := by omega
  have r1 : r < 3355443200 := by omega
  have u0 : 0 ≤ u := by unfold M at hl; omega
  have u1 : u < 14411518807585587200 := by unfold M at hl; omega
  have v0 : 0 ≤ v := by omega
  have v1 : v < 4294967296 := by omega
  have q2 : ¬ (4294967296 ≤ q) := by omega
  clear hor hand hw hand2 htd hq0 hq1 hr hun hu hq hr' hv;go_loopw [15, 16] (fun s15 s16 wr => s15 = .int .u64 q ∧ s16 = .int .u64 r ∧ wr = w') (fun _ _ _ => 0)
  case atStart => exact ⟨rfl, rfl, rfl⟩
  case round =>
   obtain ⟨rfl, rfl, rfl⟩ := hrel;go_wp2;have f1 : IntKind.u64.wrap (IntKind.u64.wrap (IntKind.u64.wrap (u * 4294967296) + v) - IntKind.u64.wrap (q * 14411518807585587200)) = r * 4294967296 + v := by
    simp only [IntKind.wrap_u64]; have := H.out; omega
   simp only [f1];obtain ⟨n, hn⟩ : ∃ n : Int, r * 4294967296 + v = n := ⟨_, rfl⟩;rw [hn];have n0 : 0 ≤ n := by omega
   have n1 : n < 14411518807585587200 := by omega
   have htd : n.tdiv 3355443200 = n / 3355443200 := Int.tdiv_eq_ediv_of_nonneg n0;have hq0 : IntKind.u64.wrap (n / 3355443200) = n / 3355443200 := by rw [IntKind.wrap_u64]; omega
   have hq1 : IntKind.u64.wrap (n / 3355443200 * 3355443200) = n / 3355443200 * 3355443200 := by rw [IntKind.wrap_u64]; omega
   have hr : IntKind.u64.wrap (n - n / 3355443200 * 3355443200) = n % 3355443200 := by rw [IntKind.wrap_u64]; omega
   simp only [htd, hq0, hq1, hr];obtain ⟨k, hk⟩ : ∃ k : Int, n / 3355443200 = k := ⟨_, rfl⟩;obtain ⟨s, hs⟩ : ∃ s : Int, n % 3355443200 = s := ⟨_, rfl⟩;rw [hk, hs];have H2 := zH (And.intro hn (And.intro hk hs));have k0 : 0 ≤ k := by omega
   have k1 : k < 4294967296 := by omega
   have k2 : ¬ (4294967296 ≤ k) := by omega
   have s0 : 0 ≤ s := by omega
   have s1 : s < 3355443200 := by omega
   clear htd hq0 hq1 hr hn hk hs f1;go_loopw [16, 18] (fun s16 s18 wr' => s16 = .int .u64 s ∧ s18 = .int .u64 k ∧ wr' = wr) (fun _ _ _ => 0)
   case atStart => exact ⟨rfl, rfl, rfl⟩
   case round =>
    obtain ⟨rfl, rfl, rfl⟩ := hrel;go_wp2;have e1 : IntKind.u64.wrap (IntKind.u64.wrap (q * 4294967296) + k) = (hi * 18446744073709551616 + lo) / 100 := by
     simp only [IntKind.wrap_u64]; have := H.out; have := H2.out; omega
    have e2 : IntKind.u64.wrap (IntKind.u64.wrap (IntKind.u64.wrap (n * 4294967296)) - IntKind.u64.wrap (k * 14411518807585587200)) / 144115188075855872 = (hi * 18446744073709551616 + lo) % 100 := by
     simp only [IntKind.wrap_u64]; have := H.out; have := H2.out; omega
    go_ret2;refine ⟨?_, 0, rfl⟩;rw [← e2, ← e1, show IntKind.u64.wrap (IntKind.u64.wrap (q * 4294967296) + k) = q * 4294967296 + k by simp only [IntKind.wrap_u64]; omega]
    rfl
end
end Go.Proofs.YtajogedbacpohaaGreatDoor
namespace Go.Proofs.YtajogedbacpohaaGreatDoor
open Go
namespace Mon
theorem zz2n (x y : Int) : (x % M3 + y) % M3 = (x + y) % M3 := by
 unfold M3; omega
theorem zz26 (x : Int) : Ok (x % M3) := by unfold Ok M3; omega
end Mon
section
open Go Go.RowKit Mon
theorem add64_0' (x : Int) (w : World) (hx : 0 ≤ x) : (callFunc 184 #[.int .u64 x, .int .u64 0, .int .u64 1]).run Tryz.prog w =
  .ok (.value (.tuple #[.int .u64 ((x + 1) % 18446744073709551616), .int .u64 ((x + 1) / 18446744073709551616)])) w := by
 simpa using add64 x 0 1 hx (Int.le_refl 0) zx zx w
theorem add64_0'' (x c : Int) (w : World) (hx : 0 ≤ x) (hc : 0 ≤ c) (hc1 : c ≤ 1) : (callFunc 184 #[.int .u64 x, .int .u64 0, .int .u64 c]).run Tryz.prog w =
  .ok (.value (.tuple #[.int .u64 ((x + c) % 18446744073709551616), .int .u64 ((x + c) / 18446744073709551616)])) w := by
 simpa using add64 x 0 c hx (Int.le_refl 0) hc hc1 w
def ab (a : Int) : Int := if a < 0 then -a else a
theorem zz94 {a : Int} (h : I64 a) : 0 ≤ ab a ∧ ab a < M := by unfold I64 at h; unfold ab M; split <;> omega
theorem zzae (a : Int) (h : I64 a) (w : World) : Calls Tryz.prog 177 #[.int .i64 a] w fun e w' => e = .returned (.int .u64 (ab a)) ∧ w' = w := by
 unfold I64 at h;by_cases h0 : a < 0
 ·have e1 : IntKind.u64.wrap (-IntKind.u64.wrap a) = ab a := by unfold ab; rw [if_pos h0]; simp only [IntKind.wrap_u64]; omega
  go_in;go_wp2;go_ret;exact ⟨by rw [← e1]; rfl, rfl⟩
 ·have e1 : IntKind.u64.wrap a = ab a := by unfold ab; rw [if_neg h0]; simp only [IntKind.wrap_u64]; omega
  go_in;go_wp2;go_ret;exact ⟨by rw [← e1]; rfl, rfl⟩
def adW (a b c d e f : Int) : Nat → Array Value
 | 0 => #[.int .u64 a, .int .u64 b, .int .u64 c]
 | 1 => #[.int .u64 ((a + d) % M), .int .u64 b, .int .u64 c]
 | 2 => #[.int .u64 ((a + d) % M), .int .u64 ((b + e + (a + d) / M) % M), .int .u64 c]
 | _ => #[.int .u64 ((a + d) % M), .int .u64 ((b + e + (a + d) / M) % M), .int .u64 ((c + f + (b + e + (a + d) / M) / M) % M)]
theorem zz37 (x : Int) (h : 0 ≤ x ∧ x < M) : bits .xor .u64 IntKind.u64.max x = 18446744073709551615 - x := by
 have e : IntKind.u64.max = 18446744073709551615 := by decide +kernel
 rw [e, ← zz7h x h];unfold M at h;obtain ⟨a, rfl⟩ := Int.eq_ofNat_of_zero_le h.1;have e : (18446744073709551615 : Int) = ((18446744073709551615 : Nat) : Int) := rfl;rw [e, u64_xor_nat a _ zw zx, u64_xor_nat _ a zx zw, Nat.xor_comm]
theorem three (k : Nat) (h : k ≤ 3) : k = 0 ∨ k = 1 ∨ k = 2 ∨ k = 3 := by omega
def ngC (x y z : Int) : Nat → Int
 | 0 => 1
 | 1 => (x + 1) / 18446744073709551616
 | 2 => (y + (x + 1) / 18446744073709551616) / 18446744073709551616
 | _ => (z + (y + (x + 1) / 18446744073709551616) / 18446744073709551616) / 18446744073709551616
def ngW (a b c x y z : Int) : Nat → Array Value
 | 0 => #[.int .u64 a, .int .u64 b, .int .u64 c]
 | 1 => #[.int .u64 ((x + 1) % 18446744073709551616), .int .u64 b, .int .u64 c]
 | 2 => #[.int .u64 ((x + 1) % 18446744073709551616), .int .u64 ((y + (x + 1) / 18446744073709551616) % 18446744073709551616), .int .u64 c]
 | _ => #[.int .u64 ((x + 1) % 18446744073709551616), .int .u64 ((y + (x + 1) / 18446744073709551616) % 18446744073709551616), .int .u64 ((z + (y + (x + 1) / 18446744073709551616) / 18446744073709551616) % 18446744073709551616)]
theorem neg_any (a b c : Int) (ha : 0 ≤ a ∧ a < M) (hb : 0 ≤ b ∧ b < M) (hc : 0 ≤ c ∧ c < M) (w : World) :
  Calls Tryz.prog 178 #[.agg #[.int .u64 a, .int .u64 b, .int .u64 c]] w fun e w' =>
   e = .returned (.agg (ngW a b c (18446744073709551615 - a) (18446744073709551615 - b) (18446744073709551615 - c) 3)) ∧ Below w.heap.size w w' := by
 go_in;go_wp2;go_loopw [3, 4, 5] (fun s3 s4 s5 wr => ∃ k : Nat, k ≤ 3 ∧ s3 = .int .u64 (ngC (18446744073709551615 - a) (18446744073709551615 - b) (18446744073709551615 - c) k) ∧ s5 = .int .i64 k ∧
  ZB wr w.heap.size (ngW a b c (18446744073709551615 - a) (18446744073709551615 - b) (18446744073709551615 - c) k) 194 ∧ ZB wr (w.heap.size + 1) #[.int .u64 0, .int .u64 0, .int .u64 0] 194 ∧ Hid (Below w.heap.size w wr)) (fun _ _ s5 _ => 3 - (intOf s5).toNat)
 case atStart => exact ⟨0, by decide, rfl, rfl, zz04 (zz02 _ _) _, by have := zz02 (w.alloc (.cells #[.int .u64 a, .int .u64 b, .int .u64 c] 194)) (.cells #[.int .u64 0, .int .u64 0, .int .u64 0] 194); rw [World.size_alloc] at this; exact this, (zz01 zBa (by simp) _)⟩
 case round =>
  obtain ⟨k, hk, rfl, rfl, H0, H1, HB⟩ := hrel;have hsg : IntKind.u64.signed = false := rfl;have xa := zz37 a ha;have xb := zz37 b hb;have xc := zz37 c hc;obtain ⟨x, hx⟩ : ∃ x : Int, 18446744073709551615 - a = x := ⟨_, rfl⟩;obtain ⟨y, hy⟩ : ∃ y : Int, 18446744073709551615 - b = y := ⟨_, rfl⟩;obtain ⟨z, hz⟩ : ∃ z : Int, 18446744073709551615 - c = z := ⟨_, rfl⟩;rw [hx] at xa H0;rw [hy] at xb H0;rw [hz] at xc H0;simp only [hx, hy, hz];have x0 : 0 ≤ x := by unfold M at ha; omega
  have x1 : x < 18446744073709551616 := by unfold M at ha; omega
  have y0 : 0 ≤ y := by unfold M at hb; omega
  have y1 : y < 18446744073709551616 := by unfold M at hb; omega
  have z0 : 0 ≤ z := by unfold M at hc; omega
  have z1 : z < 18446744073709551616 := by unfold M at hc; omega
  have HX := zH hx; have HY := zH hy; have HZ := zH hz;clear hx hy hz;have hblt : w.heap.size < wr.heap.size := zL H0.out;rcases three k hk with rfl | rfl | rfl | rfl
  ·have c0 : wr.cell? ⟨w.heap.size, 0, none⟩ = some (.int .u64 a) := zz00 H0.out 0 _ rfl
   have f0 := zz05 H0.out 0;have q := fun w => add64_0' x w x0
   simp only [ngC];go_wp2;go_roundw
   case rel => exact ⟨1, by decide, rfl, rfl, zz0d H0.out _ _, zz09 H1.out _ _ zw, HB.out.setCell (Nat.le_refl _) _⟩
   case measure => simp [intOf]
  ·have c0 : wr.cell? ⟨w.heap.size, 1, none⟩ = some (.int .u64 b) := zz00 H0.out 1 _ rfl
   have f0 := zz05 H0.out 1;have q := fun w => add64_0'' y ((x + 1) / 18446744073709551616) w y0 zw zw
   simp only [ngC];go_wp2;go_roundw
   case rel => exact ⟨2, by decide, rfl, rfl, zz0d H0.out _ _, zz09 H1.out _ _ zw, HB.out.setCell (Nat.le_refl _) _⟩
   case measure => simp [intOf]
  ·have c0 : wr.cell? ⟨w.heap.size, 2, none⟩ = some (.int .u64 c) := zz00 H0.out 2 _ rfl
   have f0 := zz05 H0.out 2;have q := fun w => add64_0'' z ((y + (x + 1) / 18446744073709551616) / 18446744073709551616) w z0 zw zw
   simp only [ngC];go_wp2;go_roundw
   case rel => exact ⟨3, by decide, rfl, rfl, zz0d H0.out _ _, zz09 H1.out _ _ zw, HB.out.setCell (Nat.le_refl _) _⟩
   case measure => simp [intOf]
  ·have c0 : wr.cell? ⟨w.heap.size, 0, none⟩ = some (.int .u64 ((x + 1) % 18446744073709551616)) := zz00 H0.out 0 _ rfl
   have c1 : wr.cell? ⟨w.heap.size, 1, none⟩ = some (.int .u64 ((y + (x + 1) / 18446744073709551616) % 18446744073709551616)) := zz00 H0.out 1 _ rfl;have c2 : wr.cell? ⟨w.heap.size, 2, none⟩ = some (.int .u64 ((z + (y + (x + 1) / 18446744073709551616) / 18446744073709551616) % 18446744073709551616)) := zz00 H0.out 2 _ rfl;have d0 : wr.cell? ⟨w.heap.size + 1, 0, none⟩ = some (.int .u64 0) := zz00 H1.out 0 _ rfl;have d1 : wr.cell? ⟨w.heap.size + 1, 1, none⟩ = some (.int .u64 0) := zz00 H1.out 1 _ rfl;have d2 : wr.cell? ⟨w.heap.size + 1, 2, none⟩ = some (.int .u64 0) := zz00 H1.out 2 _ rfl;have f0 := zz05 H1.out 0;have f1 := zz05 H1.out 1;have f2 := zz05 H1.out 2;simp only [ngC];go_wp2;refine bodyPost_ret (v := .agg #[.int .u64 ((x + 1) % 18446744073709551616), .int .u64 ((y + (x + 1) / 18446744073709551616) % 18446744073709551616), .int .u64 ((z + (y + (x + 1) / 18446744073709551616) / 18446744073709551616) % 18446744073709551616)]) ?_ rfl ⟨?_, ?_⟩
   ·simp [results, Tryz.results178, go_sem, d0, d1, d2]
   ·rw [HX.out, HY.out, HZ.out]; rfl
   ·exact ((HB.out.setCell (Nat.le_succ _) _).setCell (Nat.le_succ _) _).setCell (Nat.le_succ _) _
end
section
open Go Go.RowKit Bg
def DigAt (w : World) (A : Option Addr) (n : Nat) (f : Nat → Nat) : Prop :=
 ∀ i, i < n → ∃ b o, A = some ⟨b, o, none⟩ ∧ b < w.heap.size ∧ w.cell? ⟨b, o + i, none⟩ = some (.int .i64 (f i))
theorem DigAt.call {w w' : World} {A : Option Addr} {n : Nat} {f : Nat → Nat} (h : DigAt w A n f) (hb : Below w.heap.size w w') : DigAt w' A n f := fun i hi => by
 obtain ⟨b, o, e, hlt, hc⟩ := h i hi;exact ⟨b, o, e, Nat.lt_of_lt_of_le hlt hb.size, (hb.cell (p := ⟨b, o + i, none⟩) hlt).trans hc⟩
def BigAt (w : World) (v : Value) (z : Int) : Prop :=
 ∃ A n c f, v = .agg #[.bool (decide (z < 0)), .slice A n c] ∧ Canon f n ∧ pv f n = z.natAbs ∧ DigAt w A n f ∧ n ≤ c
theorem BigAt.call {w w' : World} {v : Value} {z : Int} (h : BigAt w v z) (hb : Below w.heap.size w w') : BigAt w' v z := by
 obtain ⟨A, n, c, f, e, hc, hv, hd, hn⟩ := h;exact ⟨A, n, c, f, e, hc, hv, hd.call hb, hn⟩
theorem zzbw (A : Option Addr) (n c : Nat) (f : Nat → Nat) (i : Nat) (w : World) (hd : Hid (DigAt w A n f)) (hf : Hid (Dg f n)) (hi : i ≤ 1099511627776) (hn : n ≤ 1099511627776) :
  Calls Tryz.prog 158 #[.slice A n c, .int .i64 i] w fun e w' => e = .returned (.int .i64 (f i)) ∧ w = w' := by
 by_cases h : i < n
 ·obtain ⟨b, o, rfl, hlt, hc⟩ := hd.out i h
  have h' : (i : Int) < n := by omega
  go_in;go_wp2;go_ret;exact ⟨rfl, rfl⟩
 ·have h' : ¬ ((i : Int) < n) := by omega
  rw [hf.out.zero i zw];go_in;go_wp2;go_ret;exact ⟨rfl, rfl⟩
theorem zt68 {p : Prop} (h : p := by
 rw [← hfg] at q2;clear hfg hk0 ej hb1 hb2 qA qB;go_wp2_with (go_at_call 158; first | (with_reducible refine q1.out.mono ?_; rintro e w' ⟨rfl, rfl⟩) | (with_reducible refine q2.out.mono ?_; rintro e w' ⟨rfl, rfl⟩))
 go_roundw
 case rel => exact ⟨j, by omega, rfl, HE3.out, trivial⟩
 case measure => simp [intOf]) : p := h
theorem zt75 {p : Prop} (h : p := by
 have HD := zH hd;clear hd hfg hk0 ej hb1 hb2 qA qB HE HE2;go_wp2_with (go_at_call 158; first | (with_reducible refine q1.out.mono ?_; rintro e w' ⟨rfl, rfl⟩) | (with_reducible refine q2.out.mono ?_; rintro e w' ⟨rfl, rfl⟩))
 go_ret;exact ⟨by rw [HD.out]; rfl, rfl⟩) : p := h
theorem zz5u (A B : Option Addr) (n m c d : Nat) (f g : Nat → Nat) (w : World) (hA : Hid (DigAt w A n f)) (hB : Hid (DigAt w B m g)) (hf : Hid (Dg f n)) (hg : Hid (Dg g m)) (hn : n ≤ 1000000) (hm : m ≤ 1000000) :
  Calls Tryz.prog 157 #[.slice A n c, .slice B m d] w fun e w' => e = .returned (.bool (decide (pv f n < pv g m))) ∧ w = w' := by
 have qA := zH (fun i h => zzbw A n c f i w hA hf h zw)
 have qB := zH (fun i h => zzbw B m d g i w hB hg h zw)
 obtain ⟨N, hN⟩ : ∃ N, (if n < m then m else n) = N := ⟨_, rfl⟩
 have hN1 : n ≤ N := by rw [← hN]; split <;> omega
 have hN2 : m ≤ N := by rw [← hN]; split <;> omega
 have e1 := zz28 hf.out.zero N hN1;have e2 := zz28 hg.out.zero N hN2;rw [← e1, ← e2];clear e1 e2;by_cases hnm : n < m
 ·have hnm' : (n : Int) < m := by omega
  obtain rfl : m = N := by rw [← hN, if_pos hnm]
  clear hN;go_in;go_wp2_with fail;go_loopw [6] (fun s6 wr => ∃ k : Nat, k ≤ m ∧ s6 = .int .i64 ((k : Int) - 1) ∧ Hid (∀ j, k ≤ j → j < m → f j = g j) ∧ wr = w) (fun s6 _ => (intOf s6 + 1).toNat)
  case atStart => exact ⟨m, Nat.le_refl _, rfl, fun j h1 h2 => by omega, rfl⟩
  case round =>
   obtain ⟨k, hk, rfl, HE, rfl⟩ := hrel;by_cases hk0 : k = 0
   ·subst hk0
    have hd : decide (pv f m < pv g m) = false := decide_eq_false (by rw [zz3e m (fun i hi => HE.out i (Nat.zero_le _) hi)]; omega)
    have HD := zH hd;clear hd;go_wp2_with fail;go_ret;exact ⟨by rw [HD.out]; rfl, rfl⟩
   ·obtain ⟨j, rfl⟩ : ∃ j, k = j + 1 := ⟨k - 1, by omega⟩
    have ej : ((j + 1 : Nat) : Int) - 1 = (j : Int) := by omega
    rw [ej];have q1 := zH (qA.out j zw);have q2 := zH (qB.out j zw);have HE2 : Hid (∀ i, j < i → i < m → f i = g i) := fun i h1 h2 => HE.out i h1 h2
    have hb1 := hf.out.lt;have hb2 := hg.out.lt;by_cases hfg : f j = g j
    ·have HE3 : Hid (∀ i, j ≤ i → i < m → f i = g i) := fun i h1 h2 => by
      by_cases e : i = j
      ·rw [e]; exact hfg
      ·exact HE.out i zw h2
     exact zt68
    ·have hne : (((f j : Nat) : Int) != ((g j : Nat) : Int)) = true := by simp; omega
     have hd : decide (pv f m < pv g m) = decide (f j < g j) := by
      by_cases hlt : f j < g j
      ·rw [decide_eq_true (zzay hb1 hlt m zw HE2.out), decide_eq_true zw]
      ·have := zzay hb2 (show g j < f j by omega) m zw (fun i h1 h2 => (HE2.out i h1 h2).symm)
       rw [decide_eq_false zw, decide_eq_false zw]
     exact zt75
 ·have hnm' : ¬ ((n : Int) < m) := by omega
  obtain rfl : n = N := by rw [← hN, if_neg hnm]
  clear hN;go_in;go_wp2_with fail;go_loopw [6] (fun s6 wr => ∃ k : Nat, k ≤ n ∧ s6 = .int .i64 ((k : Int) - 1) ∧ Hid (∀ j, k ≤ j → j < n → f j = g j) ∧ wr = w) (fun s6 _ => (intOf s6 + 1).toNat)
  case atStart => exact ⟨n, Nat.le_refl _, rfl, fun j h1 h2 => by omega, rfl⟩
  case round =>
   obtain ⟨k, hk, rfl, HE, rfl⟩ := hrel;by_cases hk0 : k = 0
   ·subst hk0
    have hd : decide (pv f n < pv g n) = false := decide_eq_false (by rw [zz3e n (fun i hi => HE.out i (Nat.zero_le _) hi)]; omega)
    have HD := zH hd;clear hd;go_wp2_with fail;go_ret;exact ⟨by rw [HD.out]; rfl, rfl⟩
   ·obtain ⟨j, rfl⟩ : ∃ j, k = j + 1 := ⟨k - 1, by omega⟩
    have ej : ((j + 1 : Nat) : Int) - 1 = (j : Int) := by omega
    rw [ej];have q1 := zH (qA.out j zw);have q2 := zH (qB.out j zw);have HE2 : Hid (∀ i, j < i → i < n → f i = g i) := fun i h1 h2 => HE.out i h1 h2
    have hb1 := hf.out.lt;have hb2 := hg.out.lt;by_cases hfg : f j = g j
    ·have HE3 : Hid (∀ i, j ≤ i → i < n → f i = g i) := fun i h1 h2 => by
      by_cases e : i = j
      ·rw [e]; exact hfg
      ·exact HE.out i zw h2
     exact zt68
    ·have hne : (((f j : Nat) : Int) != ((g j : Nat) : Int)) = true := by simp; omega
     have hd : decide (pv f n < pv g n) = decide (f j < g j) := by
      by_cases hlt : f j < g j
      ·rw [decide_eq_true (zzay hb1 hlt n zw HE2.out), decide_eq_true zw]
      ·have := zzay hb2 (show g j < f j by omega) n zw (fun i h1 h2 => (HE2.out i h1 h2).symm)
       rw [decide_eq_false zw, decide_eq_false zw]
     exact zt75
def sgn (s : Bool) (n : Nat) : Int := if s then -(n : Int) else n
def sliceLen : Option Value → Nat
 | some (.slice _ m _) => m
 | _ => 0
theorem big_of {w : World} {A : Option Addr} {m c n : Nat} {f : Nat → Nat} {s t : Bool} (hf : Dg f n) (hm : m ≤ n) (hz : ∀ i, m ≤ i → f i = 0) (htop : m = 0 ∨ f (m - 1) ≠ 0) (hd : DigAt w A n f) (hc : m ≤ c)
  (ht : t = if m = 0 then false else s) : BigAt w (.agg #[.bool t, .slice A m c]) (sgn s (pv f n)) := by
 have hcan : Canon (cut f m) m := ⟨dg_cut hf, by
  rcases htop with h | h
  ·exact .inl h
  ·refine .inr ?_
   unfold cut;by_cases e : m = 0
   ·subst e; simp at h; exact absurd (hz 0 (Nat.le_refl _)) h
   ·rw [if_pos zw]; exact h⟩
 have hv : pv f n = pv (cut f m) m := by rw [pv_cut, zz28 hz n hm]
 refine ⟨A, m, c, cut f m, ?_, hcan, ?_, fun i hi => ?_, hc⟩
 ·have e : decide (sgn s (pv f n) < 0) = t := by
   rw [ht];by_cases h0 : m = 0
   ·rw [if_pos h0]
    have : pv f n = 0 := by rw [hv, h0]; rfl
    rw [this]; unfold sgn; cases s <;> rfl
   ·rw [if_neg h0]
    have h1 : ¬ pv (cut f m) m = 0 := fun h => h0 ((canon_pos hcan).1 h)
    rw [← hv] at h1;unfold sgn;cases s
    ·simp
    ·simp; omega
  rw [e]
 ·rw [← hv]; unfold sgn; cases s <;> simp
 ·have := hd i zw
  unfold cut;rw [if_pos hi]; exact this
theorem zz1y (s : Bool) (A : Option Addr) (n c : Nat) (f : Nat → Nat) (w : World) (hA : Hid (DigAt w A n f)) (hf : Hid (Dg f n)) (hn : n ≤ 1000000) (hc : n ≤ c) :
  Calls Tryz.prog 159 #[.agg #[.bool s, .slice A n c]] w fun e w' => (∃ v, e = .returned v ∧ BigAt w' v (sgn s (pv f n))) ∧ Below w.heap.size w w' := by
 go_in;go_wp2_with fail;go_loopw [] (fun wr => ∃ m : Nat, m ≤ n ∧ ZB wr w.heap.size #[.bool s, .slice A m c] 143 ∧ ZB wr (w.heap.size + 1) #[.bool false, .slice none 0 0] 143 ∧
  Hid (∀ i, m ≤ i → f i = 0) ∧ Hid (Below w.heap.size w wr)) (fun wr => sliceLen (wr.cell? ⟨w.heap.size, 1, none⟩))
 case atStart =>
  refine ⟨n, Nat.le_refl _, zz04 (zz02 _ _) _, ?_, hf.out.zero, zz01 zBa (by rw [World.size_alloc]; omega) _⟩
  have := zz02 (w.alloc (.cells #[.bool s, .slice A n c] 143)) (.cells #[.bool false, .slice none 0 0] 143);rw [World.size_alloc] at this;exact this
 case round =>
  obtain ⟨m, hm, H0, H1, HZ, HB⟩ := hrel;have c1 : wr.cell? ⟨w.heap.size, 1, none⟩ = some (.slice A m c) := zz00 H0.out 1 _ rfl;have f1 := zz05 H0.out 1;have c0 : wr.cell? ⟨w.heap.size, 0, none⟩ = some (.bool s) := zz00 H0.out 0 _ rfl;have f0 := zz05 H0.out 0;have d0 : wr.cell? ⟨w.heap.size + 1, 0, none⟩ = some (.bool false) := zz00 H1.out 0 _ rfl;have d1 : wr.cell? ⟨w.heap.size + 1, 1, none⟩ = some (.slice none 0 0) := zz00 H1.out 1 _ rfl;have g0 := zz05 H1.out 0;have g1 := zz05 H1.out 1;by_cases hm0 : m = 0
  ·subst hm0
   go_wp2_with fail;refine bodyPost_ret (v := .agg #[.bool false, .slice A 0 c]) ?_ rfl ⟨⟨_, rfl, ?_⟩, ?_⟩
   ·simp [results, Tryz.results159, go_sem, d0, d1]
   ·have hb2 : Below w.heap.size w (((wr.setCell ⟨w.heap.size, 0, none⟩ (.bool false)).setCell ⟨w.heap.size + 1, 0, none⟩ (.bool false)).setCell ⟨w.heap.size + 1, 1, none⟩ (.slice A 0 c)) := ((HB.out.setCell (Nat.le_refl _) _).setCell (Nat.le_succ _) _).setCell (Nat.le_succ _) _
    exact big_of hf.out (Nat.zero_le _) HZ.out (.inl rfl) (hA.out.call hb2) (Nat.zero_le _) rfl
   ·exact ((HB.out.setCell (Nat.le_refl _) _).setCell (Nat.le_succ _) _).setCell (Nat.le_succ _) _
  ·obtain ⟨k, rfl⟩ : ∃ k, m = k + 1 := ⟨m - 1, by omega⟩
   obtain ⟨b, o, rfl, hlt, hck⟩ := hA.out k zw;have ck := (HB.out.cell (p := ⟨b, o + k, none⟩) hlt).trans hck;have hbr : b < wr.heap.size := Nat.lt_of_lt_of_le hlt HB.out.size;have ek : ((k + 1 : Nat) : Int) - 1 = (k : Int) := by omega
   by_cases hfk : f k = 0
   ·have t1 : (((f k : Nat) : Int) == 0) = true := by simp [hfk]
    have HZ2 : Hid (∀ i, k ≤ i → f i = 0) := fun i hi => by
     by_cases e : i = k
     ·rw [e]; exact hfk
     ·exact HZ.out i zw
    go_wp2_with fail;go_roundw
    case rel => exact ⟨k, by omega, zz0d H0.out _ _, zz09 H1.out _ _ zw, HZ2.out, HB.out.setCell (Nat.le_refl _) _⟩
    case measure => rw [World.cell?_setCell_same _ _ _ c1, c1]; exact Nat.lt_succ_self k
   ·have t1 : (((f k : Nat) : Int) == 0) = false := by simp; omega
    go_wp2_with fail;refine bodyPost_ret (v := .agg #[.bool s, .slice (some ⟨b, o, none⟩) (k + 1) c]) ?_ rfl ⟨⟨_, rfl, ?_⟩, ?_⟩
    ·simp [results, Tryz.results159, go_sem, d0, d1]
    ·have hb2 : Below w.heap.size w ((wr.setCell ⟨w.heap.size + 1, 0, none⟩ (.bool s)).setCell ⟨w.heap.size + 1, 1, none⟩ (.slice (some ⟨b, o, none⟩) (k + 1) c)) := (HB.out.setCell (Nat.le_succ _) _).setCell (Nat.le_succ _) _
     exact big_of hf.out hm HZ.out (.inr hfk) (hA.out.call hb2) zw (by rw [if_neg zw])
    ·exact (HB.out.setCell (Nat.le_succ _) _).setCell (Nat.le_succ _) _
theorem el_int : Elt Tryz.prog 141 3 (.int .i64 0) 1 8 := Elt.mk' Tryz.underlying141 zk rfl zx
theorem zz10 {w : World} {B : Nat} {v : Value} {ds : List Nat} (h : w.ownsRow B 3 1 v ds.length (ds.map fun d => .int .i64 (d : Nat))) : ∃ A c, v = .slice A ds.length c ∧ DigAt w A ds.length (dg ds) ∧ ds.length ≤ c ∧ c ≤ maxLen ∧ (∀ a, A = some a → B ≤ a.block) := by
 rcases h.2 with ⟨rfl, hn⟩ | ⟨g, cap, cur, rfl, hb, hg, hnc, hcm, hcs, htk⟩
 ·rw [hn]; exact ⟨none, 0, rfl, fun i hi => by omega, Nat.le_refl _, Nat.zero_le _, fun a ha => by cases ha⟩
 ·refine ⟨some ⟨g, 0, none⟩, cap, rfl, fun i hi => ⟨g, 0, rfl, (zL hg), ?_⟩, hnc, hcm, fun a ha => by cases ha; exact hb⟩
  rw [cell_of_row w g (0 + i) cur _ _ hg, Nat.zero_add];have h1 : (cur.toList.take (ds.length * 1))[i]? = some (.int .i64 (dg ds i : Nat)) := by
   rw [htk, List.getElem?_map, List.getElem?_eq_getElem hi];unfold dg; simp [List.getD, hi]
  rw [List.getElem?_take] at h1;rw [if_pos zw] at h1;simpa using h1
theorem zzaz {n q N : Nat} (h : 1 ≤ q) (hN : N ≤ 9223372036854775808) (he : q * 10000 ^ n ≤ N) : n ≤ 4 := by
 by_cases hn : n ≤ 4
 ·exact hn
 ·have h1 : 10000 ^ 5 ≤ 10000 ^ n := Nat.pow_le_pow_right zx zw
  have h2 : 1 * 10000 ^ n ≤ q * 10000 ^ n := Nat.mul_le_mul_right _ h;have h3 : (10000 : Nat) ^ 5 = 100000000000000000000 := by decide
  omega
structure OfInv (N : Nat) (ds : List Nat) (q : Nat) : Prop where
 lt : ∀ d ∈ ds, d < 10000
 val : vl ds + q * 10000 ^ ds.length = N
 top : q = 0 → ds.length = 0 ∨ dg ds (ds.length - 1) ≠ 0
theorem OfInv.step {N : Nat} {ds : List Nat} {q : Nat} (h : OfInv N ds q) (hq : q ≠ 0) : OfInv N (ds ++ [q % 10000]) (q / 10000) := by
 refine ⟨fun d hd => ?_, ?_, fun h0 => .inr ?_⟩
 ·rcases List.mem_append.1 hd with h1 | h1
  ·exact h.lt d h1
  ·simp at h1; omega
 ·rw [zz3r, List.length_append, ← h.val]
  show vl ds + q % 10000 * 10000 ^ ds.length + q / 10000 * 10000 ^ (ds.length + 1) = _;rw [Nat.pow_succ];have h1 := Nat.div_add_mod q 10000;generalize q % 10000 = m at *;generalize q / 10000 = d at *;rw [← h1]
  grind
 ·rw [List.length_append]
  show dg _ (ds.length + 1 - 1) ≠ 0;rw [Nat.add_sub_cancel, zz4o];omega
theorem zt12 {p : Prop} (h : p := by
 have K1 := zz00 ((hb4.block (w.heap.size + 1) zw).trans H1.out) 1 v rfl;have L1 := zz05 ((hb4.block (w.heap.size + 1) zw).trans H1.out) 1;have H0b := zH ((hb4.block w.heap.size zw).trans H0.out);have H1b := zH ((hb4.block (w.heap.size + 1) zw).trans H1.out);have HBb := zH (HB.out.trans (hb4.mono (show w.heap.size ≤ w.heap.size + 2 by omega)))
 have HBz := zH hb4.size;clear hb4 HR H0 H1 HB;go_wp2_with fail;go_roundw
 case rel => exact ⟨ds ++ [m], d, _, rfl, hstep.out, zz09 H0b.out _ _ zw, zz0d H1b.out _ _, by rw [show (ds ++ [m]).length = ds.length + 1 by simp] at hown4 ⊢; exact ownsRow_setCell_below hown4.out (a := ⟨w.heap.size + 1, 1, none⟩) (Nat.lt_succ_self _) _, HBb.out.setCell (Nat.le_succ _) _, by show _ ≤ _; simpa [World.setCell] using hB4⟩
 case measure => simp [intOf]; omega) : p := h
theorem zt98 {p : Prop} (h : p := by
 injection hs' with hA' _ _
 subst hA';exact ⟨A, ds.length, c, dg ds, by rw [e1], ⟨dg_dg HI.out.lt, HI.out.top rfl⟩, hv.trans hN.symm, hd', hlc⟩) : p := h
theorem zz33 (n : Int) (h : I64 n) (w : World) :
  Calls Tryz.prog 103 #[.int .i64 n] w fun e w' => (∃ v, e = .returned v ∧ BigAt w' v n) ∧ Below w.heap.size w w' := by
 unfold I64 at h;obtain ⟨N, hN⟩ : ∃ N, n.natAbs = N := ⟨_, rfl⟩;have hN2 : N ≤ 9223372036854775808 := by omega
 by_cases hs : n < 0
 ·have e1 : decide (n < 0) = true := decide_eq_true hs
  go_in;go_wp2_with fail;go_loopw [0, 4] (fun s0 s4 wr => ∃ (ds : List Nat) (q : Nat) (v : Value), s0 = .int .i64 (-(q : Int)) ∧ Hid (OfInv N ds q) ∧ ZB wr w.heap.size #[.bool false, .slice none 0 0] 143 ∧
   ZB wr (w.heap.size + 1) #[.bool true, v] 143 ∧ Hid (wr.ownsRow (w.heap.size + 2) 3 1 v ds.length (ds.map fun d => .int .i64 (d : Nat))) ∧ Hid (Below w.heap.size w wr) ∧ Hid (w.heap.size + 2 ≤ wr.heap.size)) (fun s0 _ _ => (intOf s0).natAbs)
  case atStart =>
   refine ⟨[], N, .slice none 0 0, ?_, ⟨fun d hd => by simp at hd, by rw [vl_nil]; simp, fun _ => .inl rfl⟩, zz04 (zz02 _ _) _, ?_, World.ownsRow_nil _ _ _ _, zz01 zBa (by rw [World.size_alloc]; omega) _, by show _ ≤ _; simp⟩
   ·congr 1; omega
   ·have := zz02 (w.alloc (.cells #[.bool false, .slice none 0 0] 143)) (.cells #[.bool true, .slice none 0 0] 143)
    rw [World.size_alloc] at this;exact this
  case round =>
   obtain ⟨ds, q, v, rfl, HI, H0, H1, HR, HB, HSZ⟩ := hrel;have c0 : wr.cell? ⟨w.heap.size + 1, 0, none⟩ = some (.bool true) := zz00 H1.out 0 _ rfl;have c1 : wr.cell? ⟨w.heap.size + 1, 1, none⟩ = some v := zz00 H1.out 1 _ rfl;have f0 := zz05 H1.out 0;have f1 := zz05 H1.out 1;have d0 : wr.cell? ⟨w.heap.size, 0, none⟩ = some (.bool false) := zz00 H0.out 0 _ rfl;have d1 : wr.cell? ⟨w.heap.size, 1, none⟩ = some (.slice none 0 0) := zz00 H0.out 1 _ rfl;have g0 := zz05 H0.out 0;have g1 := zz05 H0.out 1;by_cases hq : q = 0
   ·subst hq
    have t1 : (((0 : Nat) : Int) != 0) = false := rfl;obtain ⟨A, c, rfl, hd, hlc, _, hAB⟩ := zz10 HR.out;go_wp2_with fail;refine bodyPost_ret (v := .agg #[.bool true, .slice A ds.length c]) ?_ rfl ⟨⟨_, rfl, ?_⟩, ?_⟩
    ·simp [results, Tryz.results103, go_sem, d0, d1]
    ·have hv := HI.out.val
     rw [Nat.zero_mul, Nat.add_zero] at hv;obtain ⟨A', c', hs', hd', _, _, _⟩ := zz10 (ownsRow_setCell_below (ownsRow_setCell_below HR.out (a := ⟨w.heap.size, 0, none⟩) (by show w.heap.size < _; omega) (.bool true)) (a := ⟨w.heap.size, 1, none⟩) (by show w.heap.size < _; omega) (.slice A ds.length c))
     exact zt98
    ·exact (HB.out.setCell (Nat.le_refl _) _).setCell (Nat.le_refl _) _
   ·have t1 : ((-(q : Int)) != 0) = true := by simp; omega
    have e2 : (-(q : Int)).tmod 10000 = -((q % 10000 : Nat) : Int) := by rw [Int.neg_tmod, Int.tmod_eq_emod_of_nonneg zw]; omega
    have e3 : (-(q : Int)).tdiv 10000 = -((q / 10000 : Nat) : Int) := by rw [Int.neg_tdiv, Int.tdiv_eq_ediv_of_nonneg zw]; omega
    have hl := zzaz (n := ds.length) (show 1 ≤ q by omega) hN2 (by have := HI.out.val; omega)
    have hB2 : Hid (w.heap.size + 2 ≤ wr.heap.size) := HSZ.out;have hstep := zH (HI.out.step hq);obtain ⟨m, hm⟩ : ∃ m, q % 10000 = m := ⟨_, rfl⟩;obtain ⟨d, hd⟩ : ∃ d, q / 10000 = d := ⟨_, rfl⟩;rw [hm] at hstep e2;rw [hd] at hstep e3;have hm1 : m < 10000 := by omega
    have hdq : d < q := by omega
    have hqN : q ≤ N := by have h1 := HI.out.val; have h2 : q * 1 ≤ q * 10000 ^ ds.length := Nat.mul_le_mul_left _ (Nat.pow_pos zx); omega
    have hd9 : d ≤ 922337203685478 := by omega
    have e5 : wrap64 (-(d : Int)) = -(d : Int) := by unfold wrap64; omega
    clear hm hd;by_cases hm0 : m = 0
    ·have e4 : (-(q : Int)).tmod 10000 = (m : Int) := by rw [e2]; omega
     have u1 : ¬ ((m : Int) < 0) := by omega
     clear e2 hm0;go_wp2_with (at_builtin; refine zz0k _ _ _ _ _ _ el_int (fun d : Nat => Value.int .i64 (d : Int)) m _ _ _ (Below.refl _ wr) HR hB2.out rfl rfl rfl rfl rfl zw zx ?_; intro v4 w4 hown4 hb4 hB4; refine Hid.out ?_)
     refine zH ?_;obtain ⟨A4, c4, rfl, _, _, _, _⟩ := zz10 (ds := ds ++ [m]) (by rw [List.length_append]; exact hown4.out)
     have K0 := zz00 ((hb4.block (w.heap.size + 1) zw).trans H1.out) 0 (.bool true) rfl;exact zt12
    ·have u1 : (-((m : Nat) : Int) < 0) := by omega
     go_wp2_with (at_builtin; refine zz0k _ _ _ _ _ _ el_int (fun d : Nat => Value.int .i64 (d : Int)) m _ _ _ (Below.refl _ wr) HR hB2.out rfl rfl rfl rfl rfl zw zx ?_; intro v4 w4 hown4 hb4 hB4; refine Hid.out ?_)
     refine zH ?_;obtain ⟨A4, c4, rfl, _, _, _, _⟩ := zz10 (ds := ds ++ [m]) (by rw [List.length_append]; exact hown4.out)
     have K0 := zz00 ((hb4.block (w.heap.size + 1) zw).trans H1.out) 0 (.bool true) rfl;exact zt12
 ·have e1 : decide (n < 0) = false := decide_eq_false hs
  go_in;go_wp2_with fail;go_loopw [0, 4] (fun s0 s4 wr => ∃ (ds : List Nat) (q : Nat) (v : Value), s0 = .int .i64 ((q : Int)) ∧ Hid (OfInv N ds q) ∧ ZB wr w.heap.size #[.bool false, .slice none 0 0] 143 ∧
   ZB wr (w.heap.size + 1) #[.bool false, v] 143 ∧ Hid (wr.ownsRow (w.heap.size + 2) 3 1 v ds.length (ds.map fun d => .int .i64 (d : Nat))) ∧ Hid (Below w.heap.size w wr) ∧ Hid (w.heap.size + 2 ≤ wr.heap.size)) (fun s0 _ _ => (intOf s0).natAbs)
  case atStart =>
   refine ⟨[], N, .slice none 0 0, ?_, ⟨fun d hd => by simp at hd, by rw [vl_nil]; simp, fun _ => .inl rfl⟩, zz04 (zz02 _ _) _, ?_, World.ownsRow_nil _ _ _ _, zz01 zBa (by rw [World.size_alloc]; omega) _, by show _ ≤ _; simp⟩
   ·congr 1; omega
   ·have := zz02 (w.alloc (.cells #[.bool false, .slice none 0 0] 143)) (.cells #[.bool false, .slice none 0 0] 143)
    rw [World.size_alloc] at this;exact this
  case round =>
   obtain ⟨ds, q, v, rfl, HI, H0, H1, HR, HB, HSZ⟩ := hrel;have c0 : wr.cell? ⟨w.heap.size + 1, 0, none⟩ = some (.bool false) := zz00 H1.out 0 _ rfl;have c1 : wr.cell? ⟨w.heap.size + 1, 1, none⟩ = some v := zz00 H1.out 1 _ rfl;have f0 := zz05 H1.out 0;have f1 := zz05 H1.out 1;have d0 : wr.cell? ⟨w.heap.size, 0, none⟩ = some (.bool false) := zz00 H0.out 0 _ rfl;have d1 : wr.cell? ⟨w.heap.size, 1, none⟩ = some (.slice none 0 0) := zz00 H0.out 1 _ rfl;have g0 := zz05 H0.out 0;have g1 := zz05 H0.out 1;by_cases hq : q = 0
   ·subst hq
    have t1 : (((0 : Nat) : Int) != 0) = false := rfl;obtain ⟨A, c, rfl, hd, hlc, _, hAB⟩ := zz10 HR.out;go_wp2_with fail;refine bodyPost_ret (v := .agg #[.bool false, .slice A ds.length c]) ?_ rfl ⟨⟨_, rfl, ?_⟩, ?_⟩
    ·simp [results, Tryz.results103, go_sem, d0, d1]
    ·have hv := HI.out.val
     rw [Nat.zero_mul, Nat.add_zero] at hv;obtain ⟨A', c', hs', hd', _, _, _⟩ := zz10 (ownsRow_setCell_below (ownsRow_setCell_below HR.out (a := ⟨w.heap.size, 0, none⟩) (by show w.heap.size < _; omega) (.bool false)) (a := ⟨w.heap.size, 1, none⟩) (by show w.heap.size < _; omega) (.slice A ds.length c))
     exact zt98
    ·exact (HB.out.setCell (Nat.le_refl _) _).setCell (Nat.le_refl _) _
   ·have t1 : (((q : Int)) != 0) = true := by simp; omega
    have e2 : (q : Int).tmod 10000 = ((q % 10000 : Nat) : Int) := by rw [Int.tmod_eq_emod_of_nonneg zw]; omega
    have e3 : (q : Int).tdiv 10000 = ((q / 10000 : Nat) : Int) := by rw [Int.tdiv_eq_ediv_of_nonneg zw]; omega
    have hl := zzaz (n := ds.length) (show 1 ≤ q by omega) hN2 (by have := HI.out.val; omega)
    have hB2 : Hid (w.heap.size + 2 ≤ wr.heap.size) := HSZ.out;have hstep := zH (HI.out.step hq);obtain ⟨m, hm⟩ : ∃ m, q % 10000 = m := ⟨_, rfl⟩;obtain ⟨d, hd⟩ : ∃ d, q / 10000 = d := ⟨_, rfl⟩;rw [hm] at hstep e2;rw [hd] at hstep e3;have hm1 : m < 10000 := by omega
    have hdq : d < q := by omega
    have hqN : q ≤ N := by have h1 := HI.out.val; have h2 : q * 1 ≤ q * 10000 ^ ds.length := Nat.mul_le_mul_left _ (Nat.pow_pos zx); omega
    have hd9 : d ≤ 922337203685478 := by omega
    have e5 : wrap64 (d : Int) = (d : Int) := by unfold wrap64; omega
    clear hm hd;go_wp2_with (at_builtin; refine zz0k _ _ _ _ _ _ el_int (fun d : Nat => Value.int .i64 (d : Int)) m _ _ _ (Below.refl _ wr) HR hB2.out rfl rfl rfl rfl rfl zw zx ?_; intro v4 w4 hown4 hb4 hB4; refine Hid.out ?_)
    refine zH ?_;obtain ⟨A4, c4, rfl, _, _, _, _⟩ := zz10 (ds := ds ++ [m]) (by rw [List.length_append]; exact hown4.out)
    have K0 := zz00 ((hb4.block (w.heap.size + 1) zw).trans H1.out) 0 (.bool false) rfl;exact zt12
theorem zz0v {P : Program} {f : FuncId} {args : Array Value} {w : World} {n : Nat} {v : Value}
  (h : Calls P f args (w.drewN n) fun e w' => e = .returned v ∧ w.drewN n = w') : Calls P f args (w.drewN n) fun e w'' => e = .returned v ∧ ∃ m, w'' = w.drewN m :=
 h.mono fun _ _ ⟨he, hb⟩ => ⟨he, n, hb.symm⟩
def BigBlk (w : World) (p : Nat) (s : Bool) (v : Value) : Prop := w.heap[p]? = some (.cells #[.bool s, v] 143 (0, 0))
theorem BigBlk.lt {w : World} {p : Nat} {s : Bool} {v : Value} (h : BigBlk w p s v) : p < w.heap.size := zL h
theorem BigBlk.c0 {w : World} {p : Nat} {s : Bool} {v : Value} (h : BigBlk w p s v) : w.cell? ⟨p, 0, none⟩ = some (.bool s) := zz00 h 0 _ rfl
theorem BigBlk.c1 {w : World} {p : Nat} {s : Bool} {v : Value} (h : BigBlk w p s v) : w.cell? ⟨p, 1, none⟩ = some v := zz00 h 1 _ rfl
theorem BigBlk.z {w : World} {p : Nat} {s : Bool} {v : Value} (h : BigBlk w p s v) (i : Nat) : w.frozen? ⟨p, i, none⟩ = false := zz05 h i
theorem BigBlk.set0 {w : World} {p : Nat} {s : Bool} {v : Value} (h : BigBlk w p s v) (t : Bool) : BigBlk (w.setCell ⟨p, 0, none⟩ (.bool t)) p t v := zz0d h 0 _
theorem BigBlk.set1 {w : World} {p : Nat} {s : Bool} {v : Value} (h : BigBlk w p s v) (u : Value) : BigBlk (w.setCell ⟨p, 1, none⟩ u) p s u := zz0d h 1 _
theorem BigBlk.oth {w : World} {p : Nat} {s : Bool} {v : Value} (h : BigBlk w p s v) {q : Nat} (i : Nat) (u : Value) (hne : p ≠ q) : BigBlk (w.setCell ⟨q, i, none⟩ u) p s v := zz09 h i u hne
theorem BigBlk.alloc {w : World} {p : Nat} {s : Bool} {v : Value} (h : BigBlk w p s v) (o : Obj) : BigBlk (w.alloc o) p s v := zz04 h o
theorem BigBlk.call {w w' : World} {p : Nat} {s : Bool} {v : Value} (h : BigBlk w p s v) (hb : Below w.heap.size w w') : BigBlk w' p s v := zz06 h hb
theorem BigBlk.below {w w' : World} {p B : Nat} {s : Bool} {v : Value} (h : BigBlk w p s v) (hb : Below B w w') (hp : p < B) : BigBlk w' p s v := (hb.block p hp).trans h
theorem BigBlk.mk (w : World) (p : Nat) (s : Bool) (v : Value) (hp : w.heap.size = p) : BigBlk (w.alloc (.cells #[.bool s, v] 143)) p s v := by subst hp; exact zz02 _ _
theorem DigAt.set {w : World} {A a : Option Addr} {n p l c : Nat} {f : Nat → Nat} {s : Bool} (h : DigAt w A n f) (hp : BigBlk w p s (.slice a l c)) (j : Nat) (u : Value) : DigAt (w.setCell ⟨p, j, none⟩ u) A n f := fun i hi => by
 obtain ⟨b, o, e, hlt, hc⟩ := h i hi;have hne : b ≠ p := fun hbp => by
  subst hbp;rw [cell_of_row w b (o + i) _ _ _ hp] at hc
  match o + i, hc with
  | 0, hc => cases hc
  | 1, hc => cases hc
  | k + 2, hc => cases hc
 refine ⟨b, o, e, by simpa [World.setCell] using hlt, ?_⟩
 rw [World.cell?_setCell_other _ _ _ _ (by intro h; simp only [Addr.mk.injEq] at h; exact hne h.1.symm), hc]
theorem BigAt.form {w : World} {v : Value} {z : Int} (h : BigAt w v z) : ∃ t A n c, v = .agg #[.bool t, .slice A n c] := by
 obtain ⟨A, n, c, f, e, _⟩ := h;exact ⟨_, A, n, c, e⟩
theorem BigAt.set {w : World} {v : Value} {z : Int} {a : Option Addr} {p l c : Nat} {s : Bool} (h : BigAt w v z) (hp : BigBlk w p s (.slice a l c)) (j : Nat) (u : Value) : BigAt (w.setCell ⟨p, j, none⟩ u) v z := by
 obtain ⟨A, n, c', f, e, hc, hv, hd, hn⟩ := h;exact ⟨A, n, c', f, e, hc, hv, hd.set hp j u, hn⟩
theorem BigAt.store {w : World} {z : Int} {a A : Option Addr} {p l c n m : Nat} {s t : Bool} (h : BigAt w (.agg #[.bool t, .slice A n m]) z) (hp : BigBlk w p s (.slice a l c)) :
  BigAt ((w.setCell ⟨p, 0, none⟩ (.bool t)).setCell ⟨p, 1, none⟩ (.slice A n m)) (.agg #[.bool t, .slice A n m]) z := (h.set hp 0 _).set (hp.set0 t) 1 _
theorem zzbz (x : Value) (X : Int) (w : World) (hx : Hid (BigAt w x X)) (bX : X.natAbs < 10000 ^ 40) :
  Calls Tryz.prog 111 #[x] w fun e w' => (∃ v, e = .returned v ∧ BigAt w' v (-X)) ∧ Below w.heap.size w w' := by
 obtain ⟨A, n, c, f, rfl, hc, hv, hd, hn⟩ := hx.out;have hn40 := zz1q (k := 40) hc (by rw [hv]; exact bX)
 obtain ⟨s, hs⟩ : ∃ s, decide (X < 0) = s := ⟨_, rfl⟩;rw [hs];have hz : sgn (!s) (pv f n) = -X := by
  rw [hv, ← hs]; unfold sgn;by_cases h : X < 0
  ·simp [h]; omega
  ·simp [h]; omega
 have HZ := zH hz;have qT := zH (fun w' (h : Hid (DigAt w' A n f)) => zz1y (!s) A n c f w' h hc.toDg zw hn)
 have h1 := BigBlk.mk (w.alloc (.cells #[.bool (!s), .slice A n c] 143)) (w.heap.size + 1) false (.slice none 0 0) (by rw [World.size_alloc])
 have hb1 := zz01 (zz01 (Below.refl w.heap.size w) (Nat.le_refl _) (.cells #[.bool (!s), .slice A n c] 143)) (by rw [World.size_alloc]; omega) (.cells #[.bool false, .slice none 0 0] 143)
 have HD := zH hd;clear hz hv hc hs hd hx bX;go_in;go_wp2_with fail;generalize (w.alloc (.cells #[.bool (!s), .slice A n c] 143)).alloc (.cells #[.bool false, .slice none 0 0] 143) = w1 at *;have hd1 := zH (HD.out.call hb1);have H1 := zH h1;have HB1 := zH hb1;clear h1 hb1;(with_reducible refine (qT.out w1 hd1).mono ?_);rintro e w5 ⟨⟨v5, rfl, hv5⟩, hb5⟩;obtain ⟨t5, A5, n5, c5, rfl⟩ := hv5.form;have H5 := zH (H1.out.call hb5);have HV := zH hv5;have HB5 := zB HB1 hb5;have d0 := H5.out.c0;have d1 := H5.out.c1;have f0 := H5.out.z 0;have f1 := H5.out.z 1;clear hv5 hb5 H1 HB1;go_wp2_with fail;refine bodyPost_ret (v := .agg #[.bool t5, .slice A5 n5 c5]) ?_ rfl ⟨⟨_, rfl, ?_⟩, ?_⟩
 ·simp [results, Tryz.results111, go_sem, d0, d1]
 ·rw [← HZ.out]; exact HV.out.store H5.out
 ·exact (HB5.out.setCell (Nat.le_succ _) _).setCell (Nat.le_succ _) _
end
end Go.Proofs.YtajogedbacpohaaGreatDoor
