/- money: size, neg, add. -/
import Derived.Test.YtfkfpppiikgjbaaMoneyB
import Derived.Test.YtfkfpppiikgjbaaMoneyQ
import Derived.Test.YtfkfpppiikgjbaaBlk
namespace Go.Proofs.Ytfkfpppiikgjbaa
open Go Go.RowKit Mon

theorem add64_0' (x : Int) (w : World) (hx : 0 ≤ x) : (callFunc 130 #[.int .u64 x, .int .u64 0, .int .u64 1]).run Try.prog w =
    .ok (.value (.tuple #[.int .u64 ((x + 1) % 18446744073709551616), .int .u64 ((x + 1) / 18446744073709551616)])) w := by
  simpa using add64 x 0 1 hx (Int.le_refl 0) (by decide) (by decide) w
theorem add64_0'' (x c : Int) (w : World) (hx : 0 ≤ x) (hc : 0 ≤ c) (hc1 : c ≤ 1) : (callFunc 130 #[.int .u64 x, .int .u64 0, .int .u64 c]).run Try.prog w =
    .ok (.value (.tuple #[.int .u64 ((x + c) % 18446744073709551616), .int .u64 ((x + c) / 18446744073709551616)])) w := by
  simpa using add64 x 0 c hx (Int.le_refl 0) hc hc1 w

def ab (a : Int) : Int := if a < 0 then -a else a
theorem ab_word {a : Int} (h : I64 a) : 0 ≤ ab a ∧ ab a < M := by unfold I64 at h; unfold ab M; split <;> omega

theorem size_any (a : Int) (h : I64 a) (w : World) : Calls Try.prog 124 #[.int .i64 a] w fun e w' => e = .returned (.int .u64 (ab a)) ∧ w' = w := by
  unfold I64 at h
  by_cases h0 : a < 0
  · have e1 : IntKind.u64.wrap (-IntKind.u64.wrap a) = ab a := by unfold ab; rw [if_pos h0]; simp only [IntKind.wrap_u64]; omega
    go_enter Try.func124, Try.ntmps124
    go_wp2
    go_ret
    exact ⟨by rw [← e1]; rfl, rfl⟩
  · have e1 : IntKind.u64.wrap a = ab a := by unfold ab; rw [if_neg h0]; simp only [IntKind.wrap_u64]; omega
    go_enter Try.func124, Try.ntmps124
    go_wp2
    go_ret
    exact ⟨by rw [← e1]; rfl, rfl⟩

/-- The words and the carry behind k rounds of 'add'. -/
def adC (a b d e : Int) : Nat → Int
  | 0 => 0
  | 1 => (a + d) / M
  | _ => (b + e + (a + d) / M) / M
def adW (a b c d e f : Int) : Nat → Array Value
  | 0 => #[.int .u64 a, .int .u64 b, .int .u64 c]
  | 1 => #[.int .u64 ((a + d) % M), .int .u64 b, .int .u64 c]
  | 2 => #[.int .u64 ((a + d) % M), .int .u64 ((b + e + (a + d) / M) % M), .int .u64 c]
  | _ => #[.int .u64 ((a + d) % M), .int .u64 ((b + e + (a + d) / M) % M), .int .u64 ((c + f + (b + e + (a + d) / M) / M) % M)]

theorem u64_max_xor (x : Int) (h : 0 ≤ x ∧ x < M) : bits .xor .u64 IntKind.u64.max x = 18446744073709551615 - x := by
  have e : IntKind.u64.max = 18446744073709551615 := by decide +kernel
  rw [e, ← u64_xor_ones x h]
  unfold M at h
  obtain ⟨a, rfl⟩ := Int.eq_ofNat_of_zero_le h.1
  have e : (18446744073709551615 : Int) = ((18446744073709551615 : Nat) : Int) := rfl
  rw [e, u64_xor_nat a _ (by omega) (by decide), u64_xor_nat _ a (by decide) (by omega), Nat.xor_comm]
theorem three (k : Nat) (h : k ≤ 3) : k = 0 ∨ k = 1 ∨ k = 2 ∨ k = 3 := by omega

/-- The same for 'neg': x, y, z: the words turned about. -/
def ngC (x y z : Int) : Nat → Int
  | 0 => 1
  | 1 => (x + 1) / 18446744073709551616
  | 2 => (y + (x + 1) / 18446744073709551616) / 18446744073709551616
  | _ => (z + (y + (x + 1) / 18446744073709551616) / 18446744073709551616) / 18446744073709551616
def ngW (a b c x y z : Int) : Nat → Array Value
  | 0 => #[.int .u64 a, .int .u64 b, .int .u64 c]
  | 1 => #[.int .u64 ((x + 1) % 18446744073709551616), .int .u64 b, .int .u64 c]
  | 2 => #[.int .u64 ((x + 1) % 18446744073709551616), .int .u64 ((y + (x + 1) / 18446744073709551616) % 18446744073709551616), .int .u64 c]
  | _ => #[.int .u64 ((x + 1) % 18446744073709551616), .int .u64 ((y + (x + 1) / 18446744073709551616) % 18446744073709551616), .int .u64 ((z + (y + (x + 1) / 18446744073709551616) / 18446744073709551616) % 18446744073709551616)]

set_option maxRecDepth 100000 in
set_option maxHeartbeats 1000000 in
theorem neg_any (a b c : Int) (ha : 0 ≤ a ∧ a < M) (hb : 0 ≤ b ∧ b < M) (hc : 0 ≤ c ∧ c < M) (w : World) :
    Calls Try.prog 125 #[.agg #[.int .u64 a, .int .u64 b, .int .u64 c]] w fun e w' =>
      e = .returned (.agg (ngW a b c (18446744073709551615 - a) (18446744073709551615 - b) (18446744073709551615 - c) 3)) ∧ Below w.heap.size w w' := by
  go_enter Try.func125, Try.ntmps125
  go_wp2
  go_loopw [3, 4, 5] (fun s3 s4 s5 wr => ∃ k : Nat, k ≤ 3 ∧ s3 = .int .u64 (ngC (18446744073709551615 - a) (18446744073709551615 - b) (18446744073709551615 - c) k) ∧ s5 = .int .i64 k ∧
    Hid (wr.heap[w.heap.size]? = some (.cells (ngW a b c (18446744073709551615 - a) (18446744073709551615 - b) (18446744073709551615 - c) k) 103 (0, 0))) ∧ Hid (wr.heap[w.heap.size + 1]? = some (.cells #[.int .u64 0, .int .u64 0, .int .u64 0] 103 (0, 0))) ∧ Hid (Below w.heap.size w wr)) (fun _ _ s5 _ => 3 - (intOf s5).toNat)
  case atStart => exact ⟨0, by decide, rfl, rfl, blk_old (heap_new _ _) _, by have := heap_new (w.alloc (.cells #[.int .u64 a, .int .u64 b, .int .u64 c] 103)) (.cells #[.int .u64 0, .int .u64 0, .int .u64 0] 103); rw [World.size_alloc] at this; exact this, (below_alloc (below_alloc (Below.refl _ _) (Nat.le_refl _) _) (by simp) _)⟩
  case round =>
    obtain ⟨k, hk, rfl, rfl, H0, H1, HB⟩ := hrel
    have hsg : IntKind.u64.signed = false := rfl
    have xa := u64_max_xor a ha
    have xb := u64_max_xor b hb
    have xc := u64_max_xor c hc
    obtain ⟨x, hx⟩ : ∃ x : Int, 18446744073709551615 - a = x := ⟨_, rfl⟩
    obtain ⟨y, hy⟩ : ∃ y : Int, 18446744073709551615 - b = y := ⟨_, rfl⟩
    obtain ⟨z, hz⟩ : ∃ z : Int, 18446744073709551615 - c = z := ⟨_, rfl⟩
    rw [hx] at xa H0
    rw [hy] at xb H0
    rw [hz] at xc H0
    simp only [hx, hy, hz]
    have x0 : 0 ≤ x := by unfold M at ha; omega
    have x1 : x < 18446744073709551616 := by unfold M at ha; omega
    have y0 : 0 ≤ y := by unfold M at hb; omega
    have y1 : y < 18446744073709551616 := by unfold M at hb; omega
    have z0 : 0 ≤ z := by unfold M at hc; omega
    have z1 : z < 18446744073709551616 := by unfold M at hc; omega
    have HX := Lib.hid hx; have HY := Lib.hid hy; have HZ := Lib.hid hz
    clear hx hy hz
    have hblt : w.heap.size < wr.heap.size := (Array.getElem?_eq_some_iff.1 H0.out).1
    rcases three k hk with rfl | rfl | rfl | rfl
    · have c0 : wr.cell? ⟨w.heap.size, 0, none⟩ = some (.int .u64 a) := cells_of_blk H0.out 0 _ rfl
      have f0 := free_of_blk H0.out 0
      have q := fun w => add64_0' x w x0
      simp only [ngC]
      go_wp2
      go_roundw
      case rel => exact ⟨1, by decide, rfl, rfl, set_blk H0.out _ _, set_oth H1.out _ _ (by omega), HB.out.setCell (Nat.le_refl _) _⟩
      case measure => simp [intOf]
    · have c0 : wr.cell? ⟨w.heap.size, 1, none⟩ = some (.int .u64 b) := cells_of_blk H0.out 1 _ rfl
      have f0 := free_of_blk H0.out 1
      have q := fun w => add64_0'' y ((x + 1) / 18446744073709551616) w y0 (by omega) (by omega)
      simp only [ngC]
      go_wp2
      go_roundw
      case rel => exact ⟨2, by decide, rfl, rfl, set_blk H0.out _ _, set_oth H1.out _ _ (by omega), HB.out.setCell (Nat.le_refl _) _⟩
      case measure => simp [intOf]
    · have c0 : wr.cell? ⟨w.heap.size, 2, none⟩ = some (.int .u64 c) := cells_of_blk H0.out 2 _ rfl
      have f0 := free_of_blk H0.out 2
      have q := fun w => add64_0'' z ((y + (x + 1) / 18446744073709551616) / 18446744073709551616) w z0 (by omega) (by omega)
      simp only [ngC]
      go_wp2
      go_roundw
      case rel => exact ⟨3, by decide, rfl, rfl, set_blk H0.out _ _, set_oth H1.out _ _ (by omega), HB.out.setCell (Nat.le_refl _) _⟩
      case measure => simp [intOf]
    · have c0 : wr.cell? ⟨w.heap.size, 0, none⟩ = some (.int .u64 ((x + 1) % 18446744073709551616)) := cells_of_blk H0.out 0 _ rfl
      have c1 : wr.cell? ⟨w.heap.size, 1, none⟩ = some (.int .u64 ((y + (x + 1) / 18446744073709551616) % 18446744073709551616)) := cells_of_blk H0.out 1 _ rfl
      have c2 : wr.cell? ⟨w.heap.size, 2, none⟩ = some (.int .u64 ((z + (y + (x + 1) / 18446744073709551616) / 18446744073709551616) % 18446744073709551616)) := cells_of_blk H0.out 2 _ rfl
      have d0 : wr.cell? ⟨w.heap.size + 1, 0, none⟩ = some (.int .u64 0) := cells_of_blk H1.out 0 _ rfl
      have d1 : wr.cell? ⟨w.heap.size + 1, 1, none⟩ = some (.int .u64 0) := cells_of_blk H1.out 1 _ rfl
      have d2 : wr.cell? ⟨w.heap.size + 1, 2, none⟩ = some (.int .u64 0) := cells_of_blk H1.out 2 _ rfl
      have f0 := free_of_blk H1.out 0
      have f1 := free_of_blk H1.out 1
      have f2 := free_of_blk H1.out 2
      simp only [ngC]
      go_wp2
      refine bodyPost_ret (v := .agg #[.int .u64 ((x + 1) % 18446744073709551616), .int .u64 ((y + (x + 1) / 18446744073709551616) % 18446744073709551616), .int .u64 ((z + (y + (x + 1) / 18446744073709551616) / 18446744073709551616) % 18446744073709551616)]) ?_ rfl ⟨?_, ?_⟩
      · simp [results, Try.results125, go_sem, d0, d1, d2]
      · rw [HX.out, HY.out, HZ.out]; rfl
      · exact ((HB.out.setCell (Nat.le_succ _) _).setCell (Nat.le_succ _) _).setCell (Nat.le_succ _) _
end Go.Proofs.Ytfkfpppiikgjbaa
