/- money: the sum's words. -/
import Derived.Test.YtfkfpppiikgjbaaMoneyC
import Derived.Test.YtfkfpppiikgjbaaRegB
namespace Go.Proofs.Ytfkfpppiikgjbaa
open Go Go.RowKit Mon

def sumA (V : Int) : Array Value := #[.int .u64 (w0 V), .int .u64 (w1 V), .int .u64 (w2 V)]
/-- A sum in a block. -/
def SumAt (w : World) (g : Nat) (V : Int) : Prop := w.heap[g]? = some (.cells (sumA V) 105 (0, 0))

def adV (x : Int) : Int := x % 18446744073709551616
def adK (x : Int) : Int := x / 18446744073709551616
/-- The words and the carry behind k rounds of 'add'. -/
def acC (a b c d e f : Int) : Nat → Int
  | 0 => 0
  | 1 => (a + d) / 18446744073709551616
  | 2 => (b + e + (a + d) / 18446744073709551616) / 18446744073709551616
  | _ => (c + f + (b + e + (a + d) / 18446744073709551616) / 18446744073709551616) / 18446744073709551616
def acW (a b c d e f : Int) : Nat → Array Value
  | 0 => #[.int .u64 a, .int .u64 b, .int .u64 c]
  | 1 => #[.int .u64 ((a + d) % 18446744073709551616), .int .u64 b, .int .u64 c]
  | 2 => #[.int .u64 ((a + d) % 18446744073709551616), .int .u64 ((b + e + (a + d) / 18446744073709551616) % 18446744073709551616), .int .u64 c]
  | _ => #[.int .u64 ((a + d) % 18446744073709551616), .int .u64 ((b + e + (a + d) / 18446744073709551616) % 18446744073709551616), .int .u64 ((c + f + (b + e + (a + d) / 18446744073709551616) / 18446744073709551616) % 18446744073709551616)]

theorem grown_alloc0 {a w : World} {g : Option Nat} (h : a.grownBy w g) (o : Obj) : a.grownBy (w.alloc o) g :=
  ⟨h.os, h.tape, h.output, by rw [World.size_alloc]; exact Nat.le_succ_of_le h.size, fun i hi hne => (Below.heap_alloc w o i (Nat.lt_of_lt_of_le hi h.size)).trans (h.block i hi hne)⟩

set_option maxRecDepth 100000 in
set_option maxHeartbeats 1000000 in
theorem addW_any (g : Nat) (a b c d e f : Int) (ha : 0 ≤ a ∧ a < M) (hb : 0 ≤ b ∧ b < M) (hc : 0 ≤ c ∧ c < M) (hd : 0 ≤ d ∧ d < M) (he : 0 ≤ e ∧ e < M) (hf : 0 ≤ f ∧ f < M) (w : World)
    (hS : Hid (w.heap[g]? = some (.cells (acW a b c d e f 0) 105 (0, 0)))) :
    Calls Try.prog 126 #[.pointer (some ⟨g, 0, none⟩), .agg #[.int .u64 d, .int .u64 e, .int .u64 f]] w fun r w' =>
      r = .returned (.tuple #[]) ∧ w'.heap[g]? = some (.cells (acW a b c d e f 3) 105 (0, 0)) ∧ w.grownBy w' (some g) := by
  have hglt : g < w.heap.size := (Array.getElem?_eq_some_iff.1 hS.out).1
  go_enter Try.func126, Try.ntmps126
  go_wp2_with fail
  go_loopw [4, 5, 6] (fun s4 s5 s6 wr => ∃ k : Nat, k ≤ 3 ∧ s4 = .int .u64 (acC a b c d e f k) ∧ s6 = .int .i64 k ∧
    Hid (wr.heap[g]? = some (.cells (acW a b c d e f k) 105 (0, 0))) ∧ Hid (wr.heap[w.heap.size]? = some (.cells #[.int .u64 d, .int .u64 e, .int .u64 f] 103 (0, 0))) ∧ Hid (w.grownBy wr (some g))) (fun _ _ s6 _ => 3 - (intOf s6).toNat)
  case atStart => exact ⟨0, by decide, rfl, rfl, blk_old hS.out _, heap_new _ _, grown_alloc0 (World.grownBy.refl _ _) _⟩
  case round =>
    obtain ⟨k, hk, rfl, rfl, H0, H1, HB⟩ := hrel
    have hne : ¬ g = w.heap.size := by omega
    have ha0 := ha.1; have hb0 := hb.1; have hc0 := hc.1; have hd0 := hd.1; have he0 := he.1; have hf0 := hf.1
    have ha1 := ha.2; have hb1 := hb.2; have hc1 := hc.2; have hd1 := hd.2; have he1 := he.2; have hf1 := hf.2
    unfold M at ha1 hb1 hc1 hd1 he1 hf1
    clear ha hb hc hd he hf
    clear hS
    have hglt2 : g < wr.heap.size := (Array.getElem?_eq_some_iff.1 H0.out).1
    have hblt : w.heap.size < wr.heap.size := (Array.getElem?_eq_some_iff.1 H1.out).1
    by_cases hk3 : k = 3
    · subst hk3
      go_wp2_with fail
      go_end0
      exact ⟨rfl, H0.out, HB.out⟩
    · have hk' : k < 3 := by omega
      have key : ∃ x y s c' : Int, (wr.cell? ⟨g, k, none⟩ = some (.int .u64 x)) ∧ (wr.cell? ⟨w.heap.size, k, none⟩ = some (.int .u64 y)) ∧
          (∀ w : World, (callFunc 130 #[.int .u64 x, .int .u64 y, .int .u64 (acC a b c d e f k)]).run Try.prog w = .ok (.value (.tuple #[.int .u64 s, .int .u64 c'])) w) ∧
          c' = acC a b c d e f (k + 1) ∧ (acW a b c d e f k).setIfInBounds k (.int .u64 s) = acW a b c d e f (k + 1) := by
        rcases three k hk with rfl | rfl | rfl | rfl
        · exact ⟨a, d, _, _, cells_of_blk H0.out 0 _ rfl, cells_of_blk H1.out 0 _ rfl, fun w => add64_0 a d ha0 hd0 w, rfl, rfl⟩
        · exact ⟨b, e, _, _, cells_of_blk H0.out 1 _ rfl, cells_of_blk H1.out 1 _ rfl, fun w => add64 b e _ hb0 he0 (by simp only [acC]; omega) (by simp only [acC]; omega) w, rfl, rfl⟩
        · exact ⟨c, f, _, _, cells_of_blk H0.out 2 _ rfl, cells_of_blk H1.out 2 _ rfl, fun w => add64 c f _ hc0 hf0 (by simp only [acC]; omega) (by simp only [acC]; omega) w, rfl, rfl⟩
        · omega
      obtain ⟨x, y, s, c', hx, hy, q, hc', hs⟩ := key
      obtain ⟨cc, hcc⟩ : ∃ cc : Int, acC a b c d e f k = cc := ⟨_, rfl⟩
      rw [hcc] at q ⊢
      have HC := Lib.hid hc'
      have HS := Lib.hid hs
      have f0 := free_of_blk H0.out k
      clear hc' hs hcc hk
      go_wp2_with fail
      refine wp_region_branch [0, 1, 2, 3, 4, 5, 6, 8, 9, 10, 11, 16, 17] 8 #[true, true, true, true, true, true, true, false, true, true, true, true, false, false, false, false, true, true, false, false, false] (by kernel_rfl) (by kernel_rfl) (by kernel_rfl) (by kernel_rfl) (fun wz => Hid (wz.cell? ⟨w.heap.size, k, none⟩ = some (.int .u64 y))) hy ?_
      simp only [opsAt, List.getElem?_toArray, List.getElem?_cons_zero, List.getElem?_cons_succ]
      refine pure_move rfl rfl ?_
      refine pure_move rfl rfl ?_
      refine pure_move rfl rfl ?_
      refine pure_move rfl rfl ?_
      refine pure_at (.pointer (some ⟨g, 0, none⟩)) rfl (fun wz _ => by unfold execOp; go_simp) ?_
      refine pure_at (.pointer (some ⟨g, 0, none⟩)) rfl (fun wz _ => by unfold execOp; go_simp) ?_
      refine pure_at (.pointer (some ⟨g, k, none⟩)) rfl (fun wz _ => by unfold execOp; go_simp) ?_
      refine pure_move rfl rfl ?_
      refine pure_at (.pointer (some ⟨w.heap.size, k, none⟩)) rfl (fun wz _ => by unfold execOp; go_simp) ?_
      refine pure_at (.int .u64 y) rfl (fun wz hC => by have := (Hid.out hC); unfold execOp; go_simp) ?_
      refine pure_move rfl rfl ?_
      refine pure_at (.pointer (some ⟨g, 0, none⟩)) rfl (fun wz _ => by unfold execOp; go_simp) ?_
      refine pure_at (.pointer (some ⟨g, 0, none⟩)) rfl (fun wz _ => by unfold execOp; go_simp) ?_
      unfold wpPure
      go_simp
      refine wpAnyC_one 7 (L' := #[true, true, true, true, true, true, true, true, true, true, true, true, false, false, false, false, true, true, false, false, false]) (by kernel_rfl) (by kernel_rfl) rfl rfl ?_
      go_wp2_with fail
      rw [StepQ_normal]
      refine ⟨hy, ?_⟩
      refine wpAnyC_one 12 (L' := #[true, true, true, true, true, true, true, true, true, true, true, true, true, false, false, false, true, true, false, false, false]) (by kernel_rfl) (by kernel_rfl) rfl rfl ?_
      go_wp2_with fail
      rw [StepQ_normal]
      refine ⟨hy, ?_⟩
      refine wpAnyC_one 13 (L' := #[true, true, true, true, true, true, true, true, true, true, true, true, true, true, false, false, true, true, false, false, false]) (by kernel_rfl) (by kernel_rfl) rfl rfl ?_
      go_wp2_with fail
      rw [StepQ_normal]
      refine ⟨hy, ?_⟩
      refine pure_all (by kernel_rfl) hy 3 [14, 15] _ _ (by kernel_rfl) ?_ (fun a' h => h)
      simp only [opsAt, List.getElem?_toArray, List.getElem?_cons_zero, List.getElem?_cons_succ]
      refine pure_at (.int .u64 s) rfl (fun wz _ => by unfold execOp; go_simp) ?_
      refine pure_at (.int .u64 c') rfl (fun wz _ => by unfold execOp; go_simp) ?_
      unfold wpPure
      go_simp
      refine wpAnyC_one 18 (L' := #[true, true, true, true, true, true, true, true, true, true, true, true, true, true, true, true, true, true, true, false, false]) (by kernel_rfl) (by kernel_rfl) rfl rfl ?_
      go_wp2_with fail
      rw [StepQ_normal]
      refine ⟨hy, ?_⟩
      refine wpAnyC_one 19 (L' := #[true, true, true, true, true, true, true, true, true, true, true, true, true, true, true, true, true, true, true, true, false]) (by kernel_rfl) (by kernel_rfl) rfl rfl ?_
      go_wp2_with fail
      rw [StepQ_normal]
      have HY2 : Hid ((wr.drew.setCell ⟨g, k, none⟩ (.int .u64 s)).cell? ⟨w.heap.size, k, none⟩ = some (.int .u64 y)) := by
        have e : (wr.drew.setCell ⟨g, k, none⟩ (.int .u64 s)).heap[w.heap.size]? = wr.heap[w.heap.size]? := set_oth rfl _ _ (Ne.symm hne)
        have h1 := hy
        unfold World.cell? at h1
        show World.cell? _ _ = _
        unfold World.cell?
        rw [e]; exact h1
      refine ⟨HY2.out, ?_⟩
      refine wpAnyC_one 20 (L' := #[true, true, true, true, true, true, true, true, true, true, true, true, true, true, true, true, true, true, true, true, true]) (by kernel_rfl) (by kernel_rfl) rfl rfl ?_
      go_wp2_with fail
      rw [StepQ_normal]
      refine ⟨HY2.out, ?_⟩
      refine ⟨by kernel_rfl, ?_⟩
      rw [OnlyN_normal]
      clear HY2 hx hy q f0
      go_wp2_with fail
      go_roundw
      case rel => exact ⟨k + 1, by omega, by rw [HC.out], by go_num, by rw [← HS.out]; exact set_blk H0.out _ _, set_oth H1.out _ _ (Ne.symm hne), grown_set HB.out 1 _ _⟩
      case measure => simp [intOf]; omega
end Go.Proofs.Ytfkfpppiikgjbaa
