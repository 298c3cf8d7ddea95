/- The reference's event. -/
import Derived.Test.YtgjehokkmdbknaaDoorEventE
import Derived.Test.YtgjehokkmdbknaaDoorRegT
namespace Go.Proofs.YtgjehokkmdbknaaDoor
open Go.RowKit

theorem heap_new (w : World) (o : Obj) : (w.alloc o).heap[w.heap.size]? = some o := heap_alloc_new w o
set_option maxRecDepth 100000 in
set_option maxHeartbeats 4000000 in
theorem refevent_any (b n c : Nat) (x : Nat → Int) (w : World) (hn : Hid (7 ≤ n)) (h : Hid (∀ i, i < 7 → w.cell? ⟨b, 0 + i, none⟩ = some (.int .i64 (x i)))) (hb : Hid (b < w.heap.size)) :
    Calls Tryd.prog 49 #[.slice (some ⟨b, 0, none⟩) n c] w fun e w' => e = .returned (.agg #[.int .i64 (x 0), .int .i64 (x 1), .int .i64 (x 2), .int .i64 (x 3), .int .i64 (x 4), .int .i64 (x 5), .int .i64 (x 6)]) ∧ Below w.heap.size w w' := by
  have hn2 : 7 ≤ n := hn.out
  have hb2 := hb.out
  have e0 := h.out 0 (by omega)
  have e1 := h.out 1 (by omega)
  have e2 := h.out 2 (by omega)
  have e3 := h.out 3 (by omega)
  have e4 := h.out 4 (by omega)
  have e5 := h.out 5 (by omega)
  have e6 := h.out 6 (by omega)
  simp only [Nat.zero_add] at e0 e1 e2 e3 e4 e5 e6
  generalize x 0 = x0 at *
  generalize x 1 = x1 at *
  generalize x 2 = x2 at *
  generalize x 3 = x3 at *
  generalize x 4 = x4 at *
  generalize x 5 = x5 at *
  generalize x 6 = x6 at *
  go_enter Tryd.func49, Tryd.ntmps49
  go_wp2_with fail
  refine wp_region_ext_tail 22 (by kernel_rfl) (by kernel_rfl) ?_
  simp only [List.take_succ_cons, List.take_zero, List.drop_succ_cons, List.drop_zero]
  repeat (go_big_quiet_step (fail))
  refine wpQuiet_nil ?_
  rintro w' ⟨y, rfl⟩
  have hblk := (y.below.block w.heap.size (by simp)).trans (heap_new w _)
  have HY := Lib.hid y.below
  generalize y.w = w2 at *
  have f0 := free_of_blk hblk 0
  have f1 := free_of_blk hblk 1
  have f2 := free_of_blk hblk 2
  have f3 := free_of_blk hblk 3
  have f4 := free_of_blk hblk 4
  have f5 := free_of_blk hblk 5
  have f6 := free_of_blk hblk 6
  have c0 := cells_of_blk hblk 0 _ rfl
  have c1 := cells_of_blk hblk 1 _ rfl
  have c2 := cells_of_blk hblk 2 _ rfl
  have c3 := cells_of_blk hblk 3 _ rfl
  have c4 := cells_of_blk hblk 4 _ rfl
  have c5 := cells_of_blk hblk 5 _ rfl
  have c6 := cells_of_blk hblk 6 _ rfl
  clear hblk y
  go_wp2_with fail
  refine bodyPost_ret (v := .agg #[.int .i64 x0, .int .i64 x1, .int .i64 x2, .int .i64 x3, .int .i64 x4, .int .i64 x5, .int .i64 x6]) ?_ rfl ⟨rfl, ?_⟩
  · simp [results, Tryd.results49, go_sem, c0, c1, c2, c3, c4, c5, c6]
  · refine Below.setCell (Below.setCell (Below.setCell (Below.setCell (Below.setCell (Below.setCell (Below.setCell (below_to ((Below.refl _ w).alloc (Nat.le_refl _) _) HY.out) ?_ _) ?_ _) ?_ _) ?_ _) ?_ _) ?_ _) ?_ _
    all_goals exact Nat.le_refl _
end Go.Proofs.YtgjehokkmdbknaaDoor
