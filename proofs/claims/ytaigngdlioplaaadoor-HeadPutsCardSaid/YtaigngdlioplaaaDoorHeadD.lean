/- The reference's Hash of a header. -/
import Derived.Test.YtaigngdlioplaaaDoorHeadC
namespace Go.Proofs.YtaigngdlioplaaaDoor
open Go Go.RowKit

set_option maxRecDepth 100000 in
theorem rHHash_any (h : Hd) (m : Nat) (w : World) (hm : Hid (1 ≤ m ∧ m ≤ 32)) (hk : Hid (HdFit h)) :
    Calls Tryd.prog 22 #[.agg key72, .agg h.cells, .int .i64 m] w fun e w' => e = .returned (.string (hashS (nth kList) hSt h m)) ∧ Below w.heap.size w w' := by
  have hsz := putH_size h hk.out
  have q1 := Lib.hid (fun w => rHPut_any h w hk)
  have q2 := Lib.hid (fun w => rCut_any (putH h) m w (by show _ ≤ _; omega) hm)
  have hks := Lib.hid key72_size
  unfold hashS
  generalize key72 = A at *
  generalize cutS (nth kList) hSt (putH h) m = S at *
  generalize putH h = X at *
  unfold Hd.cells at *
  obtain ⟨w1, hw1⟩ : ∃ w1, (w.alloc (.cells A 37)).alloc (.cells #[.int .i64 h.i, .int .i64 h.f, .int .i64 h.c, .int .i64 h.b, .string h.p, .string h.r] 23) = w1 := ⟨_, rfl⟩
  have HA : Hid (w1.heap[w.heap.size]? = some (.cells A 37 (0, 0))) := by rw [← hw1]; exact blk_old (blk_new _ _ _ rfl) _
  have HB : w1.heap[w.heap.size + 1]? = some (.cells #[.int .i64 h.i, .int .i64 h.f, .int .i64 h.c, .int .i64 h.b, .string h.p, .string h.r] 23 (0, 0)) := by rw [← hw1]; exact blk_new _ _ _ (by simp)
  have HL : Hid (Below w.heap.size w w1) := by rw [← hw1]; exact below_alloc (below_alloc (Below.refl _ _) (Nat.le_refl _) _) (by simp) _
  have HW1 := Lib.hid hw1
  clear hw1 hsz
  go_enter Tryd.func22, Tryd.ntmps22
  go_wp2_with fail
  rw [HW1.out]
  have c0 : w1.cell? ⟨w.heap.size + 1, 0, none⟩ = some (.int .i64 h.i) := cells_of_blk HB 0 _ rfl
  have c1 : w1.cell? ⟨w.heap.size + 1, 1, none⟩ = some (.int .i64 h.f) := cells_of_blk HB 1 _ rfl
  have c2 : w1.cell? ⟨w.heap.size + 1, 2, none⟩ = some (.int .i64 h.c) := cells_of_blk HB 2 _ rfl
  have c3 : w1.cell? ⟨w.heap.size + 1, 3, none⟩ = some (.int .i64 h.b) := cells_of_blk HB 3 _ rfl
  have c4 : w1.cell? ⟨w.heap.size + 1, 4, none⟩ = some (.string h.p) := cells_of_blk HB 4 _ rfl
  have c5 : w1.cell? ⟨w.heap.size + 1, 5, none⟩ = some (.string h.r) := cells_of_blk HB 5 _ rfl
  have l1 := (Array.getElem?_eq_some_iff.1 HB).1
  clear HB
  refine wp_region_ext (by kernel_rfl) (by kernel_rfl) ?_
  refine BigFrame.wpQuiet_want rfl fun K hK => ?_
  refine quiet_load_row 37 (.tmp 3) rfl w.heap.size rfl A ?_ (hK _ ?_)
  · rintro wz ⟨x, rfl⟩
    exact run_loadVar_row x.w w.heap.size 37 37 A (0, 0) _ ((x.below.block _ (by omega)).trans HA.out) Tryd.underlying37 rfl (by rw [hks.out]; kernel_rfl)
  clear hK K
  simp only [Act.put, List.setIfInBounds_toArray, List.set_cons_succ, List.set_cons_zero]
  repeat (go_big_quiet_step (first | (with_reducible exact ext_call (q1.out _)) | (with_reducible exact ext_call (q2.out _))))
  refine wpQuiet_nil ?_
  rintro w' ⟨y, rfl⟩
  have HEND := Lib.hid (HL.out.trans (y.below.mono HL.out.size))
  go_wp2_with fail
  go_ret
  exact ⟨rfl, HEND.out⟩
end Go.Proofs.YtaigngdlioplaaaDoor
