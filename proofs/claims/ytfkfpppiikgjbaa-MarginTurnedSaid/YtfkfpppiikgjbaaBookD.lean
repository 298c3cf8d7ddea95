/- Books: find. -/
import Derived.Test.YtfkfpppiikgjbaaBookC
namespace Go.Proofs.Ytfkfpppiikgjbaa
open Go Go.RowKit
set_option linter.unusedVariables false
set_option linter.unusedSimpArgs false

set_option maxRecDepth 100000 in
set_option maxHeartbeats 2000000 in
theorem FindHolder_any (v : Value) (l : List (List Int)) (id : Int) (p : Nat) (w : World) (hv : Hid (RecAt w v 4 l)) (hl : l.length ≤ 1000000) (hp : p ≤ l.length) (hlt : Hid (∀ (h : Nat) (r : List Int), l[h]? = some r → (r.headD 0 < id ↔ h < p))) (hF : Hid (false = match l[p]? with | some r => decide (r.headD 0 = id) | none => false)) :
    Calls Try.prog 96 #[v, .int .i64 id, .func (.func 50) #[] #[]] w fun e w' => e = .returned (.tuple #[.agg #[.int .i64 0, .int .i64 0, .int .i64 0, .int .i64 0], .bool false]) ∧ Below w.heap.size w w' := by
  have q := Lib.hid (fun w hv => SearchHolder_any v l id p false w hv hl hp hlt hF)
  have hv1 := Lib.hid (hv.out.call (below_alloc (Below.refl _ _) (Nat.le_refl _) (.cells #[.int .i64 0, .int .i64 0, .int .i64 0, .int .i64 0] 39)))
  have HN := Lib.hid (heap_new w (.cells #[.int .i64 0, .int .i64 0, .int .i64 0, .int .i64 0] 39))
  go_enter Try.func96, Try.ntmps96
  go_wp2_with fail
  with_reducible refine (q.out _ hv1).mono ?_
  rintro e w2 ⟨rfl, hb⟩
  have k0 := blk_call HN.out hb
  have k1 : (w2.alloc (.cells #[.int .i64 0, .int .i64 0, .int .i64 0, .int .i64 0] 39)).heap[w.heap.size]? = some (.cells #[.int .i64 0, .int .i64 0, .int .i64 0, .int .i64 0] 39 (0, 0)) := blk_old k0 _
  have k2 : (w2.alloc (.cells #[.int .i64 0, .int .i64 0, .int .i64 0, .int .i64 0] 39)).heap[w2.heap.size]? = some (.cells #[.int .i64 0, .int .i64 0, .int .i64 0, .int .i64 0] 39 (0, 0)) := heap_new w2 _
  have hB3 : Hid (Below w.heap.size w (w2.alloc (.cells #[.int .i64 0, .int .i64 0, .int .i64 0, .int .i64 0] 39))) := below_alloc ((below_alloc (Below.refl _ _) (Nat.le_refl _) _).trans (hb.mono (by simp))) (by have := hb.size; simp at this; omega) _
  have c0 := cells_of_blk k2 0 _ rfl
  have c1 := cells_of_blk k2 1 _ rfl
  have c2 := cells_of_blk k2 2 _ rfl
  have c3 := cells_of_blk k2 3 _ rfl
  have d0 := cells_of_blk k1 0 _ rfl
  have d1 := cells_of_blk k1 1 _ rfl
  have d2 := cells_of_blk k1 2 _ rfl
  have d3 := cells_of_blk k1 3 _ rfl
  have f0 := free_of_blk k1 0
  have f1 := free_of_blk k1 1
  have f2 := free_of_blk k1 2
  have f3 := free_of_blk k1 3
  have K1 := Lib.hid k1
  clear k0 k1 k2 hb
  go_wp2_with fail
  refine bodyPost_ret (v := .tuple #[.agg #[.int .i64 0, .int .i64 0, .int .i64 0, .int .i64 0], .bool false]) ?_ rfl ⟨rfl, ?_⟩
  · rw [results_cell_tmp rfl]; go_simp
  · exact Below.setCell (Below.setCell (Below.setCell (Below.setCell hB3.out (Nat.le_refl _) _) (Nat.le_refl _) _) (Nat.le_refl _) _) (Nat.le_refl _) _
set_option maxRecDepth 100000 in
set_option maxHeartbeats 2000000 in
theorem FindHolder_hit (v : Value) (l : List (List Int)) (id x0 x1 x2 x3 : Int) (p : Nat) (w : World) (hv : Hid (RecAt w v 4 l)) (hl : l.length ≤ 1000000) (hp : p < l.length) (hlt : Hid (∀ (h : Nat) (r : List Int), l[h]? = some r → (r.headD 0 < id ↔ h < p))) (hF : Hid (true = match l[p]? with | some r => decide (r.headD 0 = id) | none => false)) (hr : Hid (l[p]? = some [x0, x1, x2, x3])) :
    Calls Try.prog 96 #[v, .int .i64 id, .func (.func 50) #[] #[]] w fun e w' => e = .returned (.tuple #[.agg #[.int .i64 x0, .int .i64 x1, .int .i64 x2, .int .i64 x3], .bool true]) ∧ Below w.heap.size w w' := by
  have q := Lib.hid (fun w hv => SearchHolder_any v l id p true w hv hl (by omega) hlt hF)
  have hv1 := Lib.hid (hv.out.call (below_alloc (Below.refl _ _) (Nat.le_refl _) (.cells #[.int .i64 0, .int .i64 0, .int .i64 0, .int .i64 0] 39)))
  have HN := Lib.hid (heap_new w (.cells #[.int .i64 0, .int .i64 0, .int .i64 0, .int .i64 0] 39))
  obtain ⟨A, c, rfl, hci⟩ := hv.out
  obtain ⟨_, b0, o0, rfl, hbl, hc⟩ := hci p _ hr.out
  have e0 := Lib.hid (hc 0 _ rfl)
  have e1 := Lib.hid (hc 1 _ rfl)
  have e2 := Lib.hid (hc 2 _ rfl)
  have e3 := Lib.hid (hc 3 _ rfl)
  clear hci hc
  go_enter Try.func96, Try.ntmps96
  go_wp2_with fail
  with_reducible refine (q.out _ hv1).mono ?_
  rintro e w2 ⟨rfl, hb⟩
  have k1 := blk_call HN.out hb
  have hB : Below w.heap.size w w2 := (below_alloc (Below.refl _ _) (Nat.le_refl _) _).trans (hb.mono (by simp))
  have HB := Lib.hid hB
  have c0 := (hB.cell (p := ⟨b0, o0 + p * 4, none⟩) hbl).trans e0.out
  have c1 := (hB.cell (p := ⟨b0, o0 + p * 4 + 1, none⟩) hbl).trans e1.out
  have c2 := (hB.cell (p := ⟨b0, o0 + p * 4 + 2, none⟩) hbl).trans e2.out
  have c3 := (hB.cell (p := ⟨b0, o0 + p * 4 + 3, none⟩) hbl).trans e3.out
  have d0 := cells_of_blk k1 0 _ rfl
  have d1 := cells_of_blk k1 1 _ rfl
  have d2 := cells_of_blk k1 2 _ rfl
  have d3 := cells_of_blk k1 3 _ rfl
  have f0 := free_of_blk k1 0
  have f1 := free_of_blk k1 1
  have f2 := free_of_blk k1 2
  have f3 := free_of_blk k1 3
  clear k1 hb hB
  go_wp2_with fail
  refine bodyPost_ret (v := .tuple #[.agg #[.int .i64 x0, .int .i64 x1, .int .i64 x2, .int .i64 x3], .bool true]) ?_ rfl ⟨rfl, ?_⟩
  · rw [results_cell_tmp rfl]; go_simp
  · exact Below.setCell (Below.setCell (Below.setCell (Below.setCell HB.out (Nat.le_refl _) _) (Nat.le_refl _) _) (Nat.le_refl _) _) (Nat.le_refl _) _
end Go.Proofs.Ytfkfpppiikgjbaa
