/- The head: Chain's own test. -/
import Derived.Test.YtaigngdlioplaaaDoorHeadE
namespace Go.Proofs.YtaigngdlioplaaaDoor
open Go Go.RowKit

set_option maxRecDepth 100000 in
set_option maxHeartbeats 4000000 in
theorem fits_any (h : Hd) (n : Int) (bn bp : Nat) (ix f : Int) (p : ByteArray) (w : World) (hn : Hid (1 ≤ n ∧ n ≤ 32)) (h0 : Hid (w.cell? ⟨bn, 0, none⟩ = some (.int .i64 n))) (h1 : Hid (w.cell? ⟨bp, 0, none⟩ = some (.int .i64 ix))) (h2 : Hid (w.cell? ⟨bp, 1, none⟩ = some (.int .i64 f))) (h3 : Hid (w.cell? ⟨bp, 2, none⟩ = some (.string p))) (hb : bn < w.heap.size ∧ bp < w.heap.size) :
    Calls Tryd.prog 96 #[.agg h.cells, .pointer (some ⟨bn, 0, none⟩), .pointer (some ⟨bp, 0, none⟩)] w fun e w' => e = .returned (.bool (mayB h n && decide (ix = h.i ∧ f = h.f ∧ p = h.p))) ∧ Below w.heap.size w w' := by
  obtain ⟨hbn, hbp⟩ := hb
  have qm := Lib.hid (fun w => May_any h n w hn)
  obtain ⟨B, hB⟩ : ∃ B, mayB h n = B := ⟨_, rfl⟩
  rw [hB] at qm ⊢
  clear hB
  obtain ⟨i, fi, cc, bb, pp, rr⟩ := h
  unfold Hd.cells at *
  simp only [] at qm ⊢
  obtain ⟨w1, hw1⟩ : ∃ w1, w.alloc (.cells #[.int .i64 i, .int .i64 fi, .int .i64 cc, .int .i64 bb, .string pp, .string rr] 23) = w1 := ⟨_, rfl⟩
  have HB : w1.heap[w.heap.size]? = some (.cells #[.int .i64 i, .int .i64 fi, .int .i64 cc, .int .i64 bb, .string pp, .string rr] 23 (0, 0)) := by rw [← hw1]; exact blk_new _ _ _ rfl
  have HL : Below w.heap.size w w1 := by rw [← hw1]; exact below_alloc (Below.refl _ _) (Nat.le_refl _) _
  have e0 : w1.cell? ⟨bn, 0, none⟩ = some (.int .i64 n) := (HL.cell (p := ⟨bn, 0, none⟩) hbn).trans h0.out
  have hlw := (Array.getElem?_eq_some_iff.1 HB).1
  have hbn1 : bn < w1.heap.size := Nat.lt_of_lt_of_le hbn HL.size
  have hbp1 : bp < w1.heap.size := Nat.lt_of_lt_of_le hbp HL.size
  have HW1 := Lib.hid hw1
  have HLL := Lib.hid HL
  have c0 : w1.cell? ⟨w.heap.size, 0, none⟩ = some (.int .i64 i) := cells_of_blk HB 0 _ rfl
  have c1 : w1.cell? ⟨w.heap.size, 1, none⟩ = some (.int .i64 fi) := cells_of_blk HB 1 _ rfl
  have c2 : w1.cell? ⟨w.heap.size, 2, none⟩ = some (.int .i64 cc) := cells_of_blk HB 2 _ rfl
  have c3 : w1.cell? ⟨w.heap.size, 3, none⟩ = some (.int .i64 bb) := cells_of_blk HB 3 _ rfl
  have c4 : w1.cell? ⟨w.heap.size, 4, none⟩ = some (.string pp) := cells_of_blk HB 4 _ rfl
  have c5 : w1.cell? ⟨w.heap.size, 5, none⟩ = some (.string rr) := cells_of_blk HB 5 _ rfl
  have a1 : w1.cell? ⟨bp, 0, none⟩ = some (.int .i64 ix) := (HL.cell (p := ⟨bp, 0, none⟩) hbp).trans h1.out
  have a2 : w1.cell? ⟨bp, 1, none⟩ = some (.int .i64 f) := (HL.cell (p := ⟨bp, 1, none⟩) hbp).trans h2.out
  have a3 : w1.cell? ⟨bp, 2, none⟩ = some (.string p) := (HL.cell (p := ⟨bp, 2, none⟩) hbp).trans h3.out
  have e1 : (w.alloc (.cells #[.int .i64 i, .int .i64 fi, .int .i64 cc, .int .i64 bb, .string pp, .string rr] 23)).cell? ⟨bn, 0, none⟩ = some (.int .i64 n) := by rw [hw1]; exact e0
  clear HL hw1 h0 h1 h2 h3 HB hbn hbp
  go_enter Tryd.func96, Tryd.ntmps96
  go_wp2_with fail
  refine (qm.out _).mono ?_
  rintro e w2 ⟨rfl, hb2⟩
  rw [HW1.out] at hb2
  replace c0 := (hb2.cell (p := ⟨w.heap.size, 0, none⟩) hlw).trans c0
  replace c1 := (hb2.cell (p := ⟨w.heap.size, 1, none⟩) hlw).trans c1
  replace c4 := (hb2.cell (p := ⟨w.heap.size, 4, none⟩) hlw).trans c4
  replace a1 := (hb2.cell (p := ⟨bp, 0, none⟩) hbp1).trans a1
  replace a2 := (hb2.cell (p := ⟨bp, 1, none⟩) hbp1).trans a2
  replace a3 := (hb2.cell (p := ⟨bp, 2, none⟩) hbp1).trans a3
  have HB2 := Lib.hid (HLL.out.trans (hb2.mono HLL.out.size))
  clear hb2 c2 c3 c5 e0 e1
  cases B with
  | false =>
    go_wp2_with fail
    go_ret
    exact ⟨rfl, HB2.out⟩
  | true =>
    by_cases hi : ix = i
    · by_cases hf : f = fi
      · by_cases hp : p = pp
        · have hbq : (p.toList == pp.toList) = true := by rw [hp]; simp
          subst hi hf hp
          go_wp2_with fail
          go_ret
          exact ⟨ret_bool (by simp), HB2.out⟩
        · have hbq : (p.toList == pp.toList) = false := str_ne hp
          subst hi hf
          go_wp2_with fail
          go_ret
          exact ⟨ret_bool (by simp), HB2.out⟩
      · subst hi
        go_wp2_with fail
        go_ret
        exact ⟨ret_bool (by simp), HB2.out⟩
    · go_wp2_with fail
      go_ret
      exact ⟨ret_bool (by simp [hi]), HB2.out⟩
end Go.Proofs.YtaigngdlioplaaaDoor
