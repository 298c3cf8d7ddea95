/- The reference's Holds. -/
import Derived.Test.YteeemoknbnlopaaDoorRuleH
import Derived.Test.YteeemoknbnlopaaDoorRuleI
namespace Go.Proofs.YteeemoknbnlopaaDoor
open Go Go.RowKit
set_option linter.unusedVariables false

theorem row_f0 (s : ByteArray) (a b : Int) (w : World) : (Instr.field 41 (.agg #[.string s, .int .i64 a, .int .i64 b]) 0).run Tryd.prog w = .ok (.string s) w := by kernel_rfl
theorem row_f1 (s : ByteArray) (a b : Int) (w : World) : (Instr.field 41 (.agg #[.string s, .int .i64 a, .int .i64 b]) 1).run Tryd.prog w = .ok (.int .i64 a) w := by kernel_rfl
theorem row_f2 (s : ByteArray) (a b : Int) (w : World) : (Instr.field 41 (.agg #[.string s, .int .i64 a, .int .i64 b]) 2).run Tryd.prog w = .ok (.int .i64 b) w := by kernel_rfl

set_option maxRecDepth 100000 in
set_option maxHeartbeats 1000000 in
theorem rHolds_rel0 (r a b : Int) (h : relS r = 0) (w : World) : Calls Tryd.prog 24 #[.agg #[.int .i64 r, .int .i64 a, .int .i64 b, .bool false]] w fun e w' => e = .returned (.bool (false)) ∧ Below w.heap.size w w' := by
  have hb := (Below.refl w.heap.size w).alloc (Nat.le_refl _) (.cells #[.int .i64 r, .int .i64 a, .int .i64 b, .bool false] 39)
  have HB := Lib.hid hb
  have hk : Hid ((w.alloc (.cells #[.int .i64 r, .int .i64 a, .int .i64 b, .bool false] 39)).heap[w.heap.size]? = some (.cells #[.int .i64 r, .int .i64 a, .int .i64 b, .bool false] 39)) := heap_new _ _
  obtain ⟨nm, hnm⟩ : ∃ nm, Rule.name (numR r) = nm := ⟨_, rfl⟩
  obtain ⟨cd, hcd⟩ : ∃ cd, codeS r = cd := ⟨_, rfl⟩
  have q : Hid (∀ w, Calls Tryd.prog 19 #[.int .i64 r] w fun e w' => e = .returned (.agg #[.string ⟨nm.toArray⟩, .int .i64 0, .int .i64 cd]) ∧ Below w.heap.size w w') := fun w => by
    have := Table_any r w
    rw [h, hnm, hcd] at this
    exact this
  have hf := row_f1 ⟨nm.toArray⟩ 0 cd
  clear h hnm hcd hb
  go_enter Tryd.func24, Tryd.ntmps24
  go_wp2_with fail
  with_reducible refine (q.out _).mono ?_
  rintro e w' ⟨rfl, hb⟩
  have HB2 := Lib.hid (HB.out.trans (hb.mono HB.out.size))
  have c1 := cells_of_blk (blk_call hk.out hb) 1 _ rfl
  have c2 := cells_of_blk (blk_call hk.out hb) 2 _ rfl
  clear hb
  go_wp2_with fail
  go_ret
  exact ⟨rfl, HB2.out⟩
set_option maxRecDepth 100000 in
set_option maxHeartbeats 1000000 in
theorem rHolds_rel1 (r a b : Int) (h : relS r = 1) (w : World) : Calls Tryd.prog 24 #[.agg #[.int .i64 r, .int .i64 a, .int .i64 b, .bool false]] w fun e w' => e = .returned (.bool (decide (a ≤ b))) ∧ Below w.heap.size w w' := by
  have hb := (Below.refl w.heap.size w).alloc (Nat.le_refl _) (.cells #[.int .i64 r, .int .i64 a, .int .i64 b, .bool false] 39)
  have HB := Lib.hid hb
  have hk : Hid ((w.alloc (.cells #[.int .i64 r, .int .i64 a, .int .i64 b, .bool false] 39)).heap[w.heap.size]? = some (.cells #[.int .i64 r, .int .i64 a, .int .i64 b, .bool false] 39)) := heap_new _ _
  obtain ⟨nm, hnm⟩ : ∃ nm, Rule.name (numR r) = nm := ⟨_, rfl⟩
  obtain ⟨cd, hcd⟩ : ∃ cd, codeS r = cd := ⟨_, rfl⟩
  have q : Hid (∀ w, Calls Tryd.prog 19 #[.int .i64 r] w fun e w' => e = .returned (.agg #[.string ⟨nm.toArray⟩, .int .i64 1, .int .i64 cd]) ∧ Below w.heap.size w w') := fun w => by
    have := Table_any r w
    rw [h, hnm, hcd] at this
    exact this
  have hf := row_f1 ⟨nm.toArray⟩ 1 cd
  clear h hnm hcd hb
  go_enter Tryd.func24, Tryd.ntmps24
  go_wp2_with fail
  with_reducible refine (q.out _).mono ?_
  rintro e w' ⟨rfl, hb⟩
  have HB2 := Lib.hid (HB.out.trans (hb.mono HB.out.size))
  have c1 := cells_of_blk (blk_call hk.out hb) 1 _ rfl
  have c2 := cells_of_blk (blk_call hk.out hb) 2 _ rfl
  clear hb
  go_wp2_with fail
  go_ret
  exact ⟨rfl, HB2.out⟩
set_option maxRecDepth 100000 in
set_option maxHeartbeats 1000000 in
theorem rHolds_rel2 (r a b : Int) (h : relS r = 2) (w : World) : Calls Tryd.prog 24 #[.agg #[.int .i64 r, .int .i64 a, .int .i64 b, .bool false]] w fun e w' => e = .returned (.bool (decide (b ≤ a))) ∧ Below w.heap.size w w' := by
  have hb := (Below.refl w.heap.size w).alloc (Nat.le_refl _) (.cells #[.int .i64 r, .int .i64 a, .int .i64 b, .bool false] 39)
  have HB := Lib.hid hb
  have hk : Hid ((w.alloc (.cells #[.int .i64 r, .int .i64 a, .int .i64 b, .bool false] 39)).heap[w.heap.size]? = some (.cells #[.int .i64 r, .int .i64 a, .int .i64 b, .bool false] 39)) := heap_new _ _
  obtain ⟨nm, hnm⟩ : ∃ nm, Rule.name (numR r) = nm := ⟨_, rfl⟩
  obtain ⟨cd, hcd⟩ : ∃ cd, codeS r = cd := ⟨_, rfl⟩
  have q : Hid (∀ w, Calls Tryd.prog 19 #[.int .i64 r] w fun e w' => e = .returned (.agg #[.string ⟨nm.toArray⟩, .int .i64 2, .int .i64 cd]) ∧ Below w.heap.size w w') := fun w => by
    have := Table_any r w
    rw [h, hnm, hcd] at this
    exact this
  have hf := row_f1 ⟨nm.toArray⟩ 2 cd
  clear h hnm hcd hb
  go_enter Tryd.func24, Tryd.ntmps24
  go_wp2_with fail
  with_reducible refine (q.out _).mono ?_
  rintro e w' ⟨rfl, hb⟩
  have HB2 := Lib.hid (HB.out.trans (hb.mono HB.out.size))
  have c1 := cells_of_blk (blk_call hk.out hb) 1 _ rfl
  have c2 := cells_of_blk (blk_call hk.out hb) 2 _ rfl
  clear hb
  go_wp2_with fail
  go_ret
  exact ⟨rfl, HB2.out⟩
set_option maxRecDepth 100000 in
set_option maxHeartbeats 1000000 in
theorem rHolds_rel3 (r a b : Int) (h : relS r = 3) (w : World) : Calls Tryd.prog 24 #[.agg #[.int .i64 r, .int .i64 a, .int .i64 b, .bool false]] w fun e w' => e = .returned (.bool (a == b)) ∧ Below w.heap.size w w' := by
  have hb := (Below.refl w.heap.size w).alloc (Nat.le_refl _) (.cells #[.int .i64 r, .int .i64 a, .int .i64 b, .bool false] 39)
  have HB := Lib.hid hb
  have hk : Hid ((w.alloc (.cells #[.int .i64 r, .int .i64 a, .int .i64 b, .bool false] 39)).heap[w.heap.size]? = some (.cells #[.int .i64 r, .int .i64 a, .int .i64 b, .bool false] 39)) := heap_new _ _
  obtain ⟨nm, hnm⟩ : ∃ nm, Rule.name (numR r) = nm := ⟨_, rfl⟩
  obtain ⟨cd, hcd⟩ : ∃ cd, codeS r = cd := ⟨_, rfl⟩
  have q : Hid (∀ w, Calls Tryd.prog 19 #[.int .i64 r] w fun e w' => e = .returned (.agg #[.string ⟨nm.toArray⟩, .int .i64 3, .int .i64 cd]) ∧ Below w.heap.size w w') := fun w => by
    have := Table_any r w
    rw [h, hnm, hcd] at this
    exact this
  have hf := row_f1 ⟨nm.toArray⟩ 3 cd
  clear h hnm hcd hb
  go_enter Tryd.func24, Tryd.ntmps24
  go_wp2_with fail
  with_reducible refine (q.out _).mono ?_
  rintro e w' ⟨rfl, hb⟩
  have HB2 := Lib.hid (HB.out.trans (hb.mono HB.out.size))
  have c1 := cells_of_blk (blk_call hk.out hb) 1 _ rfl
  have c2 := cells_of_blk (blk_call hk.out hb) 2 _ rfl
  clear hb
  go_wp2_with fail
  go_ret
  exact ⟨rfl, HB2.out⟩
set_option maxRecDepth 100000 in
theorem rHolds_over (r a b : Int) (w : World) : Calls Tryd.prog 24 #[.agg #[.int .i64 r, .int .i64 a, .int .i64 b, .bool true]] w fun e w' => e = .returned (.bool false) ∧ Below w.heap.size w w' := by
  have hb := (Below.refl w.heap.size w).alloc (Nat.le_refl _) (.cells #[.int .i64 r, .int .i64 a, .int .i64 b, .bool true] 39)
  have HB := Lib.hid hb
  clear hb
  go_enter Tryd.func24, Tryd.ntmps24
  go_wp2_with fail
  go_ret
  exact ⟨rfl, HB.out⟩
theorem rHolds_any (s : Stp) (w : World) : Calls Tryd.prog 24 #[s.val] w fun e w' => e = .returned (.bool s.holds) ∧ Below w.heap.size w w' := by
  obtain ⟨r, a, b, o⟩ := s
  cases o with
  | true => exact rHolds_over r a b w
  | false =>
    have hl := relS_lt r
    have h4 : relS r = 0 ∨ relS r = 1 ∨ relS r = 2 ∨ relS r = 3 := by omega
    rcases h4 with h | h | h | h
    · have := rHolds_rel0 r a b h w
      rw [show (Stp.mk r a b false).holds = (false) by show (true && Rule.is (relS r) a b) = _; rw [h]; rfl]
      exact this
    · have := rHolds_rel1 r a b h w
      rw [show (Stp.mk r a b false).holds = (decide (a ≤ b)) by show (true && Rule.is (relS r) a b) = _; rw [h]; rfl]
      exact this
    · have := rHolds_rel2 r a b h w
      rw [show (Stp.mk r a b false).holds = (decide (b ≤ a)) by show (true && Rule.is (relS r) a b) = _; rw [h]; rfl]
      exact this
    · have := rHolds_rel3 r a b h w
      rw [show (Stp.mk r a b false).holds = (a == b) by show (true && Rule.is (relS r) a b) = _; rw [h]; rfl]
      exact this
end Go.Proofs.YteeemoknbnlopaaDoor
