/- The reference's Text. -/
import Derived.Test.YteeemoknbnlopaaDoorRuleJ
import Derived.BigQuiet
import Derived.Deep.QuietTactic
namespace Go.Proofs.YteeemoknbnlopaaDoor
open Go Go.RowKit Shelf
set_option linter.unusedVariables false

theorem quiet_same1R {P : Program} {f : FuncId} {args : Array Value} {w : World} {n : Nat} {v : Value}
    (h : Calls P f args (w.drewN n) fun e w' => e = .returned v ∧ w' = w.drewN n) : Calls P f args (w.drewN n) fun e w'' => e = .returned v ∧ ∃ m, w'' = w.drewN m :=
  h.mono fun _ _ ⟨he, hb⟩ => ⟨he, n, hb⟩

theorem name_known {r : Int} (h : 0 < r ∧ r < 24) : ∃ c cs, nameS r = c :: cs ∧ Rule.name (numR r) = c :: cs := by
  have key : ∀ n, n < 24 → 0 < n → (Rule.name n).isEmpty = false := by decide
  have h1 : nameS r = Rule.name (numR r) := if_pos h
  have h2 := key (numR r) (numR_lt r) (by unfold numR; rw [if_pos h]; omega)
  cases hN : Rule.name (numR r) with
  | nil => rw [hN] at h2; cases h2
  | cons c cs => exact ⟨c, cs, h1.trans hN, rfl⟩
theorem name_unknown {r : Int} (h : ¬ (0 < r ∧ r < 24)) : nameS r = [63] ∧ Rule.name (numR r) = [] := by
  refine ⟨if_neg h, ?_⟩
  unfold numR; rw [if_neg h]; rfl

set_option maxRecDepth 100000 in
set_option maxHeartbeats 1000000 in
theorem rText_over_known (r a b : Int) (c : UInt8) (cs : List UInt8) (hN : Hid (Rule.name (numR r) = (c :: cs))) (hL : Hid ((c :: cs).length ≤ 20)) (w : World) : Calls Tryd.prog 26 #[.agg #[.int .i64 r, .int .i64 a, .int .i64 b, .bool true]] w fun e w' => e = .returned (.string ⟨((c :: cs) ++ [32, 111, 118, 101, 114]).toArray⟩) ∧ Below w.heap.size w w' := by
  have hb := (Below.refl w.heap.size w).alloc (Nat.le_refl _) (.cells #[.int .i64 r, .int .i64 a, .int .i64 b, .bool true] 39)
  have HB := Lib.hid hb
  have hk : Hid ((w.alloc (.cells #[.int .i64 r, .int .i64 a, .int .i64 b, .bool true] 39)).heap[w.heap.size]? = some (.cells #[.int .i64 r, .int .i64 a, .int .i64 b, .bool true] 39)) := heap_new _ _
  have q : Hid (∀ w, Calls Tryd.prog 19 #[.int .i64 r] w fun e w' => e = .returned (.agg #[.string ⟨(c :: cs).toArray⟩, .int .i64 (relS r), .int .i64 (codeS r)]) ∧ Below w.heap.size w w') := fun w => by
    have := Table_any r w
    rw [hN.out] at this
    exact this
  clear hN
  generalize ((relS r : Nat) : Int) = rl at *
  generalize ((codeS r : Nat) : Int) = cd at *
  go_enter Tryd.func26, Tryd.ntmps26
  go_wp2_with fail
  with_reducible refine (q.out _).mono ?_
  rintro e w1 ⟨rfl, hb1⟩
  have HB1 := Lib.hid (HB.out.trans (hb1.mono HB.out.size))
  have c3 := cells_of_blk (blk_old (blk_call hk.out hb1) (.cells #[.string ⟨(c :: cs).toArray⟩, .int .i64 rl, .int .i64 cd] 41)) 3 _ rfl
  have hl := hL.out
  simp only [List.length_cons] at hl
  clear hb1
  go_wp2_with fail
  go_ret
  refine ⟨?_, below_alloc HB1.out HB1.out.size _⟩
  show Ending.returned (.string (⟨(c :: cs).toArray⟩ ++ ⟨[32, 111, 118, 101, 114].toArray⟩)) = _
  rw [bytes_append]
  rfl
set_option maxRecDepth 100000 in
set_option maxHeartbeats 1000000 in
theorem rText_known_rel0 (r a b : Int) (ha : I64 a) (hb' : I64 b) (c : UInt8) (cs : List UInt8) (hN : Hid (Rule.name (numR r) = (c :: cs))) (hR : Hid (relS r = 0)) (hL : Hid ((c :: cs).length ≤ 20)) (w : World) : Calls Tryd.prog 26 #[.agg #[.int .i64 r, .int .i64 a, .int .i64 b, .bool false]] w fun e w' => e = .returned (.string ⟨((c :: cs) ++ ([32] ++ (Lib.itoa a ++ ([32] ++ (([63] : List UInt8) ++ ([32] ++ Lib.itoa b)))))).toArray⟩) ∧ Below w.heap.size w w' := by
  have hb := (Below.refl w.heap.size w).alloc (Nat.le_refl _) (.cells #[.int .i64 r, .int .i64 a, .int .i64 b, .bool false] 39)
  have HB := Lib.hid hb
  have hk : Hid ((w.alloc (.cells #[.int .i64 r, .int .i64 a, .int .i64 b, .bool false] 39)).heap[w.heap.size]? = some (.cells #[.int .i64 r, .int .i64 a, .int .i64 b, .bool false] 39)) := heap_new _ _
  have q : Hid (∀ w, Calls Tryd.prog 19 #[.int .i64 r] w fun e w' => e = .returned (.agg #[.string ⟨(c :: cs).toArray⟩, .int .i64 0, .int .i64 (codeS r)]) ∧ Below w.heap.size w w') := fun w => by
    have := Table_any r w
    rw [hN.out, hR.out] at this
    exact this
  have qa := Lib.hid (fun w => rdec_any a ha w)
  have qb := Lib.hid (fun w => rdec_any b hb' w)
  have la := itoa_len (x := a) (by unfold I64 at ha; omega) (by unfold I64 at ha; omega)
  have lb := itoa_len (x := b) (by unfold I64 at hb'; omega) (by unfold I64 at hb'; omega)
  clear hN hR ha hb' hb
  generalize ((codeS r : Nat) : Int) = cd at *
  generalize Lib.itoa a = da at *
  generalize Lib.itoa b = db at *
  go_enter Tryd.func26, Tryd.ntmps26
  go_wp2_with fail
  with_reducible refine (q.out _).mono ?_
  rintro e w1 ⟨rfl, hb1⟩
  have HB1 := Lib.hid (HB.out.trans (hb1.mono HB.out.size))
  have hk2 := Lib.hid (blk_old (blk_call hk.out hb1) (.cells #[.string ⟨(c :: cs).toArray⟩, .int .i64 0, .int .i64 cd] 41))
  have c3 := cells_of_blk hk2.out 3 _ rfl
  have hk3 := blk_old hk2.out (.cells #[.string ⟨#[63]⟩, .string ⟨#[60, 61]⟩, .string ⟨#[62, 61]⟩, .string ⟨#[61]⟩] 9)
  have c1 := cells_of_blk hk3 1 _ rfl
  have c2 := cells_of_blk hk3 2 _ rfl
  have hr3 := blk_old (heap_new w1 (.cells #[.string ⟨(c :: cs).toArray⟩, .int .i64 0, .int .i64 cd] 41)) (.cells #[.string ⟨#[63]⟩, .string ⟨#[60, 61]⟩, .string ⟨#[62, 61]⟩, .string ⟨#[61]⟩] 9)
  have d1 := cells_of_blk hr3 1 _ rfl
  clear hk3 hr3
  have hl := hL.out
  simp only [List.length_cons] at hl
  clear hb1 hk q HB
  go_wp2_with fail
  go_quiet ((go_at_call 40; first | (with_reducible exact quiet_same1R (qa.out _)) | (with_reducible exact quiet_same1R (qb.out _))))
  go_wp2_with fail
  go_ret
  refine ⟨?_, below_drewN (below_alloc (below_alloc HB1.out HB1.out.size _) (by have := HB1.out.size; simp; omega) _) _⟩
  show Ending.returned (.string (((((⟨(c :: cs).toArray⟩ ++ ⟨[32].toArray⟩) ++ ⟨da.toArray⟩) ++ ⟨[32].toArray⟩) ++ ⟨([63] : List UInt8).toArray⟩) ++ ⟨[32].toArray⟩ ++ ⟨db.toArray⟩)) = _
  simp only [bytes_append, List.append_assoc]
  all_goals rfl
set_option maxRecDepth 100000 in
set_option maxHeartbeats 1000000 in
theorem rText_known_rel1 (r a b : Int) (ha : I64 a) (hb' : I64 b) (c : UInt8) (cs : List UInt8) (hN : Hid (Rule.name (numR r) = (c :: cs))) (hR : Hid (relS r = 1)) (hL : Hid ((c :: cs).length ≤ 20)) (w : World) : Calls Tryd.prog 26 #[.agg #[.int .i64 r, .int .i64 a, .int .i64 b, .bool false]] w fun e w' => e = .returned (.string ⟨((c :: cs) ++ ([32] ++ (Lib.itoa a ++ ([32] ++ (([60, 61] : List UInt8) ++ ([32] ++ Lib.itoa b)))))).toArray⟩) ∧ Below w.heap.size w w' := by
  have hb := (Below.refl w.heap.size w).alloc (Nat.le_refl _) (.cells #[.int .i64 r, .int .i64 a, .int .i64 b, .bool false] 39)
  have HB := Lib.hid hb
  have hk : Hid ((w.alloc (.cells #[.int .i64 r, .int .i64 a, .int .i64 b, .bool false] 39)).heap[w.heap.size]? = some (.cells #[.int .i64 r, .int .i64 a, .int .i64 b, .bool false] 39)) := heap_new _ _
  have q : Hid (∀ w, Calls Tryd.prog 19 #[.int .i64 r] w fun e w' => e = .returned (.agg #[.string ⟨(c :: cs).toArray⟩, .int .i64 1, .int .i64 (codeS r)]) ∧ Below w.heap.size w w') := fun w => by
    have := Table_any r w
    rw [hN.out, hR.out] at this
    exact this
  have qa := Lib.hid (fun w => rdec_any a ha w)
  have qb := Lib.hid (fun w => rdec_any b hb' w)
  have la := itoa_len (x := a) (by unfold I64 at ha; omega) (by unfold I64 at ha; omega)
  have lb := itoa_len (x := b) (by unfold I64 at hb'; omega) (by unfold I64 at hb'; omega)
  clear hN hR ha hb' hb
  generalize ((codeS r : Nat) : Int) = cd at *
  generalize Lib.itoa a = da at *
  generalize Lib.itoa b = db at *
  go_enter Tryd.func26, Tryd.ntmps26
  go_wp2_with fail
  with_reducible refine (q.out _).mono ?_
  rintro e w1 ⟨rfl, hb1⟩
  have HB1 := Lib.hid (HB.out.trans (hb1.mono HB.out.size))
  have hk2 := Lib.hid (blk_old (blk_call hk.out hb1) (.cells #[.string ⟨(c :: cs).toArray⟩, .int .i64 1, .int .i64 cd] 41))
  have c3 := cells_of_blk hk2.out 3 _ rfl
  have hk3 := blk_old hk2.out (.cells #[.string ⟨#[63]⟩, .string ⟨#[60, 61]⟩, .string ⟨#[62, 61]⟩, .string ⟨#[61]⟩] 9)
  have c1 := cells_of_blk hk3 1 _ rfl
  have c2 := cells_of_blk hk3 2 _ rfl
  have hr3 := blk_old (heap_new w1 (.cells #[.string ⟨(c :: cs).toArray⟩, .int .i64 1, .int .i64 cd] 41)) (.cells #[.string ⟨#[63]⟩, .string ⟨#[60, 61]⟩, .string ⟨#[62, 61]⟩, .string ⟨#[61]⟩] 9)
  have d1 := cells_of_blk hr3 1 _ rfl
  clear hk3 hr3
  have hl := hL.out
  simp only [List.length_cons] at hl
  clear hb1 hk q HB
  go_wp2_with fail
  go_quiet ((go_at_call 40; first | (with_reducible exact quiet_same1R (qa.out _)) | (with_reducible exact quiet_same1R (qb.out _))))
  go_wp2_with fail
  go_ret
  refine ⟨?_, below_drewN (below_alloc (below_alloc HB1.out HB1.out.size _) (by have := HB1.out.size; simp; omega) _) _⟩
  show Ending.returned (.string (((((⟨(c :: cs).toArray⟩ ++ ⟨[32].toArray⟩) ++ ⟨da.toArray⟩) ++ ⟨[32].toArray⟩) ++ ⟨([60, 61] : List UInt8).toArray⟩) ++ ⟨[32].toArray⟩ ++ ⟨db.toArray⟩)) = _
  simp only [bytes_append, List.append_assoc]
  all_goals rfl
set_option maxRecDepth 100000 in
set_option maxHeartbeats 1000000 in
theorem rText_known_rel2 (r a b : Int) (ha : I64 a) (hb' : I64 b) (c : UInt8) (cs : List UInt8) (hN : Hid (Rule.name (numR r) = (c :: cs))) (hR : Hid (relS r = 2)) (hL : Hid ((c :: cs).length ≤ 20)) (w : World) : Calls Tryd.prog 26 #[.agg #[.int .i64 r, .int .i64 a, .int .i64 b, .bool false]] w fun e w' => e = .returned (.string ⟨((c :: cs) ++ ([32] ++ (Lib.itoa a ++ ([32] ++ (([62, 61] : List UInt8) ++ ([32] ++ Lib.itoa b)))))).toArray⟩) ∧ Below w.heap.size w w' := by
  have hb := (Below.refl w.heap.size w).alloc (Nat.le_refl _) (.cells #[.int .i64 r, .int .i64 a, .int .i64 b, .bool false] 39)
  have HB := Lib.hid hb
  have hk : Hid ((w.alloc (.cells #[.int .i64 r, .int .i64 a, .int .i64 b, .bool false] 39)).heap[w.heap.size]? = some (.cells #[.int .i64 r, .int .i64 a, .int .i64 b, .bool false] 39)) := heap_new _ _
  have q : Hid (∀ w, Calls Tryd.prog 19 #[.int .i64 r] w fun e w' => e = .returned (.agg #[.string ⟨(c :: cs).toArray⟩, .int .i64 2, .int .i64 (codeS r)]) ∧ Below w.heap.size w w') := fun w => by
    have := Table_any r w
    rw [hN.out, hR.out] at this
    exact this
  have qa := Lib.hid (fun w => rdec_any a ha w)
  have qb := Lib.hid (fun w => rdec_any b hb' w)
  have la := itoa_len (x := a) (by unfold I64 at ha; omega) (by unfold I64 at ha; omega)
  have lb := itoa_len (x := b) (by unfold I64 at hb'; omega) (by unfold I64 at hb'; omega)
  clear hN hR ha hb' hb
  generalize ((codeS r : Nat) : Int) = cd at *
  generalize Lib.itoa a = da at *
  generalize Lib.itoa b = db at *
  go_enter Tryd.func26, Tryd.ntmps26
  go_wp2_with fail
  with_reducible refine (q.out _).mono ?_
  rintro e w1 ⟨rfl, hb1⟩
  have HB1 := Lib.hid (HB.out.trans (hb1.mono HB.out.size))
  have hk2 := Lib.hid (blk_old (blk_call hk.out hb1) (.cells #[.string ⟨(c :: cs).toArray⟩, .int .i64 2, .int .i64 cd] 41))
  have c3 := cells_of_blk hk2.out 3 _ rfl
  have hk3 := blk_old hk2.out (.cells #[.string ⟨#[63]⟩, .string ⟨#[60, 61]⟩, .string ⟨#[62, 61]⟩, .string ⟨#[61]⟩] 9)
  have c1 := cells_of_blk hk3 1 _ rfl
  have c2 := cells_of_blk hk3 2 _ rfl
  have hr3 := blk_old (heap_new w1 (.cells #[.string ⟨(c :: cs).toArray⟩, .int .i64 2, .int .i64 cd] 41)) (.cells #[.string ⟨#[63]⟩, .string ⟨#[60, 61]⟩, .string ⟨#[62, 61]⟩, .string ⟨#[61]⟩] 9)
  have d1 := cells_of_blk hr3 1 _ rfl
  clear hk3 hr3
  have hl := hL.out
  simp only [List.length_cons] at hl
  clear hb1 hk q HB
  go_wp2_with fail
  go_quiet ((go_at_call 40; first | (with_reducible exact quiet_same1R (qa.out _)) | (with_reducible exact quiet_same1R (qb.out _))))
  go_wp2_with fail
  go_ret
  refine ⟨?_, below_drewN (below_alloc (below_alloc HB1.out HB1.out.size _) (by have := HB1.out.size; simp; omega) _) _⟩
  show Ending.returned (.string (((((⟨(c :: cs).toArray⟩ ++ ⟨[32].toArray⟩) ++ ⟨da.toArray⟩) ++ ⟨[32].toArray⟩) ++ ⟨([62, 61] : List UInt8).toArray⟩) ++ ⟨[32].toArray⟩ ++ ⟨db.toArray⟩)) = _
  simp only [bytes_append, List.append_assoc]
  all_goals rfl
set_option maxRecDepth 100000 in
set_option maxHeartbeats 1000000 in
theorem rText_known_rel3 (r a b : Int) (ha : I64 a) (hb' : I64 b) (c : UInt8) (cs : List UInt8) (hN : Hid (Rule.name (numR r) = (c :: cs))) (hR : Hid (relS r = 3)) (hL : Hid ((c :: cs).length ≤ 20)) (w : World) : Calls Tryd.prog 26 #[.agg #[.int .i64 r, .int .i64 a, .int .i64 b, .bool false]] w fun e w' => e = .returned (.string ⟨((c :: cs) ++ ([32] ++ (Lib.itoa a ++ ([32] ++ (([61] : List UInt8) ++ ([32] ++ Lib.itoa b)))))).toArray⟩) ∧ Below w.heap.size w w' := by
  have hb := (Below.refl w.heap.size w).alloc (Nat.le_refl _) (.cells #[.int .i64 r, .int .i64 a, .int .i64 b, .bool false] 39)
  have HB := Lib.hid hb
  have hk : Hid ((w.alloc (.cells #[.int .i64 r, .int .i64 a, .int .i64 b, .bool false] 39)).heap[w.heap.size]? = some (.cells #[.int .i64 r, .int .i64 a, .int .i64 b, .bool false] 39)) := heap_new _ _
  have q : Hid (∀ w, Calls Tryd.prog 19 #[.int .i64 r] w fun e w' => e = .returned (.agg #[.string ⟨(c :: cs).toArray⟩, .int .i64 3, .int .i64 (codeS r)]) ∧ Below w.heap.size w w') := fun w => by
    have := Table_any r w
    rw [hN.out, hR.out] at this
    exact this
  have qa := Lib.hid (fun w => rdec_any a ha w)
  have qb := Lib.hid (fun w => rdec_any b hb' w)
  have la := itoa_len (x := a) (by unfold I64 at ha; omega) (by unfold I64 at ha; omega)
  have lb := itoa_len (x := b) (by unfold I64 at hb'; omega) (by unfold I64 at hb'; omega)
  clear hN hR ha hb' hb
  generalize ((codeS r : Nat) : Int) = cd at *
  generalize Lib.itoa a = da at *
  generalize Lib.itoa b = db at *
  go_enter Tryd.func26, Tryd.ntmps26
  go_wp2_with fail
  with_reducible refine (q.out _).mono ?_
  rintro e w1 ⟨rfl, hb1⟩
  have HB1 := Lib.hid (HB.out.trans (hb1.mono HB.out.size))
  have hk2 := Lib.hid (blk_old (blk_call hk.out hb1) (.cells #[.string ⟨(c :: cs).toArray⟩, .int .i64 3, .int .i64 cd] 41))
  have c3 := cells_of_blk hk2.out 3 _ rfl
  have hk3 := blk_old hk2.out (.cells #[.string ⟨#[63]⟩, .string ⟨#[60, 61]⟩, .string ⟨#[62, 61]⟩, .string ⟨#[61]⟩] 9)
  have c1 := cells_of_blk hk3 1 _ rfl
  have c2 := cells_of_blk hk3 2 _ rfl
  have hr3 := blk_old (heap_new w1 (.cells #[.string ⟨(c :: cs).toArray⟩, .int .i64 3, .int .i64 cd] 41)) (.cells #[.string ⟨#[63]⟩, .string ⟨#[60, 61]⟩, .string ⟨#[62, 61]⟩, .string ⟨#[61]⟩] 9)
  have d1 := cells_of_blk hr3 1 _ rfl
  clear hk3 hr3
  have hl := hL.out
  simp only [List.length_cons] at hl
  clear hb1 hk q HB
  go_wp2_with fail
  go_quiet ((go_at_call 40; first | (with_reducible exact quiet_same1R (qa.out _)) | (with_reducible exact quiet_same1R (qb.out _))))
  go_wp2_with fail
  go_ret
  refine ⟨?_, below_drewN (below_alloc (below_alloc HB1.out HB1.out.size _) (by have := HB1.out.size; simp; omega) _) _⟩
  show Ending.returned (.string (((((⟨(c :: cs).toArray⟩ ++ ⟨[32].toArray⟩) ++ ⟨da.toArray⟩) ++ ⟨[32].toArray⟩) ++ ⟨([61] : List UInt8).toArray⟩) ++ ⟨[32].toArray⟩ ++ ⟨db.toArray⟩)) = _
  simp only [bytes_append, List.append_assoc]
  all_goals rfl
set_option maxRecDepth 100000 in
set_option maxHeartbeats 1000000 in
theorem rText_over_unknown (r a b : Int) (c : UInt8) (cs : List UInt8) (hN : Hid (Rule.name (numR r) = (([] : List UInt8)))) (hL : Hid ((c :: cs).length ≤ 20)) (w : World) : Calls Tryd.prog 26 #[.agg #[.int .i64 r, .int .i64 a, .int .i64 b, .bool true]] w fun e w' => e = .returned (.string ⟨((([63] : List UInt8)) ++ [32, 111, 118, 101, 114]).toArray⟩) ∧ Below w.heap.size w w' := by
  have hb := (Below.refl w.heap.size w).alloc (Nat.le_refl _) (.cells #[.int .i64 r, .int .i64 a, .int .i64 b, .bool true] 39)
  have HB := Lib.hid hb
  have hk : Hid ((w.alloc (.cells #[.int .i64 r, .int .i64 a, .int .i64 b, .bool true] 39)).heap[w.heap.size]? = some (.cells #[.int .i64 r, .int .i64 a, .int .i64 b, .bool true] 39)) := heap_new _ _
  have q : Hid (∀ w, Calls Tryd.prog 19 #[.int .i64 r] w fun e w' => e = .returned (.agg #[.string ⟨(([] : List UInt8)).toArray⟩, .int .i64 (relS r), .int .i64 (codeS r)]) ∧ Below w.heap.size w w') := fun w => by
    have := Table_any r w
    rw [hN.out] at this
    exact this
  clear hN
  generalize ((relS r : Nat) : Int) = rl at *
  generalize ((codeS r : Nat) : Int) = cd at *
  go_enter Tryd.func26, Tryd.ntmps26
  go_wp2_with fail
  with_reducible refine (q.out _).mono ?_
  rintro e w1 ⟨rfl, hb1⟩
  have HB1 := Lib.hid (HB.out.trans (hb1.mono HB.out.size))
  have c3 := cells_of_blk (blk_old (blk_call hk.out hb1) (.cells #[.string ⟨(([] : List UInt8)).toArray⟩, .int .i64 rl, .int .i64 cd] 41)) 3 _ rfl
  have hl := hL.out
  simp only [List.length_cons] at hl
  clear hb1
  go_wp2_with fail
  go_ret
  refine ⟨?_, below_alloc HB1.out HB1.out.size _⟩
  show Ending.returned (.string (⟨(([63] : List UInt8)).toArray⟩ ++ ⟨[32, 111, 118, 101, 114].toArray⟩)) = _
  rw [bytes_append]
  rfl
set_option maxRecDepth 100000 in
set_option maxHeartbeats 1000000 in
theorem rText_unknown_rel0 (r a b : Int) (ha : I64 a) (hb' : I64 b) (c : UInt8) (cs : List UInt8) (hN : Hid (Rule.name (numR r) = (([] : List UInt8)))) (hR : Hid (relS r = 0)) (hL : Hid ((c :: cs).length ≤ 20)) (w : World) : Calls Tryd.prog 26 #[.agg #[.int .i64 r, .int .i64 a, .int .i64 b, .bool false]] w fun e w' => e = .returned (.string ⟨((([63] : List UInt8)) ++ ([32] ++ (Lib.itoa a ++ ([32] ++ (([63] : List UInt8) ++ ([32] ++ Lib.itoa b)))))).toArray⟩) ∧ Below w.heap.size w w' := by
  have hb := (Below.refl w.heap.size w).alloc (Nat.le_refl _) (.cells #[.int .i64 r, .int .i64 a, .int .i64 b, .bool false] 39)
  have HB := Lib.hid hb
  have hk : Hid ((w.alloc (.cells #[.int .i64 r, .int .i64 a, .int .i64 b, .bool false] 39)).heap[w.heap.size]? = some (.cells #[.int .i64 r, .int .i64 a, .int .i64 b, .bool false] 39)) := heap_new _ _
  have q : Hid (∀ w, Calls Tryd.prog 19 #[.int .i64 r] w fun e w' => e = .returned (.agg #[.string ⟨(([] : List UInt8)).toArray⟩, .int .i64 0, .int .i64 (codeS r)]) ∧ Below w.heap.size w w') := fun w => by
    have := Table_any r w
    rw [hN.out, hR.out] at this
    exact this
  have qa := Lib.hid (fun w => rdec_any a ha w)
  have qb := Lib.hid (fun w => rdec_any b hb' w)
  have la := itoa_len (x := a) (by unfold I64 at ha; omega) (by unfold I64 at ha; omega)
  have lb := itoa_len (x := b) (by unfold I64 at hb'; omega) (by unfold I64 at hb'; omega)
  clear hN hR ha hb' hb
  generalize ((codeS r : Nat) : Int) = cd at *
  generalize Lib.itoa a = da at *
  generalize Lib.itoa b = db at *
  go_enter Tryd.func26, Tryd.ntmps26
  go_wp2_with fail
  with_reducible refine (q.out _).mono ?_
  rintro e w1 ⟨rfl, hb1⟩
  have HB1 := Lib.hid (HB.out.trans (hb1.mono HB.out.size))
  have hk2 := Lib.hid (blk_old (blk_call hk.out hb1) (.cells #[.string ⟨(([] : List UInt8)).toArray⟩, .int .i64 0, .int .i64 cd] 41))
  have c3 := cells_of_blk hk2.out 3 _ rfl
  have hk3 := blk_old hk2.out (.cells #[.string ⟨#[63]⟩, .string ⟨#[60, 61]⟩, .string ⟨#[62, 61]⟩, .string ⟨#[61]⟩] 9)
  have c1 := cells_of_blk hk3 1 _ rfl
  have c2 := cells_of_blk hk3 2 _ rfl
  have hr3 := blk_old (heap_new w1 (.cells #[.string ⟨(([] : List UInt8)).toArray⟩, .int .i64 0, .int .i64 cd] 41)) (.cells #[.string ⟨#[63]⟩, .string ⟨#[60, 61]⟩, .string ⟨#[62, 61]⟩, .string ⟨#[61]⟩] 9)
  have d1 := cells_of_blk hr3 1 _ rfl
  clear hk3 hr3
  have hl := hL.out
  simp only [List.length_cons] at hl
  clear hb1 hk q HB
  go_wp2_with fail
  go_quiet ((go_at_call 40; first | (with_reducible exact quiet_same1R (qa.out _)) | (with_reducible exact quiet_same1R (qb.out _))))
  go_wp2_with fail
  go_ret
  refine ⟨?_, below_drewN (below_alloc (below_alloc HB1.out HB1.out.size _) (by have := HB1.out.size; simp; omega) _) _⟩
  show Ending.returned (.string (((((⟨(([63] : List UInt8)).toArray⟩ ++ ⟨[32].toArray⟩) ++ ⟨da.toArray⟩) ++ ⟨[32].toArray⟩) ++ ⟨([63] : List UInt8).toArray⟩) ++ ⟨[32].toArray⟩ ++ ⟨db.toArray⟩)) = _
  simp only [bytes_append, List.append_assoc]
  all_goals rfl
set_option maxRecDepth 100000 in
set_option maxHeartbeats 1000000 in
theorem rText_unknown_rel1 (r a b : Int) (ha : I64 a) (hb' : I64 b) (c : UInt8) (cs : List UInt8) (hN : Hid (Rule.name (numR r) = (([] : List UInt8)))) (hR : Hid (relS r = 1)) (hL : Hid ((c :: cs).length ≤ 20)) (w : World) : Calls Tryd.prog 26 #[.agg #[.int .i64 r, .int .i64 a, .int .i64 b, .bool false]] w fun e w' => e = .returned (.string ⟨((([63] : List UInt8)) ++ ([32] ++ (Lib.itoa a ++ ([32] ++ (([60, 61] : List UInt8) ++ ([32] ++ Lib.itoa b)))))).toArray⟩) ∧ Below w.heap.size w w' := by
  have hb := (Below.refl w.heap.size w).alloc (Nat.le_refl _) (.cells #[.int .i64 r, .int .i64 a, .int .i64 b, .bool false] 39)
  have HB := Lib.hid hb
  have hk : Hid ((w.alloc (.cells #[.int .i64 r, .int .i64 a, .int .i64 b, .bool false] 39)).heap[w.heap.size]? = some (.cells #[.int .i64 r, .int .i64 a, .int .i64 b, .bool false] 39)) := heap_new _ _
  have q : Hid (∀ w, Calls Tryd.prog 19 #[.int .i64 r] w fun e w' => e = .returned (.agg #[.string ⟨(([] : List UInt8)).toArray⟩, .int .i64 1, .int .i64 (codeS r)]) ∧ Below w.heap.size w w') := fun w => by
    have := Table_any r w
    rw [hN.out, hR.out] at this
    exact this
  have qa := Lib.hid (fun w => rdec_any a ha w)
  have qb := Lib.hid (fun w => rdec_any b hb' w)
  have la := itoa_len (x := a) (by unfold I64 at ha; omega) (by unfold I64 at ha; omega)
  have lb := itoa_len (x := b) (by unfold I64 at hb'; omega) (by unfold I64 at hb'; omega)
  clear hN hR ha hb' hb
  generalize ((codeS r : Nat) : Int) = cd at *
  generalize Lib.itoa a = da at *
  generalize Lib.itoa b = db at *
  go_enter Tryd.func26, Tryd.ntmps26
  go_wp2_with fail
  with_reducible refine (q.out _).mono ?_
  rintro e w1 ⟨rfl, hb1⟩
  have HB1 := Lib.hid (HB.out.trans (hb1.mono HB.out.size))
  have hk2 := Lib.hid (blk_old (blk_call hk.out hb1) (.cells #[.string ⟨(([] : List UInt8)).toArray⟩, .int .i64 1, .int .i64 cd] 41))
  have c3 := cells_of_blk hk2.out 3 _ rfl
  have hk3 := blk_old hk2.out (.cells #[.string ⟨#[63]⟩, .string ⟨#[60, 61]⟩, .string ⟨#[62, 61]⟩, .string ⟨#[61]⟩] 9)
  have c1 := cells_of_blk hk3 1 _ rfl
  have c2 := cells_of_blk hk3 2 _ rfl
  have hr3 := blk_old (heap_new w1 (.cells #[.string ⟨(([] : List UInt8)).toArray⟩, .int .i64 1, .int .i64 cd] 41)) (.cells #[.string ⟨#[63]⟩, .string ⟨#[60, 61]⟩, .string ⟨#[62, 61]⟩, .string ⟨#[61]⟩] 9)
  have d1 := cells_of_blk hr3 1 _ rfl
  clear hk3 hr3
  have hl := hL.out
  simp only [List.length_cons] at hl
  clear hb1 hk q HB
  go_wp2_with fail
  go_quiet ((go_at_call 40; first | (with_reducible exact quiet_same1R (qa.out _)) | (with_reducible exact quiet_same1R (qb.out _))))
  go_wp2_with fail
  go_ret
  refine ⟨?_, below_drewN (below_alloc (below_alloc HB1.out HB1.out.size _) (by have := HB1.out.size; simp; omega) _) _⟩
  show Ending.returned (.string (((((⟨(([63] : List UInt8)).toArray⟩ ++ ⟨[32].toArray⟩) ++ ⟨da.toArray⟩) ++ ⟨[32].toArray⟩) ++ ⟨([60, 61] : List UInt8).toArray⟩) ++ ⟨[32].toArray⟩ ++ ⟨db.toArray⟩)) = _
  simp only [bytes_append, List.append_assoc]
  all_goals rfl
set_option maxRecDepth 100000 in
set_option maxHeartbeats 1000000 in
theorem rText_unknown_rel2 (r a b : Int) (ha : I64 a) (hb' : I64 b) (c : UInt8) (cs : List UInt8) (hN : Hid (Rule.name (numR r) = (([] : List UInt8)))) (hR : Hid (relS r = 2)) (hL : Hid ((c :: cs).length ≤ 20)) (w : World) : Calls Tryd.prog 26 #[.agg #[.int .i64 r, .int .i64 a, .int .i64 b, .bool false]] w fun e w' => e = .returned (.string ⟨((([63] : List UInt8)) ++ ([32] ++ (Lib.itoa a ++ ([32] ++ (([62, 61] : List UInt8) ++ ([32] ++ Lib.itoa b)))))).toArray⟩) ∧ Below w.heap.size w w' := by
  have hb := (Below.refl w.heap.size w).alloc (Nat.le_refl _) (.cells #[.int .i64 r, .int .i64 a, .int .i64 b, .bool false] 39)
  have HB := Lib.hid hb
  have hk : Hid ((w.alloc (.cells #[.int .i64 r, .int .i64 a, .int .i64 b, .bool false] 39)).heap[w.heap.size]? = some (.cells #[.int .i64 r, .int .i64 a, .int .i64 b, .bool false] 39)) := heap_new _ _
  have q : Hid (∀ w, Calls Tryd.prog 19 #[.int .i64 r] w fun e w' => e = .returned (.agg #[.string ⟨(([] : List UInt8)).toArray⟩, .int .i64 2, .int .i64 (codeS r)]) ∧ Below w.heap.size w w') := fun w => by
    have := Table_any r w
    rw [hN.out, hR.out] at this
    exact this
  have qa := Lib.hid (fun w => rdec_any a ha w)
  have qb := Lib.hid (fun w => rdec_any b hb' w)
  have la := itoa_len (x := a) (by unfold I64 at ha; omega) (by unfold I64 at ha; omega)
  have lb := itoa_len (x := b) (by unfold I64 at hb'; omega) (by unfold I64 at hb'; omega)
  clear hN hR ha hb' hb
  generalize ((codeS r : Nat) : Int) = cd at *
  generalize Lib.itoa a = da at *
  generalize Lib.itoa b = db at *
  go_enter Tryd.func26, Tryd.ntmps26
  go_wp2_with fail
  with_reducible refine (q.out _).mono ?_
  rintro e w1 ⟨rfl, hb1⟩
  have HB1 := Lib.hid (HB.out.trans (hb1.mono HB.out.size))
  have hk2 := Lib.hid (blk_old (blk_call hk.out hb1) (.cells #[.string ⟨(([] : List UInt8)).toArray⟩, .int .i64 2, .int .i64 cd] 41))
  have c3 := cells_of_blk hk2.out 3 _ rfl
  have hk3 := blk_old hk2.out (.cells #[.string ⟨#[63]⟩, .string ⟨#[60, 61]⟩, .string ⟨#[62, 61]⟩, .string ⟨#[61]⟩] 9)
  have c1 := cells_of_blk hk3 1 _ rfl
  have c2 := cells_of_blk hk3 2 _ rfl
  have hr3 := blk_old (heap_new w1 (.cells #[.string ⟨(([] : List UInt8)).toArray⟩, .int .i64 2, .int .i64 cd] 41)) (.cells #[.string ⟨#[63]⟩, .string ⟨#[60, 61]⟩, .string ⟨#[62, 61]⟩, .string ⟨#[61]⟩] 9)
  have d1 := cells_of_blk hr3 1 _ rfl
  clear hk3 hr3
  have hl := hL.out
  simp only [List.length_cons] at hl
  clear hb1 hk q HB
  go_wp2_with fail
  go_quiet ((go_at_call 40; first | (with_reducible exact quiet_same1R (qa.out _)) | (with_reducible exact quiet_same1R (qb.out _))))
  go_wp2_with fail
  go_ret
  refine ⟨?_, below_drewN (below_alloc (below_alloc HB1.out HB1.out.size _) (by have := HB1.out.size; simp; omega) _) _⟩
  show Ending.returned (.string (((((⟨(([63] : List UInt8)).toArray⟩ ++ ⟨[32].toArray⟩) ++ ⟨da.toArray⟩) ++ ⟨[32].toArray⟩) ++ ⟨([62, 61] : List UInt8).toArray⟩) ++ ⟨[32].toArray⟩ ++ ⟨db.toArray⟩)) = _
  simp only [bytes_append, List.append_assoc]
  all_goals rfl
set_option maxRecDepth 100000 in
set_option maxHeartbeats 1000000 in
theorem rText_unknown_rel3 (r a b : Int) (ha : I64 a) (hb' : I64 b) (c : UInt8) (cs : List UInt8) (hN : Hid (Rule.name (numR r) = (([] : List UInt8)))) (hR : Hid (relS r = 3)) (hL : Hid ((c :: cs).length ≤ 20)) (w : World) : Calls Tryd.prog 26 #[.agg #[.int .i64 r, .int .i64 a, .int .i64 b, .bool false]] w fun e w' => e = .returned (.string ⟨((([63] : List UInt8)) ++ ([32] ++ (Lib.itoa a ++ ([32] ++ (([61] : List UInt8) ++ ([32] ++ Lib.itoa b)))))).toArray⟩) ∧ Below w.heap.size w w' := by
  have hb := (Below.refl w.heap.size w).alloc (Nat.le_refl _) (.cells #[.int .i64 r, .int .i64 a, .int .i64 b, .bool false] 39)
  have HB := Lib.hid hb
  have hk : Hid ((w.alloc (.cells #[.int .i64 r, .int .i64 a, .int .i64 b, .bool false] 39)).heap[w.heap.size]? = some (.cells #[.int .i64 r, .int .i64 a, .int .i64 b, .bool false] 39)) := heap_new _ _
  have q : Hid (∀ w, Calls Tryd.prog 19 #[.int .i64 r] w fun e w' => e = .returned (.agg #[.string ⟨(([] : List UInt8)).toArray⟩, .int .i64 3, .int .i64 (codeS r)]) ∧ Below w.heap.size w w') := fun w => by
    have := Table_any r w
    rw [hN.out, hR.out] at this
    exact this
  have qa := Lib.hid (fun w => rdec_any a ha w)
  have qb := Lib.hid (fun w => rdec_any b hb' w)
  have la := itoa_len (x := a) (by unfold I64 at ha; omega) (by unfold I64 at ha; omega)
  have lb := itoa_len (x := b) (by unfold I64 at hb'; omega) (by unfold I64 at hb'; omega)
  clear hN hR ha hb' hb
  generalize ((codeS r : Nat) : Int) = cd at *
  generalize Lib.itoa a = da at *
  generalize Lib.itoa b = db at *
  go_enter Tryd.func26, Tryd.ntmps26
  go_wp2_with fail
  with_reducible refine (q.out _).mono ?_
  rintro e w1 ⟨rfl, hb1⟩
  have HB1 := Lib.hid (HB.out.trans (hb1.mono HB.out.size))
  have hk2 := Lib.hid (blk_old (blk_call hk.out hb1) (.cells #[.string ⟨(([] : List UInt8)).toArray⟩, .int .i64 3, .int .i64 cd] 41))
  have c3 := cells_of_blk hk2.out 3 _ rfl
  have hk3 := blk_old hk2.out (.cells #[.string ⟨#[63]⟩, .string ⟨#[60, 61]⟩, .string ⟨#[62, 61]⟩, .string ⟨#[61]⟩] 9)
  have c1 := cells_of_blk hk3 1 _ rfl
  have c2 := cells_of_blk hk3 2 _ rfl
  have hr3 := blk_old (heap_new w1 (.cells #[.string ⟨(([] : List UInt8)).toArray⟩, .int .i64 3, .int .i64 cd] 41)) (.cells #[.string ⟨#[63]⟩, .string ⟨#[60, 61]⟩, .string ⟨#[62, 61]⟩, .string ⟨#[61]⟩] 9)
  have d1 := cells_of_blk hr3 1 _ rfl
  clear hk3 hr3
  have hl := hL.out
  simp only [List.length_cons] at hl
  clear hb1 hk q HB
  go_wp2_with fail
  go_quiet ((go_at_call 40; first | (with_reducible exact quiet_same1R (qa.out _)) | (with_reducible exact quiet_same1R (qb.out _))))
  go_wp2_with fail
  go_ret
  refine ⟨?_, below_drewN (below_alloc (below_alloc HB1.out HB1.out.size _) (by have := HB1.out.size; simp; omega) _) _⟩
  show Ending.returned (.string (((((⟨(([63] : List UInt8)).toArray⟩ ++ ⟨[32].toArray⟩) ++ ⟨da.toArray⟩) ++ ⟨[32].toArray⟩) ++ ⟨([61] : List UInt8).toArray⟩) ++ ⟨[32].toArray⟩ ++ ⟨db.toArray⟩)) = _
  simp only [bytes_append, List.append_assoc]
  all_goals rfl
theorem rText_any (s : Stp) (hs : s.fit) (w : World) : Calls Tryd.prog 26 #[s.val] w fun e w' => e = .returned (.string ⟨(textS s).toArray⟩) ∧ Below w.heap.size w w' := by
  obtain ⟨r, a, b, o⟩ := s
  obtain ⟨hr, ha, hb⟩ := hs
  have hl := nameS_len r
  have h4 : relS r = 0 ∨ relS r = 1 ∨ relS r = 2 ∨ relS r = 3 := by have := relS_lt r; omega
  by_cases hk : 0 < r ∧ r < 24
  · obtain ⟨c, cs, h1, h2⟩ := name_known hk
    rw [h1] at hl
    cases o with
    | true =>
      have := rText_over_known r a b c cs (Lib.hid h2) (Lib.hid hl) w
      rw [← h1] at this
      exact this
    | false =>
      rcases h4 with h | h | h | h
      · have := rText_known_rel0 r a b ha hb c cs (Lib.hid h2) (Lib.hid h) (Lib.hid hl) w
        rw [show textS (Stp.mk r a b false) = nameS r ++ ([32] ++ (Lib.itoa a ++ ([32] ++ (signS (relS r) ++ ([32] ++ Lib.itoa b))))) from rfl, h, h1]
        exact this
      · have := rText_known_rel1 r a b ha hb c cs (Lib.hid h2) (Lib.hid h) (Lib.hid hl) w
        rw [show textS (Stp.mk r a b false) = nameS r ++ ([32] ++ (Lib.itoa a ++ ([32] ++ (signS (relS r) ++ ([32] ++ Lib.itoa b))))) from rfl, h, h1]
        exact this
      · have := rText_known_rel2 r a b ha hb c cs (Lib.hid h2) (Lib.hid h) (Lib.hid hl) w
        rw [show textS (Stp.mk r a b false) = nameS r ++ ([32] ++ (Lib.itoa a ++ ([32] ++ (signS (relS r) ++ ([32] ++ Lib.itoa b))))) from rfl, h, h1]
        exact this
      · have := rText_known_rel3 r a b ha hb c cs (Lib.hid h2) (Lib.hid h) (Lib.hid hl) w
        rw [show textS (Stp.mk r a b false) = nameS r ++ ([32] ++ (Lib.itoa a ++ ([32] ++ (signS (relS r) ++ ([32] ++ Lib.itoa b))))) from rfl, h, h1]
        exact this
  · obtain ⟨h1, h2⟩ := name_unknown hk
    cases o with
    | true =>
      have := rText_over_unknown r a b 0 [] (Lib.hid h2) (by show _ ≤ _; simp) w
      rw [← h1] at this
      exact this
    | false =>
      rcases h4 with h | h | h | h
      · have := rText_unknown_rel0 r a b ha hb 0 [] (Lib.hid h2) (Lib.hid h) (by show _ ≤ _; simp) w
        rw [show textS (Stp.mk r a b false) = nameS r ++ ([32] ++ (Lib.itoa a ++ ([32] ++ (signS (relS r) ++ ([32] ++ Lib.itoa b))))) from rfl, h, h1]
        exact this
      · have := rText_unknown_rel1 r a b ha hb 0 [] (Lib.hid h2) (Lib.hid h) (by show _ ≤ _; simp) w
        rw [show textS (Stp.mk r a b false) = nameS r ++ ([32] ++ (Lib.itoa a ++ ([32] ++ (signS (relS r) ++ ([32] ++ Lib.itoa b))))) from rfl, h, h1]
        exact this
      · have := rText_unknown_rel2 r a b ha hb 0 [] (Lib.hid h2) (Lib.hid h) (by show _ ≤ _; simp) w
        rw [show textS (Stp.mk r a b false) = nameS r ++ ([32] ++ (Lib.itoa a ++ ([32] ++ (signS (relS r) ++ ([32] ++ Lib.itoa b))))) from rfl, h, h1]
        exact this
      · have := rText_unknown_rel3 r a b ha hb 0 [] (Lib.hid h2) (Lib.hid h) (by show _ ≤ _; simp) w
        rw [show textS (Stp.mk r a b false) = nameS r ++ ([32] ++ (Lib.itoa a ++ ([32] ++ (signS (relS r) ++ ([32] ++ Lib.itoa b))))) from rfl, h, h1]
        exact this
end Go.Proofs.YteeemoknbnlopaaDoor
