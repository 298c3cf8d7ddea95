/- rules.Holds (printed by genRuleC.py). -/
import Derived.Test.YteeemoknbnlopaaDoorRuleQ
import Derived.Test.YteeemoknbnlopaaDoorRegD
import Derived.Test.YteeemoknbnlopaaDoorBlk
namespace Go.Proofs.YteeemoknbnlopaaDoor
open Go Go.RowKit
set_option linter.unusedVariables false

theorem Law16.rules_h {w : World} (h : Hid (Law16 w)) : Hid (RulesT w) := h.out.rules
set_option maxRecDepth 100000 in
set_option maxHeartbeats 1000000 in
theorem Holds_over (r a b : Int) (w : World) : Calls Tryd.prog 23 #[.agg #[.int .i64 r, .int .i64 a, .int .i64 b, .bool true]] w fun e w' => e = .returned (.bool false) ∧ Below w.heap.size w w' := by
  have hb := (Below.refl w.heap.size w).alloc (Nat.le_refl _) (.cells #[.int .i64 r, .int .i64 a, .int .i64 b, .bool true] 39)
  have HB := Lib.hid hb
  clear hb
  go_enter Tryd.func23, Tryd.ntmps23
  go_wp2_with fail
  go_region
  go_wp2_with fail
  go_ret
  exact ⟨rfl, HB.out.drew⟩

set_option maxRecDepth 100000 in
set_option maxHeartbeats 1000000 in
theorem Holds_rel0 (r a b : Int) (hr : I64 r) (h : relS r = 0) (w : World) (hT : Hid (Law16 w)) : Calls Tryd.prog 23 #[.agg #[.int .i64 r, .int .i64 a, .int .i64 b, .bool false]] w fun e w' => e = .returned (.bool (false)) ∧ Below w.heap.size w w' := by
  have hb := (Below.refl w.heap.size w).alloc (Nat.le_refl _) (.cells #[.int .i64 r, .int .i64 a, .int .i64 b, .bool false] 39)
  have HB := Lib.hid hb
  have hT1 := Lib.hid (hT.out.call hb)
  have hk : (w.alloc (.cells #[.int .i64 r, .int .i64 a, .int .i64 b, .bool false] 39)).heap[w.heap.size]? = some (.cells #[.int .i64 r, .int .i64 a, .int .i64 b, .bool false] 39) := heap_new _ _
  have c0 := cells_of_blk hk 0 _ rfl
  have c1 := cells_of_blk hk 1 _ rfl
  have c2 := cells_of_blk hk 2 _ rfl
  have c3 := cells_of_blk hk 3 _ rfl
  have lt : w.heap.size < (w.alloc (.cells #[.int .i64 r, .int .i64 a, .int .i64 b, .bool false] 39)).heap.size := (Array.getElem?_eq_some_iff.1 hk).1
  clear hk hb
  have C0 := Lib.hid (And.intro c0 (And.intro c1 (And.intro c2 (And.intro c3 lt))))
  clear c0 c1 c2 c3 lt
  have qf := Lib.hid (fun w => rel1_any a b w)
  go_enter Tryd.func23, Tryd.ntmps23
  go_wp2_with fail
  generalize hG : w.heap.size = G at *
  have HG := Lib.hid hG
  clear hG
  generalize w.alloc (.cells #[.int .i64 r, .int .i64 a, .int .i64 b, .bool false] 39) = w1 at *
  have q : Hid (Calls Tryd.prog 20 #[.int .i64 r] w1.drew fun e w' => e = .returned (.int .i64 0) ∧ Below w1.drew.heap.size w1.drew w') := by
    have h1 := Relation_any r hr w1.drew (Lib.hid (hT1.out.call (Below.refl _ _).drew).rules)
    rw [h] at h1
    exact h1
  clear h
  have HC : Hid (Below w1.heap.size w1 w1.drew) := (Below.refl _ _).drew
  refine wp_region_D [] (fun wz => Hid (Below w1.heap.size w1 wz)) 17 #[false, false, false, false, false, false, false, false, false, false, false, false, false, false, false, false, false] (by kernel_rfl) (by kernel_rfl) (by kernel_rfl) ?_
  refine pure_moreD [0, 1, 2] 14 (L' := #[true, true, true, false, false, false, false, false, false, false, false, false, false, false, false, false, false]) (by kernel_rfl) (by kernel_rfl) HC ?_
  simp only [opsAt, List.getElem?_toArray, List.getElem?_cons_zero, List.getElem?_cons_succ]
  refine pure_atG (.pointer (some ⟨G, 3, none⟩)) rfl (fun wz _ => by unfold execOp; go_simp) ?_
  refine pure_atG (.bool false) rfl (fun wz hC => by have h0 := ((Hid.out hC).cell (p := ⟨G, 3, none⟩) C0.out.2.2.2.2).trans C0.out.2.2.2.1; unfold execOp; go_simp) ?_
  refine pure_atG (.bool true) rfl (fun wz _ => by unfold execOp; go_simp) ?_
  unfold wpPure
  go_simp
  refine pure_moreD [3] 13 (L' := #[true, true, true, true, false, false, false, false, false, false, false, false, false, false, false, false, false]) (by kernel_rfl) (by kernel_rfl) HC ?_
  simp only [opsAt, List.getElem?_toArray, List.getElem?_cons_zero, List.getElem?_cons_succ]
  refine pure_moveG rfl rfl ?_
  unfold wpPure
  go_simp
  refine pure_moreD [4, 5] 11 (L' := #[true, true, true, true, true, true, false, false, false, false, false, false, false, false, false, false, false]) (by kernel_rfl) (by kernel_rfl) HC ?_
  simp only [opsAt, List.getElem?_toArray, List.getElem?_cons_zero, List.getElem?_cons_succ]
  refine pure_atG (.pointer (some ⟨G, 0, none⟩)) rfl (fun wz _ => by unfold execOp; go_simp) ?_
  refine pure_atG (.int .i64 r) rfl (fun wz hC => by have h0 := ((Hid.out hC).cell (p := ⟨G, 0, none⟩) C0.out.2.2.2.2).trans C0.out.1; unfold execOp; go_simp) ?_
  unfold wpPure
  go_simp
  refine pure_moreD [10, 11] 9 (L' := #[true, true, true, true, true, true, false, false, false, false, true, true, false, false, false, false, false]) (by kernel_rfl) (by kernel_rfl) HC ?_
  simp only [opsAt, List.getElem?_toArray, List.getElem?_cons_zero, List.getElem?_cons_succ]
  refine pure_atG (.pointer (some ⟨G, 1, none⟩)) rfl (fun wz _ => by unfold execOp; go_simp) ?_
  refine pure_atG (.int .i64 a) rfl (fun wz hC => by have h0 := ((Hid.out hC).cell (p := ⟨G, 1, none⟩) C0.out.2.2.2.2).trans C0.out.2.1; unfold execOp; go_simp) ?_
  unfold wpPure
  go_simp
  refine pure_moreD [12, 13] 7 (L' := #[true, true, true, true, true, true, false, false, false, false, true, true, true, true, false, false, false]) (by kernel_rfl) (by kernel_rfl) HC ?_
  simp only [opsAt, List.getElem?_toArray, List.getElem?_cons_zero, List.getElem?_cons_succ]
  refine pure_atG (.pointer (some ⟨G, 2, none⟩)) rfl (fun wz _ => by unfold execOp; go_simp) ?_
  refine pure_atG (.int .i64 b) rfl (fun wz hC => by have h0 := ((Hid.out hC).cell (p := ⟨G, 2, none⟩) C0.out.2.2.2.2).trans C0.out.2.2.1; unfold execOp; go_simp) ?_
  unfold wpPure
  go_simp
  refine wpAnyD_one 6 (f := 6) (L' := #[true, true, true, true, true, true, true, false, false, false, true, true, true, true, false, false, false]) (by kernel_rfl) (by kernel_rfl) rfl rfl ?_
  go_wp2_with fail
  with_reducible refine q.out.mono ?_
  rintro e w2 ⟨rfl, hb⟩
  replace HC : Hid (Below w1.heap.size w1 w2) := HC.out.trans hb
  clear hb
  go_wp2_with fail
  rw [StepQ_normal]
  refine ⟨fun _ => HC, ?_⟩
  have hR := hT1.out.rels
  have g0 := hR.c0.2
  have g1 := hR.lt
  have G1 := Lib.hid (And.intro g0 g1)
  clear g0 g1 hR
  refine pure_moreD [7, 8, 9] 3 (L' := #[true, true, true, true, true, true, true, true, true, true, true, true, true, true, false, false, false]) (by kernel_rfl) (by kernel_rfl) HC ?_
  simp only [opsAt, List.getElem?_toArray, List.getElem?_cons_zero, List.getElem?_cons_succ]
  refine pure_atG (.pointer (some ⟨0, 0, none⟩)) rfl (fun wz _ => by unfold execOp; go_simp) ?_
  refine pure_atG (.pointer (some ⟨0, 1, none⟩)) rfl (fun wz _ => by unfold execOp; go_simp) ?_
  refine pure_atG (.func (.func 79) #[] #[]) rfl (fun wz hC => by have h0 := ((Hid.out hC).cell (p := ⟨0, 1, none⟩) G1.out.2).trans G1.out.1; unfold execOp; go_simp) ?_
  unfold wpPure
  go_simp
  refine wpAnyD_one 14 (f := 2) (L' := #[true, true, true, true, true, true, true, true, true, true, true, true, true, true, true, false, false]) (by kernel_rfl) (by kernel_rfl) rfl rfl ?_
  go_wp2_with fail
  with_reducible refine (qf.out _).mono ?_
  rintro e w3 ⟨rfl, rfl⟩
  go_wp2_with fail
  rw [StepQ_normal]
  refine ⟨fun _ => HC, ?_⟩
  refine pure_moreD [15] 1 (L' := #[true, true, true, true, true, true, true, true, true, true, true, true, true, true, true, true, false]) (by kernel_rfl) (by kernel_rfl) HC ?_
  simp only [opsAt, List.getElem?_toArray, List.getElem?_cons_zero, List.getElem?_cons_succ]
  refine pure_atG (.bool false) rfl (fun wz _ => by unfold execOp; go_simp) ?_
  unfold wpPure
  go_simp
  refine wpAnyD_one 16 (f := 0) (L' := #[true, true, true, true, true, true, true, true, true, true, true, true, true, true, true, true, true]) (by kernel_rfl) (by kernel_rfl) rfl rfl ?_
  go_wp2_with fail
  rw [StepQ_normal]
  refine ⟨fun _ => HC, ?_⟩
  refine ⟨by kernel_rfl, ?_⟩
  rw [OnlyN_normal]
  go_wp2_with fail
  go_ret
  exact ⟨rfl, by rw [HG.out]; exact HB.out.trans (HC.out.mono (Nat.le_of_lt C0.out.2.2.2.2))⟩

set_option maxRecDepth 100000 in
set_option maxHeartbeats 1000000 in
theorem Holds_rel1 (r a b : Int) (hr : I64 r) (h : relS r = 1) (w : World) (hT : Hid (Law16 w)) : Calls Tryd.prog 23 #[.agg #[.int .i64 r, .int .i64 a, .int .i64 b, .bool false]] w fun e w' => e = .returned (.bool (decide (a ≤ b))) ∧ Below w.heap.size w w' := by
  have hb := (Below.refl w.heap.size w).alloc (Nat.le_refl _) (.cells #[.int .i64 r, .int .i64 a, .int .i64 b, .bool false] 39)
  have HB := Lib.hid hb
  have hT1 := Lib.hid (hT.out.call hb)
  have hk : (w.alloc (.cells #[.int .i64 r, .int .i64 a, .int .i64 b, .bool false] 39)).heap[w.heap.size]? = some (.cells #[.int .i64 r, .int .i64 a, .int .i64 b, .bool false] 39) := heap_new _ _
  have c0 := cells_of_blk hk 0 _ rfl
  have c1 := cells_of_blk hk 1 _ rfl
  have c2 := cells_of_blk hk 2 _ rfl
  have c3 := cells_of_blk hk 3 _ rfl
  have lt : w.heap.size < (w.alloc (.cells #[.int .i64 r, .int .i64 a, .int .i64 b, .bool false] 39)).heap.size := (Array.getElem?_eq_some_iff.1 hk).1
  clear hk hb
  have C0 := Lib.hid (And.intro c0 (And.intro c1 (And.intro c2 (And.intro c3 lt))))
  clear c0 c1 c2 c3 lt
  have qf := Lib.hid (fun w => rel2_any a b w)
  obtain ⟨z, hz⟩ : ∃ z, (decide (a ≤ b)) = z := ⟨_, rfl⟩
  rw [hz] at qf ⊢
  clear hz
  go_enter Tryd.func23, Tryd.ntmps23
  go_wp2_with fail
  generalize hG : w.heap.size = G at *
  have HG := Lib.hid hG
  clear hG
  generalize w.alloc (.cells #[.int .i64 r, .int .i64 a, .int .i64 b, .bool false] 39) = w1 at *
  have q : Hid (Calls Tryd.prog 20 #[.int .i64 r] w1.drew fun e w' => e = .returned (.int .i64 1) ∧ Below w1.drew.heap.size w1.drew w') := by
    have h1 := Relation_any r hr w1.drew (Lib.hid (hT1.out.call (Below.refl _ _).drew).rules)
    rw [h] at h1
    exact h1
  clear h
  have HC : Hid (Below w1.heap.size w1 w1.drew) := (Below.refl _ _).drew
  refine wp_region_D [] (fun wz => Hid (Below w1.heap.size w1 wz)) 17 #[false, false, false, false, false, false, false, false, false, false, false, false, false, false, false, false, false] (by kernel_rfl) (by kernel_rfl) (by kernel_rfl) ?_
  refine pure_moreD [0, 1, 2] 14 (L' := #[true, true, true, false, false, false, false, false, false, false, false, false, false, false, false, false, false]) (by kernel_rfl) (by kernel_rfl) HC ?_
  simp only [opsAt, List.getElem?_toArray, List.getElem?_cons_zero, List.getElem?_cons_succ]
  refine pure_atG (.pointer (some ⟨G, 3, none⟩)) rfl (fun wz _ => by unfold execOp; go_simp) ?_
  refine pure_atG (.bool false) rfl (fun wz hC => by have h0 := ((Hid.out hC).cell (p := ⟨G, 3, none⟩) C0.out.2.2.2.2).trans C0.out.2.2.2.1; unfold execOp; go_simp) ?_
  refine pure_atG (.bool true) rfl (fun wz _ => by unfold execOp; go_simp) ?_
  unfold wpPure
  go_simp
  refine pure_moreD [3] 13 (L' := #[true, true, true, true, false, false, false, false, false, false, false, false, false, false, false, false, false]) (by kernel_rfl) (by kernel_rfl) HC ?_
  simp only [opsAt, List.getElem?_toArray, List.getElem?_cons_zero, List.getElem?_cons_succ]
  refine pure_moveG rfl rfl ?_
  unfold wpPure
  go_simp
  refine pure_moreD [4, 5] 11 (L' := #[true, true, true, true, true, true, false, false, false, false, false, false, false, false, false, false, false]) (by kernel_rfl) (by kernel_rfl) HC ?_
  simp only [opsAt, List.getElem?_toArray, List.getElem?_cons_zero, List.getElem?_cons_succ]
  refine pure_atG (.pointer (some ⟨G, 0, none⟩)) rfl (fun wz _ => by unfold execOp; go_simp) ?_
  refine pure_atG (.int .i64 r) rfl (fun wz hC => by have h0 := ((Hid.out hC).cell (p := ⟨G, 0, none⟩) C0.out.2.2.2.2).trans C0.out.1; unfold execOp; go_simp) ?_
  unfold wpPure
  go_simp
  refine pure_moreD [10, 11] 9 (L' := #[true, true, true, true, true, true, false, false, false, false, true, true, false, false, false, false, false]) (by kernel_rfl) (by kernel_rfl) HC ?_
  simp only [opsAt, List.getElem?_toArray, List.getElem?_cons_zero, List.getElem?_cons_succ]
  refine pure_atG (.pointer (some ⟨G, 1, none⟩)) rfl (fun wz _ => by unfold execOp; go_simp) ?_
  refine pure_atG (.int .i64 a) rfl (fun wz hC => by have h0 := ((Hid.out hC).cell (p := ⟨G, 1, none⟩) C0.out.2.2.2.2).trans C0.out.2.1; unfold execOp; go_simp) ?_
  unfold wpPure
  go_simp
  refine pure_moreD [12, 13] 7 (L' := #[true, true, true, true, true, true, false, false, false, false, true, true, true, true, false, false, false]) (by kernel_rfl) (by kernel_rfl) HC ?_
  simp only [opsAt, List.getElem?_toArray, List.getElem?_cons_zero, List.getElem?_cons_succ]
  refine pure_atG (.pointer (some ⟨G, 2, none⟩)) rfl (fun wz _ => by unfold execOp; go_simp) ?_
  refine pure_atG (.int .i64 b) rfl (fun wz hC => by have h0 := ((Hid.out hC).cell (p := ⟨G, 2, none⟩) C0.out.2.2.2.2).trans C0.out.2.2.1; unfold execOp; go_simp) ?_
  unfold wpPure
  go_simp
  refine wpAnyD_one 6 (f := 6) (L' := #[true, true, true, true, true, true, true, false, false, false, true, true, true, true, false, false, false]) (by kernel_rfl) (by kernel_rfl) rfl rfl ?_
  go_wp2_with fail
  with_reducible refine q.out.mono ?_
  rintro e w2 ⟨rfl, hb⟩
  replace HC : Hid (Below w1.heap.size w1 w2) := HC.out.trans hb
  clear hb
  go_wp2_with fail
  rw [StepQ_normal]
  refine ⟨fun _ => HC, ?_⟩
  have hR := hT1.out.rels
  have g0 := hR.c1.2
  have g1 := hR.lt
  have G1 := Lib.hid (And.intro g0 g1)
  clear g0 g1 hR
  refine pure_moreD [7, 8, 9] 3 (L' := #[true, true, true, true, true, true, true, true, true, true, true, true, true, true, false, false, false]) (by kernel_rfl) (by kernel_rfl) HC ?_
  simp only [opsAt, List.getElem?_toArray, List.getElem?_cons_zero, List.getElem?_cons_succ]
  refine pure_atG (.pointer (some ⟨0, 2, none⟩)) rfl (fun wz _ => by unfold execOp; go_simp) ?_
  refine pure_atG (.pointer (some ⟨0, 3, none⟩)) rfl (fun wz _ => by unfold execOp; go_simp) ?_
  refine pure_atG (.func (.func 80) #[] #[]) rfl (fun wz hC => by have h0 := ((Hid.out hC).cell (p := ⟨0, 3, none⟩) G1.out.2).trans G1.out.1; unfold execOp; go_simp) ?_
  unfold wpPure
  go_simp
  refine wpAnyD_one 14 (f := 2) (L' := #[true, true, true, true, true, true, true, true, true, true, true, true, true, true, true, false, false]) (by kernel_rfl) (by kernel_rfl) rfl rfl ?_
  go_wp2_with fail
  with_reducible refine (qf.out _).mono ?_
  rintro e w3 ⟨rfl, rfl⟩
  go_wp2_with fail
  rw [StepQ_normal]
  refine ⟨fun _ => HC, ?_⟩
  refine pure_moreD [15] 1 (L' := #[true, true, true, true, true, true, true, true, true, true, true, true, true, true, true, true, false]) (by kernel_rfl) (by kernel_rfl) HC ?_
  simp only [opsAt, List.getElem?_toArray, List.getElem?_cons_zero, List.getElem?_cons_succ]
  refine pure_atG (.bool z) rfl (fun wz _ => by unfold execOp; go_simp) ?_
  unfold wpPure
  go_simp
  refine wpAnyD_one 16 (f := 0) (L' := #[true, true, true, true, true, true, true, true, true, true, true, true, true, true, true, true, true]) (by kernel_rfl) (by kernel_rfl) rfl rfl ?_
  go_wp2_with fail
  rw [StepQ_normal]
  refine ⟨fun _ => HC, ?_⟩
  refine ⟨by kernel_rfl, ?_⟩
  rw [OnlyN_normal]
  go_wp2_with fail
  go_ret
  exact ⟨rfl, by rw [HG.out]; exact HB.out.trans (HC.out.mono (Nat.le_of_lt C0.out.2.2.2.2))⟩

set_option maxRecDepth 100000 in
set_option maxHeartbeats 1000000 in
theorem Holds_rel2 (r a b : Int) (hr : I64 r) (h : relS r = 2) (w : World) (hT : Hid (Law16 w)) : Calls Tryd.prog 23 #[.agg #[.int .i64 r, .int .i64 a, .int .i64 b, .bool false]] w fun e w' => e = .returned (.bool (decide (b ≤ a))) ∧ Below w.heap.size w w' := by
  have hb := (Below.refl w.heap.size w).alloc (Nat.le_refl _) (.cells #[.int .i64 r, .int .i64 a, .int .i64 b, .bool false] 39)
  have HB := Lib.hid hb
  have hT1 := Lib.hid (hT.out.call hb)
  have hk : (w.alloc (.cells #[.int .i64 r, .int .i64 a, .int .i64 b, .bool false] 39)).heap[w.heap.size]? = some (.cells #[.int .i64 r, .int .i64 a, .int .i64 b, .bool false] 39) := heap_new _ _
  have c0 := cells_of_blk hk 0 _ rfl
  have c1 := cells_of_blk hk 1 _ rfl
  have c2 := cells_of_blk hk 2 _ rfl
  have c3 := cells_of_blk hk 3 _ rfl
  have lt : w.heap.size < (w.alloc (.cells #[.int .i64 r, .int .i64 a, .int .i64 b, .bool false] 39)).heap.size := (Array.getElem?_eq_some_iff.1 hk).1
  clear hk hb
  have C0 := Lib.hid (And.intro c0 (And.intro c1 (And.intro c2 (And.intro c3 lt))))
  clear c0 c1 c2 c3 lt
  have qf := Lib.hid (fun w => rel3_any a b w)
  obtain ⟨z, hz⟩ : ∃ z, (decide (b ≤ a)) = z := ⟨_, rfl⟩
  rw [hz] at qf ⊢
  clear hz
  go_enter Tryd.func23, Tryd.ntmps23
  go_wp2_with fail
  generalize hG : w.heap.size = G at *
  have HG := Lib.hid hG
  clear hG
  generalize w.alloc (.cells #[.int .i64 r, .int .i64 a, .int .i64 b, .bool false] 39) = w1 at *
  have q : Hid (Calls Tryd.prog 20 #[.int .i64 r] w1.drew fun e w' => e = .returned (.int .i64 2) ∧ Below w1.drew.heap.size w1.drew w') := by
    have h1 := Relation_any r hr w1.drew (Lib.hid (hT1.out.call (Below.refl _ _).drew).rules)
    rw [h] at h1
    exact h1
  clear h
  have HC : Hid (Below w1.heap.size w1 w1.drew) := (Below.refl _ _).drew
  refine wp_region_D [] (fun wz => Hid (Below w1.heap.size w1 wz)) 17 #[false, false, false, false, false, false, false, false, false, false, false, false, false, false, false, false, false] (by kernel_rfl) (by kernel_rfl) (by kernel_rfl) ?_
  refine pure_moreD [0, 1, 2] 14 (L' := #[true, true, true, false, false, false, false, false, false, false, false, false, false, false, false, false, false]) (by kernel_rfl) (by kernel_rfl) HC ?_
  simp only [opsAt, List.getElem?_toArray, List.getElem?_cons_zero, List.getElem?_cons_succ]
  refine pure_atG (.pointer (some ⟨G, 3, none⟩)) rfl (fun wz _ => by unfold execOp; go_simp) ?_
  refine pure_atG (.bool false) rfl (fun wz hC => by have h0 := ((Hid.out hC).cell (p := ⟨G, 3, none⟩) C0.out.2.2.2.2).trans C0.out.2.2.2.1; unfold execOp; go_simp) ?_
  refine pure_atG (.bool true) rfl (fun wz _ => by unfold execOp; go_simp) ?_
  unfold wpPure
  go_simp
  refine pure_moreD [3] 13 (L' := #[true, true, true, true, false, false, false, false, false, false, false, false, false, false, false, false, false]) (by kernel_rfl) (by kernel_rfl) HC ?_
  simp only [opsAt, List.getElem?_toArray, List.getElem?_cons_zero, List.getElem?_cons_succ]
  refine pure_moveG rfl rfl ?_
  unfold wpPure
  go_simp
  refine pure_moreD [4, 5] 11 (L' := #[true, true, true, true, true, true, false, false, false, false, false, false, false, false, false, false, false]) (by kernel_rfl) (by kernel_rfl) HC ?_
  simp only [opsAt, List.getElem?_toArray, List.getElem?_cons_zero, List.getElem?_cons_succ]
  refine pure_atG (.pointer (some ⟨G, 0, none⟩)) rfl (fun wz _ => by unfold execOp; go_simp) ?_
  refine pure_atG (.int .i64 r) rfl (fun wz hC => by have h0 := ((Hid.out hC).cell (p := ⟨G, 0, none⟩) C0.out.2.2.2.2).trans C0.out.1; unfold execOp; go_simp) ?_
  unfold wpPure
  go_simp
  refine pure_moreD [10, 11] 9 (L' := #[true, true, true, true, true, true, false, false, false, false, true, true, false, false, false, false, false]) (by kernel_rfl) (by kernel_rfl) HC ?_
  simp only [opsAt, List.getElem?_toArray, List.getElem?_cons_zero, List.getElem?_cons_succ]
  refine pure_atG (.pointer (some ⟨G, 1, none⟩)) rfl (fun wz _ => by unfold execOp; go_simp) ?_
  refine pure_atG (.int .i64 a) rfl (fun wz hC => by have h0 := ((Hid.out hC).cell (p := ⟨G, 1, none⟩) C0.out.2.2.2.2).trans C0.out.2.1; unfold execOp; go_simp) ?_
  unfold wpPure
  go_simp
  refine pure_moreD [12, 13] 7 (L' := #[true, true, true, true, true, true, false, false, false, false, true, true, true, true, false, false, false]) (by kernel_rfl) (by kernel_rfl) HC ?_
  simp only [opsAt, List.getElem?_toArray, List.getElem?_cons_zero, List.getElem?_cons_succ]
  refine pure_atG (.pointer (some ⟨G, 2, none⟩)) rfl (fun wz _ => by unfold execOp; go_simp) ?_
  refine pure_atG (.int .i64 b) rfl (fun wz hC => by have h0 := ((Hid.out hC).cell (p := ⟨G, 2, none⟩) C0.out.2.2.2.2).trans C0.out.2.2.1; unfold execOp; go_simp) ?_
  unfold wpPure
  go_simp
  refine wpAnyD_one 6 (f := 6) (L' := #[true, true, true, true, true, true, true, false, false, false, true, true, true, true, false, false, false]) (by kernel_rfl) (by kernel_rfl) rfl rfl ?_
  go_wp2_with fail
  with_reducible refine q.out.mono ?_
  rintro e w2 ⟨rfl, hb⟩
  replace HC : Hid (Below w1.heap.size w1 w2) := HC.out.trans hb
  clear hb
  go_wp2_with fail
  rw [StepQ_normal]
  refine ⟨fun _ => HC, ?_⟩
  have hR := hT1.out.rels
  have g0 := hR.c2.2
  have g1 := hR.lt
  have G1 := Lib.hid (And.intro g0 g1)
  clear g0 g1 hR
  refine pure_moreD [7, 8, 9] 3 (L' := #[true, true, true, true, true, true, true, true, true, true, true, true, true, true, false, false, false]) (by kernel_rfl) (by kernel_rfl) HC ?_
  simp only [opsAt, List.getElem?_toArray, List.getElem?_cons_zero, List.getElem?_cons_succ]
  refine pure_atG (.pointer (some ⟨0, 4, none⟩)) rfl (fun wz _ => by unfold execOp; go_simp) ?_
  refine pure_atG (.pointer (some ⟨0, 5, none⟩)) rfl (fun wz _ => by unfold execOp; go_simp) ?_
  refine pure_atG (.func (.func 81) #[] #[]) rfl (fun wz hC => by have h0 := ((Hid.out hC).cell (p := ⟨0, 5, none⟩) G1.out.2).trans G1.out.1; unfold execOp; go_simp) ?_
  unfold wpPure
  go_simp
  refine wpAnyD_one 14 (f := 2) (L' := #[true, true, true, true, true, true, true, true, true, true, true, true, true, true, true, false, false]) (by kernel_rfl) (by kernel_rfl) rfl rfl ?_
  go_wp2_with fail
  with_reducible refine (qf.out _).mono ?_
  rintro e w3 ⟨rfl, rfl⟩
  go_wp2_with fail
  rw [StepQ_normal]
  refine ⟨fun _ => HC, ?_⟩
  refine pure_moreD [15] 1 (L' := #[true, true, true, true, true, true, true, true, true, true, true, true, true, true, true, true, false]) (by kernel_rfl) (by kernel_rfl) HC ?_
  simp only [opsAt, List.getElem?_toArray, List.getElem?_cons_zero, List.getElem?_cons_succ]
  refine pure_atG (.bool z) rfl (fun wz _ => by unfold execOp; go_simp) ?_
  unfold wpPure
  go_simp
  refine wpAnyD_one 16 (f := 0) (L' := #[true, true, true, true, true, true, true, true, true, true, true, true, true, true, true, true, true]) (by kernel_rfl) (by kernel_rfl) rfl rfl ?_
  go_wp2_with fail
  rw [StepQ_normal]
  refine ⟨fun _ => HC, ?_⟩
  refine ⟨by kernel_rfl, ?_⟩
  rw [OnlyN_normal]
  go_wp2_with fail
  go_ret
  exact ⟨rfl, by rw [HG.out]; exact HB.out.trans (HC.out.mono (Nat.le_of_lt C0.out.2.2.2.2))⟩

set_option maxRecDepth 100000 in
set_option maxHeartbeats 1000000 in
theorem Holds_rel3 (r a b : Int) (hr : I64 r) (h : relS r = 3) (w : World) (hT : Hid (Law16 w)) : Calls Tryd.prog 23 #[.agg #[.int .i64 r, .int .i64 a, .int .i64 b, .bool false]] w fun e w' => e = .returned (.bool (a == b)) ∧ Below w.heap.size w w' := by
  have hb := (Below.refl w.heap.size w).alloc (Nat.le_refl _) (.cells #[.int .i64 r, .int .i64 a, .int .i64 b, .bool false] 39)
  have HB := Lib.hid hb
  have hT1 := Lib.hid (hT.out.call hb)
  have hk : (w.alloc (.cells #[.int .i64 r, .int .i64 a, .int .i64 b, .bool false] 39)).heap[w.heap.size]? = some (.cells #[.int .i64 r, .int .i64 a, .int .i64 b, .bool false] 39) := heap_new _ _
  have c0 := cells_of_blk hk 0 _ rfl
  have c1 := cells_of_blk hk 1 _ rfl
  have c2 := cells_of_blk hk 2 _ rfl
  have c3 := cells_of_blk hk 3 _ rfl
  have lt : w.heap.size < (w.alloc (.cells #[.int .i64 r, .int .i64 a, .int .i64 b, .bool false] 39)).heap.size := (Array.getElem?_eq_some_iff.1 hk).1
  clear hk hb
  have C0 := Lib.hid (And.intro c0 (And.intro c1 (And.intro c2 (And.intro c3 lt))))
  clear c0 c1 c2 c3 lt
  have qf := Lib.hid (fun w => rel4_any a b w)
  obtain ⟨z, hz⟩ : ∃ z, (a == b) = z := ⟨_, rfl⟩
  rw [hz] at qf ⊢
  clear hz
  go_enter Tryd.func23, Tryd.ntmps23
  go_wp2_with fail
  generalize hG : w.heap.size = G at *
  have HG := Lib.hid hG
  clear hG
  generalize w.alloc (.cells #[.int .i64 r, .int .i64 a, .int .i64 b, .bool false] 39) = w1 at *
  have q : Hid (Calls Tryd.prog 20 #[.int .i64 r] w1.drew fun e w' => e = .returned (.int .i64 3) ∧ Below w1.drew.heap.size w1.drew w') := by
    have h1 := Relation_any r hr w1.drew (Lib.hid (hT1.out.call (Below.refl _ _).drew).rules)
    rw [h] at h1
    exact h1
  clear h
  have HC : Hid (Below w1.heap.size w1 w1.drew) := (Below.refl _ _).drew
  refine wp_region_D [] (fun wz => Hid (Below w1.heap.size w1 wz)) 17 #[false, false, false, false, false, false, false, false, false, false, false, false, false, false, false, false, false] (by kernel_rfl) (by kernel_rfl) (by kernel_rfl) ?_
  refine pure_moreD [0, 1, 2] 14 (L' := #[true, true, true, false, false, false, false, false, false, false, false, false, false, false, false, false, false]) (by kernel_rfl) (by kernel_rfl) HC ?_
  simp only [opsAt, List.getElem?_toArray, List.getElem?_cons_zero, List.getElem?_cons_succ]
  refine pure_atG (.pointer (some ⟨G, 3, none⟩)) rfl (fun wz _ => by unfold execOp; go_simp) ?_
  refine pure_atG (.bool false) rfl (fun wz hC => by have h0 := ((Hid.out hC).cell (p := ⟨G, 3, none⟩) C0.out.2.2.2.2).trans C0.out.2.2.2.1; unfold execOp; go_simp) ?_
  refine pure_atG (.bool true) rfl (fun wz _ => by unfold execOp; go_simp) ?_
  unfold wpPure
  go_simp
  refine pure_moreD [3] 13 (L' := #[true, true, true, true, false, false, false, false, false, false, false, false, false, false, false, false, false]) (by kernel_rfl) (by kernel_rfl) HC ?_
  simp only [opsAt, List.getElem?_toArray, List.getElem?_cons_zero, List.getElem?_cons_succ]
  refine pure_moveG rfl rfl ?_
  unfold wpPure
  go_simp
  refine pure_moreD [4, 5] 11 (L' := #[true, true, true, true, true, true, false, false, false, false, false, false, false, false, false, false, false]) (by kernel_rfl) (by kernel_rfl) HC ?_
  simp only [opsAt, List.getElem?_toArray, List.getElem?_cons_zero, List.getElem?_cons_succ]
  refine pure_atG (.pointer (some ⟨G, 0, none⟩)) rfl (fun wz _ => by unfold execOp; go_simp) ?_
  refine pure_atG (.int .i64 r) rfl (fun wz hC => by have h0 := ((Hid.out hC).cell (p := ⟨G, 0, none⟩) C0.out.2.2.2.2).trans C0.out.1; unfold execOp; go_simp) ?_
  unfold wpPure
  go_simp
  refine pure_moreD [10, 11] 9 (L' := #[true, true, true, true, true, true, false, false, false, false, true, true, false, false, false, false, false]) (by kernel_rfl) (by kernel_rfl) HC ?_
  simp only [opsAt, List.getElem?_toArray, List.getElem?_cons_zero, List.getElem?_cons_succ]
  refine pure_atG (.pointer (some ⟨G, 1, none⟩)) rfl (fun wz _ => by unfold execOp; go_simp) ?_
  refine pure_atG (.int .i64 a) rfl (fun wz hC => by have h0 := ((Hid.out hC).cell (p := ⟨G, 1, none⟩) C0.out.2.2.2.2).trans C0.out.2.1; unfold execOp; go_simp) ?_
  unfold wpPure
  go_simp
  refine pure_moreD [12, 13] 7 (L' := #[true, true, true, true, true, true, false, false, false, false, true, true, true, true, false, false, false]) (by kernel_rfl) (by kernel_rfl) HC ?_
  simp only [opsAt, List.getElem?_toArray, List.getElem?_cons_zero, List.getElem?_cons_succ]
  refine pure_atG (.pointer (some ⟨G, 2, none⟩)) rfl (fun wz _ => by unfold execOp; go_simp) ?_
  refine pure_atG (.int .i64 b) rfl (fun wz hC => by have h0 := ((Hid.out hC).cell (p := ⟨G, 2, none⟩) C0.out.2.2.2.2).trans C0.out.2.2.1; unfold execOp; go_simp) ?_
  unfold wpPure
  go_simp
  refine wpAnyD_one 6 (f := 6) (L' := #[true, true, true, true, true, true, true, false, false, false, true, true, true, true, false, false, false]) (by kernel_rfl) (by kernel_rfl) rfl rfl ?_
  go_wp2_with fail
  with_reducible refine q.out.mono ?_
  rintro e w2 ⟨rfl, hb⟩
  replace HC : Hid (Below w1.heap.size w1 w2) := HC.out.trans hb
  clear hb
  go_wp2_with fail
  rw [StepQ_normal]
  refine ⟨fun _ => HC, ?_⟩
  have hR := hT1.out.rels
  have g0 := hR.c3.2
  have g1 := hR.lt
  have G1 := Lib.hid (And.intro g0 g1)
  clear g0 g1 hR
  refine pure_moreD [7, 8, 9] 3 (L' := #[true, true, true, true, true, true, true, true, true, true, true, true, true, true, false, false, false]) (by kernel_rfl) (by kernel_rfl) HC ?_
  simp only [opsAt, List.getElem?_toArray, List.getElem?_cons_zero, List.getElem?_cons_succ]
  refine pure_atG (.pointer (some ⟨0, 6, none⟩)) rfl (fun wz _ => by unfold execOp; go_simp) ?_
  refine pure_atG (.pointer (some ⟨0, 7, none⟩)) rfl (fun wz _ => by unfold execOp; go_simp) ?_
  refine pure_atG (.func (.func 82) #[] #[]) rfl (fun wz hC => by have h0 := ((Hid.out hC).cell (p := ⟨0, 7, none⟩) G1.out.2).trans G1.out.1; unfold execOp; go_simp) ?_
  unfold wpPure
  go_simp
  refine wpAnyD_one 14 (f := 2) (L' := #[true, true, true, true, true, true, true, true, true, true, true, true, true, true, true, false, false]) (by kernel_rfl) (by kernel_rfl) rfl rfl ?_
  go_wp2_with fail
  with_reducible refine (qf.out _).mono ?_
  rintro e w3 ⟨rfl, rfl⟩
  go_wp2_with fail
  rw [StepQ_normal]
  refine ⟨fun _ => HC, ?_⟩
  refine pure_moreD [15] 1 (L' := #[true, true, true, true, true, true, true, true, true, true, true, true, true, true, true, true, false]) (by kernel_rfl) (by kernel_rfl) HC ?_
  simp only [opsAt, List.getElem?_toArray, List.getElem?_cons_zero, List.getElem?_cons_succ]
  refine pure_atG (.bool z) rfl (fun wz _ => by unfold execOp; go_simp) ?_
  unfold wpPure
  go_simp
  refine wpAnyD_one 16 (f := 0) (L' := #[true, true, true, true, true, true, true, true, true, true, true, true, true, true, true, true, true]) (by kernel_rfl) (by kernel_rfl) rfl rfl ?_
  go_wp2_with fail
  rw [StepQ_normal]
  refine ⟨fun _ => HC, ?_⟩
  refine ⟨by kernel_rfl, ?_⟩
  rw [OnlyN_normal]
  go_wp2_with fail
  go_ret
  exact ⟨rfl, by rw [HG.out]; exact HB.out.trans (HC.out.mono (Nat.le_of_lt C0.out.2.2.2.2))⟩

theorem Holds_any (s : Stp) (hs : s.fit) (w : World) (hT : Hid (Law16 w)) : Calls Tryd.prog 23 #[s.val] w fun e w' => e = .returned (.bool s.holds) ∧ Below w.heap.size w w' := by
  obtain ⟨r, a, b, o⟩ := s
  cases o with
  | true => exact Holds_over r a b w
  | false =>
    have hl := relS_lt r
    have h4 : relS r = 0 ∨ relS r = 1 ∨ relS r = 2 ∨ relS r = 3 := by omega
    unfold Stp.holds
    rcases h4 with h | h | h | h
    · have := Holds_rel0 r a b hs.1 h w hT
      rw [show (!(Stp.mk r a b false).over && Rule.is (relS (Stp.mk r a b false).rule) (Stp.mk r a b false).left (Stp.mk r a b false).right) = false by show (true && Rule.is (relS r) a b) = _; rw [h]; rfl]
      exact this
    · have := Holds_rel1 r a b hs.1 h w hT
      rw [show (!(Stp.mk r a b false).over && Rule.is (relS (Stp.mk r a b false).rule) (Stp.mk r a b false).left (Stp.mk r a b false).right) = decide (a ≤ b) by show (true && Rule.is (relS r) a b) = _; rw [h]; rfl]
      exact this
    · have := Holds_rel2 r a b hs.1 h w hT
      rw [show (!(Stp.mk r a b false).over && Rule.is (relS (Stp.mk r a b false).rule) (Stp.mk r a b false).left (Stp.mk r a b false).right) = decide (b ≤ a) by show (true && Rule.is (relS r) a b) = _; rw [h]; rfl]
      exact this
    · have := Holds_rel3 r a b hs.1 h w hT
      rw [show (!(Stp.mk r a b false).over && Rule.is (relS (Stp.mk r a b false).rule) (Stp.mk r a b false).left (Stp.mk r a b false).right) = (a == b) by show (true && Rule.is (relS r) a b) = _; rw [h]; rfl]
      exact this
end Go.Proofs.YteeemoknbnlopaaDoor
