/- Books: how a stake is held against a key. -/
import Derived.Test.YtfkfpppiikgjbaaBookA
import Derived.Test.YtfkfpppiikgjbaaRegD
namespace Go.Proofs.Ytfkfpppiikgjbaa
open Go Go.RowKit
set_option linter.unusedVariables false
set_option linter.unusedSimpArgs false

def orI (a b : Int) : Int := if a = 0 then b else a
set_option maxRecDepth 100000 in
set_option maxHeartbeats 1000000 in
theorem Or_any (a b : Int) (g : Nat) (w : World) (hg : Hid (w.heap[g]? = some (.cells #[.int .i64 a, .int .i64 b] 3))) :
    Calls Try.prog 104 #[.slice (some ⟨g, 0, none⟩) 2 2] w fun e w' => e = .returned (.int .i64 (orI a b)) ∧ w = w' := by
  have c0 := cells_of_blk hg.out 0 _ rfl
  have c1 := cells_of_blk hg.out 1 _ rfl
  have hR1 : Hid (¬ a = 0 → orI a b = a) := fun h => if_neg h
  have hR2 : Hid (a = 0 → orI a b = b) := fun h => if_pos h
  generalize orI a b = R at *
  go_enter Try.func104, Try.ntmps104
  go_wp2_with fail
  go_loopw [8] (fun s8 wr => ∃ i : Nat, s8 = .int .i64 i ∧ Hid (i ≤ 2) ∧ Hid (0 < i → a = 0) ∧ Hid (1 < i → b = 0) ∧ w = wr) (fun s8 _ => 2 - (intOf s8).toNat)
  case atStart => exact ⟨0, rfl, by show _ ≤ _; omega, fun h => by omega, fun h => by omega, rfl⟩
  case round =>
    obtain ⟨i, rfl, hi, ha, hb, rfl⟩ := hrel
    have hi := hi.out
    by_cases h0 : i = 0
    · subst h0
      by_cases hz : a = 0
      · have t1 : (a == 0) = true := beq_iff_eq.2 hz
        have t2 : (a != 0) = false := by rw [bne, t1]; rfl
        have HZ := Lib.hid hz
        clear hz
        go_wp2_with fail
        go_roundw
        case rel => exact ⟨1, by go_num, by show _ ≤ _; omega, fun _ => HZ.out, fun h => by omega, trivial⟩
        case measure => simp [intOf]
      · have t1 : (a == 0) = false := beq_eq_false_iff_ne.2 hz
        have t2 : (a != 0) = true := by rw [bne, t1]; rfl
        obtain rfl : R = a := hR1.out hz
        clear hz hR1 hR2
        go_wp2_with fail
        go_ret
        exact ⟨rfl, rfl⟩
    · by_cases h1 : i = 1
      · subst h1
        have haz := ha.out (by omega)
        obtain rfl : R = b := hR2.out haz
        clear haz hb hR1 hR2
        by_cases hz : R = 0
        · have t1 : (R == 0) = true := beq_iff_eq.2 hz
          have t2 : (R != 0) = false := by rw [bne, t1]; rfl
          have HZ := Lib.hid hz
          clear hz
          go_wp2_with fail
          go_roundw
          case rel => exact ⟨2, by go_num, by show _ ≤ _; omega, fun _ => ha.out (by omega), fun _ => HZ.out, trivial⟩
          case measure => simp [intOf]
        · have t1 : (R == 0) = false := beq_eq_false_iff_ne.2 hz
          have t2 : (R != 0) = true := by rw [bne, t1]; rfl
          clear hz
          go_wp2_with fail
          go_ret
          exact ⟨rfl, rfl⟩
      · obtain rfl : i = 2 := by omega
        have hbz := hb.out (by omega)
        obtain rfl : R = 0 := (hR2.out (ha.out (by omega))).trans hbz
        clear hR1 hR2 hbz ha hb
        go_wp2_with fail
        go_ret
        exact ⟨rfl, rfl⟩
-- PRINTED FROM HERE ON BY genBookB.py
set_option maxRecDepth 100000 in
set_option maxHeartbeats 1000000 in
theorem byStake_any (a b c x y : Int) (w : World) : Calls Try.prog 53 #[.agg #[.int .i64 a, .int .i64 b, .int .i64 c], .agg #[.int .i64 x, .int .i64 y]] w fun e w' => e = .returned (.int .i64 (orI (cmpI a x) (cmpI b y))) ∧ Below w.heap.size w w' := by
  have q1 := Lib.hid (fun w => Compare_any a x w)
  have q2 := Lib.hid (fun w => Compare_any b y w)
  have q3 := Lib.hid (fun g w hg => Or_any (cmpI a x) (cmpI b y) g w hg)
  generalize cmpI a x = C1 at *
  generalize cmpI b y = C2 at *
  generalize orI C1 C2 = R at *
  obtain ⟨w2, hw2⟩ : ∃ w2, (w.alloc (.cells #[.int .i64 a, .int .i64 b, .int .i64 c] 41)).alloc (.cells #[.int .i64 x, .int .i64 y] 80) = w2 := ⟨_, rfl⟩
  have HW2 := Lib.hid hw2
  have HB : Hid (Below w.heap.size w w2) := by rw [← hw2]; exact below_alloc (below_alloc (Below.refl _ _) (Nat.le_refl _) _) (by simp) _
  have k1 : w2.heap[w.heap.size]? = some (.cells #[.int .i64 a, .int .i64 b, .int .i64 c] 41 (0, 0)) := by rw [← hw2]; exact blk_old (heap_new _ _) _
  have k2 : w2.heap[w.heap.size + 1]? = some (.cells #[.int .i64 x, .int .i64 y] 80 (0, 0)) := by rw [← hw2]; exact blk_new _ _ _ (by simp)
  have K1 := Lib.hid k1
  have K2 := Lib.hid k2
  clear hw2 k1 k2
  go_enter Try.func53, Try.ntmps53
  go_wp2_with fail
  rw [HW2.out]
  have e0 := cells_of_blk K1.out 0 _ rfl
  have e1 := cells_of_blk K1.out 1 _ rfl
  have f0 := cells_of_blk K2.out 0 _ rfl
  have f1 := cells_of_blk K2.out 1 _ rfl
  have l1 := (Array.getElem?_eq_some_iff.1 K1.out).1
  have l2 := (Array.getElem?_eq_some_iff.1 K2.out).1
  generalize w.heap.size + 1 = GK at *
  have HC : Hid (Below w2.heap.size w2 w2.drew) := (Below.refl _ _).drew
  refine wp_region_D [] (fun wz => Hid (Below w2.heap.size w2 wz)) 13 #[false, false, false, false, false, false, false, false, false, false, false, false, false] (by kernel_rfl) (by kernel_rfl) (by kernel_rfl) ?_
  refine pure_moreD [0, 1, 2, 3, 5, 6, 7, 8] 5 (L' := #[true, true, true, true, false, true, true, true, true, false, false, false, false]) (by kernel_rfl) (by kernel_rfl) HC ?_
  simp only [opsAt, List.getElem?_toArray, List.getElem?_cons_zero, List.getElem?_cons_succ]
  refine pure_atG (.pointer (some ⟨w.heap.size, 0, none⟩)) rfl (fun wz _ => by unfold execOp; go_simp) ?_
  refine pure_atG (.int .i64 a) rfl (fun wz hC => by have h0 := ((Hid.out hC).cell (p := ⟨w.heap.size, 0, none⟩) l1).trans e0; unfold execOp; go_simp) ?_
  refine pure_atG (.pointer (some ⟨GK, 0, none⟩)) rfl (fun wz _ => by unfold execOp; go_simp) ?_
  refine pure_atG (.int .i64 x) rfl (fun wz hC => by have h0 := ((Hid.out hC).cell (p := ⟨GK, 0, none⟩) l2).trans f0; unfold execOp; go_simp) ?_
  refine pure_atG (.pointer (some ⟨w.heap.size, 1, none⟩)) rfl (fun wz _ => by unfold execOp; go_simp) ?_
  refine pure_atG (.int .i64 b) rfl (fun wz hC => by have h0 := ((Hid.out hC).cell (p := ⟨w.heap.size, 1, none⟩) l1).trans e1; unfold execOp; go_simp) ?_
  refine pure_atG (.pointer (some ⟨GK, 1, none⟩)) rfl (fun wz _ => by unfold execOp; go_simp) ?_
  refine pure_atG (.int .i64 y) rfl (fun wz hC => by have h0 := ((Hid.out hC).cell (p := ⟨GK, 1, none⟩) l2).trans f1; unfold execOp; go_simp) ?_
  unfold wpPure
  go_simp
  refine wpAnyD_one 4 (f := 4) (L' := #[true, true, true, true, true, true, true, true, true, false, false, false, false]) (by kernel_rfl) (by kernel_rfl) rfl rfl ?_
  go_wp2_with fail
  with_reducible refine (q1.out _).mono ?_
  rintro e w3 ⟨rfl, rfl⟩
  go_wp2_with fail
  rw [StepQ_normal]
  refine ⟨fun _ => HC, ?_⟩
  refine wpAnyD_one 9 (f := 3) (L' := #[true, true, true, true, true, true, true, true, true, true, false, false, false]) (by kernel_rfl) (by kernel_rfl) rfl rfl ?_
  go_wp2_with fail
  with_reducible refine (q2.out _).mono ?_
  rintro e w3 ⟨rfl, rfl⟩
  go_wp2_with fail
  rw [StepQ_normal]
  refine ⟨fun _ => HC, ?_⟩
  refine wpAnyD_one 10 (f := 2) (L' := #[true, true, true, true, true, true, true, true, true, true, true, false, false]) (by kernel_rfl) (by kernel_rfl) rfl rfl ?_
  go_wp2_with fail
  have HC2 : Hid (Below w2.heap.size w2 (w2.alloc (.cells #[.int .i64 C1, .int .i64 C2] 3)).drew) := (below_alloc (Below.refl _ w2) (Nat.le_refl _) _).drew
  have HN : Hid ((w2.alloc (.cells #[.int .i64 C1, .int .i64 C2] 3)).drew.heap[w2.heap.size]? = some (.cells #[.int .i64 C1, .int .i64 C2] 3 (0, 0))) := heap_new w2 _
  rw [StepQ_normal]
  refine ⟨fun _ => HC2, ?_⟩
  refine wpAnyD_one 11 (f := 1) (L' := #[true, true, true, true, true, true, true, true, true, true, true, true, false]) (by kernel_rfl) (by kernel_rfl) rfl rfl ?_
  go_wp2_with fail
  with_reducible refine (q3.out _ _ HN).mono ?_
  rintro e w3 ⟨rfl, rfl⟩
  go_wp2_with fail
  rw [StepQ_normal]
  refine ⟨fun _ => HC2, ?_⟩
  refine wpAnyD_one 12 (f := 0) (L' := #[true, true, true, true, true, true, true, true, true, true, true, true, true]) (by kernel_rfl) (by kernel_rfl) rfl rfl ?_
  go_wp2_with fail
  rw [StepQ_normal]
  refine ⟨fun _ => HC2, ?_⟩
  refine ⟨by kernel_rfl, ?_⟩
  rw [OnlyN_normal]
  go_wp2_with fail
  go_ret
  exact ⟨rfl, HB.out.trans (HC2.out.mono HB.out.size)⟩
end Go.Proofs.Ytfkfpppiikgjbaa
