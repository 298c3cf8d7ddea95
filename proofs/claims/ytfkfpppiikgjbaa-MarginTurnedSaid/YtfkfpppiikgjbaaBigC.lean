/- The reference's numbers: Of. -/
import Derived.Test.YtfkfpppiikgjbaaBigB
namespace Go.Proofs.Ytfkfpppiikgjbaa
open Go Go.RowKit Bg
set_option linter.unusedVariables false

theorem el_int : Elt Try.prog 116 3 (.int .i64 0) 1 8 := Elt.mk' Try.underlying116 (by kernel_rfl) rfl (by decide)
abbrev dv (d : Nat) : Value := .int .i64 d

theorem dig_row {w : World} {B : Nat} {v : Value} {ds : List Nat} (h : w.ownsRow B 3 1 v ds.length (ds.map fun d => .int .i64 (d : Nat))) : ∃ A c, v = .slice A ds.length c ∧ DigAt w A ds.length (dg ds) ∧ ds.length ≤ c ∧ c ≤ maxLen ∧ (∀ a, A = some a → B ≤ a.block) := by
  rcases h.2 with ⟨rfl, hn⟩ | ⟨g, cap, cur, rfl, hb, hg, hnc, hcm, hcs, htk⟩
  · rw [hn]; exact ⟨none, 0, rfl, fun i hi => by omega, Nat.le_refl _, Nat.zero_le _, fun a ha => by cases ha⟩
  · refine ⟨some ⟨g, 0, none⟩, cap, rfl, fun i hi => ⟨g, 0, rfl, (Array.getElem?_eq_some_iff.1 hg).1, ?_⟩, hnc, hcm, fun a ha => by cases ha; exact hb⟩
    rw [cell_of_row w g (0 + i) cur _ _ hg, Nat.zero_add]
    have h1 : (cur.toList.take (ds.length * 1))[i]? = some (.int .i64 (dg ds i : Nat)) := by
      rw [htk, List.getElem?_map, List.getElem?_eq_getElem hi]
      unfold dg; simp [List.getD, hi]
    rw [List.getElem?_take] at h1
    rw [if_pos (by omega)] at h1
    simpa using h1

theorem pow_five {n q N : Nat} (h : 1 ≤ q) (hN : N ≤ 9223372036854775808) (he : q * 10000 ^ n ≤ N) : n ≤ 4 := by
  by_cases hn : n ≤ 4
  · exact hn
  · have h1 : 10000 ^ 5 ≤ 10000 ^ n := Nat.pow_le_pow_right (by decide) (by omega)
    have h2 : 1 * 10000 ^ n ≤ q * 10000 ^ n := Nat.mul_le_mul_right _ h
    have h3 : (10000 : Nat) ^ 5 = 100000000000000000000 := by decide
    omega

structure OfInv (N : Nat) (ds : List Nat) (q : Nat) : Prop where
  lt : ∀ d ∈ ds, d < 10000
  val : vl ds + q * 10000 ^ ds.length = N
  top : q = 0 → ds.length = 0 ∨ dg ds (ds.length - 1) ≠ 0
theorem OfInv.step {N : Nat} {ds : List Nat} {q : Nat} (h : OfInv N ds q) (hq : q ≠ 0) : OfInv N (ds ++ [q % 10000]) (q / 10000) := by
  refine ⟨fun d hd => ?_, ?_, fun h0 => .inr ?_⟩
  · rcases List.mem_append.1 hd with h1 | h1
    · exact h.lt d h1
    · simp at h1; omega
  · rw [vl_append, List.length_append, ← h.val]
    show vl ds + q % 10000 * 10000 ^ ds.length + q / 10000 * 10000 ^ (ds.length + 1) = _
    rw [Nat.pow_succ]
    have h1 := Nat.div_add_mod q 10000
    generalize q % 10000 = m at *
    generalize q / 10000 = d at *
    rw [← h1]
    grind
  · rw [List.length_append]
    show dg _ (ds.length + 1 - 1) ≠ 0
    rw [Nat.add_sub_cancel, dg_append_at]
    omega

set_option maxRecDepth 100000 in
set_option maxHeartbeats 1000000 in
theorem Of_any (n : Int) (h : I64 n) (w : World) :
    Calls Try.prog 81 #[.int .i64 n] w fun e w' => (∃ v, e = .returned v ∧ BigAt w' v n) ∧ Below w.heap.size w w' := by
  unfold I64 at h
  obtain ⟨N, hN⟩ : ∃ N, n.natAbs = N := ⟨_, rfl⟩
  have hN2 : N ≤ 9223372036854775808 := by omega
  by_cases hs : n < 0
  · have e1 : decide (n < 0) = true := decide_eq_true hs
    go_enter Try.func81, Try.ntmps81
    go_wp2_with fail
    go_loopw [0, 4] (fun s0 s4 wr => ∃ (ds : List Nat) (q : Nat) (v : Value), s0 = .int .i64 (-(q : Int)) ∧ Hid (OfInv N ds q) ∧ Hid (wr.heap[w.heap.size]? = some (.cells #[.bool false, .slice none 0 0] 118 (0, 0))) ∧
      Hid (wr.heap[w.heap.size + 1]? = some (.cells #[.bool true, v] 118 (0, 0))) ∧ Hid (wr.ownsRow (w.heap.size + 2) 3 1 v ds.length (ds.map fun d => .int .i64 (d : Nat))) ∧ Hid (Below w.heap.size w wr) ∧ Hid (w.heap.size + 2 ≤ wr.heap.size)) (fun s0 _ _ => (intOf s0).natAbs)
    case atStart =>
      refine ⟨[], N, .slice none 0 0, ?_, ⟨fun d hd => by simp at hd, by rw [vl_nil]; simp, fun _ => .inl rfl⟩, blk_old (heap_new _ _) _, ?_, World.ownsRow_nil _ _ _ _, below_alloc (below_alloc (Below.refl _ _) (Nat.le_refl _) _) (by rw [World.size_alloc]; omega) _, by show _ ≤ _; simp⟩
      · congr 1; omega
      · have := heap_new (w.alloc (.cells #[.bool false, .slice none 0 0] 118)) (.cells #[.bool true, .slice none 0 0] 118)
        rw [World.size_alloc] at this
        exact this
    case round =>
      obtain ⟨ds, q, v, rfl, HI, H0, H1, HR, HB, HSZ⟩ := hrel
      have c0 : wr.cell? ⟨w.heap.size + 1, 0, none⟩ = some (.bool true) := cells_of_blk H1.out 0 _ rfl
      have c1 : wr.cell? ⟨w.heap.size + 1, 1, none⟩ = some v := cells_of_blk H1.out 1 _ rfl
      have f0 := free_of_blk H1.out 0
      have f1 := free_of_blk H1.out 1
      have d0 : wr.cell? ⟨w.heap.size, 0, none⟩ = some (.bool false) := cells_of_blk H0.out 0 _ rfl
      have d1 : wr.cell? ⟨w.heap.size, 1, none⟩ = some (.slice none 0 0) := cells_of_blk H0.out 1 _ rfl
      have g0 := free_of_blk H0.out 0
      have g1 := free_of_blk H0.out 1
      by_cases hq : q = 0
      · subst hq
        have t1 : (((0 : Nat) : Int) != 0) = false := rfl
        obtain ⟨A, c, rfl, hd, hlc, _, hAB⟩ := dig_row HR.out
        go_wp2_with fail
        refine bodyPost_ret (v := .agg #[.bool true, .slice A ds.length c]) ?_ rfl ⟨⟨_, rfl, ?_⟩, ?_⟩
        · simp [results, Try.results81, go_sem, d0, d1]
        · have hv := HI.out.val
          rw [Nat.zero_mul, Nat.add_zero] at hv
          obtain ⟨A', c', hs', hd', _, _, _⟩ := dig_row (ownsRow_setCell_below (ownsRow_setCell_below HR.out (a := ⟨w.heap.size, 0, none⟩) (by show w.heap.size < _; omega) (.bool true)) (a := ⟨w.heap.size, 1, none⟩) (by show w.heap.size < _; omega) (.slice A ds.length c))
          injection hs' with hA' _ _
          subst hA'
          exact ⟨A, ds.length, c, dg ds, by rw [e1], ⟨dg_dg HI.out.lt, HI.out.top rfl⟩, hv.trans hN.symm, hd', hlc⟩
        · exact (HB.out.setCell (Nat.le_refl _) _).setCell (Nat.le_refl _) _
      · have t1 : ((-(q : Int)) != 0) = true := by simp; omega
        have e2 : (-(q : Int)).tmod 10000 = -((q % 10000 : Nat) : Int) := by rw [Int.neg_tmod, Int.tmod_eq_emod_of_nonneg (by omega)]; omega
        have e3 : (-(q : Int)).tdiv 10000 = -((q / 10000 : Nat) : Int) := by rw [Int.neg_tdiv, Int.tdiv_eq_ediv_of_nonneg (by omega)]; omega
        have hl := pow_five (n := ds.length) (show 1 ≤ q by omega) hN2 (by have := HI.out.val; omega)
        have hB2 : Hid (w.heap.size + 2 ≤ wr.heap.size) := HSZ.out
        have hstep := Lib.hid (HI.out.step hq)
        obtain ⟨m, hm⟩ : ∃ m, q % 10000 = m := ⟨_, rfl⟩
        obtain ⟨d, hd⟩ : ∃ d, q / 10000 = d := ⟨_, rfl⟩
        rw [hm] at hstep e2
        rw [hd] at hstep e3
        have hm1 : m < 10000 := by omega
        have hdq : d < q := by omega
        have hqN : q ≤ N := by have h1 := HI.out.val; have h2 : q * 1 ≤ q * 10000 ^ ds.length := Nat.mul_le_mul_left _ (Nat.pow_pos (by decide)); omega
        have hd9 : d ≤ 922337203685478 := by omega
        have e5 : wrap64 (-(d : Int)) = -(d : Int) := by unfold wrap64; omega
        clear hm hd
        by_cases hm0 : m = 0
        · have e4 : (-(q : Int)).tmod 10000 = (m : Int) := by rw [e2]; omega
          have u1 : ¬ ((m : Int) < 0) := by omega
          clear e2 hm0
          go_wp2_with (at_builtin; refine wpList_append_map _ _ _ _ _ _ el_int (fun d : Nat => Value.int .i64 (d : Int)) m _ _ _ (Below.refl _ wr) HR hB2.out rfl rfl rfl rfl rfl (by omega) (by decide) ?_; intro v4 w4 hown4 hb4 hB4; refine Hid.out ?_)
          refine Lib.hid ?_
          obtain ⟨A4, c4, rfl, _, _, _, _⟩ := dig_row (ds := ds ++ [m]) (by rw [List.length_append]; exact hown4.out)
          have K0 := cells_of_blk ((hb4.block (w.heap.size + 1) (by omega)).trans H1.out) 0 (.bool true) rfl
          have K1 := cells_of_blk ((hb4.block (w.heap.size + 1) (by omega)).trans H1.out) 1 v rfl
          have L1 := free_of_blk ((hb4.block (w.heap.size + 1) (by omega)).trans H1.out) 1
          have H0b := Lib.hid ((hb4.block w.heap.size (by omega)).trans H0.out)
          have H1b := Lib.hid ((hb4.block (w.heap.size + 1) (by omega)).trans H1.out)
          have HBb := Lib.hid (HB.out.trans (hb4.mono (show w.heap.size ≤ w.heap.size + 2 by omega)))
          have HBz := Lib.hid hb4.size
          clear hb4 HR H0 H1 HB
          go_wp2_with fail
          go_roundw
          case rel => exact ⟨ds ++ [m], d, _, rfl, hstep.out, set_oth H0b.out _ _ (by omega), set_blk H1b.out _ _, by rw [show (ds ++ [m]).length = ds.length + 1 by simp] at hown4 ⊢; exact ownsRow_setCell_below hown4.out (a := ⟨w.heap.size + 1, 1, none⟩) (Nat.lt_succ_self _) _, HBb.out.setCell (Nat.le_succ _) _, by show _ ≤ _; simpa [World.setCell] using hB4⟩
          case measure => simp [intOf]; omega
        · have u1 : (-((m : Nat) : Int) < 0) := by omega
          go_wp2_with (at_builtin; refine wpList_append_map _ _ _ _ _ _ el_int (fun d : Nat => Value.int .i64 (d : Int)) m _ _ _ (Below.refl _ wr) HR hB2.out rfl rfl rfl rfl rfl (by omega) (by decide) ?_; intro v4 w4 hown4 hb4 hB4; refine Hid.out ?_)
          refine Lib.hid ?_
          obtain ⟨A4, c4, rfl, _, _, _, _⟩ := dig_row (ds := ds ++ [m]) (by rw [List.length_append]; exact hown4.out)
          have K0 := cells_of_blk ((hb4.block (w.heap.size + 1) (by omega)).trans H1.out) 0 (.bool true) rfl
          have K1 := cells_of_blk ((hb4.block (w.heap.size + 1) (by omega)).trans H1.out) 1 v rfl
          have L1 := free_of_blk ((hb4.block (w.heap.size + 1) (by omega)).trans H1.out) 1
          have H0b := Lib.hid ((hb4.block w.heap.size (by omega)).trans H0.out)
          have H1b := Lib.hid ((hb4.block (w.heap.size + 1) (by omega)).trans H1.out)
          have HBb := Lib.hid (HB.out.trans (hb4.mono (show w.heap.size ≤ w.heap.size + 2 by omega)))
          have HBz := Lib.hid hb4.size
          clear hb4 HR H0 H1 HB
          go_wp2_with fail
          go_roundw
          case rel => exact ⟨ds ++ [m], d, _, rfl, hstep.out, set_oth H0b.out _ _ (by omega), set_blk H1b.out _ _, by rw [show (ds ++ [m]).length = ds.length + 1 by simp] at hown4 ⊢; exact ownsRow_setCell_below hown4.out (a := ⟨w.heap.size + 1, 1, none⟩) (Nat.lt_succ_self _) _, HBb.out.setCell (Nat.le_succ _) _, by show _ ≤ _; simpa [World.setCell] using hB4⟩
          case measure => simp [intOf]; omega
  · have e1 : decide (n < 0) = false := decide_eq_false hs
    go_enter Try.func81, Try.ntmps81
    go_wp2_with fail
    go_loopw [0, 4] (fun s0 s4 wr => ∃ (ds : List Nat) (q : Nat) (v : Value), s0 = .int .i64 ((q : Int)) ∧ Hid (OfInv N ds q) ∧ Hid (wr.heap[w.heap.size]? = some (.cells #[.bool false, .slice none 0 0] 118 (0, 0))) ∧
      Hid (wr.heap[w.heap.size + 1]? = some (.cells #[.bool false, v] 118 (0, 0))) ∧ Hid (wr.ownsRow (w.heap.size + 2) 3 1 v ds.length (ds.map fun d => .int .i64 (d : Nat))) ∧ Hid (Below w.heap.size w wr) ∧ Hid (w.heap.size + 2 ≤ wr.heap.size)) (fun s0 _ _ => (intOf s0).natAbs)
    case atStart =>
      refine ⟨[], N, .slice none 0 0, ?_, ⟨fun d hd => by simp at hd, by rw [vl_nil]; simp, fun _ => .inl rfl⟩, blk_old (heap_new _ _) _, ?_, World.ownsRow_nil _ _ _ _, below_alloc (below_alloc (Below.refl _ _) (Nat.le_refl _) _) (by rw [World.size_alloc]; omega) _, by show _ ≤ _; simp⟩
      · congr 1; omega
      · have := heap_new (w.alloc (.cells #[.bool false, .slice none 0 0] 118)) (.cells #[.bool false, .slice none 0 0] 118)
        rw [World.size_alloc] at this
        exact this
    case round =>
      obtain ⟨ds, q, v, rfl, HI, H0, H1, HR, HB, HSZ⟩ := hrel
      have c0 : wr.cell? ⟨w.heap.size + 1, 0, none⟩ = some (.bool false) := cells_of_blk H1.out 0 _ rfl
      have c1 : wr.cell? ⟨w.heap.size + 1, 1, none⟩ = some v := cells_of_blk H1.out 1 _ rfl
      have f0 := free_of_blk H1.out 0
      have f1 := free_of_blk H1.out 1
      have d0 : wr.cell? ⟨w.heap.size, 0, none⟩ = some (.bool false) := cells_of_blk H0.out 0 _ rfl
      have d1 : wr.cell? ⟨w.heap.size, 1, none⟩ = some (.slice none 0 0) := cells_of_blk H0.out 1 _ rfl
      have g0 := free_of_blk H0.out 0
      have g1 := free_of_blk H0.out 1
      by_cases hq : q = 0
      · subst hq
        have t1 : (((0 : Nat) : Int) != 0) = false := rfl
        obtain ⟨A, c, rfl, hd, hlc, _, hAB⟩ := dig_row HR.out
        go_wp2_with fail
        refine bodyPost_ret (v := .agg #[.bool false, .slice A ds.length c]) ?_ rfl ⟨⟨_, rfl, ?_⟩, ?_⟩
        · simp [results, Try.results81, go_sem, d0, d1]
        · have hv := HI.out.val
          rw [Nat.zero_mul, Nat.add_zero] at hv
          obtain ⟨A', c', hs', hd', _, _, _⟩ := dig_row (ownsRow_setCell_below (ownsRow_setCell_below HR.out (a := ⟨w.heap.size, 0, none⟩) (by show w.heap.size < _; omega) (.bool false)) (a := ⟨w.heap.size, 1, none⟩) (by show w.heap.size < _; omega) (.slice A ds.length c))
          injection hs' with hA' _ _
          subst hA'
          exact ⟨A, ds.length, c, dg ds, by rw [e1], ⟨dg_dg HI.out.lt, HI.out.top rfl⟩, hv.trans hN.symm, hd', hlc⟩
        · exact (HB.out.setCell (Nat.le_refl _) _).setCell (Nat.le_refl _) _
      · have t1 : (((q : Int)) != 0) = true := by simp; omega
        have e2 : (q : Int).tmod 10000 = ((q % 10000 : Nat) : Int) := by rw [Int.tmod_eq_emod_of_nonneg (by omega)]; omega
        have e3 : (q : Int).tdiv 10000 = ((q / 10000 : Nat) : Int) := by rw [Int.tdiv_eq_ediv_of_nonneg (by omega)]; omega
        have hl := pow_five (n := ds.length) (show 1 ≤ q by omega) hN2 (by have := HI.out.val; omega)
        have hB2 : Hid (w.heap.size + 2 ≤ wr.heap.size) := HSZ.out
        have hstep := Lib.hid (HI.out.step hq)
        obtain ⟨m, hm⟩ : ∃ m, q % 10000 = m := ⟨_, rfl⟩
        obtain ⟨d, hd⟩ : ∃ d, q / 10000 = d := ⟨_, rfl⟩
        rw [hm] at hstep e2
        rw [hd] at hstep e3
        have hm1 : m < 10000 := by omega
        have hdq : d < q := by omega
        have hqN : q ≤ N := by have h1 := HI.out.val; have h2 : q * 1 ≤ q * 10000 ^ ds.length := Nat.mul_le_mul_left _ (Nat.pow_pos (by decide)); omega
        have hd9 : d ≤ 922337203685478 := by omega
        have e5 : wrap64 (d : Int) = (d : Int) := by unfold wrap64; omega
        clear hm hd
        go_wp2_with (at_builtin; refine wpList_append_map _ _ _ _ _ _ el_int (fun d : Nat => Value.int .i64 (d : Int)) m _ _ _ (Below.refl _ wr) HR hB2.out rfl rfl rfl rfl rfl (by omega) (by decide) ?_; intro v4 w4 hown4 hb4 hB4; refine Hid.out ?_)
        refine Lib.hid ?_
        obtain ⟨A4, c4, rfl, _, _, _, _⟩ := dig_row (ds := ds ++ [m]) (by rw [List.length_append]; exact hown4.out)
        have K0 := cells_of_blk ((hb4.block (w.heap.size + 1) (by omega)).trans H1.out) 0 (.bool false) rfl
        have K1 := cells_of_blk ((hb4.block (w.heap.size + 1) (by omega)).trans H1.out) 1 v rfl
        have L1 := free_of_blk ((hb4.block (w.heap.size + 1) (by omega)).trans H1.out) 1
        have H0b := Lib.hid ((hb4.block w.heap.size (by omega)).trans H0.out)
        have H1b := Lib.hid ((hb4.block (w.heap.size + 1) (by omega)).trans H1.out)
        have HBb := Lib.hid (HB.out.trans (hb4.mono (show w.heap.size ≤ w.heap.size + 2 by omega)))
        have HBz := Lib.hid hb4.size
        clear hb4 HR H0 H1 HB
        go_wp2_with fail
        go_roundw
        case rel => exact ⟨ds ++ [m], d, _, rfl, hstep.out, set_oth H0b.out _ _ (by omega), set_blk H1b.out _ _, by rw [show (ds ++ [m]).length = ds.length + 1 by simp] at hown4 ⊢; exact ownsRow_setCell_below hown4.out (a := ⟨w.heap.size + 1, 1, none⟩) (Nat.lt_succ_self _) _, HBb.out.setCell (Nat.le_succ _) _, by show _ ≤ _; simpa [World.setCell] using hB4⟩
        case measure => simp [intOf]; omega
end Go.Proofs.Ytfkfpppiikgjbaa
