/- The reference's GetVerdict, Get, GetPair. -/
import Derived.Test.YtgjehokkmdbknaaDoorEventF
namespace Go.Proofs.YtgjehokkmdbknaaDoor
open Go.RowKit

/-- A row of the call's own that is not empty: where it lies, its cells. -/
theorem row_at {w : World} {B : Nat} {e : TypeId} {v : Value} {n : Nat} {f : Nat → Value} (h : w.ownsRow B e 1 v n ((List.range n).map f)) (hn : 0 < n) :
    ∃ g cap, v = .slice (some ⟨g, 0, none⟩) n cap ∧ B ≤ g ∧ g < w.heap.size ∧ n ≤ cap ∧ cap ≤ maxLen ∧ ∀ i, i < n → w.cell? ⟨g, i, none⟩ = some (f i) := by
  have h' := h
  rcases h.2 with ⟨_, h0⟩ | ⟨g, cap, cur, rfl, hb, hg, hnc, hcm, _⟩
  · omega
  · refine ⟨g, cap, rfl, hb, (Array.getElem?_eq_some_iff.1 hg).1, hnc, hcm, fun i hi => ?_⟩
    have := h'.cells (g := g) rfl i (f i) (by simp [hi])
    rwa [Addr.add_lit, Nat.zero_add] at this

set_option maxRecDepth 100000 in
set_option maxHeartbeats 4000000 in
theorem refGetVerdict_any (s : ByteArray) (w : World) (hs : Hid (s.size ≤ 1099511627776)) :
    Calls Tryd.prog 35 #[.string s] w fun e w' => e = .returned (.tuple #[.agg #[.int .i64 (evV s 2 0), .int .i64 (evV s 2 1)], .int .i64 (getE s 2)]) ∧ Below w.heap.size w w' := by
  have hq : ∀ w, Calls Tryd.prog 48 #[.string s, .int .i64 2] w _ := fun w => numbers_any s 2 w hs (by show (2 : Nat) ≤ 20; omega)
  by_cases he : getE s 2 = 0
  · rw [show evV s 2 0 = getV s 0 from if_pos he, show evV s 2 1 = getV s 1 from if_pos he]
    rw [he] at hq ⊢
    have HQ := Lib.hid hq; clear hq he
    go_enter Tryd.func35, Tryd.ntmps35
    go_wp2_with fail
    refine (HQ.out _).mono ?_
    rintro e w1 ⟨v, rfl, hrow, hb⟩
    obtain ⟨g, cap, rfl, _, hg, hnc, hcm, hc⟩ := row_at hrow (by omega)
    have hblk := (hb.block w.heap.size (by simp)).trans (heap_new w _)
    have HBK := Lib.hid hblk; clear hblk
    have HB := Lib.hid (below_to ((Below.refl _ w).alloc (Nat.le_refl _) _) hb); clear hb hrow HQ
    have e0 := hc 0 (by omega)
    have e1 := hc 1 (by omega)
    clear hc
    skip
    generalize hv0 : getV s 0 = x0 at *
    have HV0 := Lib.hid hv0; clear hv0
    generalize hv1 : getV s 1 = x1 at *
    have HV1 := Lib.hid hv1; clear hv1
    go_wp2_with fail
    refine wp_region_ext_tail 7 (by kernel_rfl) (by kernel_rfl) ?_
    simp only [List.take_succ_cons, List.take_zero, List.drop_succ_cons, List.drop_zero]
    repeat (go_big_quiet_step (fail))
    refine wpQuiet_nil ?_
    rintro w' ⟨y, rfl⟩
    have hblk2 := (y.below.block w.heap.size (by have := (Array.getElem?_eq_some_iff.1 HBK.out).1; exact this)).trans HBK.out
    have HY := Lib.hid (HB.out.trans (y.below.mono HB.out.size))
    generalize y.w = w2 at *
    have f0 := free_of_blk hblk2 0
    have c0 := cells_of_blk hblk2 0 _ rfl
    have f1 := free_of_blk hblk2 1
    have c1 := cells_of_blk hblk2 1 _ rfl
    clear hblk2 y
    go_wp2_with fail
    refine bodyPost_ret (v := .tuple #[.agg #[.int .i64 x0, .int .i64 x1], .int .i64 0]) ?_ rfl ⟨by rw [HV0.out, HV1.out], ?_⟩
    · rw [results_cell_tmp rfl]; go_simp
    · exact Below.setCell (Below.setCell (HY.out) (Nat.le_refl _) _) (Nat.le_refl _) _
  · have he' : (getE s 2 != 0) = true := by simpa using he
    rw [show evV s 2 0 = 0 from if_neg he, show evV s 2 1 = 0 from if_neg he]
    generalize getE s 2 = er at *
    have HQ := Lib.hid hq; clear hq he
    go_enter Tryd.func35, Tryd.ntmps35
    go_wp2_with fail
    refine (HQ.out _).mono ?_
    rintro e w1 ⟨v, rfl, hrow, hb⟩
    have hblk := (hb.block w.heap.size (by simp)).trans (heap_new w _)
    have f0 := free_of_blk hblk 0
    have c0 := cells_of_blk hblk 0 _ rfl
    have f1 := free_of_blk hblk 1
    have c1 := cells_of_blk hblk 1 _ rfl
    have HB := Lib.hid (below_to ((Below.refl _ w).alloc (Nat.le_refl _) _) hb); clear hb hrow HQ hblk
    go_wp2_with fail
    refine bodyPost_ret (v := .tuple #[.agg #[.int .i64 0, .int .i64 0], .int .i64 er]) ?_ rfl ⟨rfl, ?_⟩
    · rw [results_cell_tmp rfl]; go_simp
    · exact Below.setCell (Below.setCell (HB.out) (Nat.le_refl _) _) (Nat.le_refl _) _

set_option maxRecDepth 100000 in
set_option maxHeartbeats 4000000 in
theorem refGet_any (s : ByteArray) (w : World) (hs : Hid (s.size ≤ 1099511627776)) :
    Calls Tryd.prog 34 #[.string s] w fun e w' => e = .returned (.tuple #[.agg #[.int .i64 (evV s 7 0), .int .i64 (evV s 7 1), .int .i64 (evV s 7 2), .int .i64 (evV s 7 3), .int .i64 (evV s 7 4), .int .i64 (evV s 7 5), .int .i64 (evV s 7 6)], .int .i64 (getE s 7)]) ∧ Below w.heap.size w w' := by
  have hq : ∀ w, Calls Tryd.prog 48 #[.string s, .int .i64 7] w _ := fun w => numbers_any s 7 w hs (by show (7 : Nat) ≤ 20; omega)
  by_cases he : getE s 7 = 0
  · rw [show evV s 7 0 = getV s 0 from if_pos he, show evV s 7 1 = getV s 1 from if_pos he, show evV s 7 2 = getV s 2 from if_pos he, show evV s 7 3 = getV s 3 from if_pos he, show evV s 7 4 = getV s 4 from if_pos he, show evV s 7 5 = getV s 5 from if_pos he, show evV s 7 6 = getV s 6 from if_pos he]
    rw [he] at hq ⊢
    have HQ := Lib.hid hq; clear hq he
    go_enter Tryd.func34, Tryd.ntmps34
    go_wp2_with fail
    refine (HQ.out _).mono ?_
    rintro e w1 ⟨v, rfl, hrow, hb⟩
    obtain ⟨g, cap, rfl, _, hg, hnc, hcm, hc⟩ := row_at hrow (by omega)
    have hblk := (hb.block w.heap.size (by simp)).trans (heap_new w _)
    have HBK := Lib.hid hblk; clear hblk
    have HB := Lib.hid (below_to ((Below.refl _ w).alloc (Nat.le_refl _) _) hb); clear hb hrow HQ
    have e0 := hc 0 (by omega)
    have e1 := hc 1 (by omega)
    have e2 := hc 2 (by omega)
    have e3 := hc 3 (by omega)
    have e4 := hc 4 (by omega)
    have e5 := hc 5 (by omega)
    have e6 := hc 6 (by omega)
    have HE : Hid (∀ i, i < 7 → w1.cell? ⟨g, 0 + i, none⟩ = some (.int .i64 (getV s i))) := fun i hi => by rw [Nat.zero_add]; exact hc i (by omega)
    have hev : Hid (∀ y : ExtOf w1, Calls Tryd.prog 49 #[.slice (some ⟨g, 0, none⟩) 7 cap] y.w _) := fun y => refevent_any g 7 cap (getV s) y.w (Nat.le_refl _) (fun i hi => by rw [ExtOf.cell _ _ _ _ _ hg]; exact HE.out i hi) (Nat.lt_of_lt_of_le hg y.below.size)
    clear HE
    clear hc
    have hcap : 7 ≤ cap := by omega
    generalize hv0 : getV s 0 = x0 at *
    have HV0 := Lib.hid hv0; clear hv0
    generalize hv1 : getV s 1 = x1 at *
    have HV1 := Lib.hid hv1; clear hv1
    generalize hv2 : getV s 2 = x2 at *
    have HV2 := Lib.hid hv2; clear hv2
    generalize hv3 : getV s 3 = x3 at *
    have HV3 := Lib.hid hv3; clear hv3
    generalize hv4 : getV s 4 = x4 at *
    have HV4 := Lib.hid hv4; clear hv4
    generalize hv5 : getV s 5 = x5 at *
    have HV5 := Lib.hid hv5; clear hv5
    generalize hv6 : getV s 6 = x6 at *
    have HV6 := Lib.hid hv6; clear hv6
    go_wp2_with fail
    refine (hev.out ⟨w1, Below.refl _ _⟩).mono ?_
    rintro e w2 ⟨rfl, hb2⟩
    have hblk2 := (hb2.block w.heap.size (by have := (Array.getElem?_eq_some_iff.1 HBK.out).1; exact this)).trans HBK.out
    have HY := Lib.hid (HB.out.trans (hb2.mono HB.out.size))
    have f0 := free_of_blk hblk2 0
    have c0 := cells_of_blk hblk2 0 _ rfl
    have f1 := free_of_blk hblk2 1
    have c1 := cells_of_blk hblk2 1 _ rfl
    have f2 := free_of_blk hblk2 2
    have c2 := cells_of_blk hblk2 2 _ rfl
    have f3 := free_of_blk hblk2 3
    have c3 := cells_of_blk hblk2 3 _ rfl
    have f4 := free_of_blk hblk2 4
    have c4 := cells_of_blk hblk2 4 _ rfl
    have f5 := free_of_blk hblk2 5
    have c5 := cells_of_blk hblk2 5 _ rfl
    have f6 := free_of_blk hblk2 6
    have c6 := cells_of_blk hblk2 6 _ rfl
    clear hblk2 hb2
    go_wp2_with fail
    refine bodyPost_ret (v := .tuple #[.agg #[.int .i64 x0, .int .i64 x1, .int .i64 x2, .int .i64 x3, .int .i64 x4, .int .i64 x5, .int .i64 x6], .int .i64 0]) ?_ rfl ⟨by rw [HV0.out, HV1.out, HV2.out, HV3.out, HV4.out, HV5.out, HV6.out], ?_⟩
    · rw [results_cell_tmp rfl]; go_simp
    · exact Below.setCell (Below.setCell (Below.setCell (Below.setCell (Below.setCell (Below.setCell (Below.setCell (HY.out) (Nat.le_refl _) _) (Nat.le_refl _) _) (Nat.le_refl _) _) (Nat.le_refl _) _) (Nat.le_refl _) _) (Nat.le_refl _) _) (Nat.le_refl _) _
  · have he' : (getE s 7 != 0) = true := by simpa using he
    rw [show evV s 7 0 = 0 from if_neg he, show evV s 7 1 = 0 from if_neg he, show evV s 7 2 = 0 from if_neg he, show evV s 7 3 = 0 from if_neg he, show evV s 7 4 = 0 from if_neg he, show evV s 7 5 = 0 from if_neg he, show evV s 7 6 = 0 from if_neg he]
    generalize getE s 7 = er at *
    have HQ := Lib.hid hq; clear hq he
    go_enter Tryd.func34, Tryd.ntmps34
    go_wp2_with fail
    refine (HQ.out _).mono ?_
    rintro e w1 ⟨v, rfl, hrow, hb⟩
    have hblk := (hb.block w.heap.size (by simp)).trans (heap_new w _)
    have f0 := free_of_blk hblk 0
    have c0 := cells_of_blk hblk 0 _ rfl
    have f1 := free_of_blk hblk 1
    have c1 := cells_of_blk hblk 1 _ rfl
    have f2 := free_of_blk hblk 2
    have c2 := cells_of_blk hblk 2 _ rfl
    have f3 := free_of_blk hblk 3
    have c3 := cells_of_blk hblk 3 _ rfl
    have f4 := free_of_blk hblk 4
    have c4 := cells_of_blk hblk 4 _ rfl
    have f5 := free_of_blk hblk 5
    have c5 := cells_of_blk hblk 5 _ rfl
    have f6 := free_of_blk hblk 6
    have c6 := cells_of_blk hblk 6 _ rfl
    have HB := Lib.hid (below_to ((Below.refl _ w).alloc (Nat.le_refl _) _) hb); clear hb hrow HQ hblk
    go_wp2_with fail
    refine bodyPost_ret (v := .tuple #[.agg #[.int .i64 0, .int .i64 0, .int .i64 0, .int .i64 0, .int .i64 0, .int .i64 0, .int .i64 0], .int .i64 er]) ?_ rfl ⟨rfl, ?_⟩
    · rw [results_cell_tmp rfl]; go_simp
    · exact Below.setCell (Below.setCell (Below.setCell (Below.setCell (Below.setCell (Below.setCell (Below.setCell (HB.out) (Nat.le_refl _) _) (Nat.le_refl _) _) (Nat.le_refl _) _) (Nat.le_refl _) _) (Nat.le_refl _) _) (Nat.le_refl _) _) (Nat.le_refl _) _

set_option maxRecDepth 100000 in
set_option maxHeartbeats 4000000 in
theorem refGetPair_any (s : ByteArray) (w : World) (hs : Hid (s.size ≤ 1099511627776)) :
    Calls Tryd.prog 36 #[.string s] w fun e w' => e = .returned (.tuple #[.agg #[.int .i64 (evV s 9 0), .int .i64 (evV s 9 1), .int .i64 (evV s 9 2), .int .i64 (evV s 9 3), .int .i64 (evV s 9 4), .int .i64 (evV s 9 5), .int .i64 (evV s 9 6), .int .i64 (evV s 9 7), .int .i64 (evV s 9 8)], .int .i64 (getE s 9)]) ∧ Below w.heap.size w w' := by
  have hq : ∀ w, Calls Tryd.prog 48 #[.string s, .int .i64 9] w _ := fun w => numbers_any s 9 w hs (by show (9 : Nat) ≤ 20; omega)
  by_cases he : getE s 9 = 0
  · rw [show evV s 9 0 = getV s 0 from if_pos he, show evV s 9 1 = getV s 1 from if_pos he, show evV s 9 2 = getV s 2 from if_pos he, show evV s 9 3 = getV s 3 from if_pos he, show evV s 9 4 = getV s 4 from if_pos he, show evV s 9 5 = getV s 5 from if_pos he, show evV s 9 6 = getV s 6 from if_pos he, show evV s 9 7 = getV s 7 from if_pos he, show evV s 9 8 = getV s 8 from if_pos he]
    rw [he] at hq ⊢
    have HQ := Lib.hid hq; clear hq he
    go_enter Tryd.func36, Tryd.ntmps36
    go_wp2_with fail
    refine (HQ.out _).mono ?_
    rintro e w1 ⟨v, rfl, hrow, hb⟩
    obtain ⟨g, cap, rfl, _, hg, hnc, hcm, hc⟩ := row_at hrow (by omega)
    have hblk := (hb.block w.heap.size (by simp)).trans (heap_new w _)
    have HBK := Lib.hid hblk; clear hblk
    have HB := Lib.hid (below_to ((Below.refl _ w).alloc (Nat.le_refl _) _) hb); clear hb hrow HQ
    have e0 := hc 0 (by omega)
    have e1 := hc 1 (by omega)
    have e2 := hc 2 (by omega)
    have e3 := hc 3 (by omega)
    have e4 := hc 4 (by omega)
    have e5 := hc 5 (by omega)
    have e6 := hc 6 (by omega)
    have e7 := hc 7 (by omega)
    have e8 := hc 8 (by omega)
    have HE : Hid (∀ i, i < 7 → w1.cell? ⟨g, 0 + i, none⟩ = some (.int .i64 (getV s i))) := fun i hi => by rw [Nat.zero_add]; exact hc i (by omega)
    have hev : Hid (∀ y : ExtOf w1, Calls Tryd.prog 49 #[.slice (some ⟨g, 0, none⟩) 7 cap] y.w _) := fun y => refevent_any g 7 cap (getV s) y.w (Nat.le_refl _) (fun i hi => by rw [ExtOf.cell _ _ _ _ _ hg]; exact HE.out i hi) (Nat.lt_of_lt_of_le hg y.below.size)
    clear HE
    clear hc
    have hcap : 7 ≤ cap := by omega
    generalize hv0 : getV s 0 = x0 at *
    have HV0 := Lib.hid hv0; clear hv0
    generalize hv1 : getV s 1 = x1 at *
    have HV1 := Lib.hid hv1; clear hv1
    generalize hv2 : getV s 2 = x2 at *
    have HV2 := Lib.hid hv2; clear hv2
    generalize hv3 : getV s 3 = x3 at *
    have HV3 := Lib.hid hv3; clear hv3
    generalize hv4 : getV s 4 = x4 at *
    have HV4 := Lib.hid hv4; clear hv4
    generalize hv5 : getV s 5 = x5 at *
    have HV5 := Lib.hid hv5; clear hv5
    generalize hv6 : getV s 6 = x6 at *
    have HV6 := Lib.hid hv6; clear hv6
    generalize hv7 : getV s 7 = x7 at *
    have HV7 := Lib.hid hv7; clear hv7
    generalize hv8 : getV s 8 = x8 at *
    have HV8 := Lib.hid hv8; clear hv8
    go_wp2_with fail
    refine wp_region_ext_tail 11 (by kernel_rfl) (by kernel_rfl) ?_
    simp only [List.take_succ_cons, List.take_zero, List.drop_succ_cons, List.drop_zero]
    repeat (go_big_quiet_step (exact ext_call (hev.out _)))
    refine wpQuiet_nil ?_
    rintro w' ⟨y, rfl⟩
    have hblk2 := (y.below.block w.heap.size (by have := (Array.getElem?_eq_some_iff.1 HBK.out).1; exact this)).trans HBK.out
    have HY := Lib.hid (HB.out.trans (y.below.mono HB.out.size))
    generalize y.w = w2 at *
    have f0 := free_of_blk hblk2 0
    have c0 := cells_of_blk hblk2 0 _ rfl
    have f1 := free_of_blk hblk2 1
    have c1 := cells_of_blk hblk2 1 _ rfl
    have f2 := free_of_blk hblk2 2
    have c2 := cells_of_blk hblk2 2 _ rfl
    have f3 := free_of_blk hblk2 3
    have c3 := cells_of_blk hblk2 3 _ rfl
    have f4 := free_of_blk hblk2 4
    have c4 := cells_of_blk hblk2 4 _ rfl
    have f5 := free_of_blk hblk2 5
    have c5 := cells_of_blk hblk2 5 _ rfl
    have f6 := free_of_blk hblk2 6
    have c6 := cells_of_blk hblk2 6 _ rfl
    have f7 := free_of_blk hblk2 7
    have c7 := cells_of_blk hblk2 7 _ rfl
    have f8 := free_of_blk hblk2 8
    have c8 := cells_of_blk hblk2 8 _ rfl
    clear hblk2 y
    go_wp2_with fail
    refine bodyPost_ret (v := .tuple #[.agg #[.int .i64 x0, .int .i64 x1, .int .i64 x2, .int .i64 x3, .int .i64 x4, .int .i64 x5, .int .i64 x6, .int .i64 x7, .int .i64 x8], .int .i64 0]) ?_ rfl ⟨by rw [HV0.out, HV1.out, HV2.out, HV3.out, HV4.out, HV5.out, HV6.out, HV7.out, HV8.out], ?_⟩
    · rw [results_cell_tmp rfl]; go_simp
    · exact Below.setCell (Below.setCell (Below.setCell (Below.setCell (Below.setCell (Below.setCell (Below.setCell (Below.setCell (Below.setCell (HY.out) (Nat.le_refl _) _) (Nat.le_refl _) _) (Nat.le_refl _) _) (Nat.le_refl _) _) (Nat.le_refl _) _) (Nat.le_refl _) _) (Nat.le_refl _) _) (Nat.le_refl _) _) (Nat.le_refl _) _
  · have he' : (getE s 9 != 0) = true := by simpa using he
    rw [show evV s 9 0 = 0 from if_neg he, show evV s 9 1 = 0 from if_neg he, show evV s 9 2 = 0 from if_neg he, show evV s 9 3 = 0 from if_neg he, show evV s 9 4 = 0 from if_neg he, show evV s 9 5 = 0 from if_neg he, show evV s 9 6 = 0 from if_neg he, show evV s 9 7 = 0 from if_neg he, show evV s 9 8 = 0 from if_neg he]
    generalize getE s 9 = er at *
    have HQ := Lib.hid hq; clear hq he
    go_enter Tryd.func36, Tryd.ntmps36
    go_wp2_with fail
    refine (HQ.out _).mono ?_
    rintro e w1 ⟨v, rfl, hrow, hb⟩
    have hblk := (hb.block w.heap.size (by simp)).trans (heap_new w _)
    have f0 := free_of_blk hblk 0
    have c0 := cells_of_blk hblk 0 _ rfl
    have f1 := free_of_blk hblk 1
    have c1 := cells_of_blk hblk 1 _ rfl
    have f2 := free_of_blk hblk 2
    have c2 := cells_of_blk hblk 2 _ rfl
    have f3 := free_of_blk hblk 3
    have c3 := cells_of_blk hblk 3 _ rfl
    have f4 := free_of_blk hblk 4
    have c4 := cells_of_blk hblk 4 _ rfl
    have f5 := free_of_blk hblk 5
    have c5 := cells_of_blk hblk 5 _ rfl
    have f6 := free_of_blk hblk 6
    have c6 := cells_of_blk hblk 6 _ rfl
    have f7 := free_of_blk hblk 7
    have c7 := cells_of_blk hblk 7 _ rfl
    have f8 := free_of_blk hblk 8
    have c8 := cells_of_blk hblk 8 _ rfl
    have HB := Lib.hid (below_to ((Below.refl _ w).alloc (Nat.le_refl _) _) hb); clear hb hrow HQ hblk
    go_wp2_with fail
    refine bodyPost_ret (v := .tuple #[.agg #[.int .i64 0, .int .i64 0, .int .i64 0, .int .i64 0, .int .i64 0, .int .i64 0, .int .i64 0, .int .i64 0, .int .i64 0], .int .i64 er]) ?_ rfl ⟨rfl, ?_⟩
    · rw [results_cell_tmp rfl]; go_simp
    · exact Below.setCell (Below.setCell (Below.setCell (Below.setCell (Below.setCell (Below.setCell (Below.setCell (Below.setCell (Below.setCell (HB.out) (Nat.le_refl _) _) (Nat.le_refl _) _) (Nat.le_refl _) _) (Nat.le_refl _) _) (Nat.le_refl _) _) (Nat.le_refl _) _) (Nat.le_refl _) _) (Nat.le_refl _) _) (Nat.le_refl _) _

end Go.Proofs.YtgjehokkmdbknaaDoor
