/- Books: Copy. -/
import Derived.Test.YtfkfpppiikgjbaaBookJ
namespace Go.Proofs.Ytfkfpppiikgjbaa
open Go Go.RowKit
set_option linter.unusedVariables false
set_option linter.unusedSimpArgs false

/-- A book, whose rows are the call's own. -/
def BkOwn (w : World) (B : Nat) (v : Value) (b : Bk) : Prop := ∃ vh vs vo vr, v = .agg #[vh, vs, vo, vr, .int .i64 b.n] ∧ RowOwn w B 39 vh 4 b.h ∧ RowOwn w B 41 vs 3 b.s ∧ RowOwn w B 43 vo 6 b.o ∧ RowOwn w B 45 vr 2 b.r
theorem BkOwn.at {w : World} {B : Nat} {v : Value} {b : Bk} (h : BkOwn w B v b) : BkAt w v b := by
  obtain ⟨vh, vs, vo, vr, rfl, h1, h2, h3, h4⟩ := h
  exact ⟨vh, vs, vo, vr, rfl, h1.row, h2.row, h3.row, h4.row⟩
theorem BkOwn.kept {w w' : World} {B : Nat} {v : Value} {b : Bk} (h : BkOwn w B v b) (hb : Below w.heap.size w w') : BkOwn w' B v b := by
  obtain ⟨vh, vs, vo, vr, rfl, h1, h2, h3, h4⟩ := h
  exact ⟨vh, vs, vo, vr, rfl, h1.kept hb, h2.kept hb, h3.kept hb, h4.kept hb⟩
theorem BkOwn.mono {w : World} {B B' : Nat} {v : Value} {b : Bk} (h : BkOwn w B v b) (hb : B' ≤ B) : BkOwn w B' v b := by
  obtain ⟨vh, vs, vo, vr, rfl, h1, h2, h3, h4⟩ := h
  exact ⟨vh, vs, vo, vr, rfl, h1.mono hb, h2.mono hb, h3.mono hb, h4.mono hb⟩
theorem RowOwn.setBelow {w : World} {B : Nat} {e : TypeId} {v : Value} {k : Nat} {l : List (List Int)} (h : RowOwn w B e v k l) {a : Addr} (ha : a.block < B) (u : Value) : RowOwn (w.setCell a u) B e v k l := ⟨ownsRow_setCell_below h.1 ha u, h.2⟩
theorem BkOwn.setBelow {w : World} {B : Nat} {v : Value} {b : Bk} (h : BkOwn w B v b) {a : Addr} (ha : a.block < B) (u : Value) : BkOwn (w.setCell a u) B v b := by
  obtain ⟨vh, vs, vo, vr, rfl, h1, h2, h3, h4⟩ := h
  exact ⟨vh, vs, vo, vr, rfl, h1.setBelow ha u, h2.setBelow ha u, h3.setBelow ha u, h4.setBelow ha u⟩
def Bk.Small (b : Bk) : Prop := b.h.length ≤ 999998 ∧ b.s.length ≤ 999998 ∧ b.o.length ≤ 999998 ∧ b.r.length ≤ 999998

set_option maxRecDepth 100000 in
set_option maxHeartbeats 4000000 in
theorem Copy_any (v : Value) (b : Bk) (w : World) (hb : Hid (BkAt w v b)) (hs : Hid b.Small) :
    Calls Try.prog 17 #[v] w fun e w' => ∃ v', e = .returned v' ∧ BkOwn w' w.heap.size v' b ∧ Below w.heap.size w w' := by
  obtain ⟨vh, vs, vo, vr, rfl, h1, h2, h3, h4⟩ := hb.out
  obtain ⟨w2, hw2⟩ : ∃ w2, (w.alloc (.cells #[vh, vs, vo, vr, .int .i64 b.n] 37)).alloc (.cells #[.slice none 0 0, .slice none 0 0, .slice none 0 0, .slice none 0 0, .int .i64 0] 37) = w2 := ⟨_, rfl⟩
  have HB : Hid (Below w.heap.size w w2) := by rw [← hw2]; exact below_alloc (below_alloc (Below.refl _ _) (Nat.le_refl _) _) (by simp) _
  have k1 : w2.heap[w.heap.size]? = some (.cells #[vh, vs, vo, vr, .int .i64 b.n] 37 (0, 0)) := by rw [← hw2]; exact blk_old (heap_new _ _) _
  have k2 : w2.heap[w.heap.size + 1]? = some (.cells #[.slice none 0 0, .slice none 0 0, .slice none 0 0, .slice none 0 0, .int .i64 0] 37 (0, 0)) := by rw [← hw2]; exact blk_new _ _ _ (by simp)
  have q1 := Lib.hid (fun w' hv => CloneHolder_any vh b.h w' hv (by have := hs.out; unfold Bk.Small at this; omega))
  have q2 := Lib.hid (fun w' hv => CloneStake_any vs b.s w' hv (by have := hs.out; unfold Bk.Small at this; omega))
  have q3 := Lib.hid (fun w' hv => CloneOpen_any vo b.o w' hv (by have := hs.out; unfold Bk.Small at this; omega))
  have q4 := Lib.hid (fun w' hv => CloneRate_any vr b.r w' hv (by have := hs.out; unfold Bk.Small at this; omega))
  have r1 := Lib.hid (h1.call HB.out)
  have r2 := Lib.hid (h2.call HB.out)
  have r3 := Lib.hid (h3.call HB.out)
  have r4 := Lib.hid (h4.call HB.out)
  have HW2 := Lib.hid hw2
  have K1 := Lib.hid k1
  have K2 := Lib.hid k2
  clear hw2 k1 k2 h1 h2 h3 h4 hb
  go_enter Try.func17, Try.ntmps17
  go_wp2_with fail
  rw [HW2.out]
  have e0 := cells_of_blk K1.out 0 _ rfl
  have e1 := cells_of_blk K1.out 1 _ rfl
  have e2 := cells_of_blk K1.out 2 _ rfl
  have e3 := cells_of_blk K1.out 3 _ rfl
  have e4 := cells_of_blk K1.out 4 _ rfl
  have l1 := (Array.getElem?_eq_some_iff.1 K1.out).1
  have HC : Hid (Below w2.heap.size w2 w2.drew) := (Below.refl _ _).drew
  refine wp_region_D [15] (fun wz => Hid (Below w2.heap.size w2 wz)) 16 #[false, false, false, false, false, false, false, false, false, false, false, false, false, false, false, false] (by kernel_rfl) (by kernel_rfl) (by kernel_rfl) ?_
  refine pure_moreD [0, 1, 3, 4, 6, 7, 9, 10, 12, 13] 6 (L' := #[true, true, false, true, true, false, true, true, false, true, true, false, true, true, false, false]) (by kernel_rfl) (by kernel_rfl) HC ?_
  simp only [opsAt, List.getElem?_toArray, List.getElem?_cons_zero, List.getElem?_cons_succ]
  refine pure_atG (.pointer (some ⟨w.heap.size, 0, none⟩)) rfl (fun wz _ => by unfold execOp; go_simp) ?_
  refine pure_atG vh rfl (fun wz hC => by have h0 := ((Hid.out hC).cell (p := ⟨w.heap.size, 0, none⟩) l1).trans e0; unfold execOp; go_simp) ?_
  refine pure_atG (.pointer (some ⟨w.heap.size, 1, none⟩)) rfl (fun wz _ => by unfold execOp; go_simp) ?_
  refine pure_atG vs rfl (fun wz hC => by have h0 := ((Hid.out hC).cell (p := ⟨w.heap.size, 1, none⟩) l1).trans e1; unfold execOp; go_simp) ?_
  refine pure_atG (.pointer (some ⟨w.heap.size, 2, none⟩)) rfl (fun wz _ => by unfold execOp; go_simp) ?_
  refine pure_atG vo rfl (fun wz hC => by have h0 := ((Hid.out hC).cell (p := ⟨w.heap.size, 2, none⟩) l1).trans e2; unfold execOp; go_simp) ?_
  refine pure_atG (.pointer (some ⟨w.heap.size, 3, none⟩)) rfl (fun wz _ => by unfold execOp; go_simp) ?_
  refine pure_atG vr rfl (fun wz hC => by have h0 := ((Hid.out hC).cell (p := ⟨w.heap.size, 3, none⟩) l1).trans e3; unfold execOp; go_simp) ?_
  refine pure_atG (.pointer (some ⟨w.heap.size, 4, none⟩)) rfl (fun wz _ => by unfold execOp; go_simp) ?_
  refine pure_atG (.int .i64 b.n) rfl (fun wz hC => by have h0 := ((Hid.out hC).cell (p := ⟨w.heap.size, 4, none⟩) l1).trans e4; unfold execOp; go_simp) ?_
  unfold wpPure
  go_simp
  have R1 := Lib.hid (r1.out.call (Below.refl _ _).drew)
  have R2 := Lib.hid (r2.out.call (Below.refl _ _).drew)
  have R3 := Lib.hid (r3.out.call (Below.refl _ _).drew)
  have R4 := Lib.hid (r4.out.call (Below.refl _ _).drew)
  refine wpAnyD_one 2 (f := 5) (L' := #[true, true, true, true, true, false, true, true, false, true, true, false, true, true, false, false]) (by kernel_rfl) (by kernel_rfl) rfl rfl ?_
  go_wp2_with fail
  with_reducible refine (q1.out _ R1).mono ?_
  rintro e w3 ⟨uh, rfl, g1, hb1⟩
  obtain ⟨A1, c1', rfl⟩ := g1.form
  have HC1 : Hid (Below w2.heap.size w2 w3) := HC.out.trans (hb1.mono HC.out.size)
  have G1 := Lib.hid (g1.mono (B' := w2.heap.size) HC.out.size)
  replace R2 := Lib.hid (R2.out.call hb1)
  replace R3 := Lib.hid (R3.out.call hb1)
  replace R4 := Lib.hid (R4.out.call hb1)
  clear g1 hb1 R1
  go_wp2_with fail
  rw [StepQ_normal]
  refine ⟨fun _ => HC1, ?_⟩
  refine wpAnyD_one 5 (f := 4) (L' := #[true, true, true, true, true, true, true, true, false, true, true, false, true, true, false, false]) (by kernel_rfl) (by kernel_rfl) rfl rfl ?_
  go_wp2_with fail
  with_reducible refine (q2.out _ R2).mono ?_
  rintro e w4 ⟨us, rfl, g2, hb2⟩
  obtain ⟨A2, c2', rfl⟩ := g2.form
  have HC2 : Hid (Below w2.heap.size w2 w4) := HC1.out.trans (hb2.mono HC1.out.size)
  have G2 := Lib.hid (g2.mono (B' := w2.heap.size) HC1.out.size)
  replace G1 := Lib.hid (G1.out.kept hb2)
  replace R3 := Lib.hid (R3.out.call hb2)
  replace R4 := Lib.hid (R4.out.call hb2)
  clear g2 hb2 R2
  go_wp2_with fail
  rw [StepQ_normal]
  refine ⟨fun _ => HC2, ?_⟩
  refine wpAnyD_one 8 (f := 3) (L' := #[true, true, true, true, true, true, true, true, true, true, true, false, true, true, false, false]) (by kernel_rfl) (by kernel_rfl) rfl rfl ?_
  go_wp2_with fail
  with_reducible refine (q3.out _ R3).mono ?_
  rintro e w5 ⟨uo, rfl, g3, hb3⟩
  obtain ⟨A3, c3', rfl⟩ := g3.form
  have HC3 : Hid (Below w2.heap.size w2 w5) := HC2.out.trans (hb3.mono HC2.out.size)
  have G3 := Lib.hid (g3.mono (B' := w2.heap.size) HC2.out.size)
  replace G1 := Lib.hid (G1.out.kept hb3)
  replace G2 := Lib.hid (G2.out.kept hb3)
  replace R4 := Lib.hid (R4.out.call hb3)
  clear g3 hb3 R3
  go_wp2_with fail
  rw [StepQ_normal]
  refine ⟨fun _ => HC3, ?_⟩
  refine wpAnyD_one 11 (f := 2) (L' := #[true, true, true, true, true, true, true, true, true, true, true, true, true, true, false, false]) (by kernel_rfl) (by kernel_rfl) rfl rfl ?_
  go_wp2_with fail
  with_reducible refine (q4.out _ R4).mono ?_
  rintro e w6 ⟨ur, rfl, g4, hb4⟩
  obtain ⟨A4, c4', rfl⟩ := g4.form
  have HC4 : Hid (Below w2.heap.size w2 w6) := HC3.out.trans (hb4.mono HC3.out.size)
  have G4 := Lib.hid (g4.mono (B' := w2.heap.size) HC3.out.size)
  replace G1 := Lib.hid (G1.out.kept hb4)
  replace G2 := Lib.hid (G2.out.kept hb4)
  replace G3 := Lib.hid (G3.out.kept hb4)
  clear g4 hb4 R4
  go_wp2_with fail
  rw [StepQ_normal]
  refine ⟨fun _ => HC4, ?_⟩
  have k2 : w6.heap[w.heap.size + 1]? = some (.cells #[.slice none 0 0, .slice none 0 0, .slice none 0 0, .slice none 0 0, .int .i64 0] 37 (0, 0)) := (HC4.out.block _ (Array.getElem?_eq_some_iff.1 K2.out).1).trans K2.out
  have c0 := cells_of_blk k2 0 _ rfl
  have f0 := free_of_blk k2 0
  have c1 := cells_of_blk k2 1 _ rfl
  have f1 := free_of_blk k2 1
  have c2 := cells_of_blk k2 2 _ rfl
  have f2 := free_of_blk k2 2
  have c3 := cells_of_blk k2 3 _ rfl
  have f3 := free_of_blk k2 3
  have c4 := cells_of_blk k2 4 _ rfl
  have f4 := free_of_blk k2 4
  clear k2
  refine wpAnyD_one 14 (f := 1) (L' := #[true, true, true, true, true, true, true, true, true, true, true, true, true, true, true, false]) (by kernel_rfl) (by kernel_rfl) rfl rfl ?_
  go_wp2_with fail
  rw [StepQ_normal]
  refine ⟨fun _ => HC4, ?_⟩
  refine wpAnyD_one 15 (f := 0) (L' := #[true, true, true, true, true, true, true, true, true, true, true, true, true, true, true, true]) (by kernel_rfl) (by kernel_rfl) rfl rfl ?_
  go_wp2_with fail
  rw [StepQ_normal]
  refine ⟨fun h => (by cases h), ?_⟩
  refine ⟨by kernel_rfl, ?_⟩
  rw [OnlyN_normal]
  have l2 := (Array.getElem?_eq_some_iff.1 K2.out).1
  go_wp2_with fail
  refine bodyPost_ret (v := .agg #[.slice A1 b.h.length c1', .slice A2 b.s.length c2', .slice A3 b.o.length c3', .slice A4 b.r.length c4', .int .i64 b.n]) ?_ rfl ⟨_, rfl, ?_, ?_⟩
  · simp [results, Try.results17, go_sem, c0, c1, c2, c3, c4]
  · have s1 := fun (a : Addr) (ha : a.block < w2.heap.size) (wz : World) (u : Value) (h : BkOwn wz w2.heap.size (.agg #[.slice A1 b.h.length c1', .slice A2 b.s.length c2', .slice A3 b.o.length c3', .slice A4 b.r.length c4', .int .i64 b.n]) b) => h.setBelow ha u
    refine BkOwn.mono ?_ HB.out.size
    exact s1 _ l2 _ _ (s1 _ l2 _ _ (s1 _ l2 _ _ (s1 _ l2 _ _ (s1 _ l2 _ _ ⟨_, _, _, _, rfl, G1.out, G2.out, G3.out, G4.out⟩))))
  · exact Below.setCell (Below.setCell (Below.setCell (Below.setCell (Below.setCell (HB.out.trans (HC4.out.mono HB.out.size)) (by show w.heap.size ≤ w.heap.size + 1; omega) _) (by show w.heap.size ≤ w.heap.size + 1; omega) _) (by show w.heap.size ≤ w.heap.size + 1; omega) _) (by show w.heap.size ≤ w.heap.size + 1; omega) _) (by show w.heap.size ≤ w.heap.size + 1; omega) _
end Go.Proofs.Ytfkfpppiikgjbaa
