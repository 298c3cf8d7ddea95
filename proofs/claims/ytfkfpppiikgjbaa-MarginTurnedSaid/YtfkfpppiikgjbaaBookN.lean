/- Books: the document's example. -/
import Derived.Test.YtfkfpppiikgjbaaBookL
namespace Go.Proofs.Ytfkfpppiikgjbaa
open Go Go.RowKit
set_option linter.unusedVariables false
set_option linter.unusedSimpArgs false

theorem BkOwn.form {w : World} {B : Nat} {v : Value} {b : Bk} (h : BkOwn w B v b) : ∃ A1 c1 A2 c2 A3 c3 A4 c4, v = .agg #[.slice A1 b.h.length c1, .slice A2 b.s.length c2, .slice A3 b.o.length c3, .slice A4 b.r.length c4, .int .i64 b.n] := by
  obtain ⟨vh, vs, vo, vr, rfl, h1, h2, h3, h4⟩ := h
  obtain ⟨A1, c1, rfl⟩ := h1.form
  obtain ⟨A2, c2, rfl⟩ := h2.form
  obtain ⟨A3, c3, rfl⟩ := h3.form
  obtain ⟨A4, c4, rfl⟩ := h4.form
  exact ⟨A1, c1, A2, c2, A3, c3, A4, c4, rfl⟩
def bk0 : Bk := ⟨[], [], [], [], 0⟩
def bk1 : Bk := ⟨[[2, 5, 0, 0]], [], [], [], 0⟩
def bk2 : Bk := ⟨[[2, 5, 0, 0]], [[2, 1, 7]], [], [], 0⟩
theorem bk0_at (w : World) : BkAt w (.agg #[.slice none 0 0, .slice none 0 0, .slice none 0 0, .slice none 0 0, .int .i64 0]) bk0 :=
  have h : ∀ k, RowAt w (.slice none 0 0) k [] := fun k => ⟨none, 0, rfl, fun r hr => by simp at hr, .inl rfl⟩
  ⟨_, _, _, _, rfl, h 4, h 3, h 6, h 2⟩

set_option maxRecDepth 100000 in
set_option maxHeartbeats 4000000 in
theorem alive12 (w : World) : Calls Try.prog 14 #[] w fun e w' => e = .returned (.bool true) ∧ Below w.heap.size w w' := by
  have sm : ∀ b ∈ [bk0, bk1, bk2], b.Small := by intro b hb; simp at hb; rcases hb with rfl | rfl | rfl <;> (unfold Bk.Small; simp [bk0, bk1, bk2])
  have rh : riseH bk1.h := by simp [riseH, bk1]
  have q1 : Hid (Calls _ _ _ _ _) := SetHolder_any _ bk0 2 5 0 0 w (bk0_at w) (sm bk0 (by simp)) (by show riseH []; simp [riseH])
  have q2 := Lib.hid (fun v wz hb => Holder_any v bk1 3 0 0 0 0 false wz hb (by decide) rh rfl)
  have q3 := Lib.hid (fun v wz hb => Holder_any v bk1 2 2 5 0 0 true wz hb (by decide) rh rfl)
  have q4 := Lib.hid (fun v wz hb => SetStake_any v bk1 2 1 7 wz hb (sm bk1 (by simp)) (by show riseS []; simp [riseS]))
  have q5 := Lib.hid (fun v wz hb => SetStake_any v bk2 2 1 0 wz hb (sm bk2 (by simp)) (by show riseS [[2, 1, 7]]; simp [riseS]))
  clear sm rh
  go_enter Try.func14, Try.ntmps14
  go_wp2_with fail
  with_reducible refine q1.out.mono ?_
  rintro e w1 ⟨v1, rfl, hown, hb1⟩
  replace hown : BkOwn w1 w.heap.size v1 bk1 := hown
  obtain ⟨A1, c1, A2, c2, A3, c3, A4, c4, rfl⟩ := hown.form
  have HB1 := Lib.hid hb1
  have hb2 : Below w1.heap.size w1 (w1.alloc (.cells #[.slice A1 bk1.h.length c1, .slice A2 bk1.s.length c2, .slice A3 bk1.o.length c3, .slice A4 bk1.r.length c4, .int .i64 bk1.n] 37)) := below_alloc (Below.refl _ _) (Nat.le_refl _) _
  have k1 := heap_new w1 (.cells #[.slice A1 bk1.h.length c1, .slice A2 bk1.s.length c2, .slice A3 bk1.o.length c3, .slice A4 bk1.r.length c4, .int .i64 bk1.n] 37)
  have HO2 : Hid (BkAt (w1.alloc (.cells #[.slice A1 bk1.h.length c1, .slice A2 bk1.s.length c2, .slice A3 bk1.o.length c3, .slice A4 bk1.r.length c4, .int .i64 bk1.n] 37)) (.agg #[.slice A1 bk1.h.length c1, .slice A2 bk1.s.length c2, .slice A3 bk1.o.length c3, .slice A4 bk1.r.length c4, .int .i64 bk1.n]) bk1) := (hown.kept hb2).at
  have HB2 := Lib.hid (hb1.trans (hb2.mono hb1.size))
  have K1 := Lib.hid k1
  have hs1 := hb1.size
  clear hown hb1 hb2
  have a0 := cells_of_blk k1 0 _ rfl
  have a1 := cells_of_blk k1 1 _ rfl
  have a2 := cells_of_blk k1 2 _ rfl
  have a3 := cells_of_blk k1 3 _ rfl
  have a4 := cells_of_blk k1 4 _ rfl
  clear k1
  go_wp2_with fail
  with_reducible refine (q2.out _ _ HO2).mono ?_
  rintro e w2 ⟨rfl, hb⟩
  have k1 := blk_call K1.out hb
  have hb2 : Below w2.heap.size w2 (w2.alloc (.cells #[.int .i64 0, .int .i64 0, .int .i64 0, .int .i64 0] 39)) := below_alloc (Below.refl _ _) (Nat.le_refl _) _
  have hb3 := hb.trans (hb2.mono hb.size)
  have HO3 := Lib.hid (HO2.out.call hb3)
  have K2 := Lib.hid (blk_call K1.out hb3)
  have HB3 := Lib.hid (HB2.out.trans (hb3.mono HB2.out.size))
  have hs2 : w1.heap.size < w2.heap.size := (Array.getElem?_eq_some_iff.1 k1).1
  clear hb hb2 hb3 a0 a1 a2 a3 a4
  have a0 := cells_of_blk k1 0 _ rfl
  have a1 := cells_of_blk k1 1 _ rfl
  have a2 := cells_of_blk k1 2 _ rfl
  have a3 := cells_of_blk k1 3 _ rfl
  have a4 := cells_of_blk k1 4 _ rfl
  clear k1
  go_wp2_with fail
  with_reducible refine (q3.out _ _ HO3).mono ?_
  rintro e w3 ⟨rfl, hb⟩
  have k1 := blk_call K2.out hb
  have hb2 : Below w3.heap.size w3 (w3.alloc (.cells #[.int .i64 2, .int .i64 5, .int .i64 0, .int .i64 0] 39)) := below_alloc (Below.refl _ _) (Nat.le_refl _) _
  have hb3 := hb.trans (hb2.mono hb.size)
  have HO4 := Lib.hid (HO3.out.call hb3)
  have HB4 := Lib.hid (HB3.out.trans (hb3.mono HB3.out.size))
  have KH := Lib.hid (heap_new w3 (.cells #[.int .i64 2, .int .i64 5, .int .i64 0, .int .i64 0] 39))
  have hs3 : w1.heap.size < w3.heap.size := (Array.getElem?_eq_some_iff.1 k1).1
  clear hb hb2 hb3 a0 a1 a2 a3 a4
  have a0 := cells_of_blk k1 0 _ rfl
  have a1 := cells_of_blk k1 1 _ rfl
  have a2 := cells_of_blk k1 2 _ rfl
  have a3 := cells_of_blk k1 3 _ rfl
  have a4 := cells_of_blk k1 4 _ rfl
  clear k1
  go_wp2_with fail
  with_reducible refine (q4.out _ _ HO4).mono ?_
  rintro e w4 ⟨v4, rfl, hown, hb⟩
  replace hown : BkOwn w4 _ v4 bk2 := hown
  have HO5 := Lib.hid hown.at
  have KH5 := Lib.hid (blk_call KH.out hb)
  have HB5 := Lib.hid (HB4.out.trans (hb.mono HB4.out.size))
  clear hown hb a0 a1 a2 a3 a4
  go_wp2_with fail
  with_reducible refine (q5.out _ _ HO5).mono ?_
  rintro e w5 ⟨v5, rfl, hown, hb⟩
  replace hown : BkOwn w5 _ v5 bk1 := hown
  obtain ⟨B1, d1, B2, d2, B3, d3, B4, d4, rfl⟩ := hown.form
  have k5 := blk_call KH5.out hb
  have h5 := cells_of_blk k5 1 _ rfl
  have hs5 : w3.heap.size < w5.heap.size := (Array.getElem?_eq_some_iff.1 k5).1
  have HB6 : Hid (Below w.heap.size w (w5.alloc (.cells #[.slice B1 bk1.h.length d1, .slice B2 bk1.s.length d2, .slice B3 bk1.o.length d3, .slice B4 bk1.r.length d4, .int .i64 bk1.n] 37))) := below_alloc (HB5.out.trans (hb.mono HB5.out.size)) (by have := HB5.out.size; have := hb.size; omega) _
  have k6 := heap_new w5 (.cells #[.slice B1 bk1.h.length d1, .slice B2 bk1.s.length d2, .slice B3 bk1.o.length d3, .slice B4 bk1.r.length d4, .int .i64 bk1.n] 37)
  have e0 := cells_of_blk k6 0 _ rfl
  have e1 := cells_of_blk k6 1 _ rfl
  have z0 : bk1.s.length = 0 := rfl
  have z1 : bk1.h.length = 1 := rfl
  clear hown hb k5 k6
  go_wp2_with fail
  go_ret
  exact ⟨rfl, HB6.out⟩
end Go.Proofs.Ytfkfpppiikgjbaa
