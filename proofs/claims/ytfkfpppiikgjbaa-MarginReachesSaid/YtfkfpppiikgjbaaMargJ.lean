/- MarginReaches: the walk. -/
import Derived.Test.YtfkfpppiikgjbaaMargI
namespace Go.Proofs.Ytfkfpppiikgjbaa
open Go Go.RowKit Bg Mon
set_option linter.unusedVariables false
set_option linter.unusedSimpArgs false

set_option maxRecDepth 100000 in
set_option maxHeartbeats 4000000 in
theorem MarginReaches_walk (v : Value) (b : Bk) (acc sym side qty : Int) (w : World) (hb : Hid (BkAt w v b)) (hi : Hid b.I64s) (hq1 : Hid (I64 qty)) :
    Calls Try.prog 8 #[v, .int .i64 acc, .int .i64 sym, .int .i64 side, .int .i64 qty] w fun e w' => e = .returned (.bool true) ∧ Below w.heap.size w w' := by
  obtain ⟨vh, vs, vo, vr, rfl, r1, r2, r3, r4⟩ := hb.out
  clear r1 r2 r3 r4
  have K0 : Hid ((w.alloc (.cells #[vh, vs, vo, vr, .int .i64 b.n] 37)).heap[w.heap.size]? = some (.cells #[vh, vs, vo, vr, .int .i64 b.n] 37 (0, 0))) := heap_new w _
  have HB0 : Hid (Below w.heap.size w (w.alloc (.cells #[vh, vs, vo, vr, .int .i64 b.n] 37))) := below_alloc (Below.refl _ _) (Nat.le_refl _) _
  have B0 : Hid (BkAt (w.alloc (.cells #[vh, vs, vo, vr, .int .i64 b.n] 37)) (.agg #[vh, vs, vo, vr, .int .i64 b.n]) b) := hb.out.call HB0.out
  clear hb
  go_enter Try.func8, Try.ntmps8
  go_wp2_with fail
  with_reducible refine (alive15 _).mono ?_
  rintro e w1 ⟨rfl, hb⟩
  have K1 := Lib.hid (blk_call K0.out hb)
  have B1 := Lib.hid (B0.out.call hb)
  have HB1 := Lib.hid (HB0.out.trans (hb.mono HB0.out.size))
  clear hb
  have a0 := cells_of_blk K1.out 0 _ rfl
  have a1 := cells_of_blk K1.out 1 _ rfl
  have a2 := cells_of_blk K1.out 2 _ rfl
  have a3 := cells_of_blk K1.out 3 _ rfl
  have a4 := cells_of_blk K1.out 4 _ rfl
  go_wp2_with fail
  with_reducible refine (Great_any _ b _ B1).mono ?_
  rintro e w2 ⟨g, rfl, hg, hb⟩
  clear a0 a1 a2 a3 a4
  have K2 := Lib.hid (blk_call K1.out hb)
  have B2 := Lib.hid (B1.out.call hb)
  have HB2 := Lib.hid (HB1.out.trans (hb.mono HB1.out.size))
  clear hb
  have a0 := cells_of_blk K2.out 0 _ rfl
  have a1 := cells_of_blk K2.out 1 _ rfl
  have a2 := cells_of_blk K2.out 2 _ rfl
  have a3 := cells_of_blk K2.out 3 _ rfl
  have a4 := cells_of_blk K2.out 4 _ rfl
  cases g with
  | true =>
    clear hg
    go_wp2_with fail
    go_ret
    exact ⟨rfl, HB2.out⟩
  | false =>
  have hs := Lib.hid (hg rfl).small
  clear hg
  have q1 := Lib.hid (fun u w h => Reach_any u b acc sym side qty w h hs hi hq1)
  have q3 := Lib.hid (fun u w h => rBkMay_any u b w h hs)
  have q4 := Lib.hid (fun u w h => rReach_any u b acc sym side qty w h hs hi hq1)
  obtain ⟨RF, hRF⟩ : ∃ RF, reachR b acc sym side qty = RF := ⟨_, rfl⟩
  rw [hRF] at q4
  cases hm : b.mayB with
  | false =>
    have h1 : reachP b acc sym side qty = (0, false) := by unfold reachP; rw [hm]; rfl
    rw [h1] at q1
    rw [hm] at q3
    clear h1 hm hRF q4
    go_wp2_with fail
    with_reducible refine (q1.out _ _ B2).mono ?_
    rintro e w3 ⟨rfl, hb⟩
    clear a0 a1 a2 a3 a4
    have K3 := Lib.hid (blk_call K2.out hb)
    have B3 := Lib.hid (B2.out.call hb)
    have HB3 := Lib.hid (HB2.out.trans (hb.mono HB2.out.size))
    clear hb
    have a0 := cells_of_blk K3.out 0 _ rfl
    have a1 := cells_of_blk K3.out 1 _ rfl
    have a2 := cells_of_blk K3.out 2 _ rfl
    have a3 := cells_of_blk K3.out 3 _ rfl
    have a4 := cells_of_blk K3.out 4 _ rfl
    go_wp2_with fail
    with_reducible refine (q3.out _ _ B3).mono ?_
    rintro e w5 ⟨rfl, hb⟩
    have HB5 := Lib.hid (HB3.out.trans (hb.mono HB3.out.size))
    clear hb
    go_wp2_with fail
    go_ret
    exact ⟨rfl, HB5.out⟩
  | true =>
    have h1 : reachP b acc sym side qty = RF := by unfold reachP; rw [hm, ← hRF]; rfl
    rw [h1] at q1
    rw [hm] at q3
    clear h1 hm hRF
    have t0 : ∀ x : Int, (x == x) = true := fun x => by simp
    have t1 : ∀ x : Bool, (x == x) = true := fun x => by simp
    go_wp2_with fail
    with_reducible refine (q1.out _ _ B2).mono ?_
    rintro e w3 ⟨rfl, hb⟩
    clear a0 a1 a2 a3 a4
    have K3 := Lib.hid (blk_call K2.out hb)
    have B3 := Lib.hid (B2.out.call hb)
    have HB3 := Lib.hid (HB2.out.trans (hb.mono HB2.out.size))
    clear hb
    have a0 := cells_of_blk K3.out 0 _ rfl
    have a1 := cells_of_blk K3.out 1 _ rfl
    have a2 := cells_of_blk K3.out 2 _ rfl
    have a3 := cells_of_blk K3.out 3 _ rfl
    have a4 := cells_of_blk K3.out 4 _ rfl
    go_wp2_with fail
    with_reducible refine (q3.out _ _ B3).mono ?_
    rintro e w4 ⟨rfl, hb⟩
    clear a0 a1 a2 a3 a4
    have K4 := Lib.hid (blk_call K3.out hb)
    have B4 := Lib.hid (B3.out.call hb)
    have HB4 := Lib.hid (HB3.out.trans (hb.mono HB3.out.size))
    clear hb
    have a0 := cells_of_blk K4.out 0 _ rfl
    have a1 := cells_of_blk K4.out 1 _ rfl
    have a2 := cells_of_blk K4.out 2 _ rfl
    have a3 := cells_of_blk K4.out 3 _ rfl
    have a4 := cells_of_blk K4.out 4 _ rfl
    go_wp2_with fail
    with_reducible refine (q4.out _ _ B4).mono ?_
    rintro e w5 ⟨rfl, hb⟩
    have HB5 := Lib.hid (HB4.out.trans (hb.mono HB4.out.size))
    clear hb
    go_wp2_with fail
    go_ret
    exact ⟨rfl, HB5.out⟩
end Go.Proofs.Ytfkfpppiikgjbaa
