/- The walks of EventPuts, EventGets. -/
import Derived.Test.YtgjehokkmdbknaaDoorEventG
import Derived.Test.YtgjehokkmdbknaaDoorEventL
import Derived.Test.YtgjehokkmdbknaaDoorEventC
namespace Go.Proofs.YtgjehokkmdbknaaDoor
open Go.RowKit

theorem blk_call {w w' : World} {p : Nat} {o : Obj} (h : w.heap[p]? = some o) (hb : Below w.heap.size w w') : w'.heap[p]? = some o := (hb.block p (Array.getElem?_eq_some_iff.1 h).1).trans h
/-- Contracts of the pair's parts, at nine numbers. -/
structure PutC (x0 x1 x2 x3 x4 x5 x6 x7 x8 : Int) (a b c : ByteArray) : Prop where
  p1 : ∀ w, Calls Tryd.prog 25 #[.agg #[.int .i64 x0, .int .i64 x1, .int .i64 x2, .int .i64 x3, .int .i64 x4, .int .i64 x5, .int .i64 x6]] w fun e w' => e = .returned (.string a) ∧ Below w.heap.size w w'
  p2 : ∀ w, Calls Tryd.prog 26 #[.agg #[.int .i64 x7, .int .i64 x8]] w fun e w' => e = .returned (.string b) ∧ Below w.heap.size w w'
  p3 : ∀ w, Calls Tryd.prog 27 #[.agg #[.int .i64 x0, .int .i64 x1, .int .i64 x2, .int .i64 x3, .int .i64 x4, .int .i64 x5, .int .i64 x6, .int .i64 x7, .int .i64 x8]] w fun e w' => e = .returned (.string c) ∧ Below w.heap.size w w'
  r1 : ∀ w, Calls Tryd.prog 31 #[.agg #[.int .i64 x0, .int .i64 x1, .int .i64 x2, .int .i64 x3, .int .i64 x4, .int .i64 x5, .int .i64 x6]] w fun e w' => e = .returned (.string a) ∧ Below w.heap.size w w'
  r2 : ∀ w, Calls Tryd.prog 32 #[.agg #[.int .i64 x7, .int .i64 x8]] w fun e w' => e = .returned (.string b) ∧ Below w.heap.size w w'
  r3 : ∀ w, Calls Tryd.prog 33 #[.agg #[.int .i64 x0, .int .i64 x1, .int .i64 x2, .int .i64 x3, .int .i64 x4, .int .i64 x5, .int .i64 x6, .int .i64 x7, .int .i64 x8]] w fun e w' => e = .returned (.string c) ∧ Below w.heap.size w w'
  g1 : ∀ w, Calls Tryd.prog 28 #[.string a] w fun e w' => e = .returned (.tuple #[.agg #[.int .i64 x0, .int .i64 x1, .int .i64 x2, .int .i64 x3, .int .i64 x4, .int .i64 x5, .int .i64 x6], .int .i64 0]) ∧ Below w.heap.size w w'
  g2 : ∀ w, Calls Tryd.prog 29 #[.string b] w fun e w' => e = .returned (.tuple #[.agg #[.int .i64 x7, .int .i64 x8], .int .i64 0]) ∧ Below w.heap.size w w'
  g3 : ∀ w, Calls Tryd.prog 30 #[.string c] w fun e w' => e = .returned (.tuple #[.agg #[.int .i64 x0, .int .i64 x1, .int .i64 x2, .int .i64 x3, .int .i64 x4, .int .i64 x5, .int .i64 x6, .int .i64 x7, .int .i64 x8], .int .i64 0]) ∧ Below w.heap.size w w'

theorem putC_of (x : Nat → Int) (hx : ∀ i, i < 9 → I64 (x i)) : PutC (x 0) (x 1) (x 2) (x 3) (x 4) (x 5) (x 6) (x 7) (x 8) (putStr x 7) (putStr (fun i => x (i + 7)) 2) (putStr x 9) := by
  have h7 : ∀ i, i < 7 → I64 (x i) := fun i hi => hx i (by omega)
  have h2 : ∀ i, i < 2 → I64 ((fun i => x (i + 7)) i) := fun i hi => hx (i + 7) (by omega)
  have s7 : Hid ((putStr x 7).size ≤ 1099511627776) := by have := putStr_size x 7; show _ ≤ _; omega
  have s2 : Hid ((putStr (fun i => x (i + 7)) 2).size ≤ 1099511627776) := by have := putStr_size (fun i => x (i + 7)) 2; show _ ≤ _; omega
  have s9 : Hid ((putStr x 9).size ≤ 1099511627776) := by have := putStr_size x 9; show _ ≤ _; omega
  refine ⟨fun w => Put_any x w h7, fun w => PutVerdict_any _ w h2, fun w => PutPair_any x w hx, fun w => refPut_any x w h7, fun w => refPutVerdict_any _ w h2, fun w => refPutPair_any x w hx, fun w => ?_, fun w => ?_, fun w => ?_⟩
  · have h := Get_any (putStr x 7) w s7
    rw [getE_put x 7 h7, evV_put x 7 h7 0 (by omega), evV_put x 7 h7 1 (by omega), evV_put x 7 h7 2 (by omega), evV_put x 7 h7 3 (by omega), evV_put x 7 h7 4 (by omega), evV_put x 7 h7 5 (by omega), evV_put x 7 h7 6 (by omega)] at h
    exact h
  · have h := GetVerdict_any (putStr (fun i => x (i + 7)) 2) w s2
    rw [getE_put _ 2 h2, evV_put _ 2 h2 0 (by omega), evV_put _ 2 h2 1 (by omega)] at h
    exact h
  · have h := GetPair_any (putStr x 9) w s9
    rw [getE_put x 9 hx, evV_put x 9 hx 0 (by omega), evV_put x 9 hx 1 (by omega), evV_put x 9 hx 2 (by omega), evV_put x 9 hx 3 (by omega), evV_put x 9 hx 4 (by omega), evV_put x 9 hx 5 (by omega), evV_put x 9 hx 6 (by omega), evV_put x 9 hx 7 (by omega), evV_put x 9 hx 8 (by omega)] at h
    exact h

set_option maxRecDepth 100000 in
set_option maxHeartbeats 4000000 in
theorem EventPuts_core (x0 x1 x2 x3 x4 x5 x6 x7 x8 : Int) (a b c : ByteArray) (w : World) (hT : Hid (Tabs w)) (H : Hid (PutC x0 x1 x2 x3 x4 x5 x6 x7 x8 a b c)) :
    Calls Tryd.prog 7 #[.agg #[.int .i64 x0, .int .i64 x1, .int .i64 x2, .int .i64 x3, .int .i64 x4, .int .i64 x5, .int .i64 x6, .int .i64 x7, .int .i64 x8]] w fun e w' => e = .returned (.bool true) ∧ Below w.heap.size w w' := by
  have b1 : (a.toList == a.toList) = true := by simp
  have b2 : (b.toList == b.toList) = true := by simp
  have b3 : (c.toList == c.toList) = true := by simp
  go_enter Tryd.func7, Tryd.ntmps7
  go_wp2_with fail
  have HT0 : Hid (Tabs (w.alloc (.cells #[.int .i64 x0, .int .i64 x1, .int .i64 x2, .int .i64 x3, .int .i64 x4, .int .i64 x5, .int .i64 x6, .int .i64 x7, .int .i64 x8] 45))) := hT.out.below ((Below.refl _ w).alloc (Nat.le_refl _) _)
  refine (alive06 _ HT0).mono ?_
  rintro e w1 ⟨rfl, hb⟩
  have hblk := (hb.block w.heap.size (by simp)).trans (heap_new w _)
  have HB1 := Lib.hid (below_to ((Below.refl _ w).alloc (Nat.le_refl _) _) hb)
  have c0 := cells_of_blk hblk 0 _ rfl
  have c1 := cells_of_blk hblk 1 _ rfl
  have c2 := cells_of_blk hblk 2 _ rfl
  have c3 := cells_of_blk hblk 3 _ rfl
  have c4 := cells_of_blk hblk 4 _ rfl
  have c5 := cells_of_blk hblk 5 _ rfl
  have c6 := cells_of_blk hblk 6 _ rfl
  have c7 := cells_of_blk hblk 7 _ rfl
  have c8 := cells_of_blk hblk 8 _ rfl
  have hlt : w.heap.size < w1.heap.size := (Array.getElem?_eq_some_iff.1 hblk).1
  have HBK := Lib.hid hblk; clear hblk hb HT0
  go_wp2_with fail
  refine wp_region_ext (by kernel_rfl) (by kernel_rfl) ?_
  repeat (go_big_quiet_step (first | exact ext_call (H.out.p1 _) | exact ext_call (H.out.p2 _) | exact ext_call (H.out.p3 _)))
  refine wpQuiet_nil ?_
  rintro w' ⟨y, rfl⟩
  have BP := Lib.hid (blk_call HBK.out y.below)
  have HB2 := Lib.hid (below_to HB1.out y.below)
  generalize y.w = w2 at *
  clear y c0 c1 c2 c3 c4 c5 c6 c7 c8 HBK HB1 hlt
  go_wp2_with fail
  refine (H.out.g1 _).mono ?_
  rintro e w3 ⟨rfl, hb⟩
  have NP := blk_call BP.out hb
  have HB3 := Lib.hid (below_to HB2.out hb)
  clear hb
  have BP := Lib.hid NP; clear NP
  have lP3 := Array.getElem?_eq_some_iff.1 BP.out |>.1
  have cP3_0 := cells_of_blk BP.out 0 _ rfl
  have cP3_1 := cells_of_blk BP.out 1 _ rfl
  have cP3_2 := cells_of_blk BP.out 2 _ rfl
  have cP3_3 := cells_of_blk BP.out 3 _ rfl
  have cP3_4 := cells_of_blk BP.out 4 _ rfl
  have cP3_5 := cells_of_blk BP.out 5 _ rfl
  have cP3_6 := cells_of_blk BP.out 6 _ rfl
  have cP3_7 := cells_of_blk BP.out 7 _ rfl
  have cP3_8 := cells_of_blk BP.out 8 _ rfl
  go_wp2_with fail
  refine (H.out.g2 _).mono ?_
  rintro e w4 ⟨rfl, hb⟩
  have NP := blk_call (blk_old BP.out _) hb
  have NE := blk_call (blk_new w3 _ _ rfl) hb
  have HB4 := Lib.hid (below_to (HB3.out.alloc HB3.out.size _) hb)
  clear hb lP3 cP3_0 cP3_1 cP3_2 cP3_3 cP3_4 cP3_5 cP3_6 cP3_7 cP3_8
  have BP := Lib.hid NP; clear NP
  have lP4 := Array.getElem?_eq_some_iff.1 BP.out |>.1
  have cP4_0 := cells_of_blk BP.out 0 _ rfl
  have cP4_1 := cells_of_blk BP.out 1 _ rfl
  have cP4_2 := cells_of_blk BP.out 2 _ rfl
  have cP4_3 := cells_of_blk BP.out 3 _ rfl
  have cP4_4 := cells_of_blk BP.out 4 _ rfl
  have cP4_5 := cells_of_blk BP.out 5 _ rfl
  have cP4_6 := cells_of_blk BP.out 6 _ rfl
  have cP4_7 := cells_of_blk BP.out 7 _ rfl
  have cP4_8 := cells_of_blk BP.out 8 _ rfl
  have BE := Lib.hid NE; clear NE
  have lE4 := Array.getElem?_eq_some_iff.1 BE.out |>.1
  have cE4_0 := cells_of_blk BE.out 0 _ rfl
  have cE4_1 := cells_of_blk BE.out 1 _ rfl
  have cE4_2 := cells_of_blk BE.out 2 _ rfl
  have cE4_3 := cells_of_blk BE.out 3 _ rfl
  have cE4_4 := cells_of_blk BE.out 4 _ rfl
  have cE4_5 := cells_of_blk BE.out 5 _ rfl
  have cE4_6 := cells_of_blk BE.out 6 _ rfl
  go_wp2_with fail
  refine (H.out.g3 _).mono ?_
  rintro e w5 ⟨rfl, hb⟩
  have NP := blk_call (blk_old BP.out _) hb
  have NE := blk_call (blk_old BE.out _) hb
  have NV := blk_call (blk_new w4 _ _ rfl) hb
  have HB5 := Lib.hid (below_to (HB4.out.alloc HB4.out.size _) hb)
  clear hb lP4 cP4_0 cP4_1 cP4_2 cP4_3 cP4_4 cP4_5 cP4_6 cP4_7 cP4_8 lE4 cE4_0 cE4_1 cE4_2 cE4_3 cE4_4 cE4_5 cE4_6
  have BP := Lib.hid NP; clear NP
  have lP5 := Array.getElem?_eq_some_iff.1 BP.out |>.1
  have cP5_0 := cells_of_blk BP.out 0 _ rfl
  have cP5_1 := cells_of_blk BP.out 1 _ rfl
  have cP5_2 := cells_of_blk BP.out 2 _ rfl
  have cP5_3 := cells_of_blk BP.out 3 _ rfl
  have cP5_4 := cells_of_blk BP.out 4 _ rfl
  have cP5_5 := cells_of_blk BP.out 5 _ rfl
  have cP5_6 := cells_of_blk BP.out 6 _ rfl
  have cP5_7 := cells_of_blk BP.out 7 _ rfl
  have cP5_8 := cells_of_blk BP.out 8 _ rfl
  have BE := Lib.hid NE; clear NE
  have lE5 := Array.getElem?_eq_some_iff.1 BE.out |>.1
  have cE5_0 := cells_of_blk BE.out 0 _ rfl
  have cE5_1 := cells_of_blk BE.out 1 _ rfl
  have cE5_2 := cells_of_blk BE.out 2 _ rfl
  have cE5_3 := cells_of_blk BE.out 3 _ rfl
  have cE5_4 := cells_of_blk BE.out 4 _ rfl
  have cE5_5 := cells_of_blk BE.out 5 _ rfl
  have cE5_6 := cells_of_blk BE.out 6 _ rfl
  have BV := Lib.hid NV; clear NV
  have lV5 := Array.getElem?_eq_some_iff.1 BV.out |>.1
  have cV5_0 := cells_of_blk BV.out 0 _ rfl
  have cV5_1 := cells_of_blk BV.out 1 _ rfl
  go_wp2_with fail
  refine (H.out.r1 _).mono ?_
  rintro e w6 ⟨rfl, hb⟩
  have NP := blk_call (blk_old BP.out _) hb
  have NE := blk_call (blk_old BE.out _) hb
  have NV := blk_call (blk_old BV.out _) hb
  have NR := blk_call (blk_new w5 _ _ rfl) hb
  have HB6 := Lib.hid (below_to (HB5.out.alloc HB5.out.size _) hb)
  clear hb lP5 cP5_0 cP5_1 cP5_2 cP5_3 cP5_4 cP5_5 cP5_6 cP5_7 cP5_8 lE5 cE5_0 cE5_1 cE5_2 cE5_3 cE5_4 cE5_5 cE5_6 lV5 cV5_0 cV5_1
  have BP := Lib.hid NP; clear NP
  have lP6 := Array.getElem?_eq_some_iff.1 BP.out |>.1
  have cP6_0 := cells_of_blk BP.out 0 _ rfl
  have cP6_1 := cells_of_blk BP.out 1 _ rfl
  have cP6_2 := cells_of_blk BP.out 2 _ rfl
  have cP6_3 := cells_of_blk BP.out 3 _ rfl
  have cP6_4 := cells_of_blk BP.out 4 _ rfl
  have cP6_5 := cells_of_blk BP.out 5 _ rfl
  have cP6_6 := cells_of_blk BP.out 6 _ rfl
  have cP6_7 := cells_of_blk BP.out 7 _ rfl
  have cP6_8 := cells_of_blk BP.out 8 _ rfl
  have BE := Lib.hid NE; clear NE
  have lE6 := Array.getElem?_eq_some_iff.1 BE.out |>.1
  have cE6_0 := cells_of_blk BE.out 0 _ rfl
  have cE6_1 := cells_of_blk BE.out 1 _ rfl
  have cE6_2 := cells_of_blk BE.out 2 _ rfl
  have cE6_3 := cells_of_blk BE.out 3 _ rfl
  have cE6_4 := cells_of_blk BE.out 4 _ rfl
  have cE6_5 := cells_of_blk BE.out 5 _ rfl
  have cE6_6 := cells_of_blk BE.out 6 _ rfl
  have BV := Lib.hid NV; clear NV
  have lV6 := Array.getElem?_eq_some_iff.1 BV.out |>.1
  have cV6_0 := cells_of_blk BV.out 0 _ rfl
  have cV6_1 := cells_of_blk BV.out 1 _ rfl
  have BR := Lib.hid NR; clear NR
  have lR6 := Array.getElem?_eq_some_iff.1 BR.out |>.1
  have cR6_0 := cells_of_blk BR.out 0 _ rfl
  have cR6_1 := cells_of_blk BR.out 1 _ rfl
  have cR6_2 := cells_of_blk BR.out 2 _ rfl
  have cR6_3 := cells_of_blk BR.out 3 _ rfl
  have cR6_4 := cells_of_blk BR.out 4 _ rfl
  have cR6_5 := cells_of_blk BR.out 5 _ rfl
  have cR6_6 := cells_of_blk BR.out 6 _ rfl
  have cR6_7 := cells_of_blk BR.out 7 _ rfl
  have cR6_8 := cells_of_blk BR.out 8 _ rfl
  go_wp2_with fail
  refine (H.out.r2 _).mono ?_
  rintro e w7 ⟨rfl, hb⟩
  have NP := blk_call BP.out hb
  have NE := blk_call BE.out hb
  have NV := blk_call BV.out hb
  have NR := blk_call BR.out hb
  have HB7 := Lib.hid (below_to HB6.out hb)
  clear hb lP6 cP6_0 cP6_1 cP6_2 cP6_3 cP6_4 cP6_5 cP6_6 cP6_7 cP6_8 lE6 cE6_0 cE6_1 cE6_2 cE6_3 cE6_4 cE6_5 cE6_6 lV6 cV6_0 cV6_1 lR6 cR6_0 cR6_1 cR6_2 cR6_3 cR6_4 cR6_5 cR6_6 cR6_7 cR6_8
  have BP := Lib.hid NP; clear NP
  have lP7 := Array.getElem?_eq_some_iff.1 BP.out |>.1
  have cP7_0 := cells_of_blk BP.out 0 _ rfl
  have cP7_1 := cells_of_blk BP.out 1 _ rfl
  have cP7_2 := cells_of_blk BP.out 2 _ rfl
  have cP7_3 := cells_of_blk BP.out 3 _ rfl
  have cP7_4 := cells_of_blk BP.out 4 _ rfl
  have cP7_5 := cells_of_blk BP.out 5 _ rfl
  have cP7_6 := cells_of_blk BP.out 6 _ rfl
  have cP7_7 := cells_of_blk BP.out 7 _ rfl
  have cP7_8 := cells_of_blk BP.out 8 _ rfl
  have BE := Lib.hid NE; clear NE
  have lE7 := Array.getElem?_eq_some_iff.1 BE.out |>.1
  have cE7_0 := cells_of_blk BE.out 0 _ rfl
  have cE7_1 := cells_of_blk BE.out 1 _ rfl
  have cE7_2 := cells_of_blk BE.out 2 _ rfl
  have cE7_3 := cells_of_blk BE.out 3 _ rfl
  have cE7_4 := cells_of_blk BE.out 4 _ rfl
  have cE7_5 := cells_of_blk BE.out 5 _ rfl
  have cE7_6 := cells_of_blk BE.out 6 _ rfl
  have BV := Lib.hid NV; clear NV
  have lV7 := Array.getElem?_eq_some_iff.1 BV.out |>.1
  have cV7_0 := cells_of_blk BV.out 0 _ rfl
  have cV7_1 := cells_of_blk BV.out 1 _ rfl
  have BR := Lib.hid NR; clear NR
  have lR7 := Array.getElem?_eq_some_iff.1 BR.out |>.1
  have cR7_0 := cells_of_blk BR.out 0 _ rfl
  have cR7_1 := cells_of_blk BR.out 1 _ rfl
  have cR7_2 := cells_of_blk BR.out 2 _ rfl
  have cR7_3 := cells_of_blk BR.out 3 _ rfl
  have cR7_4 := cells_of_blk BR.out 4 _ rfl
  have cR7_5 := cells_of_blk BR.out 5 _ rfl
  have cR7_6 := cells_of_blk BR.out 6 _ rfl
  have cR7_7 := cells_of_blk BR.out 7 _ rfl
  have cR7_8 := cells_of_blk BR.out 8 _ rfl
  go_wp2_with fail
  refine (H.out.r3 _).mono ?_
  rintro e w8 ⟨rfl, hb⟩
  have NP := blk_call BP.out hb
  have NE := blk_call BE.out hb
  have NV := blk_call BV.out hb
  have NR := blk_call BR.out hb
  have HB8 := Lib.hid (below_to HB7.out hb)
  clear hb lP7 cP7_0 cP7_1 cP7_2 cP7_3 cP7_4 cP7_5 cP7_6 cP7_7 cP7_8 lE7 cE7_0 cE7_1 cE7_2 cE7_3 cE7_4 cE7_5 cE7_6 lV7 cV7_0 cV7_1 lR7 cR7_0 cR7_1 cR7_2 cR7_3 cR7_4 cR7_5 cR7_6 cR7_7 cR7_8
  have BP := Lib.hid NP; clear NP
  have lP8 := Array.getElem?_eq_some_iff.1 BP.out |>.1
  have cP8_0 := cells_of_blk BP.out 0 _ rfl
  have cP8_1 := cells_of_blk BP.out 1 _ rfl
  have cP8_2 := cells_of_blk BP.out 2 _ rfl
  have cP8_3 := cells_of_blk BP.out 3 _ rfl
  have cP8_4 := cells_of_blk BP.out 4 _ rfl
  have cP8_5 := cells_of_blk BP.out 5 _ rfl
  have cP8_6 := cells_of_blk BP.out 6 _ rfl
  have cP8_7 := cells_of_blk BP.out 7 _ rfl
  have cP8_8 := cells_of_blk BP.out 8 _ rfl
  have BE := Lib.hid NE; clear NE
  have lE8 := Array.getElem?_eq_some_iff.1 BE.out |>.1
  have cE8_0 := cells_of_blk BE.out 0 _ rfl
  have cE8_1 := cells_of_blk BE.out 1 _ rfl
  have cE8_2 := cells_of_blk BE.out 2 _ rfl
  have cE8_3 := cells_of_blk BE.out 3 _ rfl
  have cE8_4 := cells_of_blk BE.out 4 _ rfl
  have cE8_5 := cells_of_blk BE.out 5 _ rfl
  have cE8_6 := cells_of_blk BE.out 6 _ rfl
  have BV := Lib.hid NV; clear NV
  have lV8 := Array.getElem?_eq_some_iff.1 BV.out |>.1
  have cV8_0 := cells_of_blk BV.out 0 _ rfl
  have cV8_1 := cells_of_blk BV.out 1 _ rfl
  have BR := Lib.hid NR; clear NR
  have lR8 := Array.getElem?_eq_some_iff.1 BR.out |>.1
  have cR8_0 := cells_of_blk BR.out 0 _ rfl
  have cR8_1 := cells_of_blk BR.out 1 _ rfl
  have cR8_2 := cells_of_blk BR.out 2 _ rfl
  have cR8_3 := cells_of_blk BR.out 3 _ rfl
  have cR8_4 := cells_of_blk BR.out 4 _ rfl
  have cR8_5 := cells_of_blk BR.out 5 _ rfl
  have cR8_6 := cells_of_blk BR.out 6 _ rfl
  have cR8_7 := cells_of_blk BR.out 7 _ rfl
  have cR8_8 := cells_of_blk BR.out 8 _ rfl
  go_wp2_with fail
  go_ret
  exact ⟨rfl, HB8.out⟩
end Go.Proofs.YtgjehokkmdbknaaDoor
