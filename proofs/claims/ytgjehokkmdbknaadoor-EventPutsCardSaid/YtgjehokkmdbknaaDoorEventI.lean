/- The walk of EventGets. -/
import Derived.Test.YtgjehokkmdbknaaDoorEventH
namespace Go.Proofs.YtgjehokkmdbknaaDoor
open Go.RowKit

structure GetC (s : ByteArray) (x0 x1 x2 x3 x4 x5 x6 y0 y1 z0 z1 z2 z3 z4 z5 z6 z7 z8 e f g : Int) : Prop where
  g1 : ∀ w, Calls Tryd.prog 28 #[.string s] w fun en w' => en = .returned (.tuple #[.agg #[.int .i64 x0, .int .i64 x1, .int .i64 x2, .int .i64 x3, .int .i64 x4, .int .i64 x5, .int .i64 x6], .int .i64 e]) ∧ Below w.heap.size w w'
  g2 : ∀ w, Calls Tryd.prog 29 #[.string s] w fun en w' => en = .returned (.tuple #[.agg #[.int .i64 y0, .int .i64 y1], .int .i64 f]) ∧ Below w.heap.size w w'
  g3 : ∀ w, Calls Tryd.prog 30 #[.string s] w fun en w' => en = .returned (.tuple #[.agg #[.int .i64 z0, .int .i64 z1, .int .i64 z2, .int .i64 z3, .int .i64 z4, .int .i64 z5, .int .i64 z6, .int .i64 z7, .int .i64 z8], .int .i64 g]) ∧ Below w.heap.size w w'
  r1 : ∀ w, Calls Tryd.prog 34 #[.string s] w fun en w' => en = .returned (.tuple #[.agg #[.int .i64 x0, .int .i64 x1, .int .i64 x2, .int .i64 x3, .int .i64 x4, .int .i64 x5, .int .i64 x6], .int .i64 e]) ∧ Below w.heap.size w w'
  r2 : ∀ w, Calls Tryd.prog 35 #[.string s] w fun en w' => en = .returned (.tuple #[.agg #[.int .i64 y0, .int .i64 y1], .int .i64 f]) ∧ Below w.heap.size w w'
  r3 : ∀ w, Calls Tryd.prog 36 #[.string s] w fun en w' => en = .returned (.tuple #[.agg #[.int .i64 z0, .int .i64 z1, .int .i64 z2, .int .i64 z3, .int .i64 z4, .int .i64 z5, .int .i64 z6, .int .i64 z7, .int .i64 z8], .int .i64 g]) ∧ Below w.heap.size w w'
  p1 : e = 0 → ∀ w, Calls Tryd.prog 25 #[.agg #[.int .i64 x0, .int .i64 x1, .int .i64 x2, .int .i64 x3, .int .i64 x4, .int .i64 x5, .int .i64 x6]] w fun en w' => en = .returned (.string s) ∧ Below w.heap.size w w'
  p2 : f = 0 → ∀ w, Calls Tryd.prog 26 #[.agg #[.int .i64 y0, .int .i64 y1]] w fun en w' => en = .returned (.string s) ∧ Below w.heap.size w w'
  p3 : g = 0 → ∀ w, Calls Tryd.prog 27 #[.agg #[.int .i64 z0, .int .i64 z1, .int .i64 z2, .int .i64 z3, .int .i64 z4, .int .i64 z5, .int .i64 z6, .int .i64 z7, .int .i64 z8]] w fun en w' => en = .returned (.string s) ∧ Below w.heap.size w w'

theorem getC_of (s : ByteArray) (hs : s.size ≤ 500) : GetC s (evV s 7 0) (evV s 7 1) (evV s 7 2) (evV s 7 3) (evV s 7 4) (evV s 7 5) (evV s 7 6) (evV s 2 0) (evV s 2 1) (evV s 9 0) (evV s 9 1) (evV s 9 2) (evV s 9 3) (evV s 9 4) (evV s 9 5) (evV s 9 6) (evV s 9 7) (evV s 9 8) (getE s 7) (getE s 2) (getE s 9) := by
  have s1 : Hid (s.size ≤ 1099511627776) := by show _ ≤ _; omega
  refine ⟨fun w => Get_any s w s1, fun w => GetVerdict_any s w s1, fun w => GetPair_any s w s1, fun w => refGet_any s w s1, fun w => refGetVerdict_any s w s1, fun w => refGetPair_any s w s1, fun h w => ?_, fun h w => ?_, fun h w => ?_⟩
  · have := Put_any (evV s 7) w (fun i _ => evV_I64 s 7 i)
    rwa [put_ev s 7 h] at this
  · have := PutVerdict_any (evV s 2) w (fun i _ => evV_I64 s 2 i)
    rwa [put_ev s 2 h] at this
  · have := PutPair_any (evV s 9) w (fun i _ => evV_I64 s 9 i)
    rwa [put_ev s 9 h] at this

set_option maxRecDepth 100000 in
set_option maxHeartbeats 4000000 in
theorem EventGets_c0 (s : ByteArray) (x0 x1 x2 x3 x4 x5 x6 y0 y1 z0 z1 z2 z3 z4 z5 z6 z7 z8 : Int) (e f g : Int) (he : (e != 0) = true) (hf : (f != 0) = true) (hg : (g != 0) = true) (w : World) (hT : Hid (Tabs w)) (hs : s.size ≤ 500) (H : Hid (GetC s x0 x1 x2 x3 x4 x5 x6 y0 y1 z0 z1 z2 z3 z4 z5 z6 z7 z8 e f g)) :
    Calls Tryd.prog 8 #[.string s] w fun e w' => e = .returned (.bool true) ∧ Below w.heap.size w w' := by
  have b1 : (s.toList == s.toList) = true := by simp
  go_enter Tryd.func8, Tryd.ntmps8
  go_wp2_with fail
  refine (alive06 _ hT).mono ?_
  rintro e1 w1 ⟨rfl, hb⟩
  have HB1 := Lib.hid hb; clear hb
  go_wp2_with fail
  refine (H.out.g1 _).mono ?_
  rintro e1 w2 ⟨rfl, hb⟩
  have HB2 := Lib.hid (below_to HB1.out hb)
  clear hb 
  go_wp2_with fail
  refine (H.out.g2 _).mono ?_
  rintro e1 w3 ⟨rfl, hb⟩
  have NE := blk_call (blk_new w2 _ _ rfl) hb
  have HB3 := Lib.hid (below_to (HB2.out.alloc HB2.out.size _) hb)
  clear hb 
  have BE := Lib.hid NE; clear NE
  go_wp2_with fail
  refine (H.out.g3 _).mono ?_
  rintro e1 w4 ⟨rfl, hb⟩
  have NE := blk_call (blk_old BE.out _) hb
  have NV := blk_call (blk_new w3 _ _ rfl) hb
  have HB4 := Lib.hid (below_to (HB3.out.alloc HB3.out.size _) hb)
  clear hb 
  have BE := Lib.hid NE; clear NE
  have BV := Lib.hid NV; clear NV
  go_wp2_with fail
  refine (H.out.r1 _).mono ?_
  rintro e1 w5 ⟨rfl, hb⟩
  have NE := blk_call (blk_old BE.out _) hb
  have NV := blk_call (blk_old BV.out _) hb
  have NP := blk_call (blk_new w4 _ _ rfl) hb
  have HB5 := Lib.hid (below_to (HB4.out.alloc HB4.out.size _) hb)
  clear hb 
  have BE := Lib.hid NE; clear NE
  have BV := Lib.hid NV; clear NV
  have BP := Lib.hid NP; clear NP
  go_wp2_with fail
  refine (H.out.r2 _).mono ?_
  rintro e1 w6 ⟨rfl, hb⟩
  have NE := blk_call (blk_old BE.out _) hb
  have NV := blk_call (blk_old BV.out _) hb
  have NP := blk_call (blk_old BP.out _) hb
  have NF := blk_call (blk_new w5 _ _ rfl) hb
  have HB6 := Lib.hid (below_to (HB5.out.alloc HB5.out.size _) hb)
  clear hb 
  have BE := Lib.hid NE; clear NE
  have BV := Lib.hid NV; clear NV
  have BP := Lib.hid NP; clear NP
  have BF := Lib.hid NF; clear NF
  go_wp2_with fail
  refine (H.out.r3 _).mono ?_
  rintro e1 w7 ⟨rfl, hb⟩
  have NE := blk_call (blk_old BE.out _) hb
  have NV := blk_call (blk_old BV.out _) hb
  have NP := blk_call (blk_old BP.out _) hb
  have NF := blk_call (blk_old BF.out _) hb
  have NU := blk_call (blk_new w6 _ _ rfl) hb
  have HB7 := Lib.hid (below_to (HB6.out.alloc HB6.out.size _) hb)
  clear hb 
  have BE := Lib.hid NE; clear NE
  have BV := Lib.hid NV; clear NV
  have BP := Lib.hid NP; clear NP
  have BF := Lib.hid NF; clear NF
  have BU := Lib.hid NU; clear NU
  have lE7 := Array.getElem?_eq_some_iff.1 BE.out |>.1
  have cE7_0 := cells_of_blk BE.out 0 _ rfl
  have cE7_1 := cells_of_blk BE.out 1 _ rfl
  have cE7_2 := cells_of_blk BE.out 2 _ rfl
  have cE7_3 := cells_of_blk BE.out 3 _ rfl
  have cE7_4 := cells_of_blk BE.out 4 _ rfl
  have cE7_5 := cells_of_blk BE.out 5 _ rfl
  have cE7_6 := cells_of_blk BE.out 6 _ rfl
  have lV7 := Array.getElem?_eq_some_iff.1 BV.out |>.1
  have cV7_0 := cells_of_blk BV.out 0 _ rfl
  have cV7_1 := cells_of_blk BV.out 1 _ rfl
  have lP7 := Array.getElem?_eq_some_iff.1 BP.out |>.1
  have cP7_0 := cells_of_blk BP.out 0 _ rfl
  have cP7_1 := cells_of_blk BP.out 1 _ rfl
  have cP7_2 := cells_of_blk BP.out 2 _ rfl
  have cP7_3 := cells_of_blk BP.out 3 _ rfl
  have cP7_4 := cells_of_blk BP.out 4 _ rfl
  have cP7_5 := cells_of_blk BP.out 5 _ rfl
  have cP7_6 := cells_of_blk BP.out 6 _ rfl
  have cP7_7 := cells_of_blk BP.out 7 _ rfl
  have cP7_8 := cells_of_blk BP.out 8 _ rfl
  have lF7 := Array.getElem?_eq_some_iff.1 BF.out |>.1
  have cF7_0 := cells_of_blk BF.out 0 _ rfl
  have cF7_1 := cells_of_blk BF.out 1 _ rfl
  have cF7_2 := cells_of_blk BF.out 2 _ rfl
  have cF7_3 := cells_of_blk BF.out 3 _ rfl
  have cF7_4 := cells_of_blk BF.out 4 _ rfl
  have cF7_5 := cells_of_blk BF.out 5 _ rfl
  have cF7_6 := cells_of_blk BF.out 6 _ rfl
  have lU7 := Array.getElem?_eq_some_iff.1 BU.out |>.1
  have cU7_0 := cells_of_blk BU.out 0 _ rfl
  have cU7_1 := cells_of_blk BU.out 1 _ rfl
  go_wp2_with fail
  go_ret
  exact ⟨rfl, HB7.out.alloc HB7.out.size _⟩

set_option maxRecDepth 100000 in
set_option maxHeartbeats 4000000 in
theorem EventGets_c1 (s : ByteArray) (x0 x1 x2 x3 x4 x5 x6 y0 y1 z0 z1 z2 z3 z4 z5 z6 z7 z8 : Int) (f g : Int) (hf : (f != 0) = true) (hg : (g != 0) = true) (w : World) (hT : Hid (Tabs w)) (hs : s.size ≤ 500) (H : Hid (GetC s x0 x1 x2 x3 x4 x5 x6 y0 y1 z0 z1 z2 z3 z4 z5 z6 z7 z8 0 f g)) :
    Calls Tryd.prog 8 #[.string s] w fun e w' => e = .returned (.bool true) ∧ Below w.heap.size w w' := by
  have b1 : (s.toList == s.toList) = true := by simp
  go_enter Tryd.func8, Tryd.ntmps8
  go_wp2_with fail
  refine (alive06 _ hT).mono ?_
  rintro e1 w1 ⟨rfl, hb⟩
  have HB1 := Lib.hid hb; clear hb
  go_wp2_with fail
  refine (H.out.g1 _).mono ?_
  rintro e1 w2 ⟨rfl, hb⟩
  have HB2 := Lib.hid (below_to HB1.out hb)
  clear hb 
  go_wp2_with fail
  refine (H.out.g2 _).mono ?_
  rintro e1 w3 ⟨rfl, hb⟩
  have NE := blk_call (blk_new w2 _ _ rfl) hb
  have HB3 := Lib.hid (below_to (HB2.out.alloc HB2.out.size _) hb)
  clear hb 
  have BE := Lib.hid NE; clear NE
  go_wp2_with fail
  refine (H.out.g3 _).mono ?_
  rintro e1 w4 ⟨rfl, hb⟩
  have NE := blk_call (blk_old BE.out _) hb
  have NV := blk_call (blk_new w3 _ _ rfl) hb
  have HB4 := Lib.hid (below_to (HB3.out.alloc HB3.out.size _) hb)
  clear hb 
  have BE := Lib.hid NE; clear NE
  have BV := Lib.hid NV; clear NV
  go_wp2_with fail
  refine (H.out.r1 _).mono ?_
  rintro e1 w5 ⟨rfl, hb⟩
  have NE := blk_call (blk_old BE.out _) hb
  have NV := blk_call (blk_old BV.out _) hb
  have NP := blk_call (blk_new w4 _ _ rfl) hb
  have HB5 := Lib.hid (below_to (HB4.out.alloc HB4.out.size _) hb)
  clear hb 
  have BE := Lib.hid NE; clear NE
  have BV := Lib.hid NV; clear NV
  have BP := Lib.hid NP; clear NP
  go_wp2_with fail
  refine (H.out.r2 _).mono ?_
  rintro e1 w6 ⟨rfl, hb⟩
  have NE := blk_call (blk_old BE.out _) hb
  have NV := blk_call (blk_old BV.out _) hb
  have NP := blk_call (blk_old BP.out _) hb
  have NF := blk_call (blk_new w5 _ _ rfl) hb
  have HB6 := Lib.hid (below_to (HB5.out.alloc HB5.out.size _) hb)
  clear hb 
  have BE := Lib.hid NE; clear NE
  have BV := Lib.hid NV; clear NV
  have BP := Lib.hid NP; clear NP
  have BF := Lib.hid NF; clear NF
  go_wp2_with fail
  refine (H.out.r3 _).mono ?_
  rintro e1 w7 ⟨rfl, hb⟩
  have NE := blk_call (blk_old BE.out _) hb
  have NV := blk_call (blk_old BV.out _) hb
  have NP := blk_call (blk_old BP.out _) hb
  have NF := blk_call (blk_old BF.out _) hb
  have NU := blk_call (blk_new w6 _ _ rfl) hb
  have HB7 := Lib.hid (below_to (HB6.out.alloc HB6.out.size _) hb)
  clear hb 
  have BE := Lib.hid NE; clear NE
  have BV := Lib.hid NV; clear NV
  have BP := Lib.hid NP; clear NP
  have BF := Lib.hid NF; clear NF
  have BU := Lib.hid NU; clear NU
  have lE7 := Array.getElem?_eq_some_iff.1 BE.out |>.1
  have cE7_0 := cells_of_blk BE.out 0 _ rfl
  have cE7_1 := cells_of_blk BE.out 1 _ rfl
  have cE7_2 := cells_of_blk BE.out 2 _ rfl
  have cE7_3 := cells_of_blk BE.out 3 _ rfl
  have cE7_4 := cells_of_blk BE.out 4 _ rfl
  have cE7_5 := cells_of_blk BE.out 5 _ rfl
  have cE7_6 := cells_of_blk BE.out 6 _ rfl
  have lV7 := Array.getElem?_eq_some_iff.1 BV.out |>.1
  have cV7_0 := cells_of_blk BV.out 0 _ rfl
  have cV7_1 := cells_of_blk BV.out 1 _ rfl
  have lP7 := Array.getElem?_eq_some_iff.1 BP.out |>.1
  have cP7_0 := cells_of_blk BP.out 0 _ rfl
  have cP7_1 := cells_of_blk BP.out 1 _ rfl
  have cP7_2 := cells_of_blk BP.out 2 _ rfl
  have cP7_3 := cells_of_blk BP.out 3 _ rfl
  have cP7_4 := cells_of_blk BP.out 4 _ rfl
  have cP7_5 := cells_of_blk BP.out 5 _ rfl
  have cP7_6 := cells_of_blk BP.out 6 _ rfl
  have cP7_7 := cells_of_blk BP.out 7 _ rfl
  have cP7_8 := cells_of_blk BP.out 8 _ rfl
  have lF7 := Array.getElem?_eq_some_iff.1 BF.out |>.1
  have cF7_0 := cells_of_blk BF.out 0 _ rfl
  have cF7_1 := cells_of_blk BF.out 1 _ rfl
  have cF7_2 := cells_of_blk BF.out 2 _ rfl
  have cF7_3 := cells_of_blk BF.out 3 _ rfl
  have cF7_4 := cells_of_blk BF.out 4 _ rfl
  have cF7_5 := cells_of_blk BF.out 5 _ rfl
  have cF7_6 := cells_of_blk BF.out 6 _ rfl
  have lU7 := Array.getElem?_eq_some_iff.1 BU.out |>.1
  have cU7_0 := cells_of_blk BU.out 0 _ rfl
  have cU7_1 := cells_of_blk BU.out 1 _ rfl
  go_wp2_with fail
  refine (H.out.p1 rfl _).mono ?_
  rintro e1 w8 ⟨rfl, hb⟩
  have NE := blk_call (blk_old BE.out _) hb
  have NV := blk_call (blk_old BV.out _) hb
  have NP := blk_call (blk_old BP.out _) hb
  have NF := blk_call (blk_old BF.out _) hb
  have NU := blk_call (blk_old BU.out _) hb
  have NQ := blk_call (blk_new w7 _ _ rfl) hb
  have HB8 := Lib.hid (below_to (HB7.out.alloc HB7.out.size _) hb)
  clear hb lE7 cE7_0 cE7_1 cE7_2 cE7_3 cE7_4 cE7_5 cE7_6 lV7 cV7_0 cV7_1 lP7 cP7_0 cP7_1 cP7_2 cP7_3 cP7_4 cP7_5 cP7_6 cP7_7 cP7_8 lF7 cF7_0 cF7_1 cF7_2 cF7_3 cF7_4 cF7_5 cF7_6 lU7 cU7_0 cU7_1
  have BE := Lib.hid NE; clear NE
  have BV := Lib.hid NV; clear NV
  have BP := Lib.hid NP; clear NP
  have BF := Lib.hid NF; clear NF
  have BU := Lib.hid NU; clear NU
  have BQ := Lib.hid NQ; clear NQ
  have lE8 := Array.getElem?_eq_some_iff.1 BE.out |>.1
  have cE8_0 := cells_of_blk BE.out 0 _ rfl
  have cE8_1 := cells_of_blk BE.out 1 _ rfl
  have cE8_2 := cells_of_blk BE.out 2 _ rfl
  have cE8_3 := cells_of_blk BE.out 3 _ rfl
  have cE8_4 := cells_of_blk BE.out 4 _ rfl
  have cE8_5 := cells_of_blk BE.out 5 _ rfl
  have cE8_6 := cells_of_blk BE.out 6 _ rfl
  have lV8 := Array.getElem?_eq_some_iff.1 BV.out |>.1
  have cV8_0 := cells_of_blk BV.out 0 _ rfl
  have cV8_1 := cells_of_blk BV.out 1 _ rfl
  have lP8 := Array.getElem?_eq_some_iff.1 BP.out |>.1
  have cP8_0 := cells_of_blk BP.out 0 _ rfl
  have cP8_1 := cells_of_blk BP.out 1 _ rfl
  have cP8_2 := cells_of_blk BP.out 2 _ rfl
  have cP8_3 := cells_of_blk BP.out 3 _ rfl
  have cP8_4 := cells_of_blk BP.out 4 _ rfl
  have cP8_5 := cells_of_blk BP.out 5 _ rfl
  have cP8_6 := cells_of_blk BP.out 6 _ rfl
  have cP8_7 := cells_of_blk BP.out 7 _ rfl
  have cP8_8 := cells_of_blk BP.out 8 _ rfl
  have lF8 := Array.getElem?_eq_some_iff.1 BF.out |>.1
  have cF8_0 := cells_of_blk BF.out 0 _ rfl
  have cF8_1 := cells_of_blk BF.out 1 _ rfl
  have cF8_2 := cells_of_blk BF.out 2 _ rfl
  have cF8_3 := cells_of_blk BF.out 3 _ rfl
  have cF8_4 := cells_of_blk BF.out 4 _ rfl
  have cF8_5 := cells_of_blk BF.out 5 _ rfl
  have cF8_6 := cells_of_blk BF.out 6 _ rfl
  have lU8 := Array.getElem?_eq_some_iff.1 BU.out |>.1
  have cU8_0 := cells_of_blk BU.out 0 _ rfl
  have cU8_1 := cells_of_blk BU.out 1 _ rfl
  have lQ8 := Array.getElem?_eq_some_iff.1 BQ.out |>.1
  have cQ8_0 := cells_of_blk BQ.out 0 _ rfl
  have cQ8_1 := cells_of_blk BQ.out 1 _ rfl
  have cQ8_2 := cells_of_blk BQ.out 2 _ rfl
  have cQ8_3 := cells_of_blk BQ.out 3 _ rfl
  have cQ8_4 := cells_of_blk BQ.out 4 _ rfl
  have cQ8_5 := cells_of_blk BQ.out 5 _ rfl
  have cQ8_6 := cells_of_blk BQ.out 6 _ rfl
  have cQ8_7 := cells_of_blk BQ.out 7 _ rfl
  have cQ8_8 := cells_of_blk BQ.out 8 _ rfl
  go_wp2_with fail
  go_ret
  exact ⟨rfl, HB8.out⟩

set_option maxRecDepth 100000 in
set_option maxHeartbeats 4000000 in
theorem EventGets_c2 (s : ByteArray) (x0 x1 x2 x3 x4 x5 x6 y0 y1 z0 z1 z2 z3 z4 z5 z6 z7 z8 : Int) (e g : Int) (he : (e != 0) = true) (hg : (g != 0) = true) (w : World) (hT : Hid (Tabs w)) (hs : s.size ≤ 500) (H : Hid (GetC s x0 x1 x2 x3 x4 x5 x6 y0 y1 z0 z1 z2 z3 z4 z5 z6 z7 z8 e 0 g)) :
    Calls Tryd.prog 8 #[.string s] w fun e w' => e = .returned (.bool true) ∧ Below w.heap.size w w' := by
  have b1 : (s.toList == s.toList) = true := by simp
  go_enter Tryd.func8, Tryd.ntmps8
  go_wp2_with fail
  refine (alive06 _ hT).mono ?_
  rintro e1 w1 ⟨rfl, hb⟩
  have HB1 := Lib.hid hb; clear hb
  go_wp2_with fail
  refine (H.out.g1 _).mono ?_
  rintro e1 w2 ⟨rfl, hb⟩
  have HB2 := Lib.hid (below_to HB1.out hb)
  clear hb 
  go_wp2_with fail
  refine (H.out.g2 _).mono ?_
  rintro e1 w3 ⟨rfl, hb⟩
  have NE := blk_call (blk_new w2 _ _ rfl) hb
  have HB3 := Lib.hid (below_to (HB2.out.alloc HB2.out.size _) hb)
  clear hb 
  have BE := Lib.hid NE; clear NE
  go_wp2_with fail
  refine (H.out.g3 _).mono ?_
  rintro e1 w4 ⟨rfl, hb⟩
  have NE := blk_call (blk_old BE.out _) hb
  have NV := blk_call (blk_new w3 _ _ rfl) hb
  have HB4 := Lib.hid (below_to (HB3.out.alloc HB3.out.size _) hb)
  clear hb 
  have BE := Lib.hid NE; clear NE
  have BV := Lib.hid NV; clear NV
  go_wp2_with fail
  refine (H.out.r1 _).mono ?_
  rintro e1 w5 ⟨rfl, hb⟩
  have NE := blk_call (blk_old BE.out _) hb
  have NV := blk_call (blk_old BV.out _) hb
  have NP := blk_call (blk_new w4 _ _ rfl) hb
  have HB5 := Lib.hid (below_to (HB4.out.alloc HB4.out.size _) hb)
  clear hb 
  have BE := Lib.hid NE; clear NE
  have BV := Lib.hid NV; clear NV
  have BP := Lib.hid NP; clear NP
  go_wp2_with fail
  refine (H.out.r2 _).mono ?_
  rintro e1 w6 ⟨rfl, hb⟩
  have NE := blk_call (blk_old BE.out _) hb
  have NV := blk_call (blk_old BV.out _) hb
  have NP := blk_call (blk_old BP.out _) hb
  have NF := blk_call (blk_new w5 _ _ rfl) hb
  have HB6 := Lib.hid (below_to (HB5.out.alloc HB5.out.size _) hb)
  clear hb 
  have BE := Lib.hid NE; clear NE
  have BV := Lib.hid NV; clear NV
  have BP := Lib.hid NP; clear NP
  have BF := Lib.hid NF; clear NF
  go_wp2_with fail
  refine (H.out.r3 _).mono ?_
  rintro e1 w7 ⟨rfl, hb⟩
  have NE := blk_call (blk_old BE.out _) hb
  have NV := blk_call (blk_old BV.out _) hb
  have NP := blk_call (blk_old BP.out _) hb
  have NF := blk_call (blk_old BF.out _) hb
  have NU := blk_call (blk_new w6 _ _ rfl) hb
  have HB7 := Lib.hid (below_to (HB6.out.alloc HB6.out.size _) hb)
  clear hb 
  have BE := Lib.hid NE; clear NE
  have BV := Lib.hid NV; clear NV
  have BP := Lib.hid NP; clear NP
  have BF := Lib.hid NF; clear NF
  have BU := Lib.hid NU; clear NU
  have lE7 := Array.getElem?_eq_some_iff.1 BE.out |>.1
  have cE7_0 := cells_of_blk BE.out 0 _ rfl
  have cE7_1 := cells_of_blk BE.out 1 _ rfl
  have cE7_2 := cells_of_blk BE.out 2 _ rfl
  have cE7_3 := cells_of_blk BE.out 3 _ rfl
  have cE7_4 := cells_of_blk BE.out 4 _ rfl
  have cE7_5 := cells_of_blk BE.out 5 _ rfl
  have cE7_6 := cells_of_blk BE.out 6 _ rfl
  have lV7 := Array.getElem?_eq_some_iff.1 BV.out |>.1
  have cV7_0 := cells_of_blk BV.out 0 _ rfl
  have cV7_1 := cells_of_blk BV.out 1 _ rfl
  have lP7 := Array.getElem?_eq_some_iff.1 BP.out |>.1
  have cP7_0 := cells_of_blk BP.out 0 _ rfl
  have cP7_1 := cells_of_blk BP.out 1 _ rfl
  have cP7_2 := cells_of_blk BP.out 2 _ rfl
  have cP7_3 := cells_of_blk BP.out 3 _ rfl
  have cP7_4 := cells_of_blk BP.out 4 _ rfl
  have cP7_5 := cells_of_blk BP.out 5 _ rfl
  have cP7_6 := cells_of_blk BP.out 6 _ rfl
  have cP7_7 := cells_of_blk BP.out 7 _ rfl
  have cP7_8 := cells_of_blk BP.out 8 _ rfl
  have lF7 := Array.getElem?_eq_some_iff.1 BF.out |>.1
  have cF7_0 := cells_of_blk BF.out 0 _ rfl
  have cF7_1 := cells_of_blk BF.out 1 _ rfl
  have cF7_2 := cells_of_blk BF.out 2 _ rfl
  have cF7_3 := cells_of_blk BF.out 3 _ rfl
  have cF7_4 := cells_of_blk BF.out 4 _ rfl
  have cF7_5 := cells_of_blk BF.out 5 _ rfl
  have cF7_6 := cells_of_blk BF.out 6 _ rfl
  have lU7 := Array.getElem?_eq_some_iff.1 BU.out |>.1
  have cU7_0 := cells_of_blk BU.out 0 _ rfl
  have cU7_1 := cells_of_blk BU.out 1 _ rfl
  go_wp2_with fail
  refine (H.out.p2 rfl _).mono ?_
  rintro e1 w8 ⟨rfl, hb⟩
  have NE := blk_call (blk_old BE.out _) hb
  have NV := blk_call (blk_old BV.out _) hb
  have NP := blk_call (blk_old BP.out _) hb
  have NF := blk_call (blk_old BF.out _) hb
  have NU := blk_call (blk_old BU.out _) hb
  have NQ := blk_call (blk_new w7 _ _ rfl) hb
  have HB8 := Lib.hid (below_to (HB7.out.alloc HB7.out.size _) hb)
  clear hb lE7 cE7_0 cE7_1 cE7_2 cE7_3 cE7_4 cE7_5 cE7_6 lV7 cV7_0 cV7_1 lP7 cP7_0 cP7_1 cP7_2 cP7_3 cP7_4 cP7_5 cP7_6 cP7_7 cP7_8 lF7 cF7_0 cF7_1 cF7_2 cF7_3 cF7_4 cF7_5 cF7_6 lU7 cU7_0 cU7_1
  have BE := Lib.hid NE; clear NE
  have BV := Lib.hid NV; clear NV
  have BP := Lib.hid NP; clear NP
  have BF := Lib.hid NF; clear NF
  have BU := Lib.hid NU; clear NU
  have BQ := Lib.hid NQ; clear NQ
  have lE8 := Array.getElem?_eq_some_iff.1 BE.out |>.1
  have cE8_0 := cells_of_blk BE.out 0 _ rfl
  have cE8_1 := cells_of_blk BE.out 1 _ rfl
  have cE8_2 := cells_of_blk BE.out 2 _ rfl
  have cE8_3 := cells_of_blk BE.out 3 _ rfl
  have cE8_4 := cells_of_blk BE.out 4 _ rfl
  have cE8_5 := cells_of_blk BE.out 5 _ rfl
  have cE8_6 := cells_of_blk BE.out 6 _ rfl
  have lV8 := Array.getElem?_eq_some_iff.1 BV.out |>.1
  have cV8_0 := cells_of_blk BV.out 0 _ rfl
  have cV8_1 := cells_of_blk BV.out 1 _ rfl
  have lP8 := Array.getElem?_eq_some_iff.1 BP.out |>.1
  have cP8_0 := cells_of_blk BP.out 0 _ rfl
  have cP8_1 := cells_of_blk BP.out 1 _ rfl
  have cP8_2 := cells_of_blk BP.out 2 _ rfl
  have cP8_3 := cells_of_blk BP.out 3 _ rfl
  have cP8_4 := cells_of_blk BP.out 4 _ rfl
  have cP8_5 := cells_of_blk BP.out 5 _ rfl
  have cP8_6 := cells_of_blk BP.out 6 _ rfl
  have cP8_7 := cells_of_blk BP.out 7 _ rfl
  have cP8_8 := cells_of_blk BP.out 8 _ rfl
  have lF8 := Array.getElem?_eq_some_iff.1 BF.out |>.1
  have cF8_0 := cells_of_blk BF.out 0 _ rfl
  have cF8_1 := cells_of_blk BF.out 1 _ rfl
  have cF8_2 := cells_of_blk BF.out 2 _ rfl
  have cF8_3 := cells_of_blk BF.out 3 _ rfl
  have cF8_4 := cells_of_blk BF.out 4 _ rfl
  have cF8_5 := cells_of_blk BF.out 5 _ rfl
  have cF8_6 := cells_of_blk BF.out 6 _ rfl
  have lU8 := Array.getElem?_eq_some_iff.1 BU.out |>.1
  have cU8_0 := cells_of_blk BU.out 0 _ rfl
  have cU8_1 := cells_of_blk BU.out 1 _ rfl
  have lQ8 := Array.getElem?_eq_some_iff.1 BQ.out |>.1
  have cQ8_0 := cells_of_blk BQ.out 0 _ rfl
  have cQ8_1 := cells_of_blk BQ.out 1 _ rfl
  have cQ8_2 := cells_of_blk BQ.out 2 _ rfl
  have cQ8_3 := cells_of_blk BQ.out 3 _ rfl
  have cQ8_4 := cells_of_blk BQ.out 4 _ rfl
  have cQ8_5 := cells_of_blk BQ.out 5 _ rfl
  have cQ8_6 := cells_of_blk BQ.out 6 _ rfl
  have cQ8_7 := cells_of_blk BQ.out 7 _ rfl
  have cQ8_8 := cells_of_blk BQ.out 8 _ rfl
  go_wp2_with fail
  go_ret
  exact ⟨rfl, HB8.out⟩

set_option maxRecDepth 100000 in
set_option maxHeartbeats 4000000 in
theorem EventGets_c3 (s : ByteArray) (x0 x1 x2 x3 x4 x5 x6 y0 y1 z0 z1 z2 z3 z4 z5 z6 z7 z8 : Int) (g : Int) (hg : (g != 0) = true) (w : World) (hT : Hid (Tabs w)) (hs : s.size ≤ 500) (H : Hid (GetC s x0 x1 x2 x3 x4 x5 x6 y0 y1 z0 z1 z2 z3 z4 z5 z6 z7 z8 0 0 g)) :
    Calls Tryd.prog 8 #[.string s] w fun e w' => e = .returned (.bool true) ∧ Below w.heap.size w w' := by
  have b1 : (s.toList == s.toList) = true := by simp
  go_enter Tryd.func8, Tryd.ntmps8
  go_wp2_with fail
  refine (alive06 _ hT).mono ?_
  rintro e1 w1 ⟨rfl, hb⟩
  have HB1 := Lib.hid hb; clear hb
  go_wp2_with fail
  refine (H.out.g1 _).mono ?_
  rintro e1 w2 ⟨rfl, hb⟩
  have HB2 := Lib.hid (below_to HB1.out hb)
  clear hb 
  go_wp2_with fail
  refine (H.out.g2 _).mono ?_
  rintro e1 w3 ⟨rfl, hb⟩
  have NE := blk_call (blk_new w2 _ _ rfl) hb
  have HB3 := Lib.hid (below_to (HB2.out.alloc HB2.out.size _) hb)
  clear hb 
  have BE := Lib.hid NE; clear NE
  go_wp2_with fail
  refine (H.out.g3 _).mono ?_
  rintro e1 w4 ⟨rfl, hb⟩
  have NE := blk_call (blk_old BE.out _) hb
  have NV := blk_call (blk_new w3 _ _ rfl) hb
  have HB4 := Lib.hid (below_to (HB3.out.alloc HB3.out.size _) hb)
  clear hb 
  have BE := Lib.hid NE; clear NE
  have BV := Lib.hid NV; clear NV
  go_wp2_with fail
  refine (H.out.r1 _).mono ?_
  rintro e1 w5 ⟨rfl, hb⟩
  have NE := blk_call (blk_old BE.out _) hb
  have NV := blk_call (blk_old BV.out _) hb
  have NP := blk_call (blk_new w4 _ _ rfl) hb
  have HB5 := Lib.hid (below_to (HB4.out.alloc HB4.out.size _) hb)
  clear hb 
  have BE := Lib.hid NE; clear NE
  have BV := Lib.hid NV; clear NV
  have BP := Lib.hid NP; clear NP
  go_wp2_with fail
  refine (H.out.r2 _).mono ?_
  rintro e1 w6 ⟨rfl, hb⟩
  have NE := blk_call (blk_old BE.out _) hb
  have NV := blk_call (blk_old BV.out _) hb
  have NP := blk_call (blk_old BP.out _) hb
  have NF := blk_call (blk_new w5 _ _ rfl) hb
  have HB6 := Lib.hid (below_to (HB5.out.alloc HB5.out.size _) hb)
  clear hb 
  have BE := Lib.hid NE; clear NE
  have BV := Lib.hid NV; clear NV
  have BP := Lib.hid NP; clear NP
  have BF := Lib.hid NF; clear NF
  go_wp2_with fail
  refine (H.out.r3 _).mono ?_
  rintro e1 w7 ⟨rfl, hb⟩
  have NE := blk_call (blk_old BE.out _) hb
  have NV := blk_call (blk_old BV.out _) hb
  have NP := blk_call (blk_old BP.out _) hb
  have NF := blk_call (blk_old BF.out _) hb
  have NU := blk_call (blk_new w6 _ _ rfl) hb
  have HB7 := Lib.hid (below_to (HB6.out.alloc HB6.out.size _) hb)
  clear hb 
  have BE := Lib.hid NE; clear NE
  have BV := Lib.hid NV; clear NV
  have BP := Lib.hid NP; clear NP
  have BF := Lib.hid NF; clear NF
  have BU := Lib.hid NU; clear NU
  have lE7 := Array.getElem?_eq_some_iff.1 BE.out |>.1
  have cE7_0 := cells_of_blk BE.out 0 _ rfl
  have cE7_1 := cells_of_blk BE.out 1 _ rfl
  have cE7_2 := cells_of_blk BE.out 2 _ rfl
  have cE7_3 := cells_of_blk BE.out 3 _ rfl
  have cE7_4 := cells_of_blk BE.out 4 _ rfl
  have cE7_5 := cells_of_blk BE.out 5 _ rfl
  have cE7_6 := cells_of_blk BE.out 6 _ rfl
  have lV7 := Array.getElem?_eq_some_iff.1 BV.out |>.1
  have cV7_0 := cells_of_blk BV.out 0 _ rfl
  have cV7_1 := cells_of_blk BV.out 1 _ rfl
  have lP7 := Array.getElem?_eq_some_iff.1 BP.out |>.1
  have cP7_0 := cells_of_blk BP.out 0 _ rfl
  have cP7_1 := cells_of_blk BP.out 1 _ rfl
  have cP7_2 := cells_of_blk BP.out 2 _ rfl
  have cP7_3 := cells_of_blk BP.out 3 _ rfl
  have cP7_4 := cells_of_blk BP.out 4 _ rfl
  have cP7_5 := cells_of_blk BP.out 5 _ rfl
  have cP7_6 := cells_of_blk BP.out 6 _ rfl
  have cP7_7 := cells_of_blk BP.out 7 _ rfl
  have cP7_8 := cells_of_blk BP.out 8 _ rfl
  have lF7 := Array.getElem?_eq_some_iff.1 BF.out |>.1
  have cF7_0 := cells_of_blk BF.out 0 _ rfl
  have cF7_1 := cells_of_blk BF.out 1 _ rfl
  have cF7_2 := cells_of_blk BF.out 2 _ rfl
  have cF7_3 := cells_of_blk BF.out 3 _ rfl
  have cF7_4 := cells_of_blk BF.out 4 _ rfl
  have cF7_5 := cells_of_blk BF.out 5 _ rfl
  have cF7_6 := cells_of_blk BF.out 6 _ rfl
  have lU7 := Array.getElem?_eq_some_iff.1 BU.out |>.1
  have cU7_0 := cells_of_blk BU.out 0 _ rfl
  have cU7_1 := cells_of_blk BU.out 1 _ rfl
  go_wp2_with fail
  refine (H.out.p1 rfl _).mono ?_
  rintro e1 w8 ⟨rfl, hb⟩
  have NE := blk_call (blk_old BE.out _) hb
  have NV := blk_call (blk_old BV.out _) hb
  have NP := blk_call (blk_old BP.out _) hb
  have NF := blk_call (blk_old BF.out _) hb
  have NU := blk_call (blk_old BU.out _) hb
  have NQ := blk_call (blk_new w7 _ _ rfl) hb
  have HB8 := Lib.hid (below_to (HB7.out.alloc HB7.out.size _) hb)
  clear hb lE7 cE7_0 cE7_1 cE7_2 cE7_3 cE7_4 cE7_5 cE7_6 lV7 cV7_0 cV7_1 lP7 cP7_0 cP7_1 cP7_2 cP7_3 cP7_4 cP7_5 cP7_6 cP7_7 cP7_8 lF7 cF7_0 cF7_1 cF7_2 cF7_3 cF7_4 cF7_5 cF7_6 lU7 cU7_0 cU7_1
  have BE := Lib.hid NE; clear NE
  have BV := Lib.hid NV; clear NV
  have BP := Lib.hid NP; clear NP
  have BF := Lib.hid NF; clear NF
  have BU := Lib.hid NU; clear NU
  have BQ := Lib.hid NQ; clear NQ
  have lE8 := Array.getElem?_eq_some_iff.1 BE.out |>.1
  have cE8_0 := cells_of_blk BE.out 0 _ rfl
  have cE8_1 := cells_of_blk BE.out 1 _ rfl
  have cE8_2 := cells_of_blk BE.out 2 _ rfl
  have cE8_3 := cells_of_blk BE.out 3 _ rfl
  have cE8_4 := cells_of_blk BE.out 4 _ rfl
  have cE8_5 := cells_of_blk BE.out 5 _ rfl
  have cE8_6 := cells_of_blk BE.out 6 _ rfl
  have lV8 := Array.getElem?_eq_some_iff.1 BV.out |>.1
  have cV8_0 := cells_of_blk BV.out 0 _ rfl
  have cV8_1 := cells_of_blk BV.out 1 _ rfl
  have lP8 := Array.getElem?_eq_some_iff.1 BP.out |>.1
  have cP8_0 := cells_of_blk BP.out 0 _ rfl
  have cP8_1 := cells_of_blk BP.out 1 _ rfl
  have cP8_2 := cells_of_blk BP.out 2 _ rfl
  have cP8_3 := cells_of_blk BP.out 3 _ rfl
  have cP8_4 := cells_of_blk BP.out 4 _ rfl
  have cP8_5 := cells_of_blk BP.out 5 _ rfl
  have cP8_6 := cells_of_blk BP.out 6 _ rfl
  have cP8_7 := cells_of_blk BP.out 7 _ rfl
  have cP8_8 := cells_of_blk BP.out 8 _ rfl
  have lF8 := Array.getElem?_eq_some_iff.1 BF.out |>.1
  have cF8_0 := cells_of_blk BF.out 0 _ rfl
  have cF8_1 := cells_of_blk BF.out 1 _ rfl
  have cF8_2 := cells_of_blk BF.out 2 _ rfl
  have cF8_3 := cells_of_blk BF.out 3 _ rfl
  have cF8_4 := cells_of_blk BF.out 4 _ rfl
  have cF8_5 := cells_of_blk BF.out 5 _ rfl
  have cF8_6 := cells_of_blk BF.out 6 _ rfl
  have lU8 := Array.getElem?_eq_some_iff.1 BU.out |>.1
  have cU8_0 := cells_of_blk BU.out 0 _ rfl
  have cU8_1 := cells_of_blk BU.out 1 _ rfl
  have lQ8 := Array.getElem?_eq_some_iff.1 BQ.out |>.1
  have cQ8_0 := cells_of_blk BQ.out 0 _ rfl
  have cQ8_1 := cells_of_blk BQ.out 1 _ rfl
  have cQ8_2 := cells_of_blk BQ.out 2 _ rfl
  have cQ8_3 := cells_of_blk BQ.out 3 _ rfl
  have cQ8_4 := cells_of_blk BQ.out 4 _ rfl
  have cQ8_5 := cells_of_blk BQ.out 5 _ rfl
  have cQ8_6 := cells_of_blk BQ.out 6 _ rfl
  have cQ8_7 := cells_of_blk BQ.out 7 _ rfl
  have cQ8_8 := cells_of_blk BQ.out 8 _ rfl
  go_wp2_with fail
  refine (H.out.p2 rfl _).mono ?_
  rintro e1 w9 ⟨rfl, hb⟩
  have NE := blk_call BE.out hb
  have NV := blk_call BV.out hb
  have NP := blk_call BP.out hb
  have NF := blk_call BF.out hb
  have NU := blk_call BU.out hb
  have NQ := blk_call BQ.out hb
  have HB9 := Lib.hid (below_to HB8.out hb)
  clear hb lE8 cE8_0 cE8_1 cE8_2 cE8_3 cE8_4 cE8_5 cE8_6 lV8 cV8_0 cV8_1 lP8 cP8_0 cP8_1 cP8_2 cP8_3 cP8_4 cP8_5 cP8_6 cP8_7 cP8_8 lF8 cF8_0 cF8_1 cF8_2 cF8_3 cF8_4 cF8_5 cF8_6 lU8 cU8_0 cU8_1 lQ8 cQ8_0 cQ8_1 cQ8_2 cQ8_3 cQ8_4 cQ8_5 cQ8_6 cQ8_7 cQ8_8
  have BE := Lib.hid NE; clear NE
  have BV := Lib.hid NV; clear NV
  have BP := Lib.hid NP; clear NP
  have BF := Lib.hid NF; clear NF
  have BU := Lib.hid NU; clear NU
  have BQ := Lib.hid NQ; clear NQ
  have lE9 := Array.getElem?_eq_some_iff.1 BE.out |>.1
  have cE9_0 := cells_of_blk BE.out 0 _ rfl
  have cE9_1 := cells_of_blk BE.out 1 _ rfl
  have cE9_2 := cells_of_blk BE.out 2 _ rfl
  have cE9_3 := cells_of_blk BE.out 3 _ rfl
  have cE9_4 := cells_of_blk BE.out 4 _ rfl
  have cE9_5 := cells_of_blk BE.out 5 _ rfl
  have cE9_6 := cells_of_blk BE.out 6 _ rfl
  have lV9 := Array.getElem?_eq_some_iff.1 BV.out |>.1
  have cV9_0 := cells_of_blk BV.out 0 _ rfl
  have cV9_1 := cells_of_blk BV.out 1 _ rfl
  have lP9 := Array.getElem?_eq_some_iff.1 BP.out |>.1
  have cP9_0 := cells_of_blk BP.out 0 _ rfl
  have cP9_1 := cells_of_blk BP.out 1 _ rfl
  have cP9_2 := cells_of_blk BP.out 2 _ rfl
  have cP9_3 := cells_of_blk BP.out 3 _ rfl
  have cP9_4 := cells_of_blk BP.out 4 _ rfl
  have cP9_5 := cells_of_blk BP.out 5 _ rfl
  have cP9_6 := cells_of_blk BP.out 6 _ rfl
  have cP9_7 := cells_of_blk BP.out 7 _ rfl
  have cP9_8 := cells_of_blk BP.out 8 _ rfl
  have lF9 := Array.getElem?_eq_some_iff.1 BF.out |>.1
  have cF9_0 := cells_of_blk BF.out 0 _ rfl
  have cF9_1 := cells_of_blk BF.out 1 _ rfl
  have cF9_2 := cells_of_blk BF.out 2 _ rfl
  have cF9_3 := cells_of_blk BF.out 3 _ rfl
  have cF9_4 := cells_of_blk BF.out 4 _ rfl
  have cF9_5 := cells_of_blk BF.out 5 _ rfl
  have cF9_6 := cells_of_blk BF.out 6 _ rfl
  have lU9 := Array.getElem?_eq_some_iff.1 BU.out |>.1
  have cU9_0 := cells_of_blk BU.out 0 _ rfl
  have cU9_1 := cells_of_blk BU.out 1 _ rfl
  have lQ9 := Array.getElem?_eq_some_iff.1 BQ.out |>.1
  have cQ9_0 := cells_of_blk BQ.out 0 _ rfl
  have cQ9_1 := cells_of_blk BQ.out 1 _ rfl
  have cQ9_2 := cells_of_blk BQ.out 2 _ rfl
  have cQ9_3 := cells_of_blk BQ.out 3 _ rfl
  have cQ9_4 := cells_of_blk BQ.out 4 _ rfl
  have cQ9_5 := cells_of_blk BQ.out 5 _ rfl
  have cQ9_6 := cells_of_blk BQ.out 6 _ rfl
  have cQ9_7 := cells_of_blk BQ.out 7 _ rfl
  have cQ9_8 := cells_of_blk BQ.out 8 _ rfl
  go_wp2_with fail
  go_ret
  exact ⟨rfl, HB9.out⟩

set_option maxRecDepth 100000 in
set_option maxHeartbeats 4000000 in
theorem EventGets_c4 (s : ByteArray) (x0 x1 x2 x3 x4 x5 x6 y0 y1 z0 z1 z2 z3 z4 z5 z6 z7 z8 : Int) (e f : Int) (he : (e != 0) = true) (hf : (f != 0) = true) (w : World) (hT : Hid (Tabs w)) (hs : s.size ≤ 500) (H : Hid (GetC s x0 x1 x2 x3 x4 x5 x6 y0 y1 z0 z1 z2 z3 z4 z5 z6 z7 z8 e f 0)) :
    Calls Tryd.prog 8 #[.string s] w fun e w' => e = .returned (.bool true) ∧ Below w.heap.size w w' := by
  have b1 : (s.toList == s.toList) = true := by simp
  go_enter Tryd.func8, Tryd.ntmps8
  go_wp2_with fail
  refine (alive06 _ hT).mono ?_
  rintro e1 w1 ⟨rfl, hb⟩
  have HB1 := Lib.hid hb; clear hb
  go_wp2_with fail
  refine (H.out.g1 _).mono ?_
  rintro e1 w2 ⟨rfl, hb⟩
  have HB2 := Lib.hid (below_to HB1.out hb)
  clear hb 
  go_wp2_with fail
  refine (H.out.g2 _).mono ?_
  rintro e1 w3 ⟨rfl, hb⟩
  have NE := blk_call (blk_new w2 _ _ rfl) hb
  have HB3 := Lib.hid (below_to (HB2.out.alloc HB2.out.size _) hb)
  clear hb 
  have BE := Lib.hid NE; clear NE
  go_wp2_with fail
  refine (H.out.g3 _).mono ?_
  rintro e1 w4 ⟨rfl, hb⟩
  have NE := blk_call (blk_old BE.out _) hb
  have NV := blk_call (blk_new w3 _ _ rfl) hb
  have HB4 := Lib.hid (below_to (HB3.out.alloc HB3.out.size _) hb)
  clear hb 
  have BE := Lib.hid NE; clear NE
  have BV := Lib.hid NV; clear NV
  go_wp2_with fail
  refine (H.out.r1 _).mono ?_
  rintro e1 w5 ⟨rfl, hb⟩
  have NE := blk_call (blk_old BE.out _) hb
  have NV := blk_call (blk_old BV.out _) hb
  have NP := blk_call (blk_new w4 _ _ rfl) hb
  have HB5 := Lib.hid (below_to (HB4.out.alloc HB4.out.size _) hb)
  clear hb 
  have BE := Lib.hid NE; clear NE
  have BV := Lib.hid NV; clear NV
  have BP := Lib.hid NP; clear NP
  go_wp2_with fail
  refine (H.out.r2 _).mono ?_
  rintro e1 w6 ⟨rfl, hb⟩
  have NE := blk_call (blk_old BE.out _) hb
  have NV := blk_call (blk_old BV.out _) hb
  have NP := blk_call (blk_old BP.out _) hb
  have NF := blk_call (blk_new w5 _ _ rfl) hb
  have HB6 := Lib.hid (below_to (HB5.out.alloc HB5.out.size _) hb)
  clear hb 
  have BE := Lib.hid NE; clear NE
  have BV := Lib.hid NV; clear NV
  have BP := Lib.hid NP; clear NP
  have BF := Lib.hid NF; clear NF
  go_wp2_with fail
  refine (H.out.r3 _).mono ?_
  rintro e1 w7 ⟨rfl, hb⟩
  have NE := blk_call (blk_old BE.out _) hb
  have NV := blk_call (blk_old BV.out _) hb
  have NP := blk_call (blk_old BP.out _) hb
  have NF := blk_call (blk_old BF.out _) hb
  have NU := blk_call (blk_new w6 _ _ rfl) hb
  have HB7 := Lib.hid (below_to (HB6.out.alloc HB6.out.size _) hb)
  clear hb 
  have BE := Lib.hid NE; clear NE
  have BV := Lib.hid NV; clear NV
  have BP := Lib.hid NP; clear NP
  have BF := Lib.hid NF; clear NF
  have BU := Lib.hid NU; clear NU
  have lE7 := Array.getElem?_eq_some_iff.1 BE.out |>.1
  have cE7_0 := cells_of_blk BE.out 0 _ rfl
  have cE7_1 := cells_of_blk BE.out 1 _ rfl
  have cE7_2 := cells_of_blk BE.out 2 _ rfl
  have cE7_3 := cells_of_blk BE.out 3 _ rfl
  have cE7_4 := cells_of_blk BE.out 4 _ rfl
  have cE7_5 := cells_of_blk BE.out 5 _ rfl
  have cE7_6 := cells_of_blk BE.out 6 _ rfl
  have lV7 := Array.getElem?_eq_some_iff.1 BV.out |>.1
  have cV7_0 := cells_of_blk BV.out 0 _ rfl
  have cV7_1 := cells_of_blk BV.out 1 _ rfl
  have lP7 := Array.getElem?_eq_some_iff.1 BP.out |>.1
  have cP7_0 := cells_of_blk BP.out 0 _ rfl
  have cP7_1 := cells_of_blk BP.out 1 _ rfl
  have cP7_2 := cells_of_blk BP.out 2 _ rfl
  have cP7_3 := cells_of_blk BP.out 3 _ rfl
  have cP7_4 := cells_of_blk BP.out 4 _ rfl
  have cP7_5 := cells_of_blk BP.out 5 _ rfl
  have cP7_6 := cells_of_blk BP.out 6 _ rfl
  have cP7_7 := cells_of_blk BP.out 7 _ rfl
  have cP7_8 := cells_of_blk BP.out 8 _ rfl
  have lF7 := Array.getElem?_eq_some_iff.1 BF.out |>.1
  have cF7_0 := cells_of_blk BF.out 0 _ rfl
  have cF7_1 := cells_of_blk BF.out 1 _ rfl
  have cF7_2 := cells_of_blk BF.out 2 _ rfl
  have cF7_3 := cells_of_blk BF.out 3 _ rfl
  have cF7_4 := cells_of_blk BF.out 4 _ rfl
  have cF7_5 := cells_of_blk BF.out 5 _ rfl
  have cF7_6 := cells_of_blk BF.out 6 _ rfl
  have lU7 := Array.getElem?_eq_some_iff.1 BU.out |>.1
  have cU7_0 := cells_of_blk BU.out 0 _ rfl
  have cU7_1 := cells_of_blk BU.out 1 _ rfl
  go_wp2_with fail
  refine (H.out.p3 rfl _).mono ?_
  rintro e1 w8 ⟨rfl, hb⟩
  have NE := blk_call (blk_old BE.out _) hb
  have NV := blk_call (blk_old BV.out _) hb
  have NP := blk_call (blk_old BP.out _) hb
  have NF := blk_call (blk_old BF.out _) hb
  have NU := blk_call (blk_old BU.out _) hb
  have NQ := blk_call (blk_new w7 _ _ rfl) hb
  have HB8 := Lib.hid (below_to (HB7.out.alloc HB7.out.size _) hb)
  clear hb lE7 cE7_0 cE7_1 cE7_2 cE7_3 cE7_4 cE7_5 cE7_6 lV7 cV7_0 cV7_1 lP7 cP7_0 cP7_1 cP7_2 cP7_3 cP7_4 cP7_5 cP7_6 cP7_7 cP7_8 lF7 cF7_0 cF7_1 cF7_2 cF7_3 cF7_4 cF7_5 cF7_6 lU7 cU7_0 cU7_1
  have BE := Lib.hid NE; clear NE
  have BV := Lib.hid NV; clear NV
  have BP := Lib.hid NP; clear NP
  have BF := Lib.hid NF; clear NF
  have BU := Lib.hid NU; clear NU
  have BQ := Lib.hid NQ; clear NQ
  have lE8 := Array.getElem?_eq_some_iff.1 BE.out |>.1
  have cE8_0 := cells_of_blk BE.out 0 _ rfl
  have cE8_1 := cells_of_blk BE.out 1 _ rfl
  have cE8_2 := cells_of_blk BE.out 2 _ rfl
  have cE8_3 := cells_of_blk BE.out 3 _ rfl
  have cE8_4 := cells_of_blk BE.out 4 _ rfl
  have cE8_5 := cells_of_blk BE.out 5 _ rfl
  have cE8_6 := cells_of_blk BE.out 6 _ rfl
  have lV8 := Array.getElem?_eq_some_iff.1 BV.out |>.1
  have cV8_0 := cells_of_blk BV.out 0 _ rfl
  have cV8_1 := cells_of_blk BV.out 1 _ rfl
  have lP8 := Array.getElem?_eq_some_iff.1 BP.out |>.1
  have cP8_0 := cells_of_blk BP.out 0 _ rfl
  have cP8_1 := cells_of_blk BP.out 1 _ rfl
  have cP8_2 := cells_of_blk BP.out 2 _ rfl
  have cP8_3 := cells_of_blk BP.out 3 _ rfl
  have cP8_4 := cells_of_blk BP.out 4 _ rfl
  have cP8_5 := cells_of_blk BP.out 5 _ rfl
  have cP8_6 := cells_of_blk BP.out 6 _ rfl
  have cP8_7 := cells_of_blk BP.out 7 _ rfl
  have cP8_8 := cells_of_blk BP.out 8 _ rfl
  have lF8 := Array.getElem?_eq_some_iff.1 BF.out |>.1
  have cF8_0 := cells_of_blk BF.out 0 _ rfl
  have cF8_1 := cells_of_blk BF.out 1 _ rfl
  have cF8_2 := cells_of_blk BF.out 2 _ rfl
  have cF8_3 := cells_of_blk BF.out 3 _ rfl
  have cF8_4 := cells_of_blk BF.out 4 _ rfl
  have cF8_5 := cells_of_blk BF.out 5 _ rfl
  have cF8_6 := cells_of_blk BF.out 6 _ rfl
  have lU8 := Array.getElem?_eq_some_iff.1 BU.out |>.1
  have cU8_0 := cells_of_blk BU.out 0 _ rfl
  have cU8_1 := cells_of_blk BU.out 1 _ rfl
  have lQ8 := Array.getElem?_eq_some_iff.1 BQ.out |>.1
  have cQ8_0 := cells_of_blk BQ.out 0 _ rfl
  have cQ8_1 := cells_of_blk BQ.out 1 _ rfl
  have cQ8_2 := cells_of_blk BQ.out 2 _ rfl
  have cQ8_3 := cells_of_blk BQ.out 3 _ rfl
  have cQ8_4 := cells_of_blk BQ.out 4 _ rfl
  have cQ8_5 := cells_of_blk BQ.out 5 _ rfl
  have cQ8_6 := cells_of_blk BQ.out 6 _ rfl
  have cQ8_7 := cells_of_blk BQ.out 7 _ rfl
  have cQ8_8 := cells_of_blk BQ.out 8 _ rfl
  go_wp2_with fail
  go_ret
  exact ⟨rfl, HB8.out⟩

set_option maxRecDepth 100000 in
set_option maxHeartbeats 4000000 in
theorem EventGets_c5 (s : ByteArray) (x0 x1 x2 x3 x4 x5 x6 y0 y1 z0 z1 z2 z3 z4 z5 z6 z7 z8 : Int) (f : Int) (hf : (f != 0) = true) (w : World) (hT : Hid (Tabs w)) (hs : s.size ≤ 500) (H : Hid (GetC s x0 x1 x2 x3 x4 x5 x6 y0 y1 z0 z1 z2 z3 z4 z5 z6 z7 z8 0 f 0)) :
    Calls Tryd.prog 8 #[.string s] w fun e w' => e = .returned (.bool true) ∧ Below w.heap.size w w' := by
  have b1 : (s.toList == s.toList) = true := by simp
  go_enter Tryd.func8, Tryd.ntmps8
  go_wp2_with fail
  refine (alive06 _ hT).mono ?_
  rintro e1 w1 ⟨rfl, hb⟩
  have HB1 := Lib.hid hb; clear hb
  go_wp2_with fail
  refine (H.out.g1 _).mono ?_
  rintro e1 w2 ⟨rfl, hb⟩
  have HB2 := Lib.hid (below_to HB1.out hb)
  clear hb 
  go_wp2_with fail
  refine (H.out.g2 _).mono ?_
  rintro e1 w3 ⟨rfl, hb⟩
  have NE := blk_call (blk_new w2 _ _ rfl) hb
  have HB3 := Lib.hid (below_to (HB2.out.alloc HB2.out.size _) hb)
  clear hb 
  have BE := Lib.hid NE; clear NE
  go_wp2_with fail
  refine (H.out.g3 _).mono ?_
  rintro e1 w4 ⟨rfl, hb⟩
  have NE := blk_call (blk_old BE.out _) hb
  have NV := blk_call (blk_new w3 _ _ rfl) hb
  have HB4 := Lib.hid (below_to (HB3.out.alloc HB3.out.size _) hb)
  clear hb 
  have BE := Lib.hid NE; clear NE
  have BV := Lib.hid NV; clear NV
  go_wp2_with fail
  refine (H.out.r1 _).mono ?_
  rintro e1 w5 ⟨rfl, hb⟩
  have NE := blk_call (blk_old BE.out _) hb
  have NV := blk_call (blk_old BV.out _) hb
  have NP := blk_call (blk_new w4 _ _ rfl) hb
  have HB5 := Lib.hid (below_to (HB4.out.alloc HB4.out.size _) hb)
  clear hb 
  have BE := Lib.hid NE; clear NE
  have BV := Lib.hid NV; clear NV
  have BP := Lib.hid NP; clear NP
  go_wp2_with fail
  refine (H.out.r2 _).mono ?_
  rintro e1 w6 ⟨rfl, hb⟩
  have NE := blk_call (blk_old BE.out _) hb
  have NV := blk_call (blk_old BV.out _) hb
  have NP := blk_call (blk_old BP.out _) hb
  have NF := blk_call (blk_new w5 _ _ rfl) hb
  have HB6 := Lib.hid (below_to (HB5.out.alloc HB5.out.size _) hb)
  clear hb 
  have BE := Lib.hid NE; clear NE
  have BV := Lib.hid NV; clear NV
  have BP := Lib.hid NP; clear NP
  have BF := Lib.hid NF; clear NF
  go_wp2_with fail
  refine (H.out.r3 _).mono ?_
  rintro e1 w7 ⟨rfl, hb⟩
  have NE := blk_call (blk_old BE.out _) hb
  have NV := blk_call (blk_old BV.out _) hb
  have NP := blk_call (blk_old BP.out _) hb
  have NF := blk_call (blk_old BF.out _) hb
  have NU := blk_call (blk_new w6 _ _ rfl) hb
  have HB7 := Lib.hid (below_to (HB6.out.alloc HB6.out.size _) hb)
  clear hb 
  have BE := Lib.hid NE; clear NE
  have BV := Lib.hid NV; clear NV
  have BP := Lib.hid NP; clear NP
  have BF := Lib.hid NF; clear NF
  have BU := Lib.hid NU; clear NU
  have lE7 := Array.getElem?_eq_some_iff.1 BE.out |>.1
  have cE7_0 := cells_of_blk BE.out 0 _ rfl
  have cE7_1 := cells_of_blk BE.out 1 _ rfl
  have cE7_2 := cells_of_blk BE.out 2 _ rfl
  have cE7_3 := cells_of_blk BE.out 3 _ rfl
  have cE7_4 := cells_of_blk BE.out 4 _ rfl
  have cE7_5 := cells_of_blk BE.out 5 _ rfl
  have cE7_6 := cells_of_blk BE.out 6 _ rfl
  have lV7 := Array.getElem?_eq_some_iff.1 BV.out |>.1
  have cV7_0 := cells_of_blk BV.out 0 _ rfl
  have cV7_1 := cells_of_blk BV.out 1 _ rfl
  have lP7 := Array.getElem?_eq_some_iff.1 BP.out |>.1
  have cP7_0 := cells_of_blk BP.out 0 _ rfl
  have cP7_1 := cells_of_blk BP.out 1 _ rfl
  have cP7_2 := cells_of_blk BP.out 2 _ rfl
  have cP7_3 := cells_of_blk BP.out 3 _ rfl
  have cP7_4 := cells_of_blk BP.out 4 _ rfl
  have cP7_5 := cells_of_blk BP.out 5 _ rfl
  have cP7_6 := cells_of_blk BP.out 6 _ rfl
  have cP7_7 := cells_of_blk BP.out 7 _ rfl
  have cP7_8 := cells_of_blk BP.out 8 _ rfl
  have lF7 := Array.getElem?_eq_some_iff.1 BF.out |>.1
  have cF7_0 := cells_of_blk BF.out 0 _ rfl
  have cF7_1 := cells_of_blk BF.out 1 _ rfl
  have cF7_2 := cells_of_blk BF.out 2 _ rfl
  have cF7_3 := cells_of_blk BF.out 3 _ rfl
  have cF7_4 := cells_of_blk BF.out 4 _ rfl
  have cF7_5 := cells_of_blk BF.out 5 _ rfl
  have cF7_6 := cells_of_blk BF.out 6 _ rfl
  have lU7 := Array.getElem?_eq_some_iff.1 BU.out |>.1
  have cU7_0 := cells_of_blk BU.out 0 _ rfl
  have cU7_1 := cells_of_blk BU.out 1 _ rfl
  go_wp2_with fail
  refine (H.out.p1 rfl _).mono ?_
  rintro e1 w8 ⟨rfl, hb⟩
  have NE := blk_call (blk_old BE.out _) hb
  have NV := blk_call (blk_old BV.out _) hb
  have NP := blk_call (blk_old BP.out _) hb
  have NF := blk_call (blk_old BF.out _) hb
  have NU := blk_call (blk_old BU.out _) hb
  have NQ := blk_call (blk_new w7 _ _ rfl) hb
  have HB8 := Lib.hid (below_to (HB7.out.alloc HB7.out.size _) hb)
  clear hb lE7 cE7_0 cE7_1 cE7_2 cE7_3 cE7_4 cE7_5 cE7_6 lV7 cV7_0 cV7_1 lP7 cP7_0 cP7_1 cP7_2 cP7_3 cP7_4 cP7_5 cP7_6 cP7_7 cP7_8 lF7 cF7_0 cF7_1 cF7_2 cF7_3 cF7_4 cF7_5 cF7_6 lU7 cU7_0 cU7_1
  have BE := Lib.hid NE; clear NE
  have BV := Lib.hid NV; clear NV
  have BP := Lib.hid NP; clear NP
  have BF := Lib.hid NF; clear NF
  have BU := Lib.hid NU; clear NU
  have BQ := Lib.hid NQ; clear NQ
  have lE8 := Array.getElem?_eq_some_iff.1 BE.out |>.1
  have cE8_0 := cells_of_blk BE.out 0 _ rfl
  have cE8_1 := cells_of_blk BE.out 1 _ rfl
  have cE8_2 := cells_of_blk BE.out 2 _ rfl
  have cE8_3 := cells_of_blk BE.out 3 _ rfl
  have cE8_4 := cells_of_blk BE.out 4 _ rfl
  have cE8_5 := cells_of_blk BE.out 5 _ rfl
  have cE8_6 := cells_of_blk BE.out 6 _ rfl
  have lV8 := Array.getElem?_eq_some_iff.1 BV.out |>.1
  have cV8_0 := cells_of_blk BV.out 0 _ rfl
  have cV8_1 := cells_of_blk BV.out 1 _ rfl
  have lP8 := Array.getElem?_eq_some_iff.1 BP.out |>.1
  have cP8_0 := cells_of_blk BP.out 0 _ rfl
  have cP8_1 := cells_of_blk BP.out 1 _ rfl
  have cP8_2 := cells_of_blk BP.out 2 _ rfl
  have cP8_3 := cells_of_blk BP.out 3 _ rfl
  have cP8_4 := cells_of_blk BP.out 4 _ rfl
  have cP8_5 := cells_of_blk BP.out 5 _ rfl
  have cP8_6 := cells_of_blk BP.out 6 _ rfl
  have cP8_7 := cells_of_blk BP.out 7 _ rfl
  have cP8_8 := cells_of_blk BP.out 8 _ rfl
  have lF8 := Array.getElem?_eq_some_iff.1 BF.out |>.1
  have cF8_0 := cells_of_blk BF.out 0 _ rfl
  have cF8_1 := cells_of_blk BF.out 1 _ rfl
  have cF8_2 := cells_of_blk BF.out 2 _ rfl
  have cF8_3 := cells_of_blk BF.out 3 _ rfl
  have cF8_4 := cells_of_blk BF.out 4 _ rfl
  have cF8_5 := cells_of_blk BF.out 5 _ rfl
  have cF8_6 := cells_of_blk BF.out 6 _ rfl
  have lU8 := Array.getElem?_eq_some_iff.1 BU.out |>.1
  have cU8_0 := cells_of_blk BU.out 0 _ rfl
  have cU8_1 := cells_of_blk BU.out 1 _ rfl
  have lQ8 := Array.getElem?_eq_some_iff.1 BQ.out |>.1
  have cQ8_0 := cells_of_blk BQ.out 0 _ rfl
  have cQ8_1 := cells_of_blk BQ.out 1 _ rfl
  have cQ8_2 := cells_of_blk BQ.out 2 _ rfl
  have cQ8_3 := cells_of_blk BQ.out 3 _ rfl
  have cQ8_4 := cells_of_blk BQ.out 4 _ rfl
  have cQ8_5 := cells_of_blk BQ.out 5 _ rfl
  have cQ8_6 := cells_of_blk BQ.out 6 _ rfl
  have cQ8_7 := cells_of_blk BQ.out 7 _ rfl
  have cQ8_8 := cells_of_blk BQ.out 8 _ rfl
  go_wp2_with fail
  refine (H.out.p3 rfl _).mono ?_
  rintro e1 w9 ⟨rfl, hb⟩
  have NE := blk_call BE.out hb
  have NV := blk_call BV.out hb
  have NP := blk_call BP.out hb
  have NF := blk_call BF.out hb
  have NU := blk_call BU.out hb
  have NQ := blk_call BQ.out hb
  have HB9 := Lib.hid (below_to HB8.out hb)
  clear hb lE8 cE8_0 cE8_1 cE8_2 cE8_3 cE8_4 cE8_5 cE8_6 lV8 cV8_0 cV8_1 lP8 cP8_0 cP8_1 cP8_2 cP8_3 cP8_4 cP8_5 cP8_6 cP8_7 cP8_8 lF8 cF8_0 cF8_1 cF8_2 cF8_3 cF8_4 cF8_5 cF8_6 lU8 cU8_0 cU8_1 lQ8 cQ8_0 cQ8_1 cQ8_2 cQ8_3 cQ8_4 cQ8_5 cQ8_6 cQ8_7 cQ8_8
  have BE := Lib.hid NE; clear NE
  have BV := Lib.hid NV; clear NV
  have BP := Lib.hid NP; clear NP
  have BF := Lib.hid NF; clear NF
  have BU := Lib.hid NU; clear NU
  have BQ := Lib.hid NQ; clear NQ
  have lE9 := Array.getElem?_eq_some_iff.1 BE.out |>.1
  have cE9_0 := cells_of_blk BE.out 0 _ rfl
  have cE9_1 := cells_of_blk BE.out 1 _ rfl
  have cE9_2 := cells_of_blk BE.out 2 _ rfl
  have cE9_3 := cells_of_blk BE.out 3 _ rfl
  have cE9_4 := cells_of_blk BE.out 4 _ rfl
  have cE9_5 := cells_of_blk BE.out 5 _ rfl
  have cE9_6 := cells_of_blk BE.out 6 _ rfl
  have lV9 := Array.getElem?_eq_some_iff.1 BV.out |>.1
  have cV9_0 := cells_of_blk BV.out 0 _ rfl
  have cV9_1 := cells_of_blk BV.out 1 _ rfl
  have lP9 := Array.getElem?_eq_some_iff.1 BP.out |>.1
  have cP9_0 := cells_of_blk BP.out 0 _ rfl
  have cP9_1 := cells_of_blk BP.out 1 _ rfl
  have cP9_2 := cells_of_blk BP.out 2 _ rfl
  have cP9_3 := cells_of_blk BP.out 3 _ rfl
  have cP9_4 := cells_of_blk BP.out 4 _ rfl
  have cP9_5 := cells_of_blk BP.out 5 _ rfl
  have cP9_6 := cells_of_blk BP.out 6 _ rfl
  have cP9_7 := cells_of_blk BP.out 7 _ rfl
  have cP9_8 := cells_of_blk BP.out 8 _ rfl
  have lF9 := Array.getElem?_eq_some_iff.1 BF.out |>.1
  have cF9_0 := cells_of_blk BF.out 0 _ rfl
  have cF9_1 := cells_of_blk BF.out 1 _ rfl
  have cF9_2 := cells_of_blk BF.out 2 _ rfl
  have cF9_3 := cells_of_blk BF.out 3 _ rfl
  have cF9_4 := cells_of_blk BF.out 4 _ rfl
  have cF9_5 := cells_of_blk BF.out 5 _ rfl
  have cF9_6 := cells_of_blk BF.out 6 _ rfl
  have lU9 := Array.getElem?_eq_some_iff.1 BU.out |>.1
  have cU9_0 := cells_of_blk BU.out 0 _ rfl
  have cU9_1 := cells_of_blk BU.out 1 _ rfl
  have lQ9 := Array.getElem?_eq_some_iff.1 BQ.out |>.1
  have cQ9_0 := cells_of_blk BQ.out 0 _ rfl
  have cQ9_1 := cells_of_blk BQ.out 1 _ rfl
  have cQ9_2 := cells_of_blk BQ.out 2 _ rfl
  have cQ9_3 := cells_of_blk BQ.out 3 _ rfl
  have cQ9_4 := cells_of_blk BQ.out 4 _ rfl
  have cQ9_5 := cells_of_blk BQ.out 5 _ rfl
  have cQ9_6 := cells_of_blk BQ.out 6 _ rfl
  have cQ9_7 := cells_of_blk BQ.out 7 _ rfl
  have cQ9_8 := cells_of_blk BQ.out 8 _ rfl
  go_wp2_with fail
  go_ret
  exact ⟨rfl, HB9.out⟩

set_option maxRecDepth 100000 in
set_option maxHeartbeats 4000000 in
theorem EventGets_c6 (s : ByteArray) (x0 x1 x2 x3 x4 x5 x6 y0 y1 z0 z1 z2 z3 z4 z5 z6 z7 z8 : Int) (e : Int) (he : (e != 0) = true) (w : World) (hT : Hid (Tabs w)) (hs : s.size ≤ 500) (H : Hid (GetC s x0 x1 x2 x3 x4 x5 x6 y0 y1 z0 z1 z2 z3 z4 z5 z6 z7 z8 e 0 0)) :
    Calls Tryd.prog 8 #[.string s] w fun e w' => e = .returned (.bool true) ∧ Below w.heap.size w w' := by
  have b1 : (s.toList == s.toList) = true := by simp
  go_enter Tryd.func8, Tryd.ntmps8
  go_wp2_with fail
  refine (alive06 _ hT).mono ?_
  rintro e1 w1 ⟨rfl, hb⟩
  have HB1 := Lib.hid hb; clear hb
  go_wp2_with fail
  refine (H.out.g1 _).mono ?_
  rintro e1 w2 ⟨rfl, hb⟩
  have HB2 := Lib.hid (below_to HB1.out hb)
  clear hb 
  go_wp2_with fail
  refine (H.out.g2 _).mono ?_
  rintro e1 w3 ⟨rfl, hb⟩
  have NE := blk_call (blk_new w2 _ _ rfl) hb
  have HB3 := Lib.hid (below_to (HB2.out.alloc HB2.out.size _) hb)
  clear hb 
  have BE := Lib.hid NE; clear NE
  go_wp2_with fail
  refine (H.out.g3 _).mono ?_
  rintro e1 w4 ⟨rfl, hb⟩
  have NE := blk_call (blk_old BE.out _) hb
  have NV := blk_call (blk_new w3 _ _ rfl) hb
  have HB4 := Lib.hid (below_to (HB3.out.alloc HB3.out.size _) hb)
  clear hb 
  have BE := Lib.hid NE; clear NE
  have BV := Lib.hid NV; clear NV
  go_wp2_with fail
  refine (H.out.r1 _).mono ?_
  rintro e1 w5 ⟨rfl, hb⟩
  have NE := blk_call (blk_old BE.out _) hb
  have NV := blk_call (blk_old BV.out _) hb
  have NP := blk_call (blk_new w4 _ _ rfl) hb
  have HB5 := Lib.hid (below_to (HB4.out.alloc HB4.out.size _) hb)
  clear hb 
  have BE := Lib.hid NE; clear NE
  have BV := Lib.hid NV; clear NV
  have BP := Lib.hid NP; clear NP
  go_wp2_with fail
  refine (H.out.r2 _).mono ?_
  rintro e1 w6 ⟨rfl, hb⟩
  have NE := blk_call (blk_old BE.out _) hb
  have NV := blk_call (blk_old BV.out _) hb
  have NP := blk_call (blk_old BP.out _) hb
  have NF := blk_call (blk_new w5 _ _ rfl) hb
  have HB6 := Lib.hid (below_to (HB5.out.alloc HB5.out.size _) hb)
  clear hb 
  have BE := Lib.hid NE; clear NE
  have BV := Lib.hid NV; clear NV
  have BP := Lib.hid NP; clear NP
  have BF := Lib.hid NF; clear NF
  go_wp2_with fail
  refine (H.out.r3 _).mono ?_
  rintro e1 w7 ⟨rfl, hb⟩
  have NE := blk_call (blk_old BE.out _) hb
  have NV := blk_call (blk_old BV.out _) hb
  have NP := blk_call (blk_old BP.out _) hb
  have NF := blk_call (blk_old BF.out _) hb
  have NU := blk_call (blk_new w6 _ _ rfl) hb
  have HB7 := Lib.hid (below_to (HB6.out.alloc HB6.out.size _) hb)
  clear hb 
  have BE := Lib.hid NE; clear NE
  have BV := Lib.hid NV; clear NV
  have BP := Lib.hid NP; clear NP
  have BF := Lib.hid NF; clear NF
  have BU := Lib.hid NU; clear NU
  have lE7 := Array.getElem?_eq_some_iff.1 BE.out |>.1
  have cE7_0 := cells_of_blk BE.out 0 _ rfl
  have cE7_1 := cells_of_blk BE.out 1 _ rfl
  have cE7_2 := cells_of_blk BE.out 2 _ rfl
  have cE7_3 := cells_of_blk BE.out 3 _ rfl
  have cE7_4 := cells_of_blk BE.out 4 _ rfl
  have cE7_5 := cells_of_blk BE.out 5 _ rfl
  have cE7_6 := cells_of_blk BE.out 6 _ rfl
  have lV7 := Array.getElem?_eq_some_iff.1 BV.out |>.1
  have cV7_0 := cells_of_blk BV.out 0 _ rfl
  have cV7_1 := cells_of_blk BV.out 1 _ rfl
  have lP7 := Array.getElem?_eq_some_iff.1 BP.out |>.1
  have cP7_0 := cells_of_blk BP.out 0 _ rfl
  have cP7_1 := cells_of_blk BP.out 1 _ rfl
  have cP7_2 := cells_of_blk BP.out 2 _ rfl
  have cP7_3 := cells_of_blk BP.out 3 _ rfl
  have cP7_4 := cells_of_blk BP.out 4 _ rfl
  have cP7_5 := cells_of_blk BP.out 5 _ rfl
  have cP7_6 := cells_of_blk BP.out 6 _ rfl
  have cP7_7 := cells_of_blk BP.out 7 _ rfl
  have cP7_8 := cells_of_blk BP.out 8 _ rfl
  have lF7 := Array.getElem?_eq_some_iff.1 BF.out |>.1
  have cF7_0 := cells_of_blk BF.out 0 _ rfl
  have cF7_1 := cells_of_blk BF.out 1 _ rfl
  have cF7_2 := cells_of_blk BF.out 2 _ rfl
  have cF7_3 := cells_of_blk BF.out 3 _ rfl
  have cF7_4 := cells_of_blk BF.out 4 _ rfl
  have cF7_5 := cells_of_blk BF.out 5 _ rfl
  have cF7_6 := cells_of_blk BF.out 6 _ rfl
  have lU7 := Array.getElem?_eq_some_iff.1 BU.out |>.1
  have cU7_0 := cells_of_blk BU.out 0 _ rfl
  have cU7_1 := cells_of_blk BU.out 1 _ rfl
  go_wp2_with fail
  refine (H.out.p2 rfl _).mono ?_
  rintro e1 w8 ⟨rfl, hb⟩
  have NE := blk_call (blk_old BE.out _) hb
  have NV := blk_call (blk_old BV.out _) hb
  have NP := blk_call (blk_old BP.out _) hb
  have NF := blk_call (blk_old BF.out _) hb
  have NU := blk_call (blk_old BU.out _) hb
  have NQ := blk_call (blk_new w7 _ _ rfl) hb
  have HB8 := Lib.hid (below_to (HB7.out.alloc HB7.out.size _) hb)
  clear hb lE7 cE7_0 cE7_1 cE7_2 cE7_3 cE7_4 cE7_5 cE7_6 lV7 cV7_0 cV7_1 lP7 cP7_0 cP7_1 cP7_2 cP7_3 cP7_4 cP7_5 cP7_6 cP7_7 cP7_8 lF7 cF7_0 cF7_1 cF7_2 cF7_3 cF7_4 cF7_5 cF7_6 lU7 cU7_0 cU7_1
  have BE := Lib.hid NE; clear NE
  have BV := Lib.hid NV; clear NV
  have BP := Lib.hid NP; clear NP
  have BF := Lib.hid NF; clear NF
  have BU := Lib.hid NU; clear NU
  have BQ := Lib.hid NQ; clear NQ
  have lE8 := Array.getElem?_eq_some_iff.1 BE.out |>.1
  have cE8_0 := cells_of_blk BE.out 0 _ rfl
  have cE8_1 := cells_of_blk BE.out 1 _ rfl
  have cE8_2 := cells_of_blk BE.out 2 _ rfl
  have cE8_3 := cells_of_blk BE.out 3 _ rfl
  have cE8_4 := cells_of_blk BE.out 4 _ rfl
  have cE8_5 := cells_of_blk BE.out 5 _ rfl
  have cE8_6 := cells_of_blk BE.out 6 _ rfl
  have lV8 := Array.getElem?_eq_some_iff.1 BV.out |>.1
  have cV8_0 := cells_of_blk BV.out 0 _ rfl
  have cV8_1 := cells_of_blk BV.out 1 _ rfl
  have lP8 := Array.getElem?_eq_some_iff.1 BP.out |>.1
  have cP8_0 := cells_of_blk BP.out 0 _ rfl
  have cP8_1 := cells_of_blk BP.out 1 _ rfl
  have cP8_2 := cells_of_blk BP.out 2 _ rfl
  have cP8_3 := cells_of_blk BP.out 3 _ rfl
  have cP8_4 := cells_of_blk BP.out 4 _ rfl
  have cP8_5 := cells_of_blk BP.out 5 _ rfl
  have cP8_6 := cells_of_blk BP.out 6 _ rfl
  have cP8_7 := cells_of_blk BP.out 7 _ rfl
  have cP8_8 := cells_of_blk BP.out 8 _ rfl
  have lF8 := Array.getElem?_eq_some_iff.1 BF.out |>.1
  have cF8_0 := cells_of_blk BF.out 0 _ rfl
  have cF8_1 := cells_of_blk BF.out 1 _ rfl
  have cF8_2 := cells_of_blk BF.out 2 _ rfl
  have cF8_3 := cells_of_blk BF.out 3 _ rfl
  have cF8_4 := cells_of_blk BF.out 4 _ rfl
  have cF8_5 := cells_of_blk BF.out 5 _ rfl
  have cF8_6 := cells_of_blk BF.out 6 _ rfl
  have lU8 := Array.getElem?_eq_some_iff.1 BU.out |>.1
  have cU8_0 := cells_of_blk BU.out 0 _ rfl
  have cU8_1 := cells_of_blk BU.out 1 _ rfl
  have lQ8 := Array.getElem?_eq_some_iff.1 BQ.out |>.1
  have cQ8_0 := cells_of_blk BQ.out 0 _ rfl
  have cQ8_1 := cells_of_blk BQ.out 1 _ rfl
  have cQ8_2 := cells_of_blk BQ.out 2 _ rfl
  have cQ8_3 := cells_of_blk BQ.out 3 _ rfl
  have cQ8_4 := cells_of_blk BQ.out 4 _ rfl
  have cQ8_5 := cells_of_blk BQ.out 5 _ rfl
  have cQ8_6 := cells_of_blk BQ.out 6 _ rfl
  have cQ8_7 := cells_of_blk BQ.out 7 _ rfl
  have cQ8_8 := cells_of_blk BQ.out 8 _ rfl
  go_wp2_with fail
  refine (H.out.p3 rfl _).mono ?_
  rintro e1 w9 ⟨rfl, hb⟩
  have NE := blk_call BE.out hb
  have NV := blk_call BV.out hb
  have NP := blk_call BP.out hb
  have NF := blk_call BF.out hb
  have NU := blk_call BU.out hb
  have NQ := blk_call BQ.out hb
  have HB9 := Lib.hid (below_to HB8.out hb)
  clear hb lE8 cE8_0 cE8_1 cE8_2 cE8_3 cE8_4 cE8_5 cE8_6 lV8 cV8_0 cV8_1 lP8 cP8_0 cP8_1 cP8_2 cP8_3 cP8_4 cP8_5 cP8_6 cP8_7 cP8_8 lF8 cF8_0 cF8_1 cF8_2 cF8_3 cF8_4 cF8_5 cF8_6 lU8 cU8_0 cU8_1 lQ8 cQ8_0 cQ8_1 cQ8_2 cQ8_3 cQ8_4 cQ8_5 cQ8_6 cQ8_7 cQ8_8
  have BE := Lib.hid NE; clear NE
  have BV := Lib.hid NV; clear NV
  have BP := Lib.hid NP; clear NP
  have BF := Lib.hid NF; clear NF
  have BU := Lib.hid NU; clear NU
  have BQ := Lib.hid NQ; clear NQ
  have lE9 := Array.getElem?_eq_some_iff.1 BE.out |>.1
  have cE9_0 := cells_of_blk BE.out 0 _ rfl
  have cE9_1 := cells_of_blk BE.out 1 _ rfl
  have cE9_2 := cells_of_blk BE.out 2 _ rfl
  have cE9_3 := cells_of_blk BE.out 3 _ rfl
  have cE9_4 := cells_of_blk BE.out 4 _ rfl
  have cE9_5 := cells_of_blk BE.out 5 _ rfl
  have cE9_6 := cells_of_blk BE.out 6 _ rfl
  have lV9 := Array.getElem?_eq_some_iff.1 BV.out |>.1
  have cV9_0 := cells_of_blk BV.out 0 _ rfl
  have cV9_1 := cells_of_blk BV.out 1 _ rfl
  have lP9 := Array.getElem?_eq_some_iff.1 BP.out |>.1
  have cP9_0 := cells_of_blk BP.out 0 _ rfl
  have cP9_1 := cells_of_blk BP.out 1 _ rfl
  have cP9_2 := cells_of_blk BP.out 2 _ rfl
  have cP9_3 := cells_of_blk BP.out 3 _ rfl
  have cP9_4 := cells_of_blk BP.out 4 _ rfl
  have cP9_5 := cells_of_blk BP.out 5 _ rfl
  have cP9_6 := cells_of_blk BP.out 6 _ rfl
  have cP9_7 := cells_of_blk BP.out 7 _ rfl
  have cP9_8 := cells_of_blk BP.out 8 _ rfl
  have lF9 := Array.getElem?_eq_some_iff.1 BF.out |>.1
  have cF9_0 := cells_of_blk BF.out 0 _ rfl
  have cF9_1 := cells_of_blk BF.out 1 _ rfl
  have cF9_2 := cells_of_blk BF.out 2 _ rfl
  have cF9_3 := cells_of_blk BF.out 3 _ rfl
  have cF9_4 := cells_of_blk BF.out 4 _ rfl
  have cF9_5 := cells_of_blk BF.out 5 _ rfl
  have cF9_6 := cells_of_blk BF.out 6 _ rfl
  have lU9 := Array.getElem?_eq_some_iff.1 BU.out |>.1
  have cU9_0 := cells_of_blk BU.out 0 _ rfl
  have cU9_1 := cells_of_blk BU.out 1 _ rfl
  have lQ9 := Array.getElem?_eq_some_iff.1 BQ.out |>.1
  have cQ9_0 := cells_of_blk BQ.out 0 _ rfl
  have cQ9_1 := cells_of_blk BQ.out 1 _ rfl
  have cQ9_2 := cells_of_blk BQ.out 2 _ rfl
  have cQ9_3 := cells_of_blk BQ.out 3 _ rfl
  have cQ9_4 := cells_of_blk BQ.out 4 _ rfl
  have cQ9_5 := cells_of_blk BQ.out 5 _ rfl
  have cQ9_6 := cells_of_blk BQ.out 6 _ rfl
  have cQ9_7 := cells_of_blk BQ.out 7 _ rfl
  have cQ9_8 := cells_of_blk BQ.out 8 _ rfl
  go_wp2_with fail
  go_ret
  exact ⟨rfl, HB9.out⟩

set_option maxRecDepth 100000 in
set_option maxHeartbeats 4000000 in
theorem EventGets_c7 (s : ByteArray) (x0 x1 x2 x3 x4 x5 x6 y0 y1 z0 z1 z2 z3 z4 z5 z6 z7 z8 : Int) (w : World) (hT : Hid (Tabs w)) (hs : s.size ≤ 500) (H : Hid (GetC s x0 x1 x2 x3 x4 x5 x6 y0 y1 z0 z1 z2 z3 z4 z5 z6 z7 z8 0 0 0)) :
    Calls Tryd.prog 8 #[.string s] w fun e w' => e = .returned (.bool true) ∧ Below w.heap.size w w' := by
  have b1 : (s.toList == s.toList) = true := by simp
  go_enter Tryd.func8, Tryd.ntmps8
  go_wp2_with fail
  refine (alive06 _ hT).mono ?_
  rintro e1 w1 ⟨rfl, hb⟩
  have HB1 := Lib.hid hb; clear hb
  go_wp2_with fail
  refine (H.out.g1 _).mono ?_
  rintro e1 w2 ⟨rfl, hb⟩
  have HB2 := Lib.hid (below_to HB1.out hb)
  clear hb 
  go_wp2_with fail
  refine (H.out.g2 _).mono ?_
  rintro e1 w3 ⟨rfl, hb⟩
  have NE := blk_call (blk_new w2 _ _ rfl) hb
  have HB3 := Lib.hid (below_to (HB2.out.alloc HB2.out.size _) hb)
  clear hb 
  have BE := Lib.hid NE; clear NE
  go_wp2_with fail
  refine (H.out.g3 _).mono ?_
  rintro e1 w4 ⟨rfl, hb⟩
  have NE := blk_call (blk_old BE.out _) hb
  have NV := blk_call (blk_new w3 _ _ rfl) hb
  have HB4 := Lib.hid (below_to (HB3.out.alloc HB3.out.size _) hb)
  clear hb 
  have BE := Lib.hid NE; clear NE
  have BV := Lib.hid NV; clear NV
  go_wp2_with fail
  refine (H.out.r1 _).mono ?_
  rintro e1 w5 ⟨rfl, hb⟩
  have NE := blk_call (blk_old BE.out _) hb
  have NV := blk_call (blk_old BV.out _) hb
  have NP := blk_call (blk_new w4 _ _ rfl) hb
  have HB5 := Lib.hid (below_to (HB4.out.alloc HB4.out.size _) hb)
  clear hb 
  have BE := Lib.hid NE; clear NE
  have BV := Lib.hid NV; clear NV
  have BP := Lib.hid NP; clear NP
  go_wp2_with fail
  refine (H.out.r2 _).mono ?_
  rintro e1 w6 ⟨rfl, hb⟩
  have NE := blk_call (blk_old BE.out _) hb
  have NV := blk_call (blk_old BV.out _) hb
  have NP := blk_call (blk_old BP.out _) hb
  have NF := blk_call (blk_new w5 _ _ rfl) hb
  have HB6 := Lib.hid (below_to (HB5.out.alloc HB5.out.size _) hb)
  clear hb 
  have BE := Lib.hid NE; clear NE
  have BV := Lib.hid NV; clear NV
  have BP := Lib.hid NP; clear NP
  have BF := Lib.hid NF; clear NF
  go_wp2_with fail
  refine (H.out.r3 _).mono ?_
  rintro e1 w7 ⟨rfl, hb⟩
  have NE := blk_call (blk_old BE.out _) hb
  have NV := blk_call (blk_old BV.out _) hb
  have NP := blk_call (blk_old BP.out _) hb
  have NF := blk_call (blk_old BF.out _) hb
  have NU := blk_call (blk_new w6 _ _ rfl) hb
  have HB7 := Lib.hid (below_to (HB6.out.alloc HB6.out.size _) hb)
  clear hb 
  have BE := Lib.hid NE; clear NE
  have BV := Lib.hid NV; clear NV
  have BP := Lib.hid NP; clear NP
  have BF := Lib.hid NF; clear NF
  have BU := Lib.hid NU; clear NU
  have lE7 := Array.getElem?_eq_some_iff.1 BE.out |>.1
  have cE7_0 := cells_of_blk BE.out 0 _ rfl
  have cE7_1 := cells_of_blk BE.out 1 _ rfl
  have cE7_2 := cells_of_blk BE.out 2 _ rfl
  have cE7_3 := cells_of_blk BE.out 3 _ rfl
  have cE7_4 := cells_of_blk BE.out 4 _ rfl
  have cE7_5 := cells_of_blk BE.out 5 _ rfl
  have cE7_6 := cells_of_blk BE.out 6 _ rfl
  have lV7 := Array.getElem?_eq_some_iff.1 BV.out |>.1
  have cV7_0 := cells_of_blk BV.out 0 _ rfl
  have cV7_1 := cells_of_blk BV.out 1 _ rfl
  have lP7 := Array.getElem?_eq_some_iff.1 BP.out |>.1
  have cP7_0 := cells_of_blk BP.out 0 _ rfl
  have cP7_1 := cells_of_blk BP.out 1 _ rfl
  have cP7_2 := cells_of_blk BP.out 2 _ rfl
  have cP7_3 := cells_of_blk BP.out 3 _ rfl
  have cP7_4 := cells_of_blk BP.out 4 _ rfl
  have cP7_5 := cells_of_blk BP.out 5 _ rfl
  have cP7_6 := cells_of_blk BP.out 6 _ rfl
  have cP7_7 := cells_of_blk BP.out 7 _ rfl
  have cP7_8 := cells_of_blk BP.out 8 _ rfl
  have lF7 := Array.getElem?_eq_some_iff.1 BF.out |>.1
  have cF7_0 := cells_of_blk BF.out 0 _ rfl
  have cF7_1 := cells_of_blk BF.out 1 _ rfl
  have cF7_2 := cells_of_blk BF.out 2 _ rfl
  have cF7_3 := cells_of_blk BF.out 3 _ rfl
  have cF7_4 := cells_of_blk BF.out 4 _ rfl
  have cF7_5 := cells_of_blk BF.out 5 _ rfl
  have cF7_6 := cells_of_blk BF.out 6 _ rfl
  have lU7 := Array.getElem?_eq_some_iff.1 BU.out |>.1
  have cU7_0 := cells_of_blk BU.out 0 _ rfl
  have cU7_1 := cells_of_blk BU.out 1 _ rfl
  go_wp2_with fail
  refine (H.out.p1 rfl _).mono ?_
  rintro e1 w8 ⟨rfl, hb⟩
  have NE := blk_call (blk_old BE.out _) hb
  have NV := blk_call (blk_old BV.out _) hb
  have NP := blk_call (blk_old BP.out _) hb
  have NF := blk_call (blk_old BF.out _) hb
  have NU := blk_call (blk_old BU.out _) hb
  have NQ := blk_call (blk_new w7 _ _ rfl) hb
  have HB8 := Lib.hid (below_to (HB7.out.alloc HB7.out.size _) hb)
  clear hb lE7 cE7_0 cE7_1 cE7_2 cE7_3 cE7_4 cE7_5 cE7_6 lV7 cV7_0 cV7_1 lP7 cP7_0 cP7_1 cP7_2 cP7_3 cP7_4 cP7_5 cP7_6 cP7_7 cP7_8 lF7 cF7_0 cF7_1 cF7_2 cF7_3 cF7_4 cF7_5 cF7_6 lU7 cU7_0 cU7_1
  have BE := Lib.hid NE; clear NE
  have BV := Lib.hid NV; clear NV
  have BP := Lib.hid NP; clear NP
  have BF := Lib.hid NF; clear NF
  have BU := Lib.hid NU; clear NU
  have BQ := Lib.hid NQ; clear NQ
  have lE8 := Array.getElem?_eq_some_iff.1 BE.out |>.1
  have cE8_0 := cells_of_blk BE.out 0 _ rfl
  have cE8_1 := cells_of_blk BE.out 1 _ rfl
  have cE8_2 := cells_of_blk BE.out 2 _ rfl
  have cE8_3 := cells_of_blk BE.out 3 _ rfl
  have cE8_4 := cells_of_blk BE.out 4 _ rfl
  have cE8_5 := cells_of_blk BE.out 5 _ rfl
  have cE8_6 := cells_of_blk BE.out 6 _ rfl
  have lV8 := Array.getElem?_eq_some_iff.1 BV.out |>.1
  have cV8_0 := cells_of_blk BV.out 0 _ rfl
  have cV8_1 := cells_of_blk BV.out 1 _ rfl
  have lP8 := Array.getElem?_eq_some_iff.1 BP.out |>.1
  have cP8_0 := cells_of_blk BP.out 0 _ rfl
  have cP8_1 := cells_of_blk BP.out 1 _ rfl
  have cP8_2 := cells_of_blk BP.out 2 _ rfl
  have cP8_3 := cells_of_blk BP.out 3 _ rfl
  have cP8_4 := cells_of_blk BP.out 4 _ rfl
  have cP8_5 := cells_of_blk BP.out 5 _ rfl
  have cP8_6 := cells_of_blk BP.out 6 _ rfl
  have cP8_7 := cells_of_blk BP.out 7 _ rfl
  have cP8_8 := cells_of_blk BP.out 8 _ rfl
  have lF8 := Array.getElem?_eq_some_iff.1 BF.out |>.1
  have cF8_0 := cells_of_blk BF.out 0 _ rfl
  have cF8_1 := cells_of_blk BF.out 1 _ rfl
  have cF8_2 := cells_of_blk BF.out 2 _ rfl
  have cF8_3 := cells_of_blk BF.out 3 _ rfl
  have cF8_4 := cells_of_blk BF.out 4 _ rfl
  have cF8_5 := cells_of_blk BF.out 5 _ rfl
  have cF8_6 := cells_of_blk BF.out 6 _ rfl
  have lU8 := Array.getElem?_eq_some_iff.1 BU.out |>.1
  have cU8_0 := cells_of_blk BU.out 0 _ rfl
  have cU8_1 := cells_of_blk BU.out 1 _ rfl
  have lQ8 := Array.getElem?_eq_some_iff.1 BQ.out |>.1
  have cQ8_0 := cells_of_blk BQ.out 0 _ rfl
  have cQ8_1 := cells_of_blk BQ.out 1 _ rfl
  have cQ8_2 := cells_of_blk BQ.out 2 _ rfl
  have cQ8_3 := cells_of_blk BQ.out 3 _ rfl
  have cQ8_4 := cells_of_blk BQ.out 4 _ rfl
  have cQ8_5 := cells_of_blk BQ.out 5 _ rfl
  have cQ8_6 := cells_of_blk BQ.out 6 _ rfl
  have cQ8_7 := cells_of_blk BQ.out 7 _ rfl
  have cQ8_8 := cells_of_blk BQ.out 8 _ rfl
  go_wp2_with fail
  refine (H.out.p2 rfl _).mono ?_
  rintro e1 w9 ⟨rfl, hb⟩
  have NE := blk_call BE.out hb
  have NV := blk_call BV.out hb
  have NP := blk_call BP.out hb
  have NF := blk_call BF.out hb
  have NU := blk_call BU.out hb
  have NQ := blk_call BQ.out hb
  have HB9 := Lib.hid (below_to HB8.out hb)
  clear hb lE8 cE8_0 cE8_1 cE8_2 cE8_3 cE8_4 cE8_5 cE8_6 lV8 cV8_0 cV8_1 lP8 cP8_0 cP8_1 cP8_2 cP8_3 cP8_4 cP8_5 cP8_6 cP8_7 cP8_8 lF8 cF8_0 cF8_1 cF8_2 cF8_3 cF8_4 cF8_5 cF8_6 lU8 cU8_0 cU8_1 lQ8 cQ8_0 cQ8_1 cQ8_2 cQ8_3 cQ8_4 cQ8_5 cQ8_6 cQ8_7 cQ8_8
  have BE := Lib.hid NE; clear NE
  have BV := Lib.hid NV; clear NV
  have BP := Lib.hid NP; clear NP
  have BF := Lib.hid NF; clear NF
  have BU := Lib.hid NU; clear NU
  have BQ := Lib.hid NQ; clear NQ
  have lE9 := Array.getElem?_eq_some_iff.1 BE.out |>.1
  have cE9_0 := cells_of_blk BE.out 0 _ rfl
  have cE9_1 := cells_of_blk BE.out 1 _ rfl
  have cE9_2 := cells_of_blk BE.out 2 _ rfl
  have cE9_3 := cells_of_blk BE.out 3 _ rfl
  have cE9_4 := cells_of_blk BE.out 4 _ rfl
  have cE9_5 := cells_of_blk BE.out 5 _ rfl
  have cE9_6 := cells_of_blk BE.out 6 _ rfl
  have lV9 := Array.getElem?_eq_some_iff.1 BV.out |>.1
  have cV9_0 := cells_of_blk BV.out 0 _ rfl
  have cV9_1 := cells_of_blk BV.out 1 _ rfl
  have lP9 := Array.getElem?_eq_some_iff.1 BP.out |>.1
  have cP9_0 := cells_of_blk BP.out 0 _ rfl
  have cP9_1 := cells_of_blk BP.out 1 _ rfl
  have cP9_2 := cells_of_blk BP.out 2 _ rfl
  have cP9_3 := cells_of_blk BP.out 3 _ rfl
  have cP9_4 := cells_of_blk BP.out 4 _ rfl
  have cP9_5 := cells_of_blk BP.out 5 _ rfl
  have cP9_6 := cells_of_blk BP.out 6 _ rfl
  have cP9_7 := cells_of_blk BP.out 7 _ rfl
  have cP9_8 := cells_of_blk BP.out 8 _ rfl
  have lF9 := Array.getElem?_eq_some_iff.1 BF.out |>.1
  have cF9_0 := cells_of_blk BF.out 0 _ rfl
  have cF9_1 := cells_of_blk BF.out 1 _ rfl
  have cF9_2 := cells_of_blk BF.out 2 _ rfl
  have cF9_3 := cells_of_blk BF.out 3 _ rfl
  have cF9_4 := cells_of_blk BF.out 4 _ rfl
  have cF9_5 := cells_of_blk BF.out 5 _ rfl
  have cF9_6 := cells_of_blk BF.out 6 _ rfl
  have lU9 := Array.getElem?_eq_some_iff.1 BU.out |>.1
  have cU9_0 := cells_of_blk BU.out 0 _ rfl
  have cU9_1 := cells_of_blk BU.out 1 _ rfl
  have lQ9 := Array.getElem?_eq_some_iff.1 BQ.out |>.1
  have cQ9_0 := cells_of_blk BQ.out 0 _ rfl
  have cQ9_1 := cells_of_blk BQ.out 1 _ rfl
  have cQ9_2 := cells_of_blk BQ.out 2 _ rfl
  have cQ9_3 := cells_of_blk BQ.out 3 _ rfl
  have cQ9_4 := cells_of_blk BQ.out 4 _ rfl
  have cQ9_5 := cells_of_blk BQ.out 5 _ rfl
  have cQ9_6 := cells_of_blk BQ.out 6 _ rfl
  have cQ9_7 := cells_of_blk BQ.out 7 _ rfl
  have cQ9_8 := cells_of_blk BQ.out 8 _ rfl
  go_wp2_with fail
  refine (H.out.p3 rfl _).mono ?_
  rintro e1 w10 ⟨rfl, hb⟩
  have NE := blk_call BE.out hb
  have NV := blk_call BV.out hb
  have NP := blk_call BP.out hb
  have NF := blk_call BF.out hb
  have NU := blk_call BU.out hb
  have NQ := blk_call BQ.out hb
  have HB10 := Lib.hid (below_to HB9.out hb)
  clear hb lE9 cE9_0 cE9_1 cE9_2 cE9_3 cE9_4 cE9_5 cE9_6 lV9 cV9_0 cV9_1 lP9 cP9_0 cP9_1 cP9_2 cP9_3 cP9_4 cP9_5 cP9_6 cP9_7 cP9_8 lF9 cF9_0 cF9_1 cF9_2 cF9_3 cF9_4 cF9_5 cF9_6 lU9 cU9_0 cU9_1 lQ9 cQ9_0 cQ9_1 cQ9_2 cQ9_3 cQ9_4 cQ9_5 cQ9_6 cQ9_7 cQ9_8
  have BE := Lib.hid NE; clear NE
  have BV := Lib.hid NV; clear NV
  have BP := Lib.hid NP; clear NP
  have BF := Lib.hid NF; clear NF
  have BU := Lib.hid NU; clear NU
  have BQ := Lib.hid NQ; clear NQ
  have lE10 := Array.getElem?_eq_some_iff.1 BE.out |>.1
  have cE10_0 := cells_of_blk BE.out 0 _ rfl
  have cE10_1 := cells_of_blk BE.out 1 _ rfl
  have cE10_2 := cells_of_blk BE.out 2 _ rfl
  have cE10_3 := cells_of_blk BE.out 3 _ rfl
  have cE10_4 := cells_of_blk BE.out 4 _ rfl
  have cE10_5 := cells_of_blk BE.out 5 _ rfl
  have cE10_6 := cells_of_blk BE.out 6 _ rfl
  have lV10 := Array.getElem?_eq_some_iff.1 BV.out |>.1
  have cV10_0 := cells_of_blk BV.out 0 _ rfl
  have cV10_1 := cells_of_blk BV.out 1 _ rfl
  have lP10 := Array.getElem?_eq_some_iff.1 BP.out |>.1
  have cP10_0 := cells_of_blk BP.out 0 _ rfl
  have cP10_1 := cells_of_blk BP.out 1 _ rfl
  have cP10_2 := cells_of_blk BP.out 2 _ rfl
  have cP10_3 := cells_of_blk BP.out 3 _ rfl
  have cP10_4 := cells_of_blk BP.out 4 _ rfl
  have cP10_5 := cells_of_blk BP.out 5 _ rfl
  have cP10_6 := cells_of_blk BP.out 6 _ rfl
  have cP10_7 := cells_of_blk BP.out 7 _ rfl
  have cP10_8 := cells_of_blk BP.out 8 _ rfl
  have lF10 := Array.getElem?_eq_some_iff.1 BF.out |>.1
  have cF10_0 := cells_of_blk BF.out 0 _ rfl
  have cF10_1 := cells_of_blk BF.out 1 _ rfl
  have cF10_2 := cells_of_blk BF.out 2 _ rfl
  have cF10_3 := cells_of_blk BF.out 3 _ rfl
  have cF10_4 := cells_of_blk BF.out 4 _ rfl
  have cF10_5 := cells_of_blk BF.out 5 _ rfl
  have cF10_6 := cells_of_blk BF.out 6 _ rfl
  have lU10 := Array.getElem?_eq_some_iff.1 BU.out |>.1
  have cU10_0 := cells_of_blk BU.out 0 _ rfl
  have cU10_1 := cells_of_blk BU.out 1 _ rfl
  have lQ10 := Array.getElem?_eq_some_iff.1 BQ.out |>.1
  have cQ10_0 := cells_of_blk BQ.out 0 _ rfl
  have cQ10_1 := cells_of_blk BQ.out 1 _ rfl
  have cQ10_2 := cells_of_blk BQ.out 2 _ rfl
  have cQ10_3 := cells_of_blk BQ.out 3 _ rfl
  have cQ10_4 := cells_of_blk BQ.out 4 _ rfl
  have cQ10_5 := cells_of_blk BQ.out 5 _ rfl
  have cQ10_6 := cells_of_blk BQ.out 6 _ rfl
  have cQ10_7 := cells_of_blk BQ.out 7 _ rfl
  have cQ10_8 := cells_of_blk BQ.out 8 _ rfl
  go_wp2_with fail
  go_ret
  exact ⟨rfl, HB10.out⟩

set_option maxRecDepth 100000 in
set_option maxHeartbeats 4000000 in
theorem EventGets_great (s : ByteArray) (w : World) (hT : Hid (Tabs w)) (hs : ¬ s.size ≤ 500) (hm : s.size ≤ 9223372036854775807) :
    Calls Tryd.prog 8 #[.string s] w fun e w' => e = .returned (.bool true) ∧ Below w.heap.size w w' := by
  have hlt : 500 < s.size := by omega
  go_enter Tryd.func8, Tryd.ntmps8
  go_wp2_with fail
  refine (alive06 _ hT).mono ?_
  rintro e1 w1 ⟨rfl, hb⟩
  have HB1 := Lib.hid hb; clear hb
  go_wp2_with fail
  go_ret
  exact ⟨rfl, HB1.out⟩

theorem EventGets_walk (s : ByteArray) (w : World) (hT : Tabs w) (hm : s.size ≤ 9223372036854775807) :
    Calls Tryd.prog 8 #[.string s] w fun e w' => e = .returned (.bool true) ∧ Below w.heap.size w w' := by
  by_cases hs : s.size ≤ 500
  · have H := getC_of s hs
    generalize getE s 7 = e at H
    generalize getE s 2 = f at H
    generalize getE s 9 = g at H
    have key : ∀ x : Int, x = 0 ∨ (x != 0) = true := fun x => by by_cases h : x = 0 <;> simp [h]
    rcases key e with rfl | he <;> rcases key f with rfl | hf <;> rcases key g with rfl | hg
    · exact EventGets_c7 s _ _ _ _ _ _ _ _ _ _ _ _ _ _ _ _ _ _  w hT hs H
    · exact EventGets_c3 s _ _ _ _ _ _ _ _ _ _ _ _ _ _ _ _ _ _ _ hg w hT hs H
    · exact EventGets_c5 s _ _ _ _ _ _ _ _ _ _ _ _ _ _ _ _ _ _ _ hf w hT hs H
    · exact EventGets_c1 s _ _ _ _ _ _ _ _ _ _ _ _ _ _ _ _ _ _ _ _ hf hg w hT hs H
    · exact EventGets_c6 s _ _ _ _ _ _ _ _ _ _ _ _ _ _ _ _ _ _ _ he w hT hs H
    · exact EventGets_c2 s _ _ _ _ _ _ _ _ _ _ _ _ _ _ _ _ _ _ _ _ he hg w hT hs H
    · exact EventGets_c4 s _ _ _ _ _ _ _ _ _ _ _ _ _ _ _ _ _ _ _ _ he hf w hT hs H
    · exact EventGets_c0 s _ _ _ _ _ _ _ _ _ _ _ _ _ _ _ _ _ _ _ _ _ he hf hg w hT hs H
  · exact EventGets_great s w hT hs hm

theorem EventPuts_walk (x : Nat → Int) (w : World) (hT : Tabs w) (hx : ∀ i, i < 9 → I64 (x i)) :
    Calls Tryd.prog 7 #[.agg #[.int .i64 (x 0), .int .i64 (x 1), .int .i64 (x 2), .int .i64 (x 3), .int .i64 (x 4), .int .i64 (x 5), .int .i64 (x 6), .int .i64 (x 7), .int .i64 (x 8)]] w fun e w' => e = .returned (.bool true) ∧ Below w.heap.size w w' :=
  EventPuts_core _ _ _ _ _ _ _ _ _ _ _ _ w hT (putC_of x hx)
end Go.Proofs.YtgjehokkmdbknaaDoor
