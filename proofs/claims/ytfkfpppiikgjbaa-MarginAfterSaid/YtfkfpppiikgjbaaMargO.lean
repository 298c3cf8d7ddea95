/- Reach (both), After (both), MarginAfter: the walk -/
import Derived.Test.YtfkfpppiikgjbaaMargN
namespace Go.Proofs.Ytfkfpppiikgjbaa
section
open Go Go.RowKit Go.Shelf Mon
attribute [local go_sem] Oper.semAt_some
set_option linter.unusedVariables false
set_option linter.unusedSimpArgs false

def stakeOf (b : Bk) (acc sym : Int) : Int := ((recOf 3 (b.s.find? (isKey acc sym))).1).getD 2 0
def sumS (sym side : Int) : List (List Int) → Int
  | [] => 0
  | r :: t => (if r.getD 2 0 = sym ∧ r.getD 3 0 = side then r.getD 4 0 else 0) + sumS sym side t
theorem sumS_append (sym side : Int) (l m : List (List Int)) : sumS sym side (l ++ m) = sumS sym side l + sumS sym side m := by
  induction l with
  | nil => simp [sumS]
  | cons x t ih => simp only [List.cons_append, sumS, ih]; omega
theorem sumS_bound (sym side : Int) : ∀ l : List OP, (sumS sym side (l.map OP.val)).natAbs ≤ l.length * 9223372036854775808
  | [] => by simp [sumS]
  | x :: t => by
    have h1 := sumS_bound sym side t
    have h2 := x.hl
    unfold I64 at h2
    show ((if x.s = sym ∧ x.d = side then x.l else 0) + sumS sym side (t.map OP.val)).natAbs ≤ (t.length + 1) * _
    split <;> omega
def reachX (b : Bk) (acc sym side qty : Int) : Int := stakeOf b acc sym * (1 - 2 * side) + sumS sym side (opensP acc b.o) + qty
def reachR (b : Bk) (acc sym side qty : Int) : Int × Bool := if side < 0 ∨ 1 < side then (0, false) else fitsP (reachX b acc sym side qty)
def reachP (b : Bk) (acc sym side qty : Int) : Int × Bool := if b.mayB then reachR b acc sym side qty else (0, false)

set_option maxRecDepth 100000 in
set_option maxHeartbeats 8000000 in
theorem Reach_any (v : Value) (b : Bk) (acc sym side qty : Int) (w : World) (hb : Hid (BkAt w v b)) (hs : Hid b.Small) (hi : Hid b.I64s) (hq1 : Hid (I64 qty)) :
    Calls Try.prog 36 #[v, .int .i64 acc, .int .i64 sym, .int .i64 side, .int .i64 qty] w fun e w' => e = .returned (.tuple #[.int .i64 (reachP b acc sym side qty).1, .bool (reachP b acc sym side qty).2]) ∧ Below w.heap.size w w' := by
  obtain ⟨vh, vs, vo, vr, rfl, g1, g2, g3, g4⟩ := hb.out
  have LS : Hid (∀ r ∈ b.s, r.length = 3) := (by obtain ⟨_, _, _, h, _⟩ := g2; exact h)
  clear g1 g2 g3 g4
  obtain ⟨w1, hw1⟩ : ∃ w1, ((w.alloc (.cells #[vh, vs, vo, vr, .int .i64 b.n] 37)).alloc (.cells #[.int .i64 sym] 2)).alloc (.cells #[.int .i64 side] 3) = w1 := ⟨_, rfl⟩
  have HB1 : Hid (Below w.heap.size w w1) := by rw [← hw1]; exact below_alloc (below_alloc (below_alloc (Below.refl _ _) (Nat.le_refl _) _) (by simp) _) (by simp; omega) _
  have K1 : Hid (w1.heap[w.heap.size]? = some (.cells #[vh, vs, vo, vr, .int .i64 b.n] 37 (0, 0))) := by rw [← hw1]; exact blk_old (blk_old (heap_new _ _) _) _
  have Y1 : Hid (w1.heap[w.heap.size + 1]? = some (.cells #[.int .i64 sym] 2 (0, 0))) := by rw [← hw1]; exact blk_old (blk_new _ _ _ (by simp)) _
  have D1 : Hid (w1.heap[w.heap.size + 2]? = some (.cells #[.int .i64 side] 3 (0, 0))) := by rw [← hw1]; exact blk_new _ _ _ (by simp)
  have B1 : Hid (BkAt w1 (.agg #[vh, vs, vo, vr, .int .i64 b.n]) b) := hb.out.call HB1.out
  have qm := Lib.hid (BkMay_any _ b _ B1 hs)
  replace hw1 := Lib.hid hw1
  cases hm : b.mayB with
  | false =>
    have he : reachP b acc sym side qty = (0, false) := by unfold reachP; rw [hm]; rfl
    rw [he]
    rw [hm] at qm
    clear hm he
    go_enter Try.func36, Try.ntmps36
    go_wp2_with fail
    rw [hw1.out]
    with_reducible refine qm.out.mono ?_
    rintro e w2 ⟨rfl, hb2⟩
    have HB2 := Lib.hid (HB1.out.trans (hb2.mono HB1.out.size))
    clear hb2
    go_wp2_with fail
    go_ret2
    exact ⟨rfl, HB2.out⟩
  | true =>
  have he : reachP b acc sym side qty = reachR b acc sym side qty := by unfold reachP; rw [hm]; rfl
  rw [he]
  rw [hm] at qm
  have HR := Lib.hid (mayB_rise hm)
  clear hm he
  by_cases hsd : side < 0 ∨ 1 < side
  · have he : reachR b acc sym side qty = (0, false) := if_pos hsd
    rw [he]
    clear he
    go_enter Try.func36, Try.ntmps36
    go_wp2_with fail
    rw [hw1.out]
    with_reducible refine qm.out.mono ?_
    rintro e w2 ⟨rfl, hb2⟩
    have c0 := cells_of_blk (blk_call D1.out hb2) 0 _ rfl
    have HB2 := Lib.hid (HB1.out.trans (hb2.mono HB1.out.size))
    clear hb2
    by_cases h0 : side < 0
    · have t0 : decide (side < 0) = true := decide_eq_true h0
      clear hsd h0
      go_wp2_with fail
      go_ret2
      exact ⟨rfl, HB2.out⟩
    · have t0 : decide (side < 0) = false := decide_eq_false h0
      have t1 : decide (1 < side) = true := decide_eq_true (by omega)
      clear hsd h0
      go_wp2_with fail
      go_ret2
      exact ⟨rfl, HB2.out⟩
  have he : reachR b acc sym side qty = fitsP (reachX b acc sym side qty) := if_neg hsd
  rw [he]
  have hsd0 : 0 ≤ side := by omega
  have hsd1 : side ≤ 1 := by omega
  have t0 : decide (side < 0) = false := decide_eq_false (by omega)
  have t1 : decide (1 < side) = false := decide_eq_false (by omega)
  obtain ⟨rs, F, hl1, hx1⟩ := rec_of LS.out (isKey acc sym)
  match rs, hl1, hx1 with
  | [k0, k1, k2], _, hx1 =>
  have hst : stakeOf b acc sym = k2 := by unfold stakeOf; rw [hx1]; rfl
  have HI2 : Hid (I64 k2) := rec_I64 hi.out.2.1 hx1 k2 (by simp)
  have HX1 := Lib.hid hx1
  have HST := Lib.hid hst
  have F2 : b.s.length ≤ 1000000 := by have := hs.out; unfold Bk.Small at this; omega
  have hR4 := Lib.hid HR.out.2.2.2
  have qk := Lib.hid (fun u wz hv => Stake_any u b acc sym k0 k1 k2 F wz hv F2 hR4 HX1)
  clear he hsd hx1 hst
  refine (callsIn_wide (n := 3)).1 ?_
  have hn1 : 1 ≤ 3 := by omega
  have hro : Fence.wide.round = none := rfl
  refine callsIn_of_wp_marks Try.func36 rfl trivial ?_ hro
  simp only [Try.ntmps36, List.size_toArray, List.length_cons, List.length_nil, Nat.reduceAdd, Nat.reduceSub, Array.replicate_succ, Array.replicate_zero, List.push_toArray, List.append_toArray, List.nil_append, List.cons_append]
  gi_wp2_with (fail)
  rw [hw1.out]
  refine ⟨trivial, callsIn_wide.2 (qm.out.mono ?_)⟩
  rintro e w2 ⟨rfl, hb2⟩
  have K2 := Lib.hid (blk_call K1.out hb2)
  have Y2 := Lib.hid (blk_call Y1.out hb2)
  have D2 := Lib.hid (blk_call D1.out hb2)
  have B2 := Lib.hid (B1.out.call hb2)
  have HB2 := Lib.hid (HB1.out.trans (hb2.mono HB1.out.size))
  clear hb2 qm
  obtain ⟨G, hG⟩ : ∃ G, w2.heap.size = G := ⟨_, rfl⟩
  have hbx : Below w2.heap.size w2 (w2.alloc (.cells #[.int .u64 0, .int .u64 0, .int .u64 0] 105)) := below_alloc (Below.refl _ _) (Nat.le_refl _) _
  have K3 := Lib.hid (blk_call K2.out hbx)
  have Y3 := Lib.hid (blk_call Y2.out hbx)
  have D3 := Lib.hid (blk_call D2.out hbx)
  have B3 := Lib.hid (B2.out.call hbx)
  have HB3 := Lib.hid (HB2.out.trans (hbx.mono HB2.out.size))
  have S3 : Hid (SumAt (w2.alloc (.cells #[.int .u64 0, .int .u64 0, .int .u64 0] 105)) G 0) := by rw [← hG]; exact sum_new w2
  have HG : Hid (w.heap.size + 2 < G) := (show _ < _ from by have := (Array.getElem?_eq_some_iff.1 D2.out).1; omega)
  have c0 := cells_of_blk D2.out 0 _ rfl
  clear hbx
  gi_wp2_with (fail)
  clear c0
  generalize w2.alloc (.cells #[.int .u64 0, .int .u64 0, .int .u64 0] 105) = w3 at *
  clear hG
  have c0 := cells_of_blk D3.out 0 _ rfl
  have c1 := cells_of_blk Y3.out 0 _ rfl
  have a0 := cells_of_blk K3.out 0 _ rfl
  have a1 := cells_of_blk K3.out 1 _ rfl
  have a2 := cells_of_blk K3.out 2 _ rfl
  have a3 := cells_of_blk K3.out 3 _ rfl
  have a4 := cells_of_blk K3.out 4 _ rfl
  have l0 := (Array.getElem?_eq_some_iff.1 K3.out).1
  have l1 := (Array.getElem?_eq_some_iff.1 Y3.out).1
  have l2 := (Array.getElem?_eq_some_iff.1 D3.out).1
  have hw0 : IntKind.i64.wrap (2 * side) = 2 * side := by rw [IntKind.wrap_i64]; omega
  have hw2 : IntKind.i64.wrap (1 - 2 * side) = 1 - 2 * side := by rw [IntKind.wrap_i64]; omega
  have HC : Hid (w3.drew.heap[w.heap.size]? = some (.cells #[vh, vs, vo, vr, .int .i64 b.n] 37 (0, 0)) ∧ w3.drew.heap[w.heap.size + 1]? = some (.cells #[.int .i64 sym] 2 (0, 0)) ∧ w3.drew.heap[w.heap.size + 2]? = some (.cells #[.int .i64 side] 3 (0, 0))) := ⟨K3.out, Y3.out, D3.out⟩
  have HCb : Hid (Below w3.heap.size w3 w3.drew) := (Below.refl _ _).drew
  refine wpIn_wide.2 ?_
  refine wp_region_D [] (fun wz => Hid (wz.heap[w.heap.size]? = some (.cells #[vh, vs, vo, vr, .int .i64 b.n] 37 (0, 0)) ∧ wz.heap[w.heap.size + 1]? = some (.cells #[.int .i64 sym] 2 (0, 0)) ∧ wz.heap[w.heap.size + 2]? = some (.cells #[.int .i64 side] 3 (0, 0)))) 8 #[false, false, false, false, false, false, false, false] (by kernel_rfl) (by kernel_rfl) (by kernel_rfl) ?_
  refine pure_moreD [0, 1, 2, 4, 5, 6] 2 (L' := #[true, true, true, false, true, true, true, false]) (by kernel_rfl) (by kernel_rfl) HC ?_
  simp only [opsAt, List.getElem?_toArray, List.getElem?_cons_zero, List.getElem?_cons_succ]
  refine pure_atG (.agg #[vh, vs, vo, vr, .int .i64 b.n]) rfl (fun wz hC => by have h0 := cells_of_blk (Hid.out hC).1 0 _ rfl; have h1 := cells_of_blk (Hid.out hC).1 1 _ rfl; have h2 := cells_of_blk (Hid.out hC).1 2 _ rfl; have h3 := cells_of_blk (Hid.out hC).1 3 _ rfl; have h4 := cells_of_blk (Hid.out hC).1 4 _ rfl; unfold execOp; go_simp) ?_
  refine pure_moveG rfl rfl ?_
  refine pure_atG (.int .i64 sym) rfl (fun wz hC => by have h0 := cells_of_blk (Hid.out hC).2.1 0 _ rfl; unfold execOp; go_simp) ?_
  refine pure_atG (.int .i64 side) rfl (fun wz hC => by have h0 := cells_of_blk (Hid.out hC).2.2 0 _ rfl; unfold execOp; go_simp) ?_
  refine pure_atG (.int .i64 (2 * side)) rfl (fun wz _ => by unfold execOp; go_simp) ?_
  refine pure_atG (.int .i64 (1 - 2 * side)) rfl (fun wz _ => by unfold execOp; go_simp) ?_
  unfold wpPure
  go_simp
  refine wpAnyD_one 3 (f := 1) (L' := #[true, true, true, true, true, true, true, false]) (by kernel_rfl) (by kernel_rfl) rfl rfl ?_
  go_wp2_with fail
  with_reducible refine (qk.out _ _ (Lib.hid (B3.out.call HCb.out))).mono ?_
  rintro e wc1 ⟨rfl, hb⟩
  replace HCb : Hid (Below w3.heap.size w3 wc1) := HCb.out.trans (hb.mono HCb.out.size)
  replace HC : Hid (wc1.heap[w.heap.size]? = some (.cells #[vh, vs, vo, vr, .int .i64 b.n] 37 (0, 0)) ∧ wc1.heap[w.heap.size + 1]? = some (.cells #[.int .i64 sym] 2 (0, 0)) ∧ wc1.heap[w.heap.size + 2]? = some (.cells #[.int .i64 side] 3 (0, 0))) := ⟨blk_call K3.out HCb.out, blk_call Y3.out HCb.out, blk_call D3.out HCb.out⟩
  clear hb
  go_wp2_with fail
  rw [StepQ_normal]
  refine ⟨fun _ => HC, ?_⟩
  have S4 : Hid (SumAt wc1 G 0) := blk_call S3.out HCb.out
  have qa := Lib.hid (AddMul_any G 0 k2 (1 - 2 * side) (by unfold Ok M3; omega) HI2.out (by unfold I64; omega) _ S4)
  have K4 := Lib.hid (blk_call K3.out HCb.out)
  have Y4 := Lib.hid (blk_call Y3.out HCb.out)
  have D4 := Lib.hid (blk_call D3.out HCb.out)
  have HB4 := Lib.hid (HB3.out.trans (HCb.out.mono HB3.out.size))
  clear a0 a1 a2 a3 a4 l0 l1 l2 c0 c1 HC HCb
  refine wpAnyD_one 7 (f := 0) (L' := #[true, true, true, true, true, true, true, true]) (by kernel_rfl) (by kernel_rfl) rfl rfl ?_
  go_wp2_with fail
  with_reducible refine qa.out.mono ?_
  rintro e w5 ⟨rfl, hs5, hg5⟩
  rw [Int.zero_add] at hs5
  have S5 := Lib.hid hs5
  have K5 := Lib.hid ((hg5.block _ (Array.getElem?_eq_some_iff.1 K4.out).1 (fun e => by have := HG.out; injection e with e; omega)).trans K4.out)
  have Y5 := Lib.hid ((hg5.block _ (Array.getElem?_eq_some_iff.1 Y4.out).1 (fun e => by have := HG.out; injection e with e; omega)).trans Y4.out)
  have D5 := Lib.hid ((hg5.block _ (Array.getElem?_eq_some_iff.1 D4.out).1 (fun e => by have := HG.out; injection e with e; omega)).trans D4.out)
  have HB5 := Lib.hid (below_of_grown HB4.out hg5 (by have := HG.out; omega) HB4.out.size)
  have HG5 : Hid (G < w5.heap.size) := (Array.getElem?_eq_some_iff.1 hs5).1
  clear hs5 hg5 qa K4 Y4 D4 HB4 S4 S3
  go_wp2_with fail
  rw [StepQ_normal]
  refine ⟨fun _ => ⟨K5.out, Y5.out, D5.out⟩, ?_⟩
  refine ⟨by kernel_rfl, ?_⟩
  rw [OnlyN_normal]
  have a0 := cells_of_blk K5.out 0 _ rfl
  have a1 := cells_of_blk K5.out 1 _ rfl
  have a2 := cells_of_blk K5.out 2 _ rfl
  have a3 := cells_of_blk K5.out 3 _ rfl
  have a4 := cells_of_blk K5.out 4 _ rfl
  gi_wp2_with (fail)
  clear a0 a1 a2 a3 a4
  refine ⟨trivial, callsIn_wide.2 ((opens_any vh vs vo vr b.n acc _).mono ?_)⟩
  rintro e w7 ⟨rfl, hw7⟩
  have HC7 : Hid (Caps w w5.heap.size (w5.heap.size + 1) vh vs vo vr b.n acc w7) := by rw [← hw7]; exact ⟨blk_old (heap_new _ _) _, blk_new _ _ _ (by simp), below_alloc (below_alloc HB5.out HB5.out.size _) (by have := HB5.out.size; simp; omega) _⟩
  have Y7 : Hid (w7.heap[w.heap.size + 1]? = some (.cells #[.int .i64 sym] 2 (0, 0))) := by rw [← hw7]; exact blk_old (blk_old Y5.out _) _
  have D7 : Hid (w7.heap[w.heap.size + 2]? = some (.cells #[.int .i64 side] 3 (0, 0))) := by rw [← hw7]; exact blk_old (blk_old D5.out _) _
  have S7 : Hid (SumAt w7 G (k2 * (1 - 2 * side) % M3)) := by rw [← hw7]; exact blk_old (blk_old S5.out _) _
  clear hw7
  gi_wp2_with (fail)
  have hgb : Hid (w5.heap.size ≠ G ∧ w5.heap.size + 1 ≠ G) := (show _ ∧ _ from by have := HG5.out; omega)
  have BO : Hid (BkAt w (.agg #[vh, vs, vo, vr, .int .i64 b.n]) b) := hb
  refine wpIn_rangeFunc_ownH hro hn1 (gf := 128) (lb := #[.pointer (some ⟨w5.heap.size, 0, none⟩), .pointer (some ⟨w5.heap.size + 1, 0, none⟩)]) rfl trivial (enters_of Try.func128 (by kernel_rfl) rfl)
    (opens_stops G w5.heap.size (w5.heap.size + 1) vh vs vo vr b acc w w7 hgb BO hs hi HC7) KpG.trans (KpG.put HC7.out.below.size) (Below.refl _ _) (fun _ => rfl)
    (fun pre W => Hid (SumAt W G ((k2 * (1 - 2 * side) + sumS sym side (pre.map OP.val)) % M3)) ∧ Hid (W.heap[w.heap.size + 1]? = some (.cells #[.int .i64 sym] 2 (0, 0))) ∧ Hid (W.heap[w.heap.size + 2]? = some (.cells #[.int .i64 side] 3 (0, 0))) ∧ Hid (Below w.heap.size w W))
    (fun _ _ _ => False)
    (OwnFrom.and (own_blk _ _ _ _) (OwnFrom.and (own_blk _ _ _ _) (OwnFrom.and (own_blk _ _ _ _) (ownFrom_below (Nat.le_refl _) HC7.out.below.size))))
    (fun _ _ _ _ _ hs _ _ => hs)
    ⟨by show SumAt _ _ _; rw [show k2 * (1 - 2 * side) + sumS sym side (([] : List OP).map OP.val) = k2 * (1 - 2 * side) by simp [sumS]]; exact S7.out, Y7.out, D7.out, HC7.out.below⟩
    (fun x a' W => ∃ Bx, Hid (Bx < W.heap.size) ∧ Hid (W.heap[Bx]? = some (.cells #[.int .i64 x.i, .int .i64 x.a, .int .i64 x.s, .int .i64 x.d, .int .i64 x.l, .int .i64 x.p] 43 (0, 0))) ∧ a' = { tmps := #[.agg #[vh, vs, vo, vr, .int .i64 b.n], .int .i64 acc, .int .i64 sym, .int .i64 side, .int .i64 qty, .pointer (some ⟨w.heap.size, 0, none⟩), undef, .pointer (some ⟨w.heap.size + 1, 0, none⟩), .pointer (some ⟨w.heap.size + 1 + 1, 0, none⟩), undef, .int .i64 0, .bool false, .pointer (some ⟨G, 0, none⟩), .pointer (some ⟨Bx, 0, none⟩), .agg #[vh, vs, vo, vr, .int .i64 b.n], .bool true, .bool false, .bool false, .int .i64 side, .bool false, .bool false, .bool false, .int .i64 side, .bool false, .bool false, .agg #[vh, vs, vo, vr, .int .i64 b.n], .int .i64 acc, .int .i64 sym, .int .i64 k2, .int .i64 side, .int .i64 (2 * side), .int .i64 (1 - 2 * side), .tuple #[], .agg #[vh, vs, vo, vr, .int .i64 b.n], .int .i64 acc, .func (.func 128) #[] #[.pointer (some ⟨w5.heap.size, 0, none⟩), .pointer (some ⟨w5.heap.size + 1, 0, none⟩)], .agg #[.int .i64 x.i, .int .i64 x.a, .int .i64 x.s, .int .i64 x.d, .int .i64 x.l, .int .i64 x.p], undef, undef, undef, undef, undef, undef, undef, undef, undef, undef, undef, undef, undef, undef, undef, undef, undef, undef], defers := [] })
    (fun x a' _ X Y row hs' hg hr => by
      obtain ⟨Bx, h1', h2', h3'⟩ := hs'
      exact ⟨Bx, Nat.lt_of_lt_of_le h1'.out hg.size, (hg.block Bx h1'.out (fun e => by obtain ⟨_, o, ho, hc⟩ := hr Bx e.symm; rw [h2'.out] at ho; cases ho; cases hc)).trans h2'.out, h3'⟩)
    ?assign ?body ?done ?stop
  case assign =>
    rintro l pre x W K ⟨i1, i2, i3, i9⟩ hK
    have hsz : w.heap.size ≤ W.heap.size := i9.out.size
    unfold OP.enc
    gi_wp2_with (fail)
    exact hK _ _ ((KeepsOthers.alloc _ _).from _) (KpG.of_below hsz (below_alloc (Below.refl _ _) (Nat.le_refl _) _)) ⟨blk_old i1.out _, blk_old i2.out _, blk_old i3.out _, below_alloc i9.out hsz _⟩ ⟨W.heap.size, by show _ < _; simp, heap_new _ _, rfl⟩
  case stop =>
    rintro D c pre W _ _ h _
    exact h.elim
  case body =>
    rintro l pre x a' W hl ⟨r, hr⟩ ⟨i1, i2, i3, i9⟩ ⟨Bx, hBx, bX, rfl⟩ hlt
    have cy := cells_of_blk i2.out 0 _ rfl
    have cd := cells_of_blk i3.out 0 _ rfl
    have x2 := cells_of_blk bX.out 2 _ rfl
    have x3 := cells_of_blk bX.out 3 _ rfl
    have x4 := cells_of_blk bX.out 4 _ rfl
    have hlB := hBx.out
    have hv : Hid (sumS sym side ((pre ++ [x]).map OP.val) = sumS sym side (pre.map OP.val) + (if x.s = sym ∧ x.d = side then x.l else 0)) := (show _ = _ from by
      rw [List.map_append, sumS_append]
      show _ + ((if x.s = sym ∧ x.d = side then x.l else 0) + 0) = _
      omega)
    have hskip : ¬ (x.s = sym ∧ x.d = side) → KeepsFrom w7.heap.size W W ∧ KpG w G W W ∧ (Hid (SumAt W G ((k2 * (1 - 2 * side) + sumS sym side ((pre ++ [x]).map OP.val)) % M3)) ∧ Hid (W.heap[w.heap.size + 1]? = some (.cells #[.int .i64 sym] 2 (0, 0))) ∧ Hid (W.heap[w.heap.size + 2]? = some (.cells #[.int .i64 side] 3 (0, 0))) ∧ Hid (Below w.heap.size w W)) := fun hn =>
      ⟨KeepsFrom.refl _ _, KpG.of_below i9.out.size (Below.refl _ _), by show SumAt _ _ _; rw [hv.out, if_neg hn, Int.add_zero]; exact i1.out, i2.out, i3.out, i9.out⟩
    have HSK := Lib.hid hskip
    clear hskip
    by_cases hq : x.s = sym
    · have tq : (x.s == sym) = true := by simp [hq]
      by_cases hd : x.d = side
      · have td : (x.d == side) = true := by simp [hd]
        have hv2 : Hid ((if x.s = sym ∧ x.d = side then x.l else 0) = x.l) := if_pos ⟨hq, hd⟩
        have qa := Lib.hid (Add_any G _ x.l (ok_mod _) x.hl W i1)
        clear hq hd HSK
        gi_wp2_with (fail)
        refine ⟨trivial, CallsIn.inRound l (callsIn_wide.2 (qa.out.mono ?_))⟩
        rintro e w9 ⟨rfl, hs9, hg9⟩
        have hN := Lib.hid (show KeepsFrom w7.heap.size W w9 ∧ KpG w G W w9 ∧ (Hid (SumAt w9 G ((k2 * (1 - 2 * side) + sumS sym side ((pre ++ [x]).map OP.val)) % M3)) ∧ Hid (w9.heap[w.heap.size + 1]? = some (.cells #[.int .i64 sym] 2 (0, 0))) ∧ Hid (w9.heap[w.heap.size + 2]? = some (.cells #[.int .i64 side] 3 (0, 0))) ∧ Hid (Below w.heap.size w w9)) from
          ⟨(KeepsOthers.of_grownBy hg9 (fun j o ej hj => by cases ej; rw [show W.heap[G]? = _ from i1.out] at hj; cases hj; rfl)).from _, KpG.of_grown i9.out.size (by have := HG.out; omega) hg9,
           by show SumAt _ _ _; rw [turn_add] at hs9; rw [hv.out, hv2.out, ← Int.add_assoc]; exact hs9,
           (hg9.block _ (Array.getElem?_eq_some_iff.1 i2.out).1 (fun e => by have := HG.out; injection e with e; omega)).trans i2.out, (hg9.block _ (Array.getElem?_eq_some_iff.1 i3.out).1 (fun e => by have := HG.out; injection e with e; omega)).trans i3.out, below_of_grown i9.out hg9 (by have := HG.out; omega) i9.out.size⟩)
        clear hs9 hg9 cy cd x2 x3 x4 qa
        gi_wp2_with (fail)
        exact hN.out
      · have td : (x.d == side) = false := by simp [hd]
        have hN := Lib.hid (HSK.out (fun h => hd h.2))
        clear hq hd HSK
        gi_wp2_with (fail)
        exact hN.out
    · have tq : (x.s == sym) = false := by simp [hq]
      have hN := Lib.hid (HSK.out (fun h => hq h.1))
      clear hq HSK
      gi_wp2_with (fail)
      exact hN.out
  case done =>
    rintro D ys W hD hys ⟨i1, i2, i3, i9⟩ hK
    have HK := Lib.hid hK
    have hlen : ys.length ≤ 1000000 := by
      have h1' : ys.length = (opensP acc b.o).length := by rw [← hys]; simp
      have h2' := opensP_len acc b.o
      have h3' := hs.out
      unfold Bk.Small at h3'
      omega
    have hbd := sumS_bound sym side ys
    have hXE : k2 * (1 - 2 * side) + sumS sym side (ys.map OP.val) + qty = reachX b acc sym side qty := by unfold reachX; rw [hys, HST.out]
    have hbd2 : -1569275433846670190958947355801916604025588861116008628224 ≤ reachX b acc sym side qty ∧ reachX b acc sym side qty ≤ 1569275433846670190958947355801916604025588861116008628224 := by
      rw [← hXE]
      have h4' : ys.length * 9223372036854775808 ≤ 1000000 * 9223372036854775808 := Nat.mul_le_mul_right _ hlen
      have h5' := prodB HI2.out (show I64 (1 - 2 * side) by unfold I64; omega)
      have h6' := hq1.out
      unfold I64 at h6'
      omega
    have qa := Lib.hid (Add_any G _ qty (ok_mod _) hq1.out W i1)
    have HXE := Lib.hid hXE
    have HBD2 := Lib.hid hbd2
    have HI9 := i9
    have HS1 := i1
    clear hK hbd hbd2 hlen hys hXE i1 i2 i3 i9
    gi_wp2_with (fail)
    refine ⟨trivial, callsIn_wide.2 (qa.out.mono ?_)⟩
    rintro e w9 ⟨rfl, hs9, hg9⟩
    rw [turn_add, HXE.out] at hs9
    have S9 := Lib.hid hs9
    have HB9 := Lib.hid (below_of_grown HI9.out hg9 (by have := HG.out; omega) HI9.out.size)
    have HK9 := Lib.hid ((hg9.block _ (Array.getElem?_eq_some_iff.1 HK.out).1 (fun e => by injection e with e; subst e; have h := HK.out; rw [show W.heap[D]? = _ from HS1.out] at h; cases h)).trans HK.out)
    clear hs9 hg9 qa
    have qt := Lib.hid (Total_any G _ (ok_mod (reachX b acc sym side qty)) w9 S9)
    rw [total_fits HBD2.out] at qt
    obtain ⟨FP, hFP⟩ : ∃ FP, fitsP (reachX b acc sym side qty) = FP := ⟨_, rfl⟩
    rw [hFP] at qt
    have HFP := Lib.hid hFP
    clear hFP
    gi_wp2_with (fail)
    refine ⟨trivial, callsIn_wide.2 (qt.out.mono ?_)⟩
    rintro e wa ⟨rfl, rfl⟩
    gi_wp2_with (fail)
    have hDw : w.heap.size ≤ D := Nat.le_trans HC7.out.below.size hD
    refine ⟨by simp, .inl ⟨_, _, rfl, run_takeDeferred HK9.out, ?_⟩⟩
    exact ⟨_, results_tmp2 rfl _ _ _, by rw [HFP.out]; rfl, HB9.out.trans (belowK_b (w := w) (Nat.le_refl _) _ D _ _ hDw HK9.out rfl rfl)⟩
end

section
open Go Go.RowKit Bg Mon
set_option linter.unusedVariables false
set_option linter.unusedSimpArgs false

set_option maxRecDepth 100000 in
set_option maxHeartbeats 16000000 in
theorem rReach_any (v : Value) (b : Bk) (acc sym side qty : Int) (w : World) (hb : Hid (BkAt w v b)) (hs : Hid b.Small) (hi : Hid b.I64s) (hq1 : Hid (I64 qty)) :
    Calls Try.prog 37 #[v, .int .i64 acc, .int .i64 sym, .int .i64 side, .int .i64 qty] w fun e w' => e = .returned (.tuple #[.int .i64 (reachR b acc sym side qty).1, .bool (reachR b acc sym side qty).2]) ∧ Below w.heap.size w w' := by
  obtain ⟨vh, vs, vo, vr, rfl, g1, g2, g3, g4⟩ := hb.out
  have LS : Hid (∀ r ∈ b.s, r.length = 3) := (by obtain ⟨_, _, _, h, _⟩ := g2; exact h)
  obtain ⟨A3, c3, rfl, hi3⟩ := g3.rec'
  have HI3 := Lib.hid hi3
  clear g1 g2 g3 g4 hi3
  have HB1 : Hid (Below w.heap.size w (w.alloc (.cells #[vh, vs, .slice A3 b.o.length c3, vr, .int .i64 b.n] 37))) := below_alloc (Below.refl _ _) (Nat.le_refl _) _
  have K1 : Hid ((w.alloc (.cells #[vh, vs, .slice A3 b.o.length c3, vr, .int .i64 b.n] 37)).heap[w.heap.size]? = some (.cells #[vh, vs, .slice A3 b.o.length c3, vr, .int .i64 b.n] 37 (0, 0))) := heap_new _ _
  have B1 : Hid (BkAt (w.alloc (.cells #[vh, vs, .slice A3 b.o.length c3, vr, .int .i64 b.n] 37)) (.agg #[vh, vs, .slice A3 b.o.length c3, vr, .int .i64 b.n]) b) := hb.out.call HB1.out
  by_cases hsd : side < 0 ∨ 1 < side
  · have he : reachR b acc sym side qty = (0, false) := if_pos hsd
    rw [he]
    have ta : (side != 0) = true := by simp; omega
    have tb : (side != 1) = true := by simp; omega
    clear he hsd
    go_enter Try.func37, Try.ntmps37
    go_wp2_with fail
    go_ret2
    exact ⟨rfl, HB1.out⟩
  have he : reachR b acc sym side qty = fitsP (reachX b acc sym side qty) := if_neg hsd
  rw [he]
  have hlo : b.o.length ≤ 999998 := by have := hs.out; unfold Bk.Small at this; omega
  have hls : b.s.length ≤ 1000000 := by have := hs.out; unfold Bk.Small at this; omega
  obtain ⟨rs, F, hl1, hx1⟩ := rec_of LS.out (isKey acc sym)
  match rs, hl1, hx1 with
  | [k0, k1, k2], _, hx1 =>
  have hst : stakeOf b acc sym = k2 := by unfold stakeOf; rw [hx1]; rfl
  have HI2 : Hid (I64 k2) := rec_I64 hi.out.2.1 hx1 k2 (by simp)
  have hside : side = 0 ∨ side = 1 := by omega
  obtain ⟨Z0, hZ0⟩ : ∃ Z0, k2 * (1 - 2 * side) = Z0 := ⟨_, rfl⟩
  obtain ⟨X, hX⟩ : ∃ X, reachX b acc sym side qty = X := ⟨_, rfl⟩
  have HX : Hid (Z0 + qty + sumS sym side (opensP acc b.o) = X) := (show _ = _ from by rw [← hX]; unfold reachX; rw [hst, hZ0]; omega)
  have HZ0 : Hid (Z0.natAbs ≤ 85070591730234615865843651857942052864) := (show _ ≤ _ from by rw [← hZ0]; exact prodB HI2.out (show I64 (1 - 2 * side) by unfold I64; omega))
  rw [hX]
  have qk := Lib.hid (rStake_any _ b acc sym k0 k1 k2 F _ B1 hls hx1)
  have qo := Lib.hid (fun w => Of_any k2 HI2.out w)
  have qn := Lib.hid (fun x w h => Neg_any x k2 w h (bigB (by have := HI2.out; unfold I64 at this; omega)))
  have qq := Lib.hid (fun w => Of_any qty hq1.out w)
  have qa := Lib.hid (fun x y w h1 h2 => BAdd_any x y Z0 qty w h1 h2 (bigB (by have := HZ0.out; omega)) (bigB (by have := hq1.out; unfold I64 at this; omega)))
  have hz1 : Hid (side = 0 → k2 = Z0) := (show _ → _ from fun h => by rw [← hZ0, h]; omega)
  have hz2 : Hid (side = 1 → -k2 = Z0) := (show _ → _ from fun h => by rw [← hZ0, h]; omega)
  have BO := hb
  clear hb he hsd hx1 hst hX hZ0 B1
  have HW : Hid (∀ (w4 : World) (G : Nat) (t : Bool) (B : Option Addr) (m d : Nat), True) := (show ∀ _ _ _ _ _ _, True from fun _ _ _ _ _ _ => trivial)
  clear HW
  go_enter Try.func37, Try.ntmps37
  rcases hside with hs0 | hs0
  · have ta : (side != 0) = false := by simp [hs0]
    have tc : (side == 1) = false := by simp [hs0]
    have HZK := Lib.hid (hz1.out hs0)
    have HS0 := Lib.hid hs0
    clear hs0
    go_wp2_with fail
    with_reducible refine qk.out.mono ?_
    rintro e w2 ⟨rfl, hb2⟩
    have K2 := Lib.hid (blk_call K1.out hb2)
    have HB2 := Lib.hid (HB1.out.trans (hb2.mono HB1.out.size))
    clear hb2 qk
    go_wp2_with fail
    with_reducible refine (qo.out _).mono ?_
    rintro e w3 ⟨⟨v3, rfl, hv3⟩, hb3⟩
    obtain ⟨t, B, m, d, rfl⟩ := hv3.form
    have V3 := Lib.hid hv3
    have K3 := Lib.hid (blk_call K2.out hb3)
    have HB3 := Lib.hid (HB2.out.trans (hb3.mono HB2.out.size))
    clear hv3 hb3 qo
    obtain ⟨G, hG⟩ : ∃ G, w3.heap.size = G := ⟨_, rfl⟩
    have hbx : Below w3.heap.size w3 (w3.alloc (.cells #[.bool t, .slice B m d] 118)) := below_alloc (Below.refl _ _) (Nat.le_refl _) _
    have KB := Lib.hid (blk_call K3.out hbx)
    have hBr := Lib.hid (HB3.out.trans (hbx.mono HB3.out.size))
    have KV := Lib.hid (V3.out.call hbx)
    have KX := Lib.hid (BigBlk.mk w3 G t (.slice B m d) hG)
    have HGw : Hid (w.heap.size < G) := (show _ < _ from by have := (Array.getElem?_eq_some_iff.1 K3.out).1; omega)
    clear hbx V3 K3 HB3
    go_wp2_with fail
    generalize w3.alloc (.cells #[.bool t, .slice B m d] 118) = w4 at *
    clear hG
    rw [HZK.out] at KV
    have lG := KX.out.lt
    have e0 := KX.out.c0
    have e1 := KX.out.c1
    have HC : ∃ x : ExtOf w4, w4.drew = x.w := ⟨⟨_, (Below.refl _ _).drew⟩, rfl⟩
    have HCb : Hid (Below w4.heap.size w4 w4.drew) := (Below.refl _ _).drew
    refine wp_region_D [4] (fun wz => ∃ x : ExtOf w4, wz = x.w) 5 #[false, false, false, false, false] (by kernel_rfl) (by kernel_rfl) (by kernel_rfl) ?_
    refine pure_moreD [0, 1] 3 (L' := #[true, true, false, false, false]) (by kernel_rfl) (by kernel_rfl) HC ?_
    simp only [opsAt, List.getElem?_toArray, List.getElem?_cons_zero, List.getElem?_cons_succ]
    refine pure_atG (.agg #[.bool t, .slice B m d]) rfl (fun wz hC => by obtain ⟨x, rfl⟩ := hC; unfold execOp; go_simp) ?_
    refine pure_moveG rfl rfl ?_
    unfold wpPure
    go_simp
    refine wpAnyD_one 2 (f := 2) (L' := #[true, true, true, false, false]) (by kernel_rfl) (by kernel_rfl) rfl rfl ?_
    go_wp2_with fail
    with_reducible refine (qq.out _).mono ?_
    rintro e wc1 ⟨⟨v7, rfl, hv7⟩, hb⟩
    have V7 := Lib.hid hv7
    clear hv7
    replace HCb : Hid (Below w4.heap.size w4 wc1) := HCb.out.trans (hb.mono HCb.out.size)
    have HC : ∃ x : ExtOf w4, wc1 = x.w := ⟨⟨_, HCb.out⟩, rfl⟩
    clear hb
    go_wp2_with fail
    rw [StepQ_normal]
    refine ⟨fun _ => HC, ?_⟩
    refine wpAnyD_one 3 (f := 1) (L' := #[true, true, true, true, false]) (by kernel_rfl) (by kernel_rfl) rfl rfl ?_
    go_wp2_with fail
    with_reducible refine (qa.out _ _ _ (Lib.hid (KV.out.call HCb.out)) V7).mono ?_
    rintro e wc2 ⟨⟨v8, rfl, hv8⟩, hb⟩
    obtain ⟨t8, B8, m8, d8, rfl⟩ := hv8.form
    have V8 := Lib.hid hv8
    clear hv8
    replace HCb : Hid (Below w4.heap.size w4 wc2) := HCb.out.trans (hb.mono HCb.out.size)
    have HC : ∃ x : ExtOf w4, wc2 = x.w := ⟨⟨_, HCb.out⟩, rfl⟩
    clear hb
    go_wp2_with fail
    rw [StepQ_normal]
    refine ⟨fun _ => HC, ?_⟩
    replace KX := Lib.hid (KX.out.call HCb.out)
    replace KB := Lib.hid (blk_call KB.out HCb.out)
    replace hBr := Lib.hid (hBr.out.trans (HCb.out.mono hBr.out.size))
    clear e0 e1 lG V7 KV HCb HC
    have e0 := KX.out.c0
    have e1 := KX.out.c1
    have e2 := KX.out.z 0
    have e3 := KX.out.z 1
    refine wpAnyD_one 4 (f := 0) (L' := #[true, true, true, true, true]) (by kernel_rfl) (by kernel_rfl) rfl rfl ?_
    go_wp2_with fail
    rw [StepQ_normal]
    refine ⟨fun h => absurd h (by decide), ?_⟩
    refine ⟨by kernel_rfl, ?_⟩
    rw [OnlyN_normal]
    have KV := Lib.hid (V8.out.store KX.out)
    replace KX := Lib.hid ((KX.out.set0 t8).set1 (.slice B8 m8 d8))
    replace KB : Hid ((((wc2.setCell ⟨G, 0, none⟩ (.bool t8)).setCell ⟨G, 1, none⟩ (.slice B8 m8 d8))).heap[w.heap.size]? = _) := set_oth (set_oth KB.out _ _ (by have := HGw.out; omega)) _ _ (by have := HGw.out; omega)
    replace hBr := Lib.hid ((hBr.out.setCell (p := ⟨G, 0, none⟩) (by have := HGw.out; show w.heap.size ≤ G; omega) (.bool t8)).setCell (p := ⟨G, 1, none⟩) (by have := HGw.out; show w.heap.size ≤ G; omega) (.slice B8 m8 d8))
    clear V8 e0 e1 e2 e3
    generalize (wc2.setCell ⟨G, 0, none⟩ (.bool t8)).setCell ⟨G, 1, none⟩ (.slice B8 m8 d8) = w9 at *
    go_wp2_with fail
    go_loopw [13, 14] (fun s9 _ wr => ∃ (j : Nat) (Z : Int) (t : Bool) (B : Option Addr) (m d : Nat), s9 = .int .i64 (j : Int) ∧ Hid (j ≤ b.o.length) ∧ Hid (BigBlk wr G t (.slice B m d)) ∧ Hid (BigAt wr (.agg #[.bool t, .slice B m d]) Z) ∧ Hid (Z + sumS sym side (opensP acc (b.o.drop j)) = X) ∧ Hid (Z.natAbs ≤ (2 + j) * 85070591730234615865843651857942052864) ∧ Hid (wr.heap[w.heap.size]? = some (.cells #[vh, vs, .slice A3 b.o.length c3, vr, .int .i64 b.n] 37 (0, 0))) ∧ Hid (Below w.heap.size w wr)) (fun s9 _ _ => b.o.length - (intOf s9).toNat)
    case atStart => exact ⟨0, _, _, _, _, _, rfl, Nat.zero_le _, KX.out, KV.out, HX.out, by have := HZ0.out; have := hq1.out; unfold I64 at this; show _ ≤ _; omega, KB.out, hBr.out⟩
    case round =>
      clear KX KV KB hBr
      obtain ⟨j, Z, t, B, m, d, rfl, hjl, KX, KV, hrest, hZ, KB, hBr⟩ := hrel
      replace hjl := hjl.out
      have cb := cells_of_blk KB.out 2 _ rfl
      have lK := (Array.getElem?_eq_some_iff.1 KB.out).1
      by_cases hin : j < b.o.length
      · have tn : decide ((j : Int) < (b.o.length : Int)) = true := decide_eq_true (by omega)
        have hge : b.o[j]? = some b.o[j] := List.getElem?_eq_getElem hin
        obtain ⟨hk, b0, o0, hA0, hbl, hc⟩ := HI3.out j _ hge
        subst hA0
        have HS := Lib.hid (opensP_step (acc := acc) hge)
        have HM : Hid (∀ x ∈ b.o[j], I64 x) := (show ∀ x ∈ b.o[j], I64 x from hi.out.2.2.1 _ (List.getElem_mem hin))
        clear hge
        generalize b.o[j] = r at *
        obtain ⟨y0, y1, y2, y3, y4, y5, rfl⟩ : ∃ y0 y1 y2 y3 y4 y5, r = [y0, y1, y2, y3, y4, y5] := by
          match r, hk with
          | [y0, y1, y2, y3, y4, y5], _ => exact ⟨y0, y1, y2, y3, y4, y5, rfl⟩
        have hb3 : (j : Int) < (b.o.length : Int) := by omega
        have hb4 : (0 : Int) ≤ (j : Int) := by omega
        have hbl3 : b0 < wr.heap.size := Nat.lt_of_lt_of_le hbl hBr.out.size
        have d0' : wr.cell? ⟨b0, o0 + j * 6, none⟩ = some (.int .i64 y0) := (hBr.out.cell (p := ⟨b0, o0 + j * 6 + 0, none⟩) hbl).trans (hc 0 _ rfl)
        have d1' : wr.cell? ⟨b0, o0 + j * 6 + 1, none⟩ = some (.int .i64 y1) := (hBr.out.cell (p := ⟨b0, o0 + j * 6 + 1, none⟩) hbl).trans (hc 1 _ rfl)
        have d2' : wr.cell? ⟨b0, o0 + j * 6 + 2, none⟩ = some (.int .i64 y2) := (hBr.out.cell (p := ⟨b0, o0 + j * 6 + 2, none⟩) hbl).trans (hc 2 _ rfl)
        have d3' : wr.cell? ⟨b0, o0 + j * 6 + 3, none⟩ = some (.int .i64 y3) := (hBr.out.cell (p := ⟨b0, o0 + j * 6 + 3, none⟩) hbl).trans (hc 3 _ rfl)
        have d4' : wr.cell? ⟨b0, o0 + j * 6 + 4, none⟩ = some (.int .i64 y4) := (hBr.out.cell (p := ⟨b0, o0 + j * 6 + 4, none⟩) hbl).trans (hc 4 _ rfl)
        have d5' : wr.cell? ⟨b0, o0 + j * 6 + 5, none⟩ = some (.int .i64 y5) := (hBr.out.cell (p := ⟨b0, o0 + j * 6 + 5, none⟩) hbl).trans (hc 5 _ rfl)
        have lG := KX.out.lt
        obtain ⟨wx, hwx⟩ : ∃ wx, wr.alloc (.cells #[.int .i64 y0, .int .i64 y1, .int .i64 y2, .int .i64 y3, .int .i64 y4, .int .i64 y5] 43) = wx := ⟨_, rfl⟩
        have hbx : Below wr.heap.size wr wx := by rw [← hwx]; exact below_alloc (Below.refl _ _) (Nat.le_refl _) _
        have KO : Hid (wx.heap[wr.heap.size]? = some (.cells #[.int .i64 y0, .int .i64 y1, .int .i64 y2, .int .i64 y3, .int .i64 y4, .int .i64 y5] 43 (0, 0))) := by rw [← hwx]; exact heap_new _ _
        replace KX := Lib.hid (KX.out.call hbx)
        replace KV := Lib.hid (KV.out.call hbx)
        replace KB := Lib.hid (blk_call KB.out hbx)
        replace hBr := Lib.hid (hBr.out.trans (hbx.mono hBr.out.size))
        have HWX := Lib.hid hwx
        have HZ2 : Hid (Z.natAbs ≤ (2 + (j + 1)) * 85070591730234615865843651857942052864) := (Nat.le_trans hZ.out (Nat.mul_le_mul_right _ (by omega)))
        have hskip : ¬ (y1 = acc ∧ y2 = sym ∧ y3 = side) → Z + sumS sym side (opensP acc (b.o.drop (j + 1))) = X := fun hn => by
          rw [← hrest.out, HS.out]
          by_cases h1 : y1 = acc
          · rw [if_pos (show ([y0, y1, y2, y3, y4, y5] : List Int).getD 1 0 = acc from h1)]
            show _ = Z + ((if y2 = sym ∧ y3 = side then y4 else 0) + _)
            rw [if_neg (fun h => hn ⟨h1, h.1, h.2⟩)]; omega
          · rw [if_neg (show ¬ ([y0, y1, y2, y3, y4, y5] : List Int).getD 1 0 = acc from h1)]
        have HSK := Lib.hid hskip
        have htake : (y1 = acc ∧ y2 = sym ∧ y3 = side) → Z + y4 + sumS sym side (opensP acc (b.o.drop (j + 1))) = X := fun hn => by
          rw [← hrest.out, HS.out, if_pos (show ([y0, y1, y2, y3, y4, y5] : List Int).getD 1 0 = acc from hn.1)]
          show _ = Z + ((if y2 = sym ∧ y3 = side then y4 else 0) + _)
          rw [if_pos hn.2]; omega
        have HTK := Lib.hid htake
        clear hc hk hwx hbx hskip htake HS
        by_cases q1 : y1 = acc
        · have tq1 : (y1 == acc) = true := by simp [q1]
          by_cases q2 : y2 = sym
          · have tq2 : (y2 == sym) = true := by simp [q2]
            by_cases q3 : y3 = side
            · have tq3 : (y3 == side) = true := by simp [q3]
              have HS2 := Lib.hid (HTK.out ⟨q1, q2, q3⟩)
              have HQ4 : Hid (I64 y4) := HM.out y4 (by simp)
              have HZ3 : Hid ((Z + y4).natAbs ≤ (2 + (j + 1)) * 85070591730234615865843651857942052864) := (show _ ≤ _ from by
                have h1' := hZ.out
                have h2' := HQ4.out
                unfold I64 at h2'
                omega)
              have bZ : Z.natAbs < 10000 ^ 40 := bigB (Nat.le_trans hZ.out (Nat.mul_le_mul_right _ (by omega)))
              have bY : y4.natAbs < 10000 ^ 40 := bigB (by have := HQ4.out; unfold I64 at this; omega)
              have fm := Lib.hid (fun w => Of_any y4 HQ4.out w)
              have fa := Lib.hid (fun x y w h1 h2 => BAdd_any x y Z y4 w h1 h2 bZ bY)
              clear q1 q2 q3 bZ bY HSK HTK
              go_wp2_with fail
              rw [HWX.out]
              clear d0' d1' d2' d3' d4' d5' cb lK lG hbl3
              have lG := KX.out.lt
              have lO := (Array.getElem?_eq_some_iff.1 KO.out).1
              have e0 := KX.out.c0
              have e1 := KX.out.c1
              have x4 := cells_of_blk KO.out 4 _ rfl
              have HC : ∃ x : ExtOf wx, wx.drew = x.w := ⟨⟨_, (Below.refl _ _).drew⟩, rfl⟩
              have HCb : Hid (Below wx.heap.size wx wx.drew) := (Below.refl _ _).drew
              refine wp_region_D [5] (fun wz => ∃ x : ExtOf wx, wz = x.w) 6 #[false, false, false, false, false, false] (by kernel_rfl) (by kernel_rfl) (by kernel_rfl) ?_
              refine pure_moreD [0, 1, 2] 3 (L' := #[true, true, true, false, false, false]) (by kernel_rfl) (by kernel_rfl) HC ?_
              simp only [opsAt, List.getElem?_toArray, List.getElem?_cons_zero, List.getElem?_cons_succ]
              refine pure_atG (.agg #[.bool t, .slice B m d]) rfl (fun wz hC => by obtain ⟨x, rfl⟩ := hC; unfold execOp; go_simp) ?_
              refine pure_atG (.pointer (some ⟨wr.heap.size, 4, none⟩)) rfl (fun wz _ => by unfold execOp; go_simp) ?_
              refine pure_atG (.int .i64 y4) rfl (fun wz hC => by obtain ⟨x, rfl⟩ := hC; unfold execOp; go_simp) ?_
              unfold wpPure
              go_simp
              refine wpAnyD_one 3 (f := 2) (L' := #[true, true, true, true, false, false]) (by kernel_rfl) (by kernel_rfl) rfl rfl ?_
              go_wp2_with fail
              with_reducible refine (fm.out _).mono ?_
              rintro e wc1 ⟨⟨v5, rfl, hv5⟩, hb⟩
              have V5 := Lib.hid hv5
              clear hv5
              replace HCb : Hid (Below wx.heap.size wx wc1) := HCb.out.trans (hb.mono HCb.out.size)
              have HC : ∃ x : ExtOf wx, wc1 = x.w := ⟨⟨_, HCb.out⟩, rfl⟩
              clear hb
              go_wp2_with fail
              rw [StepQ_normal]
              refine ⟨fun _ => HC, ?_⟩
              refine wpAnyD_one 4 (f := 1) (L' := #[true, true, true, true, true, false]) (by kernel_rfl) (by kernel_rfl) rfl rfl ?_
              go_wp2_with fail
              with_reducible refine (fa.out _ _ _ (Lib.hid (KV.out.call HCb.out)) V5).mono ?_
              rintro e wc2 ⟨⟨v6, rfl, hv6⟩, hb⟩
              obtain ⟨t6, B6, m6, d6, rfl⟩ := hv6.form
              have V6 := Lib.hid hv6
              clear hv6
              replace HCb : Hid (Below wx.heap.size wx wc2) := HCb.out.trans (hb.mono HCb.out.size)
              have HC : ∃ x : ExtOf wx, wc2 = x.w := ⟨⟨_, HCb.out⟩, rfl⟩
              clear hb
              go_wp2_with fail
              rw [StepQ_normal]
              refine ⟨fun _ => HC, ?_⟩
              replace KX := Lib.hid (KX.out.call HCb.out)
              replace KB := Lib.hid (blk_call KB.out HCb.out)
              replace hBr := Lib.hid (hBr.out.trans (HCb.out.mono hBr.out.size))
              clear e0 e1 lG lO x4 V5 KV HCb HC
              have e0 := KX.out.c0
              have e1 := KX.out.c1
              have e2 := KX.out.z 0
              have e3 := KX.out.z 1
              refine wpAnyD_one 5 (f := 0) (L' := #[true, true, true, true, true, true]) (by kernel_rfl) (by kernel_rfl) rfl rfl ?_
              go_wp2_with fail
              rw [StepQ_normal]
              refine ⟨fun h => absurd h (by decide), ?_⟩
              refine ⟨by kernel_rfl, ?_⟩
              rw [OnlyN_normal]
              have KV := Lib.hid (V6.out.store KX.out)
              replace KX := Lib.hid ((KX.out.set0 t6).set1 (.slice B6 m6 d6))
              replace KB : Hid ((((wc2.setCell ⟨G, 0, none⟩ (.bool t6)).setCell ⟨G, 1, none⟩ (.slice B6 m6 d6))).heap[w.heap.size]? = _) := set_oth (set_oth KB.out _ _ (by have := HGw.out; omega)) _ _ (by have := HGw.out; omega)
              replace hBr := Lib.hid ((hBr.out.setCell (p := ⟨G, 0, none⟩) (by have := HGw.out; show w.heap.size ≤ G; omega) (.bool t6)).setCell (p := ⟨G, 1, none⟩) (by have := HGw.out; show w.heap.size ≤ G; omega) (.slice B6 m6 d6))
              clear V6 e0 e1 e2 e3
              go_wp2_with fail
              go_roundw
              case rel => exact ⟨j + 1, _, _, _, _, _, by go_num, by show _ ≤ _; omega, KX.out, KV.out, HS2.out, HZ3.out, KB.out, hBr.out⟩
              case measure => simp [intOf]; omega
            · have tq3 : (y3 == side) = false := by simp [q3]
              have HS2 := Lib.hid (HSK.out (fun h => q3 h.2.2))
              clear q1 q2 q3 HSK HTK
              go_wp2_with fail
              rw [HWX.out]
              clear d0' d1' d2' d3' d4' d5' cb lK lG hbl3
              go_roundw
              case rel => exact ⟨j + 1, Z, t, B, m, d, by go_num, by show _ ≤ _; omega, KX.out, KV.out, HS2.out, HZ2.out, KB.out, hBr.out⟩
              case measure => simp [intOf]; omega
          · have tq2 : (y2 == sym) = false := by simp [q2]
            have HS2 := Lib.hid (HSK.out (fun h => q2 h.2.1))
            clear q1 q2 HSK HTK
            go_wp2_with fail
            rw [HWX.out]
            clear d0' d1' d2' d3' d4' d5' cb lK lG hbl3
            go_roundw
            case rel => exact ⟨j + 1, Z, t, B, m, d, by go_num, by show _ ≤ _; omega, KX.out, KV.out, HS2.out, HZ2.out, KB.out, hBr.out⟩
            case measure => simp [intOf]; omega
        · have tq1 : (y1 == acc) = false := by simp [q1]
          have HS2 := Lib.hid (HSK.out (fun h => q1 h.1))
          clear q1 HSK HTK
          go_wp2_with fail
          rw [HWX.out]
          clear d0' d1' d2' d3' d4' d5' cb lK lG hbl3
          go_roundw
          case rel => exact ⟨j + 1, Z, t, B, m, d, by go_num, by show _ ≤ _; omega, KX.out, KV.out, HS2.out, HZ2.out, KB.out, hBr.out⟩
          case measure => simp [intOf]; omega
      · have tn : decide ((j : Int) < (b.o.length : Int)) = false := decide_eq_false (by omega)
        have hZX : Z = X := by rw [← hrest.out, List.drop_eq_nil_of_le (by omega)]; simp [opensP, sumS]
        have bX : X.natAbs < 10000 ^ 40 := bigB (by rw [← hZX]; exact Nat.le_trans hZ.out (Nat.mul_le_mul_right _ (by omega)))
        rw [hZX] at KV
        have qf := Lib.hid (fun x w h => Fits_any x X w h bX)
        have e0 := KX.out.c0
        have e1 := KX.out.c1
        clear hrest hZ hZX bX
        go_wp2_with fail
        with_reducible refine (qf.out _ _ KV).mono ?_
        rintro e w5 ⟨rfl, hb5⟩
        have HB5 := Lib.hid (hBr.out.trans (hb5.mono hBr.out.size))
        clear hb5
        go_wp2_with fail
        go_ret2
        exact ⟨rfl, HB5.out⟩
  · have ta : (side != 0) = true := by simp [hs0]
    have tb : (side != 1) = false := by simp [hs0]
    have tc : (side == 1) = true := by simp [hs0]
    have HZK := Lib.hid (hz2.out hs0)
    have HS0 := Lib.hid hs0
    clear hs0
    go_wp2_with fail
    with_reducible refine qk.out.mono ?_
    rintro e w2 ⟨rfl, hb2⟩
    have K2 := Lib.hid (blk_call K1.out hb2)
    have HB2 := Lib.hid (HB1.out.trans (hb2.mono HB1.out.size))
    clear hb2 qk
    go_wp2_with fail
    with_reducible refine (qo.out _).mono ?_
    rintro e w3 ⟨⟨v3, rfl, hv3⟩, hb3⟩
    obtain ⟨t, B, m, d, rfl⟩ := hv3.form
    have V3 := Lib.hid hv3
    have K3 := Lib.hid (blk_call K2.out hb3)
    have HB3 := Lib.hid (HB2.out.trans (hb3.mono HB2.out.size))
    clear hv3 hb3 qo
    obtain ⟨G, hG⟩ : ∃ G, w3.heap.size = G := ⟨_, rfl⟩
    have hbx : Below w3.heap.size w3 (w3.alloc (.cells #[.bool t, .slice B m d] 118)) := below_alloc (Below.refl _ _) (Nat.le_refl _) _
    have KB := Lib.hid (blk_call K3.out hbx)
    have hBr := Lib.hid (HB3.out.trans (hbx.mono HB3.out.size))
    have KV := Lib.hid (V3.out.call hbx)
    have KX := Lib.hid (BigBlk.mk w3 G t (.slice B m d) hG)
    have HGw : Hid (w.heap.size < G) := (show _ < _ from by have := (Array.getElem?_eq_some_iff.1 K3.out).1; omega)
    clear hbx V3 K3 HB3
    go_wp2_with fail
    generalize w3.alloc (.cells #[.bool t, .slice B m d] 118) = w4 at *
    clear hG
    have e0 := KX.out.c0
    have e1 := KX.out.c1
    go_wp2_with fail
    with_reducible refine (qn.out _ _ KV).mono ?_
    rintro e w5 ⟨⟨v5, rfl, hv5⟩, hb5⟩
    obtain ⟨t5, B5, m5, d5, rfl⟩ := hv5.form
    have V5 := Lib.hid hv5
    replace KX := Lib.hid (KX.out.call hb5)
    replace KB := Lib.hid (blk_call KB.out hb5)
    replace hBr := Lib.hid (hBr.out.trans (hb5.mono hBr.out.size))
    clear hv5 hb5 KV e0 e1 qn
    have e0 := KX.out.c0
    have e1 := KX.out.c1
    have e2 := KX.out.z 0
    have e3 := KX.out.z 1
    go_wp2_with fail
    have KV := Lib.hid (V5.out.store KX.out)
    replace KX := Lib.hid ((KX.out.set0 t5).set1 (.slice B5 m5 d5))
    replace KB : Hid ((((w5.setCell ⟨G, 0, none⟩ (.bool t5)).setCell ⟨G, 1, none⟩ (.slice B5 m5 d5))).heap[w.heap.size]? = _) := set_oth (set_oth KB.out _ _ (by have := HGw.out; omega)) _ _ (by have := HGw.out; omega)
    replace hBr := Lib.hid ((hBr.out.setCell (p := ⟨G, 0, none⟩) (by have := HGw.out; show w.heap.size ≤ G; omega) (.bool t5)).setCell (p := ⟨G, 1, none⟩) (by have := HGw.out; show w.heap.size ≤ G; omega) (.slice B5 m5 d5))
    clear V5 e0 e1 e2 e3
    generalize (w5.setCell ⟨G, 0, none⟩ (.bool t5)).setCell ⟨G, 1, none⟩ (.slice B5 m5 d5) = w6 at *
    clear w5
    rw [HZK.out] at KV
    have lG := KX.out.lt
    have e0 := KX.out.c0
    have e1 := KX.out.c1
    have HC : ∃ x : ExtOf w6, w6.drew = x.w := ⟨⟨_, (Below.refl _ _).drew⟩, rfl⟩
    have HCb : Hid (Below w6.heap.size w6 w6.drew) := (Below.refl _ _).drew
    refine wp_region_D [4] (fun wz => ∃ x : ExtOf w6, wz = x.w) 5 #[false, false, false, false, false] (by kernel_rfl) (by kernel_rfl) (by kernel_rfl) ?_
    refine pure_moreD [0, 1] 3 (L' := #[true, true, false, false, false]) (by kernel_rfl) (by kernel_rfl) HC ?_
    simp only [opsAt, List.getElem?_toArray, List.getElem?_cons_zero, List.getElem?_cons_succ]
    refine pure_atG (.agg #[.bool t5, .slice B5 m5 d5]) rfl (fun wz hC => by obtain ⟨x, rfl⟩ := hC; unfold execOp; go_simp) ?_
    refine pure_moveG rfl rfl ?_
    unfold wpPure
    go_simp
    refine wpAnyD_one 2 (f := 2) (L' := #[true, true, true, false, false]) (by kernel_rfl) (by kernel_rfl) rfl rfl ?_
    go_wp2_with fail
    with_reducible refine (qq.out _).mono ?_
    rintro e wc1 ⟨⟨v7, rfl, hv7⟩, hb⟩
    have V7 := Lib.hid hv7
    clear hv7
    replace HCb : Hid (Below w6.heap.size w6 wc1) := HCb.out.trans (hb.mono HCb.out.size)
    have HC : ∃ x : ExtOf w6, wc1 = x.w := ⟨⟨_, HCb.out⟩, rfl⟩
    clear hb
    go_wp2_with fail
    rw [StepQ_normal]
    refine ⟨fun _ => HC, ?_⟩
    refine wpAnyD_one 3 (f := 1) (L' := #[true, true, true, true, false]) (by kernel_rfl) (by kernel_rfl) rfl rfl ?_
    go_wp2_with fail
    with_reducible refine (qa.out _ _ _ (Lib.hid (KV.out.call HCb.out)) V7).mono ?_
    rintro e wc2 ⟨⟨v8, rfl, hv8⟩, hb⟩
    obtain ⟨t8, B8, m8, d8, rfl⟩ := hv8.form
    have V8 := Lib.hid hv8
    clear hv8
    replace HCb : Hid (Below w6.heap.size w6 wc2) := HCb.out.trans (hb.mono HCb.out.size)
    have HC : ∃ x : ExtOf w6, wc2 = x.w := ⟨⟨_, HCb.out⟩, rfl⟩
    clear hb
    go_wp2_with fail
    rw [StepQ_normal]
    refine ⟨fun _ => HC, ?_⟩
    replace KX := Lib.hid (KX.out.call HCb.out)
    replace KB := Lib.hid (blk_call KB.out HCb.out)
    replace hBr := Lib.hid (hBr.out.trans (HCb.out.mono hBr.out.size))
    clear e0 e1 lG V7 KV HCb HC
    have e0 := KX.out.c0
    have e1 := KX.out.c1
    have e2 := KX.out.z 0
    have e3 := KX.out.z 1
    refine wpAnyD_one 4 (f := 0) (L' := #[true, true, true, true, true]) (by kernel_rfl) (by kernel_rfl) rfl rfl ?_
    go_wp2_with fail
    rw [StepQ_normal]
    refine ⟨fun h => absurd h (by decide), ?_⟩
    refine ⟨by kernel_rfl, ?_⟩
    rw [OnlyN_normal]
    have KV := Lib.hid (V8.out.store KX.out)
    replace KX := Lib.hid ((KX.out.set0 t8).set1 (.slice B8 m8 d8))
    replace KB : Hid ((((wc2.setCell ⟨G, 0, none⟩ (.bool t8)).setCell ⟨G, 1, none⟩ (.slice B8 m8 d8))).heap[w.heap.size]? = _) := set_oth (set_oth KB.out _ _ (by have := HGw.out; omega)) _ _ (by have := HGw.out; omega)
    replace hBr := Lib.hid ((hBr.out.setCell (p := ⟨G, 0, none⟩) (by have := HGw.out; show w.heap.size ≤ G; omega) (.bool t8)).setCell (p := ⟨G, 1, none⟩) (by have := HGw.out; show w.heap.size ≤ G; omega) (.slice B8 m8 d8))
    clear V8 e0 e1 e2 e3
    generalize (wc2.setCell ⟨G, 0, none⟩ (.bool t8)).setCell ⟨G, 1, none⟩ (.slice B8 m8 d8) = w9 at *
    go_wp2_with fail
    go_loopw [13, 14] (fun s9 _ wr => ∃ (j : Nat) (Z : Int) (t : Bool) (B : Option Addr) (m d : Nat), s9 = .int .i64 (j : Int) ∧ Hid (j ≤ b.o.length) ∧ Hid (BigBlk wr G t (.slice B m d)) ∧ Hid (BigAt wr (.agg #[.bool t, .slice B m d]) Z) ∧ Hid (Z + sumS sym side (opensP acc (b.o.drop j)) = X) ∧ Hid (Z.natAbs ≤ (2 + j) * 85070591730234615865843651857942052864) ∧ Hid (wr.heap[w.heap.size]? = some (.cells #[vh, vs, .slice A3 b.o.length c3, vr, .int .i64 b.n] 37 (0, 0))) ∧ Hid (Below w.heap.size w wr)) (fun s9 _ _ => b.o.length - (intOf s9).toNat)
    case atStart => exact ⟨0, _, _, _, _, _, rfl, Nat.zero_le _, KX.out, KV.out, HX.out, by have := HZ0.out; have := hq1.out; unfold I64 at this; show _ ≤ _; omega, KB.out, hBr.out⟩
    case round =>
      clear KX KV KB hBr
      obtain ⟨j, Z, t, B, m, d, rfl, hjl, KX, KV, hrest, hZ, KB, hBr⟩ := hrel
      replace hjl := hjl.out
      have cb := cells_of_blk KB.out 2 _ rfl
      have lK := (Array.getElem?_eq_some_iff.1 KB.out).1
      by_cases hin : j < b.o.length
      · have tn : decide ((j : Int) < (b.o.length : Int)) = true := decide_eq_true (by omega)
        have hge : b.o[j]? = some b.o[j] := List.getElem?_eq_getElem hin
        obtain ⟨hk, b0, o0, hA0, hbl, hc⟩ := HI3.out j _ hge
        subst hA0
        have HS := Lib.hid (opensP_step (acc := acc) hge)
        have HM : Hid (∀ x ∈ b.o[j], I64 x) := (show ∀ x ∈ b.o[j], I64 x from hi.out.2.2.1 _ (List.getElem_mem hin))
        clear hge
        generalize b.o[j] = r at *
        obtain ⟨y0, y1, y2, y3, y4, y5, rfl⟩ : ∃ y0 y1 y2 y3 y4 y5, r = [y0, y1, y2, y3, y4, y5] := by
          match r, hk with
          | [y0, y1, y2, y3, y4, y5], _ => exact ⟨y0, y1, y2, y3, y4, y5, rfl⟩
        have hb3 : (j : Int) < (b.o.length : Int) := by omega
        have hb4 : (0 : Int) ≤ (j : Int) := by omega
        have hbl3 : b0 < wr.heap.size := Nat.lt_of_lt_of_le hbl hBr.out.size
        have d0' : wr.cell? ⟨b0, o0 + j * 6, none⟩ = some (.int .i64 y0) := (hBr.out.cell (p := ⟨b0, o0 + j * 6 + 0, none⟩) hbl).trans (hc 0 _ rfl)
        have d1' : wr.cell? ⟨b0, o0 + j * 6 + 1, none⟩ = some (.int .i64 y1) := (hBr.out.cell (p := ⟨b0, o0 + j * 6 + 1, none⟩) hbl).trans (hc 1 _ rfl)
        have d2' : wr.cell? ⟨b0, o0 + j * 6 + 2, none⟩ = some (.int .i64 y2) := (hBr.out.cell (p := ⟨b0, o0 + j * 6 + 2, none⟩) hbl).trans (hc 2 _ rfl)
        have d3' : wr.cell? ⟨b0, o0 + j * 6 + 3, none⟩ = some (.int .i64 y3) := (hBr.out.cell (p := ⟨b0, o0 + j * 6 + 3, none⟩) hbl).trans (hc 3 _ rfl)
        have d4' : wr.cell? ⟨b0, o0 + j * 6 + 4, none⟩ = some (.int .i64 y4) := (hBr.out.cell (p := ⟨b0, o0 + j * 6 + 4, none⟩) hbl).trans (hc 4 _ rfl)
        have d5' : wr.cell? ⟨b0, o0 + j * 6 + 5, none⟩ = some (.int .i64 y5) := (hBr.out.cell (p := ⟨b0, o0 + j * 6 + 5, none⟩) hbl).trans (hc 5 _ rfl)
        have lG := KX.out.lt
        obtain ⟨wx, hwx⟩ : ∃ wx, wr.alloc (.cells #[.int .i64 y0, .int .i64 y1, .int .i64 y2, .int .i64 y3, .int .i64 y4, .int .i64 y5] 43) = wx := ⟨_, rfl⟩
        have hbx : Below wr.heap.size wr wx := by rw [← hwx]; exact below_alloc (Below.refl _ _) (Nat.le_refl _) _
        have KO : Hid (wx.heap[wr.heap.size]? = some (.cells #[.int .i64 y0, .int .i64 y1, .int .i64 y2, .int .i64 y3, .int .i64 y4, .int .i64 y5] 43 (0, 0))) := by rw [← hwx]; exact heap_new _ _
        replace KX := Lib.hid (KX.out.call hbx)
        replace KV := Lib.hid (KV.out.call hbx)
        replace KB := Lib.hid (blk_call KB.out hbx)
        replace hBr := Lib.hid (hBr.out.trans (hbx.mono hBr.out.size))
        have HWX := Lib.hid hwx
        have HZ2 : Hid (Z.natAbs ≤ (2 + (j + 1)) * 85070591730234615865843651857942052864) := (Nat.le_trans hZ.out (Nat.mul_le_mul_right _ (by omega)))
        have hskip : ¬ (y1 = acc ∧ y2 = sym ∧ y3 = side) → Z + sumS sym side (opensP acc (b.o.drop (j + 1))) = X := fun hn => by
          rw [← hrest.out, HS.out]
          by_cases h1 : y1 = acc
          · rw [if_pos (show ([y0, y1, y2, y3, y4, y5] : List Int).getD 1 0 = acc from h1)]
            show _ = Z + ((if y2 = sym ∧ y3 = side then y4 else 0) + _)
            rw [if_neg (fun h => hn ⟨h1, h.1, h.2⟩)]; omega
          · rw [if_neg (show ¬ ([y0, y1, y2, y3, y4, y5] : List Int).getD 1 0 = acc from h1)]
        have HSK := Lib.hid hskip
        have htake : (y1 = acc ∧ y2 = sym ∧ y3 = side) → Z + y4 + sumS sym side (opensP acc (b.o.drop (j + 1))) = X := fun hn => by
          rw [← hrest.out, HS.out, if_pos (show ([y0, y1, y2, y3, y4, y5] : List Int).getD 1 0 = acc from hn.1)]
          show _ = Z + ((if y2 = sym ∧ y3 = side then y4 else 0) + _)
          rw [if_pos hn.2]; omega
        have HTK := Lib.hid htake
        clear hc hk hwx hbx hskip htake HS
        by_cases q1 : y1 = acc
        · have tq1 : (y1 == acc) = true := by simp [q1]
          by_cases q2 : y2 = sym
          · have tq2 : (y2 == sym) = true := by simp [q2]
            by_cases q3 : y3 = side
            · have tq3 : (y3 == side) = true := by simp [q3]
              have HS2 := Lib.hid (HTK.out ⟨q1, q2, q3⟩)
              have HQ4 : Hid (I64 y4) := HM.out y4 (by simp)
              have HZ3 : Hid ((Z + y4).natAbs ≤ (2 + (j + 1)) * 85070591730234615865843651857942052864) := (show _ ≤ _ from by
                have h1' := hZ.out
                have h2' := HQ4.out
                unfold I64 at h2'
                omega)
              have bZ : Z.natAbs < 10000 ^ 40 := bigB (Nat.le_trans hZ.out (Nat.mul_le_mul_right _ (by omega)))
              have bY : y4.natAbs < 10000 ^ 40 := bigB (by have := HQ4.out; unfold I64 at this; omega)
              have fm := Lib.hid (fun w => Of_any y4 HQ4.out w)
              have fa := Lib.hid (fun x y w h1 h2 => BAdd_any x y Z y4 w h1 h2 bZ bY)
              clear q1 q2 q3 bZ bY HSK HTK
              go_wp2_with fail
              rw [HWX.out]
              clear d0' d1' d2' d3' d4' d5' cb lK lG hbl3
              have lG := KX.out.lt
              have lO := (Array.getElem?_eq_some_iff.1 KO.out).1
              have e0 := KX.out.c0
              have e1 := KX.out.c1
              have x4 := cells_of_blk KO.out 4 _ rfl
              have HC : ∃ x : ExtOf wx, wx.drew = x.w := ⟨⟨_, (Below.refl _ _).drew⟩, rfl⟩
              have HCb : Hid (Below wx.heap.size wx wx.drew) := (Below.refl _ _).drew
              refine wp_region_D [5] (fun wz => ∃ x : ExtOf wx, wz = x.w) 6 #[false, false, false, false, false, false] (by kernel_rfl) (by kernel_rfl) (by kernel_rfl) ?_
              refine pure_moreD [0, 1, 2] 3 (L' := #[true, true, true, false, false, false]) (by kernel_rfl) (by kernel_rfl) HC ?_
              simp only [opsAt, List.getElem?_toArray, List.getElem?_cons_zero, List.getElem?_cons_succ]
              refine pure_atG (.agg #[.bool t, .slice B m d]) rfl (fun wz hC => by obtain ⟨x, rfl⟩ := hC; unfold execOp; go_simp) ?_
              refine pure_atG (.pointer (some ⟨wr.heap.size, 4, none⟩)) rfl (fun wz _ => by unfold execOp; go_simp) ?_
              refine pure_atG (.int .i64 y4) rfl (fun wz hC => by obtain ⟨x, rfl⟩ := hC; unfold execOp; go_simp) ?_
              unfold wpPure
              go_simp
              refine wpAnyD_one 3 (f := 2) (L' := #[true, true, true, true, false, false]) (by kernel_rfl) (by kernel_rfl) rfl rfl ?_
              go_wp2_with fail
              with_reducible refine (fm.out _).mono ?_
              rintro e wc1 ⟨⟨v5, rfl, hv5⟩, hb⟩
              have V5 := Lib.hid hv5
              clear hv5
              replace HCb : Hid (Below wx.heap.size wx wc1) := HCb.out.trans (hb.mono HCb.out.size)
              have HC : ∃ x : ExtOf wx, wc1 = x.w := ⟨⟨_, HCb.out⟩, rfl⟩
              clear hb
              go_wp2_with fail
              rw [StepQ_normal]
              refine ⟨fun _ => HC, ?_⟩
              refine wpAnyD_one 4 (f := 1) (L' := #[true, true, true, true, true, false]) (by kernel_rfl) (by kernel_rfl) rfl rfl ?_
              go_wp2_with fail
              with_reducible refine (fa.out _ _ _ (Lib.hid (KV.out.call HCb.out)) V5).mono ?_
              rintro e wc2 ⟨⟨v6, rfl, hv6⟩, hb⟩
              obtain ⟨t6, B6, m6, d6, rfl⟩ := hv6.form
              have V6 := Lib.hid hv6
              clear hv6
              replace HCb : Hid (Below wx.heap.size wx wc2) := HCb.out.trans (hb.mono HCb.out.size)
              have HC : ∃ x : ExtOf wx, wc2 = x.w := ⟨⟨_, HCb.out⟩, rfl⟩
              clear hb
              go_wp2_with fail
              rw [StepQ_normal]
              refine ⟨fun _ => HC, ?_⟩
              replace KX := Lib.hid (KX.out.call HCb.out)
              replace KB := Lib.hid (blk_call KB.out HCb.out)
              replace hBr := Lib.hid (hBr.out.trans (HCb.out.mono hBr.out.size))
              clear e0 e1 lG lO x4 V5 KV HCb HC
              have e0 := KX.out.c0
              have e1 := KX.out.c1
              have e2 := KX.out.z 0
              have e3 := KX.out.z 1
              refine wpAnyD_one 5 (f := 0) (L' := #[true, true, true, true, true, true]) (by kernel_rfl) (by kernel_rfl) rfl rfl ?_
              go_wp2_with fail
              rw [StepQ_normal]
              refine ⟨fun h => absurd h (by decide), ?_⟩
              refine ⟨by kernel_rfl, ?_⟩
              rw [OnlyN_normal]
              have KV := Lib.hid (V6.out.store KX.out)
              replace KX := Lib.hid ((KX.out.set0 t6).set1 (.slice B6 m6 d6))
              replace KB : Hid ((((wc2.setCell ⟨G, 0, none⟩ (.bool t6)).setCell ⟨G, 1, none⟩ (.slice B6 m6 d6))).heap[w.heap.size]? = _) := set_oth (set_oth KB.out _ _ (by have := HGw.out; omega)) _ _ (by have := HGw.out; omega)
              replace hBr := Lib.hid ((hBr.out.setCell (p := ⟨G, 0, none⟩) (by have := HGw.out; show w.heap.size ≤ G; omega) (.bool t6)).setCell (p := ⟨G, 1, none⟩) (by have := HGw.out; show w.heap.size ≤ G; omega) (.slice B6 m6 d6))
              clear V6 e0 e1 e2 e3
              go_wp2_with fail
              go_roundw
              case rel => exact ⟨j + 1, _, _, _, _, _, by go_num, by show _ ≤ _; omega, KX.out, KV.out, HS2.out, HZ3.out, KB.out, hBr.out⟩
              case measure => simp [intOf]; omega
            · have tq3 : (y3 == side) = false := by simp [q3]
              have HS2 := Lib.hid (HSK.out (fun h => q3 h.2.2))
              clear q1 q2 q3 HSK HTK
              go_wp2_with fail
              rw [HWX.out]
              clear d0' d1' d2' d3' d4' d5' cb lK lG hbl3
              go_roundw
              case rel => exact ⟨j + 1, Z, t, B, m, d, by go_num, by show _ ≤ _; omega, KX.out, KV.out, HS2.out, HZ2.out, KB.out, hBr.out⟩
              case measure => simp [intOf]; omega
          · have tq2 : (y2 == sym) = false := by simp [q2]
            have HS2 := Lib.hid (HSK.out (fun h => q2 h.2.1))
            clear q1 q2 HSK HTK
            go_wp2_with fail
            rw [HWX.out]
            clear d0' d1' d2' d3' d4' d5' cb lK lG hbl3
            go_roundw
            case rel => exact ⟨j + 1, Z, t, B, m, d, by go_num, by show _ ≤ _; omega, KX.out, KV.out, HS2.out, HZ2.out, KB.out, hBr.out⟩
            case measure => simp [intOf]; omega
        · have tq1 : (y1 == acc) = false := by simp [q1]
          have HS2 := Lib.hid (HSK.out (fun h => q1 h.1))
          clear q1 HSK HTK
          go_wp2_with fail
          rw [HWX.out]
          clear d0' d1' d2' d3' d4' d5' cb lK lG hbl3
          go_roundw
          case rel => exact ⟨j + 1, Z, t, B, m, d, by go_num, by show _ ≤ _; omega, KX.out, KV.out, HS2.out, HZ2.out, KB.out, hBr.out⟩
          case measure => simp [intOf]; omega
      · have tn : decide ((j : Int) < (b.o.length : Int)) = false := decide_eq_false (by omega)
        have hZX : Z = X := by rw [← hrest.out, List.drop_eq_nil_of_le (by omega)]; simp [opensP, sumS]
        have bX : X.natAbs < 10000 ^ 40 := bigB (by rw [← hZX]; exact Nat.le_trans hZ.out (Nat.mul_le_mul_right _ (by omega)))
        rw [hZX] at KV
        have qf := Lib.hid (fun x w h => Fits_any x X w h bX)
        have e0 := KX.out.c0
        have e1 := KX.out.c1
        clear hrest hZ hZX bX
        go_wp2_with fail
        with_reducible refine (qf.out _ _ KV).mono ?_
        rintro e w5 ⟨rfl, hb5⟩
        have HB5 := Lib.hid (hBr.out.trans (hb5.mono hBr.out.size))
        clear hb5
        go_wp2_with fail
        go_ret2
        exact ⟨rfl, HB5.out⟩
end

section
open Go Go.RowKit Go.Shelf Mon
set_option linter.unusedVariables false
set_option linter.unusedSimpArgs false

theorem results_tmp4 {fn : Func} {t u v x : Tmp} (h : fn.results = #[.tmp t, .tmp u, .tmp v, .tmp x]) (tmps : Array Value) (P : Program) (w : World) :
    (results fn tmps).run P w = .ok (.tuple #[tmps.getD t undef, tmps.getD u undef, tmps.getD v undef, tmps.getD x undef]) w := by
  simp [results, h]

set_option maxRecDepth 100000 in
set_option maxHeartbeats 2000000 in
theorem lessM_any (g : Nat) (V a b : Int) (hV : Ok V) (ha : I64 a) (hb : I64 b) (w : World) (hS : Hid (SumAt w g V)) :
    Calls Try.prog 91 #[.pointer (some ⟨g, 0, none⟩), .int .i64 a, .int .i64 b] w fun r w' =>
      r = .returned (.tuple #[]) ∧ SumAt w' g ((V - a * b) % M3) ∧ w.grownBy w' (some g) := by
  by_cases h : a = -9223372036854775808
  · have ta : (a == -9223372036854775808) = true := by simp [h]
    have q1 := Lib.hid (AddMul_any g V 4611686018427387904 b hV (by unfold I64; omega) hb w hS)
    have HE : Hid (a = -9223372036854775808) := h
    have HB := Lib.hid hb
    clear h ha hb hV
    go_enter Try.func91, Try.ntmps91
    go_wp2_with fail
    with_reducible refine q1.out.mono ?_
    rintro e w1 ⟨rfl, hs1, hg1⟩
    have q2 := Lib.hid (AddMul_any g _ 4611686018427387904 b (ok_mod _) (by unfold I64; omega) HB.out w1 (Lib.hid hs1))
    have G1 := Lib.hid hg1
    clear hs1 hg1
    go_wp2_with fail
    with_reducible refine q2.out.mono ?_
    rintro e w2 ⟨rfl, hs2, hg2⟩
    rw [turn_add] at hs2
    have S2 := Lib.hid hs2
    have G2 := Lib.hid hg2
    clear hs2 hg2
    go_wp2_with fail
    refine bodyPost_ret (results_none rfl _ _ _) rfl ?_
    refine ⟨rfl, ?_, grown_trans G1.out G2.out⟩
    rw [show V - a * b = V + 4611686018427387904 * b + 4611686018427387904 * b by rw [HE.out]; omega]
    exact S2.out
  · have ta : (a == -9223372036854775808) = false := by simp [h]
    have hn : IntKind.i64.wrap (-a) = -a := by rw [IntKind.wrap_i64]; unfold I64 at ha; omega
    have q1 := Lib.hid (AddMul_any g V (-a) b hV (by unfold I64 at *; omega) hb w hS)
    clear h ha hb hV
    go_enter Try.func91, Try.ntmps91
    go_wp2_with fail
    with_reducible refine q1.out.mono ?_
    rintro e w1 ⟨rfl, hs1, hg1⟩
    have S1 := Lib.hid hs1
    have G1 := Lib.hid hg1
    clear hs1 hg1
    go_wp2_with fail
    go_end0
    refine ⟨rfl, ?_, G1.out⟩
    rw [show V - a * b = V + -a * b by rw [Int.neg_mul]; omega]
    exact S1.out

def afterR (b : Bk) (acc sym side qty price : Int) : (Int × Bool) × (Int × Bool) :=
  if side < 0 ∨ 1 < side then ((0, false), (0, false))
  else (fitsP (cashOf b acc + (if side = 0 then -(qty * price) else qty * price)), fitsP (stakeOf b acc sym + (if side = 0 then qty else -qty)))
def afterP (b : Bk) (acc sym side qty price : Int) : (Int × Bool) × (Int × Bool) := if b.mayB then afterR b acc sym side qty price else ((0, false), (0, false))

set_option maxRecDepth 100000 in
set_option maxHeartbeats 8000000 in
theorem After_any (v : Value) (b : Bk) (id acc sym side left px qty price : Int) (w : World) (hb : Hid (BkAt w v b)) (hs : Hid b.Small) (hi : Hid b.I64s) (hq1 : Hid (I64 qty)) (hp1 : Hid (I64 price)) :
    Calls Try.prog 38 #[v, .agg #[.int .i64 id, .int .i64 acc, .int .i64 sym, .int .i64 side, .int .i64 left, .int .i64 px], .int .i64 qty, .int .i64 price] w fun e w' => e = .returned (.tuple #[.int .i64 (afterP b acc sym side qty price).1.1, .int .i64 (afterP b acc sym side qty price).2.1, .bool (afterP b acc sym side qty price).1.2, .bool (afterP b acc sym side qty price).2.2]) ∧ Below w.heap.size w w' := by
  obtain ⟨vh, vs, vo, vr, rfl, g1, g2, g3, g4⟩ := hb.out
  have LH : Hid (∀ r ∈ b.h, r.length = 4) := (by obtain ⟨_, _, _, h, _⟩ := g1; exact h)
  have LS : Hid (∀ r ∈ b.s, r.length = 3) := (by obtain ⟨_, _, _, h, _⟩ := g2; exact h)
  clear g1 g2 g3 g4
  obtain ⟨w1, hw1⟩ : ∃ w1, (w.alloc (.cells #[vh, vs, vo, vr, .int .i64 b.n] 37)).alloc (.cells #[.int .i64 id, .int .i64 acc, .int .i64 sym, .int .i64 side, .int .i64 left, .int .i64 px] 43) = w1 := ⟨_, rfl⟩
  have HB1 : Hid (Below w.heap.size w w1) := by rw [← hw1]; exact below_alloc (below_alloc (Below.refl _ _) (Nat.le_refl _) _) (by simp) _
  have K1 : Hid (w1.heap[w.heap.size]? = some (.cells #[vh, vs, vo, vr, .int .i64 b.n] 37 (0, 0))) := by rw [← hw1]; exact blk_old (heap_new _ _) _
  have O1 : Hid (w1.heap[w.heap.size + 1]? = some (.cells #[.int .i64 id, .int .i64 acc, .int .i64 sym, .int .i64 side, .int .i64 left, .int .i64 px] 43 (0, 0))) := by rw [← hw1]; exact blk_new _ _ _ (by simp)
  have B1 : Hid (BkAt w1 (.agg #[vh, vs, vo, vr, .int .i64 b.n]) b) := hb.out.call HB1.out
  have qm := Lib.hid (BkMay_any _ b _ B1 hs)
  replace hw1 := Lib.hid hw1
  cases hm : b.mayB with
  | false =>
    have he : afterP b acc sym side qty price = ((0, false), (0, false)) := by unfold afterP; rw [hm]; rfl
    rw [he]
    rw [hm] at qm
    clear hm he
    go_enter Try.func38, Try.ntmps38
    go_wp2_with fail
    rw [hw1.out]
    with_reducible refine qm.out.mono ?_
    rintro e w2 ⟨rfl, hb2⟩
    have HB2 := Lib.hid (HB1.out.trans (hb2.mono HB1.out.size))
    clear hb2
    go_wp2_with fail
    refine bodyPost_ret (results_tmp4 rfl _ _ _) rfl ?_
    exact ⟨rfl, HB2.out⟩
  | true =>
  have he : afterP b acc sym side qty price = afterR b acc sym side qty price := by unfold afterP; rw [hm]; rfl
  rw [he]
  rw [hm] at qm
  have HR := Lib.hid (mayB_rise hm)
  clear hm he
  by_cases hsd : side < 0 ∨ 1 < side
  · have he : afterR b acc sym side qty price = ((0, false), (0, false)) := if_pos hsd
    rw [he]
    clear he
    go_enter Try.func38, Try.ntmps38
    go_wp2_with fail
    rw [hw1.out]
    with_reducible refine qm.out.mono ?_
    rintro e w2 ⟨rfl, hb2⟩
    have c0 := cells_of_blk (blk_call O1.out hb2) 3 _ rfl
    have HB2 := Lib.hid (HB1.out.trans (hb2.mono HB1.out.size))
    clear hb2
    by_cases h0 : side < 0
    · have t0 : decide (side < 0) = true := decide_eq_true h0
      clear hsd h0
      go_wp2_with fail
      refine bodyPost_ret (results_tmp4 rfl _ _ _) rfl ?_
      exact ⟨rfl, HB2.out⟩
    · have t0 : decide (side < 0) = false := decide_eq_false h0
      have t1 : decide (1 < side) = true := decide_eq_true (by omega)
      clear hsd h0
      go_wp2_with fail
      refine bodyPost_ret (results_tmp4 rfl _ _ _) rfl ?_
      exact ⟨rfl, HB2.out⟩
  obtain ⟨rh, FH, hl1, hx1⟩ := rec_of LH.out (isId acc)
  match rh, hl1, hx1 with
  | [h0, h1, h2, h3], _, hx1 =>
  obtain ⟨rs, FS, hl2, hx2⟩ := rec_of LS.out (isKey acc sym)
  match rs, hl2, hx2 with
  | [k0, k1, k2], _, hx2 =>
  have hc : cashOf b acc = h1 := by unfold cashOf; rw [hx1]; rfl
  have hst : stakeOf b acc sym = k2 := by unfold stakeOf; rw [hx2]; rfl
  have HI1 : Hid (I64 h1) := rec_I64 hi.out.1 hx1 h1 (by simp)
  have HI2 : Hid (I64 k2) := rec_I64 hi.out.2.1 hx2 k2 (by simp)
  have HX1 := Lib.hid hx1
  have HX2 := Lib.hid hx2
  have F1 : b.h.length ≤ 1000000 := by have := hs.out; unfold Bk.Small at this; omega
  have F2 : b.s.length ≤ 1000000 := by have := hs.out; unfold Bk.Small at this; omega
  have qh := Lib.hid (fun u wz hv => Holder_any u b acc h0 h1 h2 h3 FH wz hv F1 (Lib.hid HR.out.1) HX1)
  have qs := Lib.hid (fun u wz hv => Stake_any u b acc sym k0 k1 k2 FS wz hv F2 (Lib.hid HR.out.2.2.2) HX2)
  have he : afterR b acc sym side qty price = (fitsP (h1 + (if side = 0 then -(qty * price) else qty * price)), fitsP (k2 + (if side = 0 then qty else -qty))) := by unfold afterR; rw [if_neg hsd, hc, hst]
  obtain ⟨FP, hFP⟩ : ∃ FP, fitsP (h1 + (if side = 0 then -(qty * price) else qty * price)) = FP := ⟨_, rfl⟩
  obtain ⟨FQ, hFQ⟩ : ∃ FQ, fitsP (k2 + (if side = 0 then qty else -qty)) = FQ := ⟨_, rfl⟩
  rw [he, hFP, hFQ]
  have HFP := Lib.hid hFP
  have HFQ := Lib.hid hFQ
  have hside : side = 0 ∨ side = 1 := by omega
  have t0 : decide (side < 0) = false := decide_eq_false (by omega)
  have t1 : decide (1 < side) = false := decide_eq_false (by omega)
  clear he hsd hx1 hx2 hc hst F1 F2 hFP hFQ
  go_enter Try.func38, Try.ntmps38
  go_wp2_with fail
  rw [hw1.out]
  with_reducible refine qm.out.mono ?_
  rintro e w2 ⟨rfl, hb⟩
  have K2 := Lib.hid (blk_call K1.out hb)
  have O2 := Lib.hid (blk_call O1.out hb)
  have B2 := Lib.hid (B1.out.call hb)
  have HB2 := Lib.hid (HB1.out.trans (hb.mono HB1.out.size))
  clear hb qm
  have c0 := cells_of_blk O2.out 3 _ rfl
  have c1 := cells_of_blk O2.out 1 _ rfl
  have a0 := cells_of_blk K2.out 0 _ rfl
  have a1 := cells_of_blk K2.out 1 _ rfl
  have a2 := cells_of_blk K2.out 2 _ rfl
  have a3 := cells_of_blk K2.out 3 _ rfl
  have a4 := cells_of_blk K2.out 4 _ rfl
  go_wp2_with fail
  with_reducible refine (qh.out _ _ B2).mono ?_
  rintro e w3 ⟨rfl, hb⟩
  have K3 := Lib.hid (blk_call K2.out hb)
  have O3 := Lib.hid (blk_call O2.out hb)
  have B3 := Lib.hid (B2.out.call hb)
  have HB3 := Lib.hid (HB2.out.trans (hb.mono HB2.out.size))
  clear hb a0 a1 a2 a3 a4 c0 c1 qh
  obtain ⟨GC, hGC⟩ : ∃ GC, w3.heap.size + 1 = GC := ⟨_, rfl⟩
  have k1 := sum_new (w3.alloc (.cells #[.int .i64 h0, .int .i64 h1, .int .i64 h2, .int .i64 h3] 39))
  have k2' := sum_new ((w3.alloc (.cells #[.int .i64 h0, .int .i64 h1, .int .i64 h2, .int .i64 h3] 39)).alloc (.cells #[.int .u64 0, .int .u64 0, .int .u64 0] 105))
  rw [World.size_alloc, hGC] at k1
  rw [World.size_alloc, World.size_alloc, hGC] at k2'
  have hbx : Below w3.heap.size w3 (((w3.alloc (.cells #[.int .i64 h0, .int .i64 h1, .int .i64 h2, .int .i64 h3] 39)).alloc (.cells #[.int .u64 0, .int .u64 0, .int .u64 0] 105)).alloc (.cells #[.int .u64 0, .int .u64 0, .int .u64 0] 105)) := below_alloc (below_alloc (below_alloc (Below.refl _ _) (Nat.le_refl _) _) (by simp) _) (by simp; omega) _
  have K4 := Lib.hid (blk_call K3.out hbx)
  have O4 := Lib.hid (blk_call O3.out hbx)
  have B4 := Lib.hid (B3.out.call hbx)
  have HB4 := Lib.hid (HB3.out.trans (hbx.mono HB3.out.size))
  have SC4 := Lib.hid (blk_old k1 (.cells #[.int .u64 0, .int .u64 0, .int .u64 0] 105))
  have SS4 := Lib.hid k2'
  have ch := cells_of_blk (blk_old (blk_old (heap_new w3 (.cells #[.int .i64 h0, .int .i64 h1, .int .i64 h2, .int .i64 h3] 39)) (.cells #[.int .u64 0, .int .u64 0, .int .u64 0] 105)) (.cells #[.int .u64 0, .int .u64 0, .int .u64 0] 105)) 1 _ rfl
  have HG : Hid (w.heap.size + 1 < GC) := (show _ < _ from by have := (Array.getElem?_eq_some_iff.1 O3.out).1; omega)
  have qa := Lib.hid (Add_any GC 0 h1 (by unfold Ok M3; omega) HI1.out _ SC4)
  clear hbx k1 k2'
  go_wp2_with fail
  with_reducible refine qa.out.mono ?_
  rintro e w5 ⟨rfl, hsX, hgX⟩
  rw [Int.zero_add] at hsX
  have K5 := Lib.hid ((hgX.block _ (Array.getElem?_eq_some_iff.1 K4.out).1 (fun e => by have := HG.out; injection e with e; omega)).trans K4.out)
  have O5 := Lib.hid ((hgX.block _ (Array.getElem?_eq_some_iff.1 O4.out).1 (fun e => by have := HG.out; injection e with e; omega)).trans O4.out)
  have HB5 := Lib.hid (below_of_grown HB4.out hgX (by have := HG.out; omega) HB4.out.size)
  have SC5 := Lib.hid hsX
  have SS5 := Lib.hid (SS4.out.oth hgX (by omega))
  clear hsX hgX
  have B5 : Hid (BkAt w5 (.agg #[vh, vs, vo, vr, .int .i64 b.n]) b) := hb.out.call HB5.out
  clear qa K4 O4 B4 HB4 SC4 SS4 ch
  have c1 := cells_of_blk O5.out 1 _ rfl
  have c2 := cells_of_blk O5.out 2 _ rfl
  have a0 := cells_of_blk K5.out 0 _ rfl
  have a1 := cells_of_blk K5.out 1 _ rfl
  have a2 := cells_of_blk K5.out 2 _ rfl
  have a3 := cells_of_blk K5.out 3 _ rfl
  have a4 := cells_of_blk K5.out 4 _ rfl
  go_wp2_with fail
  with_reducible refine (qs.out _ _ B5).mono ?_
  rintro e w6 ⟨rfl, hb6⟩
  have K6 := Lib.hid (blk_call K5.out hb6)
  have O6 := Lib.hid (blk_call O5.out hb6)
  have HB6 := Lib.hid (HB5.out.trans (hb6.mono HB5.out.size))
  have SC6 := Lib.hid (SC5.out.call hb6)
  have SS6 := Lib.hid (SS5.out.call hb6)
  clear hb6 a0 a1 a2 a3 a4 c1 c2 qs B5
  have qa := Lib.hid (Add_any (GC + 1) 0 k2 (by unfold Ok M3; omega) HI2.out _ SS6)
  go_wp2_with fail
  with_reducible refine qa.out.mono ?_
  rintro e w7 ⟨rfl, hsX, hgX⟩
  rw [Int.zero_add] at hsX
  have K7 := Lib.hid ((hgX.block _ (Array.getElem?_eq_some_iff.1 K6.out).1 (fun e => by have := HG.out; injection e with e; omega)).trans K6.out)
  have O7 := Lib.hid ((hgX.block _ (Array.getElem?_eq_some_iff.1 O6.out).1 (fun e => by have := HG.out; injection e with e; omega)).trans O6.out)
  have HB7 := Lib.hid (below_of_grown HB6.out hgX (by have := HG.out; omega) HB6.out.size)
  have SS7 := Lib.hid hsX
  have SC7 := Lib.hid (SC6.out.oth hgX (by omega))
  clear hsX hgX
  clear qa K6 O6 HB6 SC6 SS6
  have c3 := cells_of_blk O7.out 3 _ rfl
  rcases hside with hs0 | hs0
  · have ts : (side == 0) = true := by simp [hs0]
    obtain ⟨X, hX⟩ : ∃ X, h1 + -(qty * price) = X := ⟨_, rfl⟩
    obtain ⟨Y, hY⟩ : ∃ Y, k2 + qty = Y := ⟨_, rfl⟩
    have hBX : -1569275433846670190958947355801916604025588861116008628224 ≤ X ∧ X ≤ 1569275433846670190958947355801916604025588861116008628224 := by
      have h5' := prodB hq1.out hp1.out
      have h6' := HI1.out
      unfold I64 at h6'
      omega
    have hBY : -1569275433846670190958947355801916604025588861116008628224 ≤ Y ∧ Y ≤ 1569275433846670190958947355801916604025588861116008628224 := by
      have h5' := hq1.out
      have h6' := HI2.out
      unfold I64 at h6' h5'
      omega
    have HBX := Lib.hid hBX
    have HBY := Lib.hid hBY
    have HXE : Hid ((h1 % M3 - qty * price) % M3 = X % M3) := (show _ = _ from by rw [← hX]; unfold M3; omega)
    have HYE : Hid ((k2 % M3 + qty) % M3 = Y % M3) := (show _ = _ from by rw [← hY]; unfold M3; omega)
    have HPX : Hid (fitsP X = FP) := (show _ = _ from by rw [← HFP.out, if_pos hs0, hX])
    have HQY : Hid (fitsP Y = FQ) := (show _ = _ from by rw [← HFQ.out, if_pos hs0, hY])
    clear hX hY hBX hBY hs0
    have qa := Lib.hid (Add_any (GC + 1) _ qty (ok_mod _) hq1.out _ SS7)
    go_wp2_with fail
    with_reducible refine qa.out.mono ?_
    rintro e w8 ⟨rfl, hsX, hgX⟩
    skip
    have K8 := Lib.hid ((hgX.block _ (Array.getElem?_eq_some_iff.1 K7.out).1 (fun e => by have := HG.out; injection e with e; omega)).trans K7.out)
    have O8 := Lib.hid ((hgX.block _ (Array.getElem?_eq_some_iff.1 O7.out).1 (fun e => by have := HG.out; injection e with e; omega)).trans O7.out)
    have HB8 := Lib.hid (below_of_grown HB7.out hgX (by have := HG.out; omega) HB7.out.size)
    have SS8 := Lib.hid hsX
    have SC8 := Lib.hid (SC7.out.oth hgX (by omega))
    clear hsX hgX
    clear c3
    have ql := Lib.hid (lessM_any GC _ qty price (ok_mod _) hq1.out hp1.out _ SC8)
    go_wp2_with fail
    with_reducible refine ql.out.mono ?_
    rintro e w9 ⟨rfl, hsX, hgX⟩
    skip
    have K9 := Lib.hid ((hgX.block _ (Array.getElem?_eq_some_iff.1 K8.out).1 (fun e => by have := HG.out; injection e with e; omega)).trans K8.out)
    have O9 := Lib.hid ((hgX.block _ (Array.getElem?_eq_some_iff.1 O8.out).1 (fun e => by have := HG.out; injection e with e; omega)).trans O8.out)
    have HB9 := Lib.hid (below_of_grown HB8.out hgX (by have := HG.out; omega) HB8.out.size)
    have SC9 := Lib.hid hsX
    have SS9 := Lib.hid (SS8.out.oth hgX (by omega))
    clear hsX hgX
    have qt := Lib.hid (Total_any GC _ (ok_mod X) w9 (by rw [← HXE.out]; exact SC9))
    rw [total_fits HBX.out] at qt
    have qu := Lib.hid (Total_any (GC + 1) _ (ok_mod Y) w9 (by rw [← HYE.out]; exact SS9))
    rw [total_fits HBY.out] at qu
    rw [HPX.out] at qt
    rw [HQY.out] at qu
    go_wp2_with fail
    with_reducible refine qt.out.mono ?_
    rintro e wa ⟨rfl, rfl⟩
    go_wp2_with fail
    with_reducible refine qu.out.mono ?_
    rintro e wb ⟨rfl, rfl⟩
    go_wp2_with fail
    refine bodyPost_ret (results_tmp4 rfl _ _ _) rfl ?_
    exact ⟨rfl, HB9.out⟩
  · have ts : (side == 0) = false := by simp [hs0]
    obtain ⟨X, hX⟩ : ∃ X, h1 + qty * price = X := ⟨_, rfl⟩
    obtain ⟨Y, hY⟩ : ∃ Y, k2 + -qty = Y := ⟨_, rfl⟩
    have hBX : -1569275433846670190958947355801916604025588861116008628224 ≤ X ∧ X ≤ 1569275433846670190958947355801916604025588861116008628224 := by
      have h5' := prodB hq1.out hp1.out
      have h6' := HI1.out
      unfold I64 at h6'
      omega
    have hBY : -1569275433846670190958947355801916604025588861116008628224 ≤ Y ∧ Y ≤ 1569275433846670190958947355801916604025588861116008628224 := by
      have h5' := hq1.out
      have h6' := HI2.out
      unfold I64 at h6' h5'
      omega
    have HBX := Lib.hid hBX
    have HBY := Lib.hid hBY
    have HXE : Hid ((h1 % M3 + qty * price) % M3 = X % M3) := (show _ = _ from by rw [← hX]; unfold M3; omega)
    have HYE : Hid ((k2 % M3 - qty * 1) % M3 = Y % M3) := (show _ = _ from by rw [← hY]; unfold M3; omega)
    have HPX : Hid (fitsP X = FP) := (show _ = _ from by rw [← HFP.out, if_neg (show ¬ side = 0 by omega), hX])
    have HQY : Hid (fitsP Y = FQ) := (show _ = _ from by rw [← HFQ.out, if_neg (show ¬ side = 0 by omega), hY])
    clear hX hY hBX hBY hs0
    have ql := Lib.hid (lessM_any (GC + 1) _ qty 1 (ok_mod _) hq1.out (by unfold I64; omega) _ SS7)
    go_wp2_with fail
    with_reducible refine ql.out.mono ?_
    rintro e w8 ⟨rfl, hsX, hgX⟩
    skip
    have K8 := Lib.hid ((hgX.block _ (Array.getElem?_eq_some_iff.1 K7.out).1 (fun e => by have := HG.out; injection e with e; omega)).trans K7.out)
    have O8 := Lib.hid ((hgX.block _ (Array.getElem?_eq_some_iff.1 O7.out).1 (fun e => by have := HG.out; injection e with e; omega)).trans O7.out)
    have HB8 := Lib.hid (below_of_grown HB7.out hgX (by have := HG.out; omega) HB7.out.size)
    have SS8 := Lib.hid hsX
    have SC8 := Lib.hid (SC7.out.oth hgX (by omega))
    clear hsX hgX
    clear c3
    have qa := Lib.hid (AddMul_any GC _ qty price (ok_mod _) hq1.out hp1.out _ SC8)
    go_wp2_with fail
    with_reducible refine qa.out.mono ?_
    rintro e w9 ⟨rfl, hsX, hgX⟩
    skip
    have K9 := Lib.hid ((hgX.block _ (Array.getElem?_eq_some_iff.1 K8.out).1 (fun e => by have := HG.out; injection e with e; omega)).trans K8.out)
    have O9 := Lib.hid ((hgX.block _ (Array.getElem?_eq_some_iff.1 O8.out).1 (fun e => by have := HG.out; injection e with e; omega)).trans O8.out)
    have HB9 := Lib.hid (below_of_grown HB8.out hgX (by have := HG.out; omega) HB8.out.size)
    have SC9 := Lib.hid hsX
    have SS9 := Lib.hid (SS8.out.oth hgX (by omega))
    clear hsX hgX
    have qt := Lib.hid (Total_any GC _ (ok_mod X) w9 (by rw [← HXE.out]; exact SC9))
    rw [total_fits HBX.out] at qt
    have qu := Lib.hid (Total_any (GC + 1) _ (ok_mod Y) w9 (by rw [← HYE.out]; exact SS9))
    rw [total_fits HBY.out] at qu
    rw [HPX.out] at qt
    rw [HQY.out] at qu
    go_wp2_with fail
    with_reducible refine qt.out.mono ?_
    rintro e wa ⟨rfl, rfl⟩
    go_wp2_with fail
    with_reducible refine qu.out.mono ?_
    rintro e wb ⟨rfl, rfl⟩
    go_wp2_with fail
    refine bodyPost_ret (results_tmp4 rfl _ _ _) rfl ?_
    exact ⟨rfl, HB9.out⟩
end

section
open Go Go.RowKit Bg Mon
set_option linter.unusedVariables false
set_option linter.unusedSimpArgs false

set_option maxRecDepth 100000 in
set_option maxHeartbeats 16000000 in
theorem rAfter_any (v : Value) (b : Bk) (id acc sym side left px qty price : Int) (w : World) (hb : Hid (BkAt w v b)) (hs : Hid b.Small) (hi : Hid b.I64s) (hq1 : Hid (I64 qty)) (hp1 : Hid (I64 price)) :
    Calls Try.prog 39 #[v, .agg #[.int .i64 id, .int .i64 acc, .int .i64 sym, .int .i64 side, .int .i64 left, .int .i64 px], .int .i64 qty, .int .i64 price] w fun e w' => e = .returned (.tuple #[.int .i64 (afterR b acc sym side qty price).1.1, .int .i64 (afterR b acc sym side qty price).2.1, .bool (afterR b acc sym side qty price).1.2, .bool (afterR b acc sym side qty price).2.2]) ∧ Below w.heap.size w w' := by
  obtain ⟨vh, vs, vo, vr, rfl, g1, g2, g3, g4⟩ := hb.out
  have LH : Hid (∀ r ∈ b.h, r.length = 4) := (by obtain ⟨_, _, _, h, _⟩ := g1; exact h)
  have LS : Hid (∀ r ∈ b.s, r.length = 3) := (by obtain ⟨_, _, _, h, _⟩ := g2; exact h)
  clear g1 g2 g3 g4
  obtain ⟨w1, hw1⟩ : ∃ w1, (w.alloc (.cells #[vh, vs, vo, vr, .int .i64 b.n] 37)).alloc (.cells #[.int .i64 id, .int .i64 acc, .int .i64 sym, .int .i64 side, .int .i64 left, .int .i64 px] 43) = w1 := ⟨_, rfl⟩
  have HB1 : Hid (Below w.heap.size w w1) := by rw [← hw1]; exact below_alloc (below_alloc (Below.refl _ _) (Nat.le_refl _) _) (by simp) _
  have K1 : Hid (w1.heap[w.heap.size]? = some (.cells #[vh, vs, vo, vr, .int .i64 b.n] 37 (0, 0))) := by rw [← hw1]; exact blk_old (heap_new _ _) _
  have O1 : Hid (w1.heap[w.heap.size + 1]? = some (.cells #[.int .i64 id, .int .i64 acc, .int .i64 sym, .int .i64 side, .int .i64 left, .int .i64 px] 43 (0, 0))) := by rw [← hw1]; exact blk_new _ _ _ (by simp)
  have B1 : Hid (BkAt w1 (.agg #[vh, vs, vo, vr, .int .i64 b.n]) b) := hb.out.call HB1.out
  replace hw1 := Lib.hid hw1
  by_cases hsd : side < 0 ∨ 1 < side
  · have he : afterR b acc sym side qty price = ((0, false), (0, false)) := if_pos hsd
    rw [he]
    have ta : (side != 0) = true := by simp; omega
    have tb : (side != 1) = true := by simp; omega
    clear he hsd
    go_enter Try.func39, Try.ntmps39
    go_wp2_with fail
    rw [hw1.out]
    refine bodyPost_ret (results_tmp4 rfl _ _ _) rfl ?_
    exact ⟨rfl, HB1.out⟩
  obtain ⟨rh, FH, hl1, hx1⟩ := rec_of LH.out (isId acc)
  match rh, hl1, hx1 with
  | [h0, h1, h2, h3], _, hx1 =>
  obtain ⟨rs, FS, hl2, hx2⟩ := rec_of LS.out (isKey acc sym)
  match rs, hl2, hx2 with
  | [k0, k1, k2], _, hx2 =>
  have hc : cashOf b acc = h1 := by unfold cashOf; rw [hx1]; rfl
  have hst : stakeOf b acc sym = k2 := by unfold stakeOf; rw [hx2]; rfl
  have HI1 : Hid (I64 h1) := rec_I64 hi.out.1 hx1 h1 (by simp)
  have HI2 : Hid (I64 k2) := rec_I64 hi.out.2.1 hx2 k2 (by simp)
  have HX1 := Lib.hid hx1
  have HX2 := Lib.hid hx2
  have F1 : b.h.length ≤ 1000000 := by have := hs.out; unfold Bk.Small at this; omega
  have F2 : b.s.length ≤ 1000000 := by have := hs.out; unfold Bk.Small at this; omega
  have qh := Lib.hid (fun u wz hv => rHolder_any u b acc h0 h1 h2 h3 FH wz hv F1 HX1)
  have qs := Lib.hid (fun u wz hv => rStake_any u b acc sym k0 k1 k2 FS wz hv F2 HX2)
  have he : afterR b acc sym side qty price = (fitsP (h1 + (if side = 0 then -(qty * price) else qty * price)), fitsP (k2 + (if side = 0 then qty else -qty))) := by unfold afterR; rw [if_neg hsd, hc, hst]
  obtain ⟨FP, hFP⟩ : ∃ FP, fitsP (h1 + (if side = 0 then -(qty * price) else qty * price)) = FP := ⟨_, rfl⟩
  obtain ⟨FQ, hFQ⟩ : ∃ FQ, fitsP (k2 + (if side = 0 then qty else -qty)) = FQ := ⟨_, rfl⟩
  rw [he, hFP, hFQ]
  have hside : side = 0 ∨ side = 1 := by omega
  have HPB : Hid ((qty * price).natAbs ≤ 85070591730234615865843651857942052864) := prodB hq1.out hp1.out
  obtain ⟨QP, hQP⟩ : ∃ QP, qty * price = QP := ⟨_, rfl⟩
  have ql := Lib.hid (fun wz => rmul_any qty price hq1.out hp1.out wz)
  rw [hQP] at HPB ql hFP
  have HFP := Lib.hid hFP
  have HFQ := Lib.hid hFQ
  have qo := Lib.hid (fun wz => Of_any qty hq1.out wz)
  have qp := Lib.hid (fun wz => Of_any h1 HI1.out wz)
  have qr := Lib.hid (fun wz => Of_any k2 HI2.out wz)
  have HL1 : Hid (h1.natAbs ≤ 9223372036854775808) := (show _ ≤ _ from by have := HI1.out; unfold I64 at this; omega)
  have HL2 : Hid (k2.natAbs ≤ 9223372036854775808) := (show _ ≤ _ from by have := HI2.out; unfold I64 at this; omega)
  have HL3 : Hid (qty.natAbs ≤ 9223372036854775808) := (show _ ≤ _ from by have := hq1.out; unfold I64 at this; omega)
  have qnP := Lib.hid (fun x wz h => Neg_any x QP wz h (bigB (by have := HPB.out; omega)))
  have qnQ := Lib.hid (fun x wz h => Neg_any x qty wz h (bigB (by have := HL3.out; omega)))
  clear he hsd hx1 hx2 hc hst F1 F2 hFP hFQ hQP
  go_enter Try.func39, Try.ntmps39
  rcases hside with hs0 | hs0
  · have ta : (side != 0) = false := by simp [hs0]
    have tc : (side == 0) = true := by simp [hs0]
    have HP2 : Hid (fitsP (h1 + -QP) = FP) := (show _ = _ from by rw [← HFP.out, if_pos hs0])
    have HQ2 : Hid (fitsP (k2 + qty) = FQ) := (show _ = _ from by rw [← HFQ.out, if_pos hs0])
    clear hs0
    go_wp2_with fail
    rw [hw1.out]
    with_reducible refine (qh.out _ _ B1).mono ?_
    rintro e w3 ⟨rfl, hb⟩
    have K3 := Lib.hid (blk_call K1.out hb)
    have O3 := Lib.hid (blk_call O1.out hb)
    have HB3 := Lib.hid (HB1.out.trans (hb.mono HB1.out.size))
    clear hb qh
    obtain ⟨GH, hGH⟩ : ∃ GH, w3.heap.size = GH := ⟨_, rfl⟩
    have hbx : Below w3.heap.size w3 (w3.alloc (.cells #[.int .i64 h0, .int .i64 h1, .int .i64 h2, .int .i64 h3] 39)) := below_alloc (Below.refl _ _) (Nat.le_refl _) _
    have K4 := Lib.hid (blk_call K3.out hbx)
    have O4 := Lib.hid (blk_call O3.out hbx)
    have HB4 := Lib.hid (HB3.out.trans (hbx.mono HB3.out.size))
    have H4 := Lib.hid (heap_new w3 (.cells #[.int .i64 h0, .int .i64 h1, .int .i64 h2, .int .i64 h3] 39))
    rw [hGH] at H4
    have HGw : Hid (w.heap.size + 1 < GH) := (show _ < _ from by have := (Array.getElem?_eq_some_iff.1 O3.out).1; omega)
    clear hbx
    go_wp2_with fail
    generalize w3.alloc (.cells #[.int .i64 h0, .int .i64 h1, .int .i64 h2, .int .i64 h3] 39) = w4 at *
    clear K3 O3 HB3 hGH w3
    with_reducible refine (ql.out _).mono ?_
    rintro e w5 ⟨⟨v5, rfl, hv5⟩, hb⟩
    obtain ⟨t, B, m, d, rfl⟩ := hv5.form
    have K5 := Lib.hid (blk_call K4.out hb)
    have O5 := Lib.hid (blk_call O4.out hb)
    have H5 := Lib.hid (blk_call H4.out hb)
    have HB5 := Lib.hid (HB4.out.trans (hb.mono HB4.out.size))
    have V5 := Lib.hid hv5
    clear hb hv5 ql
    go_wp2_with fail
    with_reducible refine (qo.out _).mono ?_
    rintro e w6 ⟨⟨v6, rfl, hv6⟩, hb⟩
    obtain ⟨t2, B2, m2, d2, rfl⟩ := hv6.form
    have K6 := Lib.hid (blk_call K5.out hb)
    have O6 := Lib.hid (blk_call O5.out hb)
    have H6 := Lib.hid (blk_call H5.out hb)
    have HB6 := Lib.hid (HB5.out.trans (hb.mono HB5.out.size))
    have V6 := Lib.hid (V5.out.call hb)
    have U6 := Lib.hid hv6
    clear hb hv6 qo V5 K4 O4 H4 HB4 K5 O5 H5 HB5
    obtain ⟨GW, hGW⟩ : ∃ GW, w6.heap.size = GW := ⟨_, rfl⟩
    have hbx : Below w6.heap.size w6 ((w6.alloc (.cells #[.bool t, .slice B m d] 118)).alloc (.cells #[.bool t2, .slice B2 m2 d2] 118)) := below_alloc (below_alloc (Below.refl _ _) (Nat.le_refl _) _) (by simp) _
    have KB := Lib.hid (blk_call K6.out hbx)
    have KO := Lib.hid (blk_call O6.out hbx)
    have KH := Lib.hid (blk_call H6.out hbx)
    have hBr := Lib.hid (HB6.out.trans (hbx.mono HB6.out.size))
    have KV := Lib.hid (V6.out.call hbx)
    have KU := Lib.hid (U6.out.call hbx)
    have KX := Lib.hid ((BigBlk.mk w6 GW t (.slice B m d) hGW).alloc (.cells #[.bool t2, .slice B2 m2 d2] 118))
    have KY := Lib.hid (BigBlk.mk (w6.alloc (.cells #[.bool t, .slice B m d] 118)) (GW + 1) t2 (.slice B2 m2 d2) (by rw [World.size_alloc, hGW]))
    have HGW : Hid (GH < GW) := (show _ < _ from by have := (Array.getElem?_eq_some_iff.1 H6.out).1; omega)
    clear hbx K6 O6 H6 HB6 V6 U6
    have c3 := cells_of_blk KO.out 3 _ rfl
    have e0 := KX.out.c0
    have e1 := KX.out.c1
    go_wp2_with fail
    generalize (w6.alloc (.cells #[.bool t, .slice B m d] 118)).alloc (.cells #[.bool t2, .slice B2 m2 d2] 118) = w7 at *
    clear hGW w6
    clear c3
    with_reducible refine (qnP.out _ _ KV).mono ?_
    rintro e w8 ⟨⟨v8, rfl, hv8⟩, hb⟩
    obtain ⟨t5, B5, m5, d5, rfl⟩ := hv8.form
    have V8 := Lib.hid hv8
    replace KX := Lib.hid (KX.out.call hb)
    replace KY := Lib.hid (KY.out.call hb)
    replace KU := Lib.hid (KU.out.call hb)
    replace KB := Lib.hid (blk_call KB.out hb)
    replace KO := Lib.hid (blk_call KO.out hb)
    replace KH := Lib.hid (blk_call KH.out hb)
    replace hBr := Lib.hid (hBr.out.trans (hb.mono hBr.out.size))
    clear hv8 hb KV e0 e1 qnP qnQ
    have e0 := KX.out.c0
    have e1 := KX.out.c1
    have e2 := KX.out.z 0
    have e3 := KX.out.z 1
    go_wp2_with fail
    have KV := Lib.hid (V8.out.store KX.out)
    replace KU := Lib.hid ((KU.out.set KX.out 0 (.bool t5)).set (KX.out.set0 t5) 1 (.slice B5 m5 d5))
    replace KY := Lib.hid ((KY.out.oth 0 (.bool t5) (by omega : _ ≠ GW)).oth 1 (.slice B5 m5 d5) (by omega : _ ≠ GW))
    replace KX := Lib.hid ((KX.out.set0 t5).set1 (.slice B5 m5 d5))
    replace KB : Hid (((w8.setCell ⟨GW, 0, none⟩ (.bool t5)).setCell ⟨GW, 1, none⟩ (.slice B5 m5 d5)).heap[w.heap.size]? = _) := set_oth (set_oth KB.out _ _ (by have := HGw.out; have := HGW.out; omega)) _ _ (by have := HGw.out; have := HGW.out; omega)
    replace KO : Hid (((w8.setCell ⟨GW, 0, none⟩ (.bool t5)).setCell ⟨GW, 1, none⟩ (.slice B5 m5 d5)).heap[w.heap.size + 1]? = _) := set_oth (set_oth KO.out _ _ (by have := HGw.out; have := HGW.out; omega)) _ _ (by have := HGw.out; have := HGW.out; omega)
    replace KH : Hid (((w8.setCell ⟨GW, 0, none⟩ (.bool t5)).setCell ⟨GW, 1, none⟩ (.slice B5 m5 d5)).heap[GH]? = _) := set_oth (set_oth KH.out _ _ (by have := HGw.out; have := HGW.out; omega)) _ _ (by have := HGw.out; have := HGW.out; omega)
    replace hBr := Lib.hid ((hBr.out.setCell (p := ⟨GW, 0, none⟩) (by have := HGw.out; have := HGW.out; show w.heap.size ≤ GW; omega) (.bool t5)).setCell (p := ⟨GW, 1, none⟩) (by have := HGw.out; have := HGW.out; show w.heap.size ≤ GW; omega) (.slice B5 m5 d5))
    clear V8 e0 e1 e2 e3
    generalize (w8.setCell ⟨GW, 0, none⟩ (.bool t5)).setCell ⟨GW, 1, none⟩ (.slice B5 m5 d5) = w9 at *
    have qa := Lib.hid (fun x y wz hx hy => BAdd_any x y h1 (-QP) wz hx hy (bigB (by have := HL1.out; omega)) (bigB (by have := HPB.out; omega)))
    have qb := Lib.hid (fun x y wz hx hy => BAdd_any x y k2 (qty) wz hx hy (bigB (by have := HL2.out; omega)) (bigB (by have := HL3.out; omega)))
    have qf := Lib.hid (fun x wz hx => Fits_any x (h1 + -QP) wz hx (bigB (by have := HL1.out; have := HPB.out; omega)))
    have qg := Lib.hid (fun x wz hx => Fits_any x (k2 + qty) wz hx (bigB (by have := HL2.out; have := HL3.out; omega)))
    rw [HP2.out] at qf
    rw [HQ2.out] at qg
    have lG := KX.out.lt
    have e0 := KX.out.c0
    have e1 := KX.out.c1
    have lH := (Array.getElem?_eq_some_iff.1 KH.out).1
    have f1 := cells_of_blk KH.out 1 _ rfl
    have HC : ∃ x : ExtOf w9, w9.drew = x.w := ⟨⟨_, (Below.refl _ _).drew⟩, rfl⟩
    have HCb : Hid (Below w9.heap.size w9 w9.drew) := (Below.refl _ _).drew
    refine wp_region_D [] (fun wz => ∃ x : ExtOf w9, wz = x.w) 11 #[false, false, false, false, false, false, false, false, false, false, false] (by kernel_rfl) (by kernel_rfl) (by kernel_rfl) ?_
    refine pure_moreD [0, 1, 3] 8 (L' := #[true, true, false, true, false, false, false, false, false, false, false]) (by kernel_rfl) (by kernel_rfl) HC ?_
    simp only [opsAt, List.getElem?_toArray, List.getElem?_cons_zero, List.getElem?_cons_succ]
    refine pure_atG (.pointer (some ⟨GH, 1, none⟩)) rfl (fun wz _ => by unfold execOp; go_simp) ?_
    refine pure_atG (.int .i64 h1) rfl (fun wz hC => by obtain ⟨x, rfl⟩ := hC; unfold execOp; go_simp) ?_
    refine pure_atG (.agg #[.bool t5, .slice B5 m5 d5]) rfl (fun wz hC => by obtain ⟨x, rfl⟩ := hC; unfold execOp; go_simp) ?_
    unfold wpPure
    go_simp
    refine wpAnyD_one 2 (f := 7) (L' := #[true, true, true, true, false, false, false, false, false, false, false]) (by kernel_rfl) (by kernel_rfl) rfl rfl ?_
    go_wp2_with fail
    with_reducible refine (qp.out _).mono ?_
    rintro e wc1 ⟨⟨va, rfl, hva⟩, hb⟩
    have VA := Lib.hid hva
    clear hva
    replace HCb : Hid (Below w9.heap.size w9 wc1) := HCb.out.trans (hb.mono HCb.out.size)
    have HC : ∃ x : ExtOf w9, wc1 = x.w := ⟨⟨_, HCb.out⟩, rfl⟩
    clear hb
    go_wp2_with fail
    rw [StepQ_normal]
    refine ⟨fun _ => HC, ?_⟩
    refine wpAnyD_one 4 (f := 6) (L' := #[true, true, true, true, true, false, false, false, false, false, false]) (by kernel_rfl) (by kernel_rfl) rfl rfl ?_
    go_wp2_with fail
    with_reducible refine (qa.out _ _ _ VA (Lib.hid (KV.out.call HCb.out))).mono ?_
    rintro e wc2 ⟨⟨vb, rfl, hvb⟩, hb⟩
    have VB := Lib.hid hvb
    clear hvb
    replace HCb : Hid (Below w9.heap.size w9 wc2) := HCb.out.trans (hb.mono HCb.out.size)
    have HC : ∃ x : ExtOf w9, wc2 = x.w := ⟨⟨_, HCb.out⟩, rfl⟩
    clear hb
    go_wp2_with fail
    rw [StepQ_normal]
    refine ⟨fun _ => HC, ?_⟩
    refine wpAnyD_one 5 (f := 5) (L' := #[true, true, true, true, true, true, false, false, false, false, false]) (by kernel_rfl) (by kernel_rfl) rfl rfl ?_
    go_wp2_with fail
    with_reducible refine (qf.out _ _ VB).mono ?_
    rintro e wc3 ⟨rfl, hb⟩
    replace HCb : Hid (Below w9.heap.size w9 wc3) := HCb.out.trans (hb.mono HCb.out.size)
    have HC : ∃ x : ExtOf w9, wc3 = x.w := ⟨⟨_, HCb.out⟩, rfl⟩
    clear hb
    go_wp2_with fail
    rw [StepQ_normal]
    refine ⟨fun _ => HC, ?_⟩
    refine pure_moreD [6, 7, 9, 8, 10] 0 (L' := #[true, true, true, true, true, true, true, true, true, true, true]) (by kernel_rfl) (by kernel_rfl) HC ?_
    simp only [opsAt, List.getElem?_toArray, List.getElem?_cons_zero, List.getElem?_cons_succ]
    refine pure_moveG rfl rfl ?_
    refine pure_atG (.int .i64 FP.1) rfl (fun wz _ => by unfold execOp; go_simp) ?_
    refine pure_atG (.int .i64 FP.1) rfl (fun wz _ => by unfold execOp; go_simp) ?_
    refine pure_atG (.bool FP.2) rfl (fun wz _ => by unfold execOp; go_simp) ?_
    refine pure_atG (.bool FP.2) rfl (fun wz _ => by unfold execOp; go_simp) ?_
    unfold wpPure
    go_simp
    refine ⟨by kernel_rfl, ?_⟩
    rw [OnlyN_normal]
    replace KY := Lib.hid (KY.out.call HCb.out)
    replace KU := Lib.hid (KU.out.call HCb.out)
    replace KB := Lib.hid (blk_call KB.out HCb.out)
    replace KO := Lib.hid (blk_call KO.out HCb.out)
    replace hBr := Lib.hid (hBr.out.trans (HCb.out.mono hBr.out.size))
    clear lG e0 e1 lH f1 HC HCb VA VB KX KV KH
    go_wp2_with fail
    have lG := KY.out.lt
    have e0 := KY.out.c0
    have e1 := KY.out.c1
    have lK := (Array.getElem?_eq_some_iff.1 KB.out).1
    have lO := (Array.getElem?_eq_some_iff.1 KO.out).1
    have a0 := cells_of_blk KB.out 0 _ rfl
    have a1 := cells_of_blk KB.out 1 _ rfl
    have a2 := cells_of_blk KB.out 2 _ rfl
    have a3 := cells_of_blk KB.out 3 _ rfl
    have a4 := cells_of_blk KB.out 4 _ rfl
    have f1 := cells_of_blk KO.out 1 _ rfl
    have f2 := cells_of_blk KO.out 2 _ rfl
    have BB : Hid (BkAt wc3 (.agg #[vh, vs, vo, vr, .int .i64 b.n]) b) := hb.out.call hBr.out
    have HC : ∃ x : ExtOf wc3, wc3.drew = x.w := ⟨⟨_, (Below.refl _ _).drew⟩, rfl⟩
    have HCb : Hid (Below wc3.heap.size wc3 wc3.drew) := (Below.refl _ _).drew
    refine wp_region_D [] (fun wz => ∃ x : ExtOf wc3, wz = x.w) 15 #[false, false, false, false, false, false, false, false, false, false, false, false, false, false, false] (by kernel_rfl) (by kernel_rfl) (by kernel_rfl) ?_
    refine pure_moreD [0, 1, 2, 3, 4, 7] 9 (L' := #[true, true, true, true, true, false, false, true, false, false, false, false, false, false, false]) (by kernel_rfl) (by kernel_rfl) HC ?_
    simp only [opsAt, List.getElem?_toArray, List.getElem?_cons_zero, List.getElem?_cons_succ]
    refine pure_atG (.agg #[vh, vs, vo, vr, .int .i64 b.n]) rfl (fun wz hC => by obtain ⟨x, rfl⟩ := hC; unfold execOp; go_simp) ?_
    refine pure_atG (.pointer (some ⟨w.heap.size + 1, 1, none⟩)) rfl (fun wz _ => by unfold execOp; go_simp) ?_
    refine pure_atG (.int .i64 acc) rfl (fun wz hC => by obtain ⟨x, rfl⟩ := hC; unfold execOp; go_simp) ?_
    refine pure_atG (.pointer (some ⟨w.heap.size + 1, 2, none⟩)) rfl (fun wz _ => by unfold execOp; go_simp) ?_
    refine pure_atG (.int .i64 sym) rfl (fun wz hC => by obtain ⟨x, rfl⟩ := hC; unfold execOp; go_simp) ?_
    refine pure_atG (.agg #[.bool t2, .slice B2 m2 d2]) rfl (fun wz hC => by obtain ⟨x, rfl⟩ := hC; unfold execOp; go_simp) ?_
    unfold wpPure
    go_simp
    refine wpAnyD_one 5 (f := 8) (L' := #[true, true, true, true, true, true, false, true, false, false, false, false, false, false, false]) (by kernel_rfl) (by kernel_rfl) rfl rfl ?_
    go_wp2_with fail
    with_reducible refine (qs.out _ _ (Lib.hid (BB.out.call HCb.out))).mono ?_
    rintro e wd1 ⟨rfl, hb⟩
    replace HCb : Hid (Below wc3.heap.size wc3 wd1) := HCb.out.trans (hb.mono HCb.out.size)
    have HC : ∃ x : ExtOf wc3, wd1 = x.w := ⟨⟨_, HCb.out⟩, rfl⟩
    clear hb
    go_wp2_with fail
    rw [StepQ_normal]
    refine ⟨fun _ => HC, ?_⟩
    refine wpAnyD_one 6 (f := 7) (L' := #[true, true, true, true, true, true, true, true, false, false, false, false, false, false, false]) (by kernel_rfl) (by kernel_rfl) rfl rfl ?_
    go_wp2_with fail
    with_reducible refine (qr.out _).mono ?_
    rintro e wd2 ⟨⟨va, rfl, hva⟩, hb⟩
    have VA := Lib.hid hva
    clear hva
    replace HCb : Hid (Below wc3.heap.size wc3 wd2) := HCb.out.trans (hb.mono HCb.out.size)
    have HC : ∃ x : ExtOf wc3, wd2 = x.w := ⟨⟨_, HCb.out⟩, rfl⟩
    clear hb
    go_wp2_with fail
    rw [StepQ_normal]
    refine ⟨fun _ => HC, ?_⟩
    refine wpAnyD_one 8 (f := 6) (L' := #[true, true, true, true, true, true, true, true, true, false, false, false, false, false, false]) (by kernel_rfl) (by kernel_rfl) rfl rfl ?_
    go_wp2_with fail
    with_reducible refine (qb.out _ _ _ VA (Lib.hid (KU.out.call HCb.out))).mono ?_
    rintro e wd3 ⟨⟨vb, rfl, hvb⟩, hb⟩
    have VB := Lib.hid hvb
    clear hvb
    replace HCb : Hid (Below wc3.heap.size wc3 wd3) := HCb.out.trans (hb.mono HCb.out.size)
    have HC : ∃ x : ExtOf wc3, wd3 = x.w := ⟨⟨_, HCb.out⟩, rfl⟩
    clear hb
    go_wp2_with fail
    rw [StepQ_normal]
    refine ⟨fun _ => HC, ?_⟩
    refine wpAnyD_one 9 (f := 5) (L' := #[true, true, true, true, true, true, true, true, true, true, false, false, false, false, false]) (by kernel_rfl) (by kernel_rfl) rfl rfl ?_
    go_wp2_with fail
    with_reducible refine (qg.out _ _ VB).mono ?_
    rintro e wd4 ⟨rfl, hb⟩
    replace HCb : Hid (Below wc3.heap.size wc3 wd4) := HCb.out.trans (hb.mono HCb.out.size)
    have HC : ∃ x : ExtOf wc3, wd4 = x.w := ⟨⟨_, HCb.out⟩, rfl⟩
    clear hb
    go_wp2_with fail
    rw [StepQ_normal]
    refine ⟨fun _ => HC, ?_⟩
    refine pure_moreD [10, 11, 13, 12, 14] 0 (L' := #[true, true, true, true, true, true, true, true, true, true, true, true, true, true, true]) (by kernel_rfl) (by kernel_rfl) HC ?_
    simp only [opsAt, List.getElem?_toArray, List.getElem?_cons_zero, List.getElem?_cons_succ]
    refine pure_moveG rfl rfl ?_
    refine pure_atG (.int .i64 FQ.1) rfl (fun wz _ => by unfold execOp; go_simp) ?_
    refine pure_atG (.int .i64 FQ.1) rfl (fun wz _ => by unfold execOp; go_simp) ?_
    refine pure_atG (.bool FQ.2) rfl (fun wz _ => by unfold execOp; go_simp) ?_
    refine pure_atG (.bool FQ.2) rfl (fun wz _ => by unfold execOp; go_simp) ?_
    unfold wpPure
    go_simp
    refine ⟨by kernel_rfl, ?_⟩
    rw [OnlyN_normal]
    have HB9 := Lib.hid (hBr.out.trans (HCb.out.mono hBr.out.size))
    clear lG e0 e1 lK lO a0 a1 a2 a3 a4 f1 f2 HC HCb
    go_wp2_with fail
    refine bodyPost_ret (results_tmp4 rfl _ _ _) rfl ?_
    exact ⟨rfl, HB9.out⟩
  · have ta : (side != 0) = true := by simp [hs0]
    have tb : (side != 1) = false := by simp [hs0]
    have tc : (side == 0) = false := by simp [hs0]
    have HP2 : Hid (fitsP (h1 + QP) = FP) := (show _ = _ from by rw [← HFP.out, if_neg (show ¬ side = 0 by omega)])
    have HQ2 : Hid (fitsP (k2 + -qty) = FQ) := (show _ = _ from by rw [← HFQ.out, if_neg (show ¬ side = 0 by omega)])
    clear hs0
    go_wp2_with fail
    rw [hw1.out]
    with_reducible refine (qh.out _ _ B1).mono ?_
    rintro e w3 ⟨rfl, hb⟩
    have K3 := Lib.hid (blk_call K1.out hb)
    have O3 := Lib.hid (blk_call O1.out hb)
    have HB3 := Lib.hid (HB1.out.trans (hb.mono HB1.out.size))
    clear hb qh
    obtain ⟨GH, hGH⟩ : ∃ GH, w3.heap.size = GH := ⟨_, rfl⟩
    have hbx : Below w3.heap.size w3 (w3.alloc (.cells #[.int .i64 h0, .int .i64 h1, .int .i64 h2, .int .i64 h3] 39)) := below_alloc (Below.refl _ _) (Nat.le_refl _) _
    have K4 := Lib.hid (blk_call K3.out hbx)
    have O4 := Lib.hid (blk_call O3.out hbx)
    have HB4 := Lib.hid (HB3.out.trans (hbx.mono HB3.out.size))
    have H4 := Lib.hid (heap_new w3 (.cells #[.int .i64 h0, .int .i64 h1, .int .i64 h2, .int .i64 h3] 39))
    rw [hGH] at H4
    have HGw : Hid (w.heap.size + 1 < GH) := (show _ < _ from by have := (Array.getElem?_eq_some_iff.1 O3.out).1; omega)
    clear hbx
    go_wp2_with fail
    generalize w3.alloc (.cells #[.int .i64 h0, .int .i64 h1, .int .i64 h2, .int .i64 h3] 39) = w4 at *
    clear K3 O3 HB3 hGH w3
    with_reducible refine (ql.out _).mono ?_
    rintro e w5 ⟨⟨v5, rfl, hv5⟩, hb⟩
    obtain ⟨t, B, m, d, rfl⟩ := hv5.form
    have K5 := Lib.hid (blk_call K4.out hb)
    have O5 := Lib.hid (blk_call O4.out hb)
    have H5 := Lib.hid (blk_call H4.out hb)
    have HB5 := Lib.hid (HB4.out.trans (hb.mono HB4.out.size))
    have V5 := Lib.hid hv5
    clear hb hv5 ql
    go_wp2_with fail
    with_reducible refine (qo.out _).mono ?_
    rintro e w6 ⟨⟨v6, rfl, hv6⟩, hb⟩
    obtain ⟨t2, B2, m2, d2, rfl⟩ := hv6.form
    have K6 := Lib.hid (blk_call K5.out hb)
    have O6 := Lib.hid (blk_call O5.out hb)
    have H6 := Lib.hid (blk_call H5.out hb)
    have HB6 := Lib.hid (HB5.out.trans (hb.mono HB5.out.size))
    have V6 := Lib.hid (V5.out.call hb)
    have U6 := Lib.hid hv6
    clear hb hv6 qo V5 K4 O4 H4 HB4 K5 O5 H5 HB5
    obtain ⟨GW, hGW⟩ : ∃ GW, w6.heap.size = GW := ⟨_, rfl⟩
    have hbx : Below w6.heap.size w6 ((w6.alloc (.cells #[.bool t, .slice B m d] 118)).alloc (.cells #[.bool t2, .slice B2 m2 d2] 118)) := below_alloc (below_alloc (Below.refl _ _) (Nat.le_refl _) _) (by simp) _
    have KB := Lib.hid (blk_call K6.out hbx)
    have KO := Lib.hid (blk_call O6.out hbx)
    have KH := Lib.hid (blk_call H6.out hbx)
    have hBr := Lib.hid (HB6.out.trans (hbx.mono HB6.out.size))
    have KV := Lib.hid (V6.out.call hbx)
    have KU := Lib.hid (U6.out.call hbx)
    have KX := Lib.hid ((BigBlk.mk w6 GW t (.slice B m d) hGW).alloc (.cells #[.bool t2, .slice B2 m2 d2] 118))
    have KY := Lib.hid (BigBlk.mk (w6.alloc (.cells #[.bool t, .slice B m d] 118)) (GW + 1) t2 (.slice B2 m2 d2) (by rw [World.size_alloc, hGW]))
    have HGW : Hid (GH < GW) := (show _ < _ from by have := (Array.getElem?_eq_some_iff.1 H6.out).1; omega)
    clear hbx K6 O6 H6 HB6 V6 U6
    have c3 := cells_of_blk KO.out 3 _ rfl
    have e0 := KY.out.c0
    have e1 := KY.out.c1
    go_wp2_with fail
    generalize (w6.alloc (.cells #[.bool t, .slice B m d] 118)).alloc (.cells #[.bool t2, .slice B2 m2 d2] 118) = w7 at *
    clear hGW w6
    clear c3
    with_reducible refine (qnQ.out _ _ KU).mono ?_
    rintro e w8 ⟨⟨v8, rfl, hv8⟩, hb⟩
    obtain ⟨t5, B5, m5, d5, rfl⟩ := hv8.form
    have V8 := Lib.hid hv8
    replace KX := Lib.hid (KX.out.call hb)
    replace KY := Lib.hid (KY.out.call hb)
    replace KV := Lib.hid (KV.out.call hb)
    replace KB := Lib.hid (blk_call KB.out hb)
    replace KO := Lib.hid (blk_call KO.out hb)
    replace KH := Lib.hid (blk_call KH.out hb)
    replace hBr := Lib.hid (hBr.out.trans (hb.mono hBr.out.size))
    clear hv8 hb KU e0 e1 qnP qnQ
    have e0 := KY.out.c0
    have e1 := KY.out.c1
    have e2 := KY.out.z 0
    have e3 := KY.out.z 1
    go_wp2_with fail
    have KU := Lib.hid (V8.out.store KY.out)
    replace KV := Lib.hid ((KV.out.set KY.out 0 (.bool t5)).set (KY.out.set0 t5) 1 (.slice B5 m5 d5))
    replace KX := Lib.hid ((KX.out.oth 0 (.bool t5) (by omega : _ ≠ GW + 1)).oth 1 (.slice B5 m5 d5) (by omega : _ ≠ GW + 1))
    replace KY := Lib.hid ((KY.out.set0 t5).set1 (.slice B5 m5 d5))
    replace KB : Hid (((w8.setCell ⟨GW + 1, 0, none⟩ (.bool t5)).setCell ⟨GW + 1, 1, none⟩ (.slice B5 m5 d5)).heap[w.heap.size]? = _) := set_oth (set_oth KB.out _ _ (by have := HGw.out; have := HGW.out; omega)) _ _ (by have := HGw.out; have := HGW.out; omega)
    replace KO : Hid (((w8.setCell ⟨GW + 1, 0, none⟩ (.bool t5)).setCell ⟨GW + 1, 1, none⟩ (.slice B5 m5 d5)).heap[w.heap.size + 1]? = _) := set_oth (set_oth KO.out _ _ (by have := HGw.out; have := HGW.out; omega)) _ _ (by have := HGw.out; have := HGW.out; omega)
    replace KH : Hid (((w8.setCell ⟨GW + 1, 0, none⟩ (.bool t5)).setCell ⟨GW + 1, 1, none⟩ (.slice B5 m5 d5)).heap[GH]? = _) := set_oth (set_oth KH.out _ _ (by have := HGw.out; have := HGW.out; omega)) _ _ (by have := HGw.out; have := HGW.out; omega)
    replace hBr := Lib.hid ((hBr.out.setCell (p := ⟨GW + 1, 0, none⟩) (by have := HGw.out; have := HGW.out; show w.heap.size ≤ GW + 1; omega) (.bool t5)).setCell (p := ⟨GW + 1, 1, none⟩) (by have := HGw.out; have := HGW.out; show w.heap.size ≤ GW + 1; omega) (.slice B5 m5 d5))
    clear V8 e0 e1 e2 e3
    generalize (w8.setCell ⟨GW + 1, 0, none⟩ (.bool t5)).setCell ⟨GW + 1, 1, none⟩ (.slice B5 m5 d5) = w9 at *
    have qa := Lib.hid (fun x y wz hx hy => BAdd_any x y h1 (QP) wz hx hy (bigB (by have := HL1.out; omega)) (bigB (by have := HPB.out; omega)))
    have qb := Lib.hid (fun x y wz hx hy => BAdd_any x y k2 (-qty) wz hx hy (bigB (by have := HL2.out; omega)) (bigB (by have := HL3.out; omega)))
    have qf := Lib.hid (fun x wz hx => Fits_any x (h1 + QP) wz hx (bigB (by have := HL1.out; have := HPB.out; omega)))
    have qg := Lib.hid (fun x wz hx => Fits_any x (k2 + -qty) wz hx (bigB (by have := HL2.out; have := HL3.out; omega)))
    rw [HP2.out] at qf
    rw [HQ2.out] at qg
    have lG := KX.out.lt
    have e0 := KX.out.c0
    have e1 := KX.out.c1
    have lH := (Array.getElem?_eq_some_iff.1 KH.out).1
    have f1 := cells_of_blk KH.out 1 _ rfl
    have HC : ∃ x : ExtOf w9, w9.drew = x.w := ⟨⟨_, (Below.refl _ _).drew⟩, rfl⟩
    have HCb : Hid (Below w9.heap.size w9 w9.drew) := (Below.refl _ _).drew
    refine wp_region_D [] (fun wz => ∃ x : ExtOf w9, wz = x.w) 11 #[false, false, false, false, false, false, false, false, false, false, false] (by kernel_rfl) (by kernel_rfl) (by kernel_rfl) ?_
    refine pure_moreD [0, 1, 3] 8 (L' := #[true, true, false, true, false, false, false, false, false, false, false]) (by kernel_rfl) (by kernel_rfl) HC ?_
    simp only [opsAt, List.getElem?_toArray, List.getElem?_cons_zero, List.getElem?_cons_succ]
    refine pure_atG (.pointer (some ⟨GH, 1, none⟩)) rfl (fun wz _ => by unfold execOp; go_simp) ?_
    refine pure_atG (.int .i64 h1) rfl (fun wz hC => by obtain ⟨x, rfl⟩ := hC; unfold execOp; go_simp) ?_
    refine pure_atG (.agg #[.bool t, .slice B m d]) rfl (fun wz hC => by obtain ⟨x, rfl⟩ := hC; unfold execOp; go_simp) ?_
    unfold wpPure
    go_simp
    refine wpAnyD_one 2 (f := 7) (L' := #[true, true, true, true, false, false, false, false, false, false, false]) (by kernel_rfl) (by kernel_rfl) rfl rfl ?_
    go_wp2_with fail
    with_reducible refine (qp.out _).mono ?_
    rintro e wc1 ⟨⟨va, rfl, hva⟩, hb⟩
    have VA := Lib.hid hva
    clear hva
    replace HCb : Hid (Below w9.heap.size w9 wc1) := HCb.out.trans (hb.mono HCb.out.size)
    have HC : ∃ x : ExtOf w9, wc1 = x.w := ⟨⟨_, HCb.out⟩, rfl⟩
    clear hb
    go_wp2_with fail
    rw [StepQ_normal]
    refine ⟨fun _ => HC, ?_⟩
    refine wpAnyD_one 4 (f := 6) (L' := #[true, true, true, true, true, false, false, false, false, false, false]) (by kernel_rfl) (by kernel_rfl) rfl rfl ?_
    go_wp2_with fail
    with_reducible refine (qa.out _ _ _ VA (Lib.hid (KV.out.call HCb.out))).mono ?_
    rintro e wc2 ⟨⟨vb, rfl, hvb⟩, hb⟩
    have VB := Lib.hid hvb
    clear hvb
    replace HCb : Hid (Below w9.heap.size w9 wc2) := HCb.out.trans (hb.mono HCb.out.size)
    have HC : ∃ x : ExtOf w9, wc2 = x.w := ⟨⟨_, HCb.out⟩, rfl⟩
    clear hb
    go_wp2_with fail
    rw [StepQ_normal]
    refine ⟨fun _ => HC, ?_⟩
    refine wpAnyD_one 5 (f := 5) (L' := #[true, true, true, true, true, true, false, false, false, false, false]) (by kernel_rfl) (by kernel_rfl) rfl rfl ?_
    go_wp2_with fail
    with_reducible refine (qf.out _ _ VB).mono ?_
    rintro e wc3 ⟨rfl, hb⟩
    replace HCb : Hid (Below w9.heap.size w9 wc3) := HCb.out.trans (hb.mono HCb.out.size)
    have HC : ∃ x : ExtOf w9, wc3 = x.w := ⟨⟨_, HCb.out⟩, rfl⟩
    clear hb
    go_wp2_with fail
    rw [StepQ_normal]
    refine ⟨fun _ => HC, ?_⟩
    refine pure_moreD [6, 7, 9, 8, 10] 0 (L' := #[true, true, true, true, true, true, true, true, true, true, true]) (by kernel_rfl) (by kernel_rfl) HC ?_
    simp only [opsAt, List.getElem?_toArray, List.getElem?_cons_zero, List.getElem?_cons_succ]
    refine pure_moveG rfl rfl ?_
    refine pure_atG (.int .i64 FP.1) rfl (fun wz _ => by unfold execOp; go_simp) ?_
    refine pure_atG (.int .i64 FP.1) rfl (fun wz _ => by unfold execOp; go_simp) ?_
    refine pure_atG (.bool FP.2) rfl (fun wz _ => by unfold execOp; go_simp) ?_
    refine pure_atG (.bool FP.2) rfl (fun wz _ => by unfold execOp; go_simp) ?_
    unfold wpPure
    go_simp
    refine ⟨by kernel_rfl, ?_⟩
    rw [OnlyN_normal]
    replace KY := Lib.hid (KY.out.call HCb.out)
    replace KU := Lib.hid (KU.out.call HCb.out)
    replace KB := Lib.hid (blk_call KB.out HCb.out)
    replace KO := Lib.hid (blk_call KO.out HCb.out)
    replace hBr := Lib.hid (hBr.out.trans (HCb.out.mono hBr.out.size))
    clear lG e0 e1 lH f1 HC HCb VA VB KX KV KH
    go_wp2_with fail
    have lG := KY.out.lt
    have e0 := KY.out.c0
    have e1 := KY.out.c1
    have lK := (Array.getElem?_eq_some_iff.1 KB.out).1
    have lO := (Array.getElem?_eq_some_iff.1 KO.out).1
    have a0 := cells_of_blk KB.out 0 _ rfl
    have a1 := cells_of_blk KB.out 1 _ rfl
    have a2 := cells_of_blk KB.out 2 _ rfl
    have a3 := cells_of_blk KB.out 3 _ rfl
    have a4 := cells_of_blk KB.out 4 _ rfl
    have f1 := cells_of_blk KO.out 1 _ rfl
    have f2 := cells_of_blk KO.out 2 _ rfl
    have BB : Hid (BkAt wc3 (.agg #[vh, vs, vo, vr, .int .i64 b.n]) b) := hb.out.call hBr.out
    have HC : ∃ x : ExtOf wc3, wc3.drew = x.w := ⟨⟨_, (Below.refl _ _).drew⟩, rfl⟩
    have HCb : Hid (Below wc3.heap.size wc3 wc3.drew) := (Below.refl _ _).drew
    refine wp_region_D [] (fun wz => ∃ x : ExtOf wc3, wz = x.w) 15 #[false, false, false, false, false, false, false, false, false, false, false, false, false, false, false] (by kernel_rfl) (by kernel_rfl) (by kernel_rfl) ?_
    refine pure_moreD [0, 1, 2, 3, 4, 7] 9 (L' := #[true, true, true, true, true, false, false, true, false, false, false, false, false, false, false]) (by kernel_rfl) (by kernel_rfl) HC ?_
    simp only [opsAt, List.getElem?_toArray, List.getElem?_cons_zero, List.getElem?_cons_succ]
    refine pure_atG (.agg #[vh, vs, vo, vr, .int .i64 b.n]) rfl (fun wz hC => by obtain ⟨x, rfl⟩ := hC; unfold execOp; go_simp) ?_
    refine pure_atG (.pointer (some ⟨w.heap.size + 1, 1, none⟩)) rfl (fun wz _ => by unfold execOp; go_simp) ?_
    refine pure_atG (.int .i64 acc) rfl (fun wz hC => by obtain ⟨x, rfl⟩ := hC; unfold execOp; go_simp) ?_
    refine pure_atG (.pointer (some ⟨w.heap.size + 1, 2, none⟩)) rfl (fun wz _ => by unfold execOp; go_simp) ?_
    refine pure_atG (.int .i64 sym) rfl (fun wz hC => by obtain ⟨x, rfl⟩ := hC; unfold execOp; go_simp) ?_
    refine pure_atG (.agg #[.bool t5, .slice B5 m5 d5]) rfl (fun wz hC => by obtain ⟨x, rfl⟩ := hC; unfold execOp; go_simp) ?_
    unfold wpPure
    go_simp
    refine wpAnyD_one 5 (f := 8) (L' := #[true, true, true, true, true, true, false, true, false, false, false, false, false, false, false]) (by kernel_rfl) (by kernel_rfl) rfl rfl ?_
    go_wp2_with fail
    with_reducible refine (qs.out _ _ (Lib.hid (BB.out.call HCb.out))).mono ?_
    rintro e wd1 ⟨rfl, hb⟩
    replace HCb : Hid (Below wc3.heap.size wc3 wd1) := HCb.out.trans (hb.mono HCb.out.size)
    have HC : ∃ x : ExtOf wc3, wd1 = x.w := ⟨⟨_, HCb.out⟩, rfl⟩
    clear hb
    go_wp2_with fail
    rw [StepQ_normal]
    refine ⟨fun _ => HC, ?_⟩
    refine wpAnyD_one 6 (f := 7) (L' := #[true, true, true, true, true, true, true, true, false, false, false, false, false, false, false]) (by kernel_rfl) (by kernel_rfl) rfl rfl ?_
    go_wp2_with fail
    with_reducible refine (qr.out _).mono ?_
    rintro e wd2 ⟨⟨va, rfl, hva⟩, hb⟩
    have VA := Lib.hid hva
    clear hva
    replace HCb : Hid (Below wc3.heap.size wc3 wd2) := HCb.out.trans (hb.mono HCb.out.size)
    have HC : ∃ x : ExtOf wc3, wd2 = x.w := ⟨⟨_, HCb.out⟩, rfl⟩
    clear hb
    go_wp2_with fail
    rw [StepQ_normal]
    refine ⟨fun _ => HC, ?_⟩
    refine wpAnyD_one 8 (f := 6) (L' := #[true, true, true, true, true, true, true, true, true, false, false, false, false, false, false]) (by kernel_rfl) (by kernel_rfl) rfl rfl ?_
    go_wp2_with fail
    with_reducible refine (qb.out _ _ _ VA (Lib.hid (KU.out.call HCb.out))).mono ?_
    rintro e wd3 ⟨⟨vb, rfl, hvb⟩, hb⟩
    have VB := Lib.hid hvb
    clear hvb
    replace HCb : Hid (Below wc3.heap.size wc3 wd3) := HCb.out.trans (hb.mono HCb.out.size)
    have HC : ∃ x : ExtOf wc3, wd3 = x.w := ⟨⟨_, HCb.out⟩, rfl⟩
    clear hb
    go_wp2_with fail
    rw [StepQ_normal]
    refine ⟨fun _ => HC, ?_⟩
    refine wpAnyD_one 9 (f := 5) (L' := #[true, true, true, true, true, true, true, true, true, true, false, false, false, false, false]) (by kernel_rfl) (by kernel_rfl) rfl rfl ?_
    go_wp2_with fail
    with_reducible refine (qg.out _ _ VB).mono ?_
    rintro e wd4 ⟨rfl, hb⟩
    replace HCb : Hid (Below wc3.heap.size wc3 wd4) := HCb.out.trans (hb.mono HCb.out.size)
    have HC : ∃ x : ExtOf wc3, wd4 = x.w := ⟨⟨_, HCb.out⟩, rfl⟩
    clear hb
    go_wp2_with fail
    rw [StepQ_normal]
    refine ⟨fun _ => HC, ?_⟩
    refine pure_moreD [10, 11, 13, 12, 14] 0 (L' := #[true, true, true, true, true, true, true, true, true, true, true, true, true, true, true]) (by kernel_rfl) (by kernel_rfl) HC ?_
    simp only [opsAt, List.getElem?_toArray, List.getElem?_cons_zero, List.getElem?_cons_succ]
    refine pure_moveG rfl rfl ?_
    refine pure_atG (.int .i64 FQ.1) rfl (fun wz _ => by unfold execOp; go_simp) ?_
    refine pure_atG (.int .i64 FQ.1) rfl (fun wz _ => by unfold execOp; go_simp) ?_
    refine pure_atG (.bool FQ.2) rfl (fun wz _ => by unfold execOp; go_simp) ?_
    refine pure_atG (.bool FQ.2) rfl (fun wz _ => by unfold execOp; go_simp) ?_
    unfold wpPure
    go_simp
    refine ⟨by kernel_rfl, ?_⟩
    rw [OnlyN_normal]
    have HB9 := Lib.hid (hBr.out.trans (HCb.out.mono hBr.out.size))
    clear lG e0 e1 lK lO a0 a1 a2 a3 a4 f1 f2 HC HCb
    go_wp2_with fail
    refine bodyPost_ret (results_tmp4 rfl _ _ _) rfl ?_
    exact ⟨rfl, HB9.out⟩
end

section
open Go Go.RowKit Bg Mon
set_option linter.unusedVariables false
set_option linter.unusedSimpArgs false

set_option maxRecDepth 100000 in
set_option maxHeartbeats 4000000 in
theorem MarginAfter_walk (v : Value) (b : Bk) (id acc sym side left px qty price : Int) (w : World) (hb : Hid (BkAt w v b)) (hi : Hid b.I64s) (hq1 : Hid (I64 qty)) (hp1 : Hid (I64 price)) :
    Calls Try.prog 9 #[v, .agg #[.int .i64 id, .int .i64 acc, .int .i64 sym, .int .i64 side, .int .i64 left, .int .i64 px], .int .i64 qty, .int .i64 price] w fun e w' => e = .returned (.bool true) ∧ Below w.heap.size w w' := by
  obtain ⟨vh, vs, vo, vr, rfl, r1, r2, r3, r4⟩ := hb.out
  clear r1 r2 r3 r4
  have K0 : Hid (((w.alloc (.cells #[vh, vs, vo, vr, .int .i64 b.n] 37)).alloc (.cells #[.int .i64 id, .int .i64 acc, .int .i64 sym, .int .i64 side, .int .i64 left, .int .i64 px] 43)).heap[w.heap.size]? = some (.cells #[vh, vs, vo, vr, .int .i64 b.n] 37 (0, 0))) := blk_old (heap_new w _) _
  have O0 : Hid (((w.alloc (.cells #[vh, vs, vo, vr, .int .i64 b.n] 37)).alloc (.cells #[.int .i64 id, .int .i64 acc, .int .i64 sym, .int .i64 side, .int .i64 left, .int .i64 px] 43)).heap[w.heap.size + 1]? = some (.cells #[.int .i64 id, .int .i64 acc, .int .i64 sym, .int .i64 side, .int .i64 left, .int .i64 px] 43 (0, 0))) := blk_new _ _ _ (by simp)
  have HB0 : Hid (Below w.heap.size w ((w.alloc (.cells #[vh, vs, vo, vr, .int .i64 b.n] 37)).alloc (.cells #[.int .i64 id, .int .i64 acc, .int .i64 sym, .int .i64 side, .int .i64 left, .int .i64 px] 43))) := below_alloc (below_alloc (Below.refl _ _) (Nat.le_refl _) _) (by simp) _
  have B0 : Hid (BkAt ((w.alloc (.cells #[vh, vs, vo, vr, .int .i64 b.n] 37)).alloc (.cells #[.int .i64 id, .int .i64 acc, .int .i64 sym, .int .i64 side, .int .i64 left, .int .i64 px] 43)) (.agg #[vh, vs, vo, vr, .int .i64 b.n]) b) := hb.out.call HB0.out
  clear hb
  go_enter Try.func9, Try.ntmps9
  go_wp2_with fail
  with_reducible refine (alive15 _).mono ?_
  rintro e w1 ⟨rfl, hb⟩
  have K1 := Lib.hid (blk_call K0.out hb)
  have O1 := Lib.hid (blk_call O0.out hb)
  have B1 := Lib.hid (B0.out.call hb)
  have HB1 := Lib.hid (HB0.out.trans (hb.mono HB0.out.size))
  clear hb
  have a0 := cells_of_blk K1.out 0 _ rfl
  have a1 := cells_of_blk K1.out 1 _ rfl
  have a2 := cells_of_blk K1.out 2 _ rfl
  have a3 := cells_of_blk K1.out 3 _ rfl
  have a4 := cells_of_blk K1.out 4 _ rfl
  have f0 := cells_of_blk O1.out 0 _ rfl
  have f1 := cells_of_blk O1.out 1 _ rfl
  have f2 := cells_of_blk O1.out 2 _ rfl
  have f3 := cells_of_blk O1.out 3 _ rfl
  have f4 := cells_of_blk O1.out 4 _ rfl
  have f5 := cells_of_blk O1.out 5 _ rfl
  go_wp2_with fail
  with_reducible refine (Great_any _ b _ B1).mono ?_
  rintro e w2 ⟨g, rfl, hg, hb⟩
  clear a0 a1 a2 a3 a4 f0 f1 f2 f3 f4 f5
  have K2 := Lib.hid (blk_call K1.out hb)
  have O2 := Lib.hid (blk_call O1.out hb)
  have B2 := Lib.hid (B1.out.call hb)
  have HB2 := Lib.hid (HB1.out.trans (hb.mono HB1.out.size))
  clear hb
  have a0 := cells_of_blk K2.out 0 _ rfl
  have a1 := cells_of_blk K2.out 1 _ rfl
  have a2 := cells_of_blk K2.out 2 _ rfl
  have a3 := cells_of_blk K2.out 3 _ rfl
  have a4 := cells_of_blk K2.out 4 _ rfl
  have f0 := cells_of_blk O2.out 0 _ rfl
  have f1 := cells_of_blk O2.out 1 _ rfl
  have f2 := cells_of_blk O2.out 2 _ rfl
  have f3 := cells_of_blk O2.out 3 _ rfl
  have f4 := cells_of_blk O2.out 4 _ rfl
  have f5 := cells_of_blk O2.out 5 _ rfl
  cases g with
  | true =>
    clear hg
    go_wp2_with fail
    go_ret
    exact ⟨rfl, HB2.out⟩
  | false =>
  have hs := Lib.hid (hg rfl).small
  clear hg
  have q1 := Lib.hid (fun u w h => After_any u b id acc sym side left px qty price w h hs hi hq1 hp1)
  have q3 := Lib.hid (fun u w h => rBkMay_any u b w h hs)
  have q4 := Lib.hid (fun u w h => rAfter_any u b id acc sym side left px qty price w h hs hi hq1 hp1)
  obtain ⟨RF, hRF⟩ : ∃ RF, afterR b acc sym side qty price = RF := ⟨_, rfl⟩
  rw [hRF] at q4
  cases hm : b.mayB with
  | false =>
    have h1 : afterP b acc sym side qty price = ((0, false), (0, false)) := by unfold afterP; rw [hm]; rfl
    rw [h1] at q1
    rw [hm] at q3
    clear h1 hm hRF q4
    go_wp2_with fail
    with_reducible refine (q1.out _ _ B2).mono ?_
    rintro e w3 ⟨rfl, hb⟩
    clear a0 a1 a2 a3 a4 f0 f1 f2 f3 f4 f5
    have K3 := Lib.hid (blk_call K2.out hb)
    have O3 := Lib.hid (blk_call O2.out hb)
    have B3 := Lib.hid (B2.out.call hb)
    have HB3 := Lib.hid (HB2.out.trans (hb.mono HB2.out.size))
    clear hb
    have a0 := cells_of_blk K3.out 0 _ rfl
    have a1 := cells_of_blk K3.out 1 _ rfl
    have a2 := cells_of_blk K3.out 2 _ rfl
    have a3 := cells_of_blk K3.out 3 _ rfl
    have a4 := cells_of_blk K3.out 4 _ rfl
    have f0 := cells_of_blk O3.out 0 _ rfl
    have f1 := cells_of_blk O3.out 1 _ rfl
    have f2 := cells_of_blk O3.out 2 _ rfl
    have f3 := cells_of_blk O3.out 3 _ rfl
    have f4 := cells_of_blk O3.out 4 _ rfl
    have f5 := cells_of_blk O3.out 5 _ rfl
    go_wp2_with fail
    with_reducible refine (q3.out _ _ B3).mono ?_
    rintro e w5 ⟨rfl, hb⟩
    have HB5 := Lib.hid (HB3.out.trans (hb.mono HB3.out.size))
    clear hb
    go_wp2_with fail
    go_ret
    exact ⟨rfl, HB5.out⟩
  | true =>
    have h1 : afterP b acc sym side qty price = RF := by unfold afterP; rw [hm, ← hRF]; rfl
    rw [h1] at q1
    rw [hm] at q3
    clear h1 hm hRF
    have t0 : ∀ x : Int, (x == x) = true := fun x => by simp
    have t1 : ∀ x : Bool, (x == x) = true := fun x => by simp
    go_wp2_with fail
    with_reducible refine (q1.out _ _ B2).mono ?_
    rintro e w3 ⟨rfl, hb⟩
    clear a0 a1 a2 a3 a4 f0 f1 f2 f3 f4 f5
    have K3 := Lib.hid (blk_call K2.out hb)
    have O3 := Lib.hid (blk_call O2.out hb)
    have B3 := Lib.hid (B2.out.call hb)
    have HB3 := Lib.hid (HB2.out.trans (hb.mono HB2.out.size))
    clear hb
    have a0 := cells_of_blk K3.out 0 _ rfl
    have a1 := cells_of_blk K3.out 1 _ rfl
    have a2 := cells_of_blk K3.out 2 _ rfl
    have a3 := cells_of_blk K3.out 3 _ rfl
    have a4 := cells_of_blk K3.out 4 _ rfl
    have f0 := cells_of_blk O3.out 0 _ rfl
    have f1 := cells_of_blk O3.out 1 _ rfl
    have f2 := cells_of_blk O3.out 2 _ rfl
    have f3 := cells_of_blk O3.out 3 _ rfl
    have f4 := cells_of_blk O3.out 4 _ rfl
    have f5 := cells_of_blk O3.out 5 _ rfl
    go_wp2_with fail
    with_reducible refine (q3.out _ _ B3).mono ?_
    rintro e w4 ⟨rfl, hb⟩
    clear a0 a1 a2 a3 a4 f0 f1 f2 f3 f4 f5
    have K4 := Lib.hid (blk_call K3.out hb)
    have O4 := Lib.hid (blk_call O3.out hb)
    have B4 := Lib.hid (B3.out.call hb)
    have HB4 := Lib.hid (HB3.out.trans (hb.mono HB3.out.size))
    clear hb
    have a0 := cells_of_blk K4.out 0 _ rfl
    have a1 := cells_of_blk K4.out 1 _ rfl
    have a2 := cells_of_blk K4.out 2 _ rfl
    have a3 := cells_of_blk K4.out 3 _ rfl
    have a4 := cells_of_blk K4.out 4 _ rfl
    have f0 := cells_of_blk O4.out 0 _ rfl
    have f1 := cells_of_blk O4.out 1 _ rfl
    have f2 := cells_of_blk O4.out 2 _ rfl
    have f3 := cells_of_blk O4.out 3 _ rfl
    have f4 := cells_of_blk O4.out 4 _ rfl
    have f5 := cells_of_blk O4.out 5 _ rfl
    go_wp2_with fail
    with_reducible refine (q4.out _ _ B4).mono ?_
    rintro e w5 ⟨rfl, hb⟩
    have HB5 := Lib.hid (HB4.out.trans (hb.mono HB4.out.size))
    clear hb
    go_wp2_with fail
    go_ret
    exact ⟨rfl, HB5.out⟩
end

end Go.Proofs.Ytfkfpppiikgjbaa
