/- Margin: Reach. PRINTED BY genMargH.py. -/
import Derived.Test.YtfkfpppiikgjbaaMargN
namespace Go.Proofs.Ytfkfpppiikgjbaa
open Go Go.RowKit Go.Shelf Mon
attribute [local go_sem] Oper.semAt_some
set_option linter.unusedVariables false
set_option linter.unusedSimpArgs false

def stakeOf (b : Bk) (acc sym : Int) : Int := ((recOf 3 (b.s.find? (isKey acc sym))).1).getD 2 0
def sumS (sym side : Int) : List (List Int) → Int
  | [] => 0
  | r :: t => (if r.getD 2 0 = sym ∧ r.getD 3 0 = side then r.getD 4 0 else 0) + sumS sym side t
theorem sumS_append (sym side : Int) (l m : List (List Int)) : sumS sym side (l ++ m) = sumS sym side l + sumS sym side m := by
  induction l with
  | nil => simp [sumS]
  | cons x t ih => simp only [List.cons_append, sumS, ih]; omega
theorem sumS_bound (sym side : Int) : ∀ l : List OP, (sumS sym side (l.map OP.val)).natAbs ≤ l.length * 9223372036854775808
  | [] => by simp [sumS]
  | x :: t => by
    have h1 := sumS_bound sym side t
    have h2 := x.hl
    unfold I64 at h2
    show ((if x.s = sym ∧ x.d = side then x.l else 0) + sumS sym side (t.map OP.val)).natAbs ≤ (t.length + 1) * _
    split <;> omega
def reachX (b : Bk) (acc sym side qty : Int) : Int := stakeOf b acc sym * (1 - 2 * side) + sumS sym side (opensP acc b.o) + qty
def reachR (b : Bk) (acc sym side qty : Int) : Int × Bool := if side < 0 ∨ 1 < side then (0, false) else fitsP (reachX b acc sym side qty)
def reachP (b : Bk) (acc sym side qty : Int) : Int × Bool := if b.mayB then reachR b acc sym side qty else (0, false)

set_option maxRecDepth 100000 in
set_option maxHeartbeats 8000000 in
theorem Reach_any (v : Value) (b : Bk) (acc sym side qty : Int) (w : World) (hb : Hid (BkAt w v b)) (hs : Hid b.Small) (hi : Hid b.I64s) (hq1 : Hid (I64 qty)) :
    Calls Try.prog 36 #[v, .int .i64 acc, .int .i64 sym, .int .i64 side, .int .i64 qty] w fun e w' => e = .returned (.tuple #[.int .i64 (reachP b acc sym side qty).1, .bool (reachP b acc sym side qty).2]) ∧ Below w.heap.size w w' := by
  obtain ⟨vh, vs, vo, vr, rfl, g1, g2, g3, g4⟩ := hb.out
  have LS : Hid (∀ r ∈ b.s, r.length = 3) := (by obtain ⟨_, _, _, h, _⟩ := g2; exact h)
  clear g1 g2 g3 g4
  obtain ⟨w1, hw1⟩ : ∃ w1, ((w.alloc (.cells #[vh, vs, vo, vr, .int .i64 b.n] 37)).alloc (.cells #[.int .i64 sym] 2)).alloc (.cells #[.int .i64 side] 3) = w1 := ⟨_, rfl⟩
  have HB1 : Hid (Below w.heap.size w w1) := by rw [← hw1]; exact below_alloc (below_alloc (below_alloc (Below.refl _ _) (Nat.le_refl _) _) (by simp) _) (by simp; omega) _
  have K1 : Hid (w1.heap[w.heap.size]? = some (.cells #[vh, vs, vo, vr, .int .i64 b.n] 37 (0, 0))) := by rw [← hw1]; exact blk_old (blk_old (heap_new _ _) _) _
  have Y1 : Hid (w1.heap[w.heap.size + 1]? = some (.cells #[.int .i64 sym] 2 (0, 0))) := by rw [← hw1]; exact blk_old (blk_new _ _ _ (by simp)) _
  have D1 : Hid (w1.heap[w.heap.size + 2]? = some (.cells #[.int .i64 side] 3 (0, 0))) := by rw [← hw1]; exact blk_new _ _ _ (by simp)
  have B1 : Hid (BkAt w1 (.agg #[vh, vs, vo, vr, .int .i64 b.n]) b) := hb.out.call HB1.out
  have qm := Lib.hid (BkMay_any _ b _ B1 hs)
  replace hw1 := Lib.hid hw1
  cases hm : b.mayB with
  | false =>
    have he : reachP b acc sym side qty = (0, false) := by unfold reachP; rw [hm]; rfl
    rw [he]
    rw [hm] at qm
    clear hm he
    go_enter Try.func36, Try.ntmps36
    go_wp2_with fail
    rw [hw1.out]
    with_reducible refine qm.out.mono ?_
    rintro e w2 ⟨rfl, hb2⟩
    have HB2 := Lib.hid (HB1.out.trans (hb2.mono HB1.out.size))
    clear hb2
    go_wp2_with fail
    go_ret2
    exact ⟨rfl, HB2.out⟩
  | true =>
  have he : reachP b acc sym side qty = reachR b acc sym side qty := by unfold reachP; rw [hm]; rfl
  rw [he]
  rw [hm] at qm
  have HR := Lib.hid (mayB_rise hm)
  clear hm he
  by_cases hsd : side < 0 ∨ 1 < side
  · have he : reachR b acc sym side qty = (0, false) := if_pos hsd
    rw [he]
    clear he
    go_enter Try.func36, Try.ntmps36
    go_wp2_with fail
    rw [hw1.out]
    with_reducible refine qm.out.mono ?_
    rintro e w2 ⟨rfl, hb2⟩
    have c0 := cells_of_blk (blk_call D1.out hb2) 0 _ rfl
    have HB2 := Lib.hid (HB1.out.trans (hb2.mono HB1.out.size))
    clear hb2
    by_cases h0 : side < 0
    · have t0 : decide (side < 0) = true := decide_eq_true h0
      clear hsd h0
      go_wp2_with fail
      go_ret2
      exact ⟨rfl, HB2.out⟩
    · have t0 : decide (side < 0) = false := decide_eq_false h0
      have t1 : decide (1 < side) = true := decide_eq_true (by omega)
      clear hsd h0
      go_wp2_with fail
      go_ret2
      exact ⟨rfl, HB2.out⟩
  have he : reachR b acc sym side qty = fitsP (reachX b acc sym side qty) := if_neg hsd
  rw [he]
  have hsd0 : 0 ≤ side := by omega
  have hsd1 : side ≤ 1 := by omega
  have t0 : decide (side < 0) = false := decide_eq_false (by omega)
  have t1 : decide (1 < side) = false := decide_eq_false (by omega)
  obtain ⟨rs, F, hl1, hx1⟩ := rec_of LS.out (isKey acc sym)
  match rs, hl1, hx1 with
  | [k0, k1, k2], _, hx1 =>
  have hst : stakeOf b acc sym = k2 := by unfold stakeOf; rw [hx1]; rfl
  have HI2 : Hid (I64 k2) := rec_I64 hi.out.2.1 hx1 k2 (by simp)
  have HX1 := Lib.hid hx1
  have HST := Lib.hid hst
  have F2 : b.s.length ≤ 1000000 := by have := hs.out; unfold Bk.Small at this; omega
  have hR4 := Lib.hid HR.out.2.2.2
  have qk := Lib.hid (fun u wz hv => Stake_any u b acc sym k0 k1 k2 F wz hv F2 hR4 HX1)
  clear he hsd hx1 hst
  refine (callsIn_wide (n := 3)).1 ?_
  have hn1 : 1 ≤ 3 := by omega
  have hro : Fence.wide.round = none := rfl
  refine callsIn_of_wp_marks Try.func36 rfl trivial ?_ hro
  simp only [Try.ntmps36, List.size_toArray, List.length_cons, List.length_nil, Nat.reduceAdd, Nat.reduceSub, Array.replicate_succ, Array.replicate_zero, List.push_toArray, List.append_toArray, List.nil_append, List.cons_append]
  gi_wp2_with (fail)
  rw [hw1.out]
  refine ⟨trivial, callsIn_wide.2 (qm.out.mono ?_)⟩
  rintro e w2 ⟨rfl, hb2⟩
  have K2 := Lib.hid (blk_call K1.out hb2)
  have Y2 := Lib.hid (blk_call Y1.out hb2)
  have D2 := Lib.hid (blk_call D1.out hb2)
  have B2 := Lib.hid (B1.out.call hb2)
  have HB2 := Lib.hid (HB1.out.trans (hb2.mono HB1.out.size))
  clear hb2 qm
  obtain ⟨G, hG⟩ : ∃ G, w2.heap.size = G := ⟨_, rfl⟩
  have hbx : Below w2.heap.size w2 (w2.alloc (.cells #[.int .u64 0, .int .u64 0, .int .u64 0] 105)) := below_alloc (Below.refl _ _) (Nat.le_refl _) _
  have K3 := Lib.hid (blk_call K2.out hbx)
  have Y3 := Lib.hid (blk_call Y2.out hbx)
  have D3 := Lib.hid (blk_call D2.out hbx)
  have B3 := Lib.hid (B2.out.call hbx)
  have HB3 := Lib.hid (HB2.out.trans (hbx.mono HB2.out.size))
  have S3 : Hid (SumAt (w2.alloc (.cells #[.int .u64 0, .int .u64 0, .int .u64 0] 105)) G 0) := by rw [← hG]; exact sum_new w2
  have HG : Hid (w.heap.size + 2 < G) := (show _ < _ from by have := (Array.getElem?_eq_some_iff.1 D2.out).1; omega)
  have c0 := cells_of_blk D2.out 0 _ rfl
  clear hbx
  gi_wp2_with (fail)
  clear c0
  generalize w2.alloc (.cells #[.int .u64 0, .int .u64 0, .int .u64 0] 105) = w3 at *
  clear hG
  have c0 := cells_of_blk D3.out 0 _ rfl
  have c1 := cells_of_blk Y3.out 0 _ rfl
  have a0 := cells_of_blk K3.out 0 _ rfl
  have a1 := cells_of_blk K3.out 1 _ rfl
  have a2 := cells_of_blk K3.out 2 _ rfl
  have a3 := cells_of_blk K3.out 3 _ rfl
  have a4 := cells_of_blk K3.out 4 _ rfl
  have l0 := (Array.getElem?_eq_some_iff.1 K3.out).1
  have l1 := (Array.getElem?_eq_some_iff.1 Y3.out).1
  have l2 := (Array.getElem?_eq_some_iff.1 D3.out).1
  have hw0 : IntKind.i64.wrap (2 * side) = 2 * side := by rw [IntKind.wrap_i64]; omega
  have hw2 : IntKind.i64.wrap (1 - 2 * side) = 1 - 2 * side := by rw [IntKind.wrap_i64]; omega
  have HC : Hid (w3.drew.heap[w.heap.size]? = some (.cells #[vh, vs, vo, vr, .int .i64 b.n] 37 (0, 0)) ∧ w3.drew.heap[w.heap.size + 1]? = some (.cells #[.int .i64 sym] 2 (0, 0)) ∧ w3.drew.heap[w.heap.size + 2]? = some (.cells #[.int .i64 side] 3 (0, 0))) := ⟨K3.out, Y3.out, D3.out⟩
  have HCb : Hid (Below w3.heap.size w3 w3.drew) := (Below.refl _ _).drew
  refine wpIn_wide.2 ?_
  refine wp_region_D [] (fun wz => Hid (wz.heap[w.heap.size]? = some (.cells #[vh, vs, vo, vr, .int .i64 b.n] 37 (0, 0)) ∧ wz.heap[w.heap.size + 1]? = some (.cells #[.int .i64 sym] 2 (0, 0)) ∧ wz.heap[w.heap.size + 2]? = some (.cells #[.int .i64 side] 3 (0, 0)))) 8 #[false, false, false, false, false, false, false, false] (by kernel_rfl) (by kernel_rfl) (by kernel_rfl) ?_
  refine pure_moreD [0, 1, 2, 4, 5, 6] 2 (L' := #[true, true, true, false, true, true, true, false]) (by kernel_rfl) (by kernel_rfl) HC ?_
  simp only [opsAt, List.getElem?_toArray, List.getElem?_cons_zero, List.getElem?_cons_succ]
  refine pure_atG (.agg #[vh, vs, vo, vr, .int .i64 b.n]) rfl (fun wz hC => by have h0 := cells_of_blk (Hid.out hC).1 0 _ rfl; have h1 := cells_of_blk (Hid.out hC).1 1 _ rfl; have h2 := cells_of_blk (Hid.out hC).1 2 _ rfl; have h3 := cells_of_blk (Hid.out hC).1 3 _ rfl; have h4 := cells_of_blk (Hid.out hC).1 4 _ rfl; unfold execOp; go_simp) ?_
  refine pure_moveG rfl rfl ?_
  refine pure_atG (.int .i64 sym) rfl (fun wz hC => by have h0 := cells_of_blk (Hid.out hC).2.1 0 _ rfl; unfold execOp; go_simp) ?_
  refine pure_atG (.int .i64 side) rfl (fun wz hC => by have h0 := cells_of_blk (Hid.out hC).2.2 0 _ rfl; unfold execOp; go_simp) ?_
  refine pure_atG (.int .i64 (2 * side)) rfl (fun wz _ => by unfold execOp; go_simp) ?_
  refine pure_atG (.int .i64 (1 - 2 * side)) rfl (fun wz _ => by unfold execOp; go_simp) ?_
  unfold wpPure
  go_simp
  refine wpAnyD_one 3 (f := 1) (L' := #[true, true, true, true, true, true, true, false]) (by kernel_rfl) (by kernel_rfl) rfl rfl ?_
  go_wp2_with fail
  with_reducible refine (qk.out _ _ (Lib.hid (B3.out.call HCb.out))).mono ?_
  rintro e wc1 ⟨rfl, hb⟩
  replace HCb : Hid (Below w3.heap.size w3 wc1) := HCb.out.trans (hb.mono HCb.out.size)
  replace HC : Hid (wc1.heap[w.heap.size]? = some (.cells #[vh, vs, vo, vr, .int .i64 b.n] 37 (0, 0)) ∧ wc1.heap[w.heap.size + 1]? = some (.cells #[.int .i64 sym] 2 (0, 0)) ∧ wc1.heap[w.heap.size + 2]? = some (.cells #[.int .i64 side] 3 (0, 0))) := ⟨blk_call K3.out HCb.out, blk_call Y3.out HCb.out, blk_call D3.out HCb.out⟩
  clear hb
  go_wp2_with fail
  rw [StepQ_normal]
  refine ⟨fun _ => HC, ?_⟩
  have S4 : Hid (SumAt wc1 G 0) := blk_call S3.out HCb.out
  have qa := Lib.hid (AddMul_any G 0 k2 (1 - 2 * side) (by unfold Ok M3; omega) HI2.out (by unfold I64; omega) _ S4)
  have K4 := Lib.hid (blk_call K3.out HCb.out)
  have Y4 := Lib.hid (blk_call Y3.out HCb.out)
  have D4 := Lib.hid (blk_call D3.out HCb.out)
  have HB4 := Lib.hid (HB3.out.trans (HCb.out.mono HB3.out.size))
  clear a0 a1 a2 a3 a4 l0 l1 l2 c0 c1 HC HCb
  refine wpAnyD_one 7 (f := 0) (L' := #[true, true, true, true, true, true, true, true]) (by kernel_rfl) (by kernel_rfl) rfl rfl ?_
  go_wp2_with fail
  with_reducible refine qa.out.mono ?_
  rintro e w5 ⟨rfl, hs5, hg5⟩
  rw [Int.zero_add] at hs5
  have S5 := Lib.hid hs5
  have K5 := Lib.hid ((hg5.block _ (Array.getElem?_eq_some_iff.1 K4.out).1 (fun e => by have := HG.out; injection e with e; omega)).trans K4.out)
  have Y5 := Lib.hid ((hg5.block _ (Array.getElem?_eq_some_iff.1 Y4.out).1 (fun e => by have := HG.out; injection e with e; omega)).trans Y4.out)
  have D5 := Lib.hid ((hg5.block _ (Array.getElem?_eq_some_iff.1 D4.out).1 (fun e => by have := HG.out; injection e with e; omega)).trans D4.out)
  have HB5 := Lib.hid (below_of_grown HB4.out hg5 (by have := HG.out; omega) HB4.out.size)
  have HG5 : Hid (G < w5.heap.size) := (Array.getElem?_eq_some_iff.1 hs5).1
  clear hs5 hg5 qa K4 Y4 D4 HB4 S4 S3
  go_wp2_with fail
  rw [StepQ_normal]
  refine ⟨fun _ => ⟨K5.out, Y5.out, D5.out⟩, ?_⟩
  refine ⟨by kernel_rfl, ?_⟩
  rw [OnlyN_normal]
  have a0 := cells_of_blk K5.out 0 _ rfl
  have a1 := cells_of_blk K5.out 1 _ rfl
  have a2 := cells_of_blk K5.out 2 _ rfl
  have a3 := cells_of_blk K5.out 3 _ rfl
  have a4 := cells_of_blk K5.out 4 _ rfl
  gi_wp2_with (fail)
  clear a0 a1 a2 a3 a4
  refine ⟨trivial, callsIn_wide.2 ((opens_any vh vs vo vr b.n acc _).mono ?_)⟩
  rintro e w7 ⟨rfl, hw7⟩
  have HC7 : Hid (Caps w w5.heap.size (w5.heap.size + 1) vh vs vo vr b.n acc w7) := by rw [← hw7]; exact ⟨blk_old (heap_new _ _) _, blk_new _ _ _ (by simp), below_alloc (below_alloc HB5.out HB5.out.size _) (by have := HB5.out.size; simp; omega) _⟩
  have Y7 : Hid (w7.heap[w.heap.size + 1]? = some (.cells #[.int .i64 sym] 2 (0, 0))) := by rw [← hw7]; exact blk_old (blk_old Y5.out _) _
  have D7 : Hid (w7.heap[w.heap.size + 2]? = some (.cells #[.int .i64 side] 3 (0, 0))) := by rw [← hw7]; exact blk_old (blk_old D5.out _) _
  have S7 : Hid (SumAt w7 G (k2 * (1 - 2 * side) % M3)) := by rw [← hw7]; exact blk_old (blk_old S5.out _) _
  clear hw7
  gi_wp2_with (fail)
  have hgb : Hid (w5.heap.size ≠ G ∧ w5.heap.size + 1 ≠ G) := (show _ ∧ _ from by have := HG5.out; omega)
  have BO : Hid (BkAt w (.agg #[vh, vs, vo, vr, .int .i64 b.n]) b) := hb
  refine wpIn_rangeFunc_ownH hro hn1 (gf := 128) (lb := #[.pointer (some ⟨w5.heap.size, 0, none⟩), .pointer (some ⟨w5.heap.size + 1, 0, none⟩)]) rfl trivial (enters_of Try.func128 (by kernel_rfl) rfl)
    (opens_stops G w5.heap.size (w5.heap.size + 1) vh vs vo vr b acc w w7 hgb BO hs hi HC7) KpG.trans (KpG.put HC7.out.below.size) (Below.refl _ _) (fun _ => rfl)
    (fun pre W => Hid (SumAt W G ((k2 * (1 - 2 * side) + sumS sym side (pre.map OP.val)) % M3)) ∧ Hid (W.heap[w.heap.size + 1]? = some (.cells #[.int .i64 sym] 2 (0, 0))) ∧ Hid (W.heap[w.heap.size + 2]? = some (.cells #[.int .i64 side] 3 (0, 0))) ∧ Hid (Below w.heap.size w W))
    (fun _ _ _ => False)
    (OwnFrom.and (own_blk _ _ _ _) (OwnFrom.and (own_blk _ _ _ _) (OwnFrom.and (own_blk _ _ _ _) (ownFrom_below (Nat.le_refl _) HC7.out.below.size))))
    (fun _ _ _ _ _ hs _ _ => hs)
    ⟨by show SumAt _ _ _; rw [show k2 * (1 - 2 * side) + sumS sym side (([] : List OP).map OP.val) = k2 * (1 - 2 * side) by simp [sumS]]; exact S7.out, Y7.out, D7.out, HC7.out.below⟩
    (fun x a' W => ∃ Bx, Hid (Bx < W.heap.size) ∧ Hid (W.heap[Bx]? = some (.cells #[.int .i64 x.i, .int .i64 x.a, .int .i64 x.s, .int .i64 x.d, .int .i64 x.l, .int .i64 x.p] 43 (0, 0))) ∧ a' = { tmps := #[.agg #[vh, vs, vo, vr, .int .i64 b.n], .int .i64 acc, .int .i64 sym, .int .i64 side, .int .i64 qty, .pointer (some ⟨w.heap.size, 0, none⟩), undef, .pointer (some ⟨w.heap.size + 1, 0, none⟩), .pointer (some ⟨w.heap.size + 1 + 1, 0, none⟩), undef, .int .i64 0, .bool false, .pointer (some ⟨G, 0, none⟩), .pointer (some ⟨Bx, 0, none⟩), .agg #[vh, vs, vo, vr, .int .i64 b.n], .bool true, .bool false, .bool false, .int .i64 side, .bool false, .bool false, .bool false, .int .i64 side, .bool false, .bool false, .agg #[vh, vs, vo, vr, .int .i64 b.n], .int .i64 acc, .int .i64 sym, .int .i64 k2, .int .i64 side, .int .i64 (2 * side), .int .i64 (1 - 2 * side), .tuple #[], .agg #[vh, vs, vo, vr, .int .i64 b.n], .int .i64 acc, .func (.func 128) #[] #[.pointer (some ⟨w5.heap.size, 0, none⟩), .pointer (some ⟨w5.heap.size + 1, 0, none⟩)], .agg #[.int .i64 x.i, .int .i64 x.a, .int .i64 x.s, .int .i64 x.d, .int .i64 x.l, .int .i64 x.p], undef, undef, undef, undef, undef, undef, undef, undef, undef, undef, undef, undef, undef, undef, undef, undef, undef, undef], defers := [] })
    (fun x a' _ X Y row hs' hg hr => by
      obtain ⟨Bx, h1', h2', h3'⟩ := hs'
      exact ⟨Bx, Nat.lt_of_lt_of_le h1'.out hg.size, (hg.block Bx h1'.out (fun e => by obtain ⟨_, o, ho, hc⟩ := hr Bx e.symm; rw [h2'.out] at ho; cases ho; cases hc)).trans h2'.out, h3'⟩)
    ?assign ?body ?done ?stop
  case assign =>
    rintro l pre x W K ⟨i1, i2, i3, i9⟩ hK
    have hsz : w.heap.size ≤ W.heap.size := i9.out.size
    unfold OP.enc
    gi_wp2_with (fail)
    exact hK _ _ ((KeepsOthers.alloc _ _).from _) (KpG.of_below hsz (below_alloc (Below.refl _ _) (Nat.le_refl _) _)) ⟨blk_old i1.out _, blk_old i2.out _, blk_old i3.out _, below_alloc i9.out hsz _⟩ ⟨W.heap.size, by show _ < _; simp, heap_new _ _, rfl⟩
  case stop =>
    rintro D c pre W _ _ h _
    exact h.elim
  case body =>
    rintro l pre x a' W hl ⟨r, hr⟩ ⟨i1, i2, i3, i9⟩ ⟨Bx, hBx, bX, rfl⟩ hlt
    have cy := cells_of_blk i2.out 0 _ rfl
    have cd := cells_of_blk i3.out 0 _ rfl
    have x2 := cells_of_blk bX.out 2 _ rfl
    have x3 := cells_of_blk bX.out 3 _ rfl
    have x4 := cells_of_blk bX.out 4 _ rfl
    have hlB := hBx.out
    have hv : Hid (sumS sym side ((pre ++ [x]).map OP.val) = sumS sym side (pre.map OP.val) + (if x.s = sym ∧ x.d = side then x.l else 0)) := (show _ = _ from by
      rw [List.map_append, sumS_append]
      show _ + ((if x.s = sym ∧ x.d = side then x.l else 0) + 0) = _
      omega)
    have hskip : ¬ (x.s = sym ∧ x.d = side) → KeepsFrom w7.heap.size W W ∧ KpG w G W W ∧ (Hid (SumAt W G ((k2 * (1 - 2 * side) + sumS sym side ((pre ++ [x]).map OP.val)) % M3)) ∧ Hid (W.heap[w.heap.size + 1]? = some (.cells #[.int .i64 sym] 2 (0, 0))) ∧ Hid (W.heap[w.heap.size + 2]? = some (.cells #[.int .i64 side] 3 (0, 0))) ∧ Hid (Below w.heap.size w W)) := fun hn =>
      ⟨KeepsFrom.refl _ _, KpG.of_below i9.out.size (Below.refl _ _), by show SumAt _ _ _; rw [hv.out, if_neg hn, Int.add_zero]; exact i1.out, i2.out, i3.out, i9.out⟩
    have HSK := Lib.hid hskip
    clear hskip
    by_cases hq : x.s = sym
    · have tq : (x.s == sym) = true := by simp [hq]
      by_cases hd : x.d = side
      · have td : (x.d == side) = true := by simp [hd]
        have hv2 : Hid ((if x.s = sym ∧ x.d = side then x.l else 0) = x.l) := if_pos ⟨hq, hd⟩
        have qa := Lib.hid (Add_any G _ x.l (ok_mod _) x.hl W i1)
        clear hq hd HSK
        gi_wp2_with (fail)
        refine ⟨trivial, CallsIn.inRound l (callsIn_wide.2 (qa.out.mono ?_))⟩
        rintro e w9 ⟨rfl, hs9, hg9⟩
        have hN := Lib.hid (show KeepsFrom w7.heap.size W w9 ∧ KpG w G W w9 ∧ (Hid (SumAt w9 G ((k2 * (1 - 2 * side) + sumS sym side ((pre ++ [x]).map OP.val)) % M3)) ∧ Hid (w9.heap[w.heap.size + 1]? = some (.cells #[.int .i64 sym] 2 (0, 0))) ∧ Hid (w9.heap[w.heap.size + 2]? = some (.cells #[.int .i64 side] 3 (0, 0))) ∧ Hid (Below w.heap.size w w9)) from
          ⟨(KeepsOthers.of_grownBy hg9 (fun j o ej hj => by cases ej; rw [show W.heap[G]? = _ from i1.out] at hj; cases hj; rfl)).from _, KpG.of_grown i9.out.size (by have := HG.out; omega) hg9,
           by show SumAt _ _ _; rw [turn_add] at hs9; rw [hv.out, hv2.out, ← Int.add_assoc]; exact hs9,
           (hg9.block _ (Array.getElem?_eq_some_iff.1 i2.out).1 (fun e => by have := HG.out; injection e with e; omega)).trans i2.out, (hg9.block _ (Array.getElem?_eq_some_iff.1 i3.out).1 (fun e => by have := HG.out; injection e with e; omega)).trans i3.out, below_of_grown i9.out hg9 (by have := HG.out; omega) i9.out.size⟩)
        clear hs9 hg9 cy cd x2 x3 x4 qa
        gi_wp2_with (fail)
        exact hN.out
      · have td : (x.d == side) = false := by simp [hd]
        have hN := Lib.hid (HSK.out (fun h => hd h.2))
        clear hq hd HSK
        gi_wp2_with (fail)
        exact hN.out
    · have tq : (x.s == sym) = false := by simp [hq]
      have hN := Lib.hid (HSK.out (fun h => hq h.1))
      clear hq HSK
      gi_wp2_with (fail)
      exact hN.out
  case done =>
    rintro D ys W hD hys ⟨i1, i2, i3, i9⟩ hK
    have HK := Lib.hid hK
    have hlen : ys.length ≤ 1000000 := by
      have h1' : ys.length = (opensP acc b.o).length := by rw [← hys]; simp
      have h2' := opensP_len acc b.o
      have h3' := hs.out
      unfold Bk.Small at h3'
      omega
    have hbd := sumS_bound sym side ys
    have hXE : k2 * (1 - 2 * side) + sumS sym side (ys.map OP.val) + qty = reachX b acc sym side qty := by unfold reachX; rw [hys, HST.out]
    have hbd2 : -1569275433846670190958947355801916604025588861116008628224 ≤ reachX b acc sym side qty ∧ reachX b acc sym side qty ≤ 1569275433846670190958947355801916604025588861116008628224 := by
      rw [← hXE]
      have h4' : ys.length * 9223372036854775808 ≤ 1000000 * 9223372036854775808 := Nat.mul_le_mul_right _ hlen
      have h5' := prodB HI2.out (show I64 (1 - 2 * side) by unfold I64; omega)
      have h6' := hq1.out
      unfold I64 at h6'
      omega
    have qa := Lib.hid (Add_any G _ qty (ok_mod _) hq1.out W i1)
    have HXE := Lib.hid hXE
    have HBD2 := Lib.hid hbd2
    have HI9 := i9
    have HS1 := i1
    clear hK hbd hbd2 hlen hys hXE i1 i2 i3 i9
    gi_wp2_with (fail)
    refine ⟨trivial, callsIn_wide.2 (qa.out.mono ?_)⟩
    rintro e w9 ⟨rfl, hs9, hg9⟩
    rw [turn_add, HXE.out] at hs9
    have S9 := Lib.hid hs9
    have HB9 := Lib.hid (below_of_grown HI9.out hg9 (by have := HG.out; omega) HI9.out.size)
    have HK9 := Lib.hid ((hg9.block _ (Array.getElem?_eq_some_iff.1 HK.out).1 (fun e => by injection e with e; subst e; have h := HK.out; rw [show W.heap[D]? = _ from HS1.out] at h; cases h)).trans HK.out)
    clear hs9 hg9 qa
    have qt := Lib.hid (Total_any G _ (ok_mod (reachX b acc sym side qty)) w9 S9)
    rw [total_fits HBD2.out] at qt
    obtain ⟨FP, hFP⟩ : ∃ FP, fitsP (reachX b acc sym side qty) = FP := ⟨_, rfl⟩
    rw [hFP] at qt
    have HFP := Lib.hid hFP
    clear hFP
    gi_wp2_with (fail)
    refine ⟨trivial, callsIn_wide.2 (qt.out.mono ?_)⟩
    rintro e wa ⟨rfl, rfl⟩
    gi_wp2_with (fail)
    have hDw : w.heap.size ≤ D := Nat.le_trans HC7.out.below.size hD
    refine ⟨by simp, .inl ⟨_, _, rfl, run_takeDeferred HK9.out, ?_⟩⟩
    exact ⟨_, results_tmp2 rfl _ _ _, by rw [HFP.out]; rfl, HB9.out.trans (belowK_b (w := w) (Nat.le_refl _) _ D _ _ hDw HK9.out rfl rfl)⟩
end Go.Proofs.Ytfkfpppiikgjbaa
