/- Part 13 of what the claim rests on. -/
import Derived.Test.YtjcdpmianmgiaaaGreatDoorF00
import Derived.Test.YtjcdpmianmgiaaaGreatDoorF11
import Derived.Deep.DeepHandedRow
import Derived.Deep.Fields
import Derived.Deep.Slices
import Derived.Deep.Strs
import Derived.LaidHandle
import Derived.LaidMore
import Derived.LaidOnce
import Derived.Lib.LaidTab
import Derived.OpenShut
import Derived.ProofKit
import Derived.ShutString
import Derived.Test.YtjcdpmianmgiaaaGreatDoorCards
import Derived.Test.YtjcdpmianmgiaaaGreatDoorTie
namespace Go.Proofs.YtjcdpmianmgiaaaGreatDoor
section
open Go Go.RowKit Go.Shelf Mon
attribute [local go_sem] Oper.semAt_some
set_option linter.unusedVariables false
set_option linter.unusedSimpArgs false
def stakeOf (b : Bk) (acc sym : Int) : Int := ((recOf 3 (b.s.find? (isKey acc sym))).1).getD 2 0
def sumS (sym side : Int) : List (List Int) → Int
  | [] => 0
  | r :: t => (if r.getD 2 0 = sym ∧ r.getD 3 0 = side then r.getD 4 0 else 0) + sumS sym side t
theorem sumS_append (sym side : Int) (l m : List (List Int)) : sumS sym side (l ++ m) = sumS sym side l + sumS sym side m := by
  induction l with
  | nil => simp [sumS]
  | cons x t ih => simp only [List.cons_append, sumS, ih]; omega
theorem sumS_bound (sym side : Int) : ∀ l : List OP, (sumS sym side (l.map OP.val)).natAbs ≤ l.length * 9223372036854775808
  | [] => by simp [sumS]
  | x :: t => by
    have h1 := sumS_bound sym side t
    have h2 := x.hl
    unfold I64 at h2
    show ((if x.s = sym ∧ x.d = side then x.l else 0) + sumS sym side (t.map OP.val)).natAbs ≤ (t.length + 1) * _
    split <;> omega
def reachX (b : Bk) (acc sym side qty : Int) : Int := stakeOf b acc sym * (1 - 2 * side) + sumS sym side (opensP acc b.o) + qty
def reachR (b : Bk) (acc sym side qty : Int) : Int × Bool := if side < 0 ∨ 1 < side then (0, false) else fitsP (reachX b acc sym side qty)
def reachP (b : Bk) (acc sym side qty : Int) : Int × Bool := if b.mayB then reachR b acc sym side qty else (0, false)
set_option maxRecDepth 100000 in
set_option maxHeartbeats 8000000 in
theorem Reach_any (v : Value) (b : Bk) (acc sym side qty : Int) (w : World) (hb : Hid (BkAt w v b)) (hs : Hid b.Small) (hi : Hid b.I64s) (hq1 : Hid (I64 qty)) :
    Calls Tryz.prog 95 #[v, .int .i64 acc, .int .i64 sym, .int .i64 side, .int .i64 qty] w fun e w' => e = .returned (.tuple #[.int .i64 (reachP b acc sym side qty).1, .bool (reachP b acc sym side qty).2]) ∧ Below w.heap.size w w' := by
  obtain ⟨vh, vs, vo, vr, rfl, g1, g2, g3, g4⟩ := hb.out
  have LS : Hid (∀ r ∈ b.s, r.length = 3) := (by obtain ⟨_, _, _, h, _⟩ := g2; exact h)
  clear g1 g2 g3 g4
  obtain ⟨w1, hw1⟩ : ∃ w1, ((w.alloc (.cells #[vh, vs, vo, vr, .int .i64 b.n] 27)).alloc (.cells #[.int .i64 sym] 2)).alloc (.cells #[.int .i64 side] 3) = w1 := ⟨_, rfl⟩
  have HB1 : Hid (Below w.heap.size w w1) := by rw [← hw1]; exact below_alloc (below_alloc (below_alloc (Below.refl _ _) (Nat.le_refl _) _) (by simp) _) (by simp; omega) _
  have K1 : Hid (w1.heap[w.heap.size]? = some (.cells #[vh, vs, vo, vr, .int .i64 b.n] 27 (0, 0))) := by rw [← hw1]; exact blk_old (blk_old (heap_new _ _) _) _
  have Y1 : Hid (w1.heap[w.heap.size + 1]? = some (.cells #[.int .i64 sym] 2 (0, 0))) := by rw [← hw1]; exact blk_old (blk_new _ _ _ (by simp)) _
  have D1 : Hid (w1.heap[w.heap.size + 2]? = some (.cells #[.int .i64 side] 3 (0, 0))) := by rw [← hw1]; exact blk_new _ _ _ (by simp)
  have B1 : Hid (BkAt w1 (.agg #[vh, vs, vo, vr, .int .i64 b.n]) b) := hb.out.call HB1.out
  have qm := zH (BkMay_any _ b _ B1 hs)
  replace hw1 := zH hw1
  cases hm : b.mayB with
  | false =>
    have he : reachP b acc sym side qty = (0, false) := by unfold reachP; rw [hm]; rfl
    rw [he]
    rw [hm] at qm
    clear hm he
    go_enter Tryz.func95, Tryz.ntmps95
    go_wp2_with fail
    rw [hw1.out]
    with_reducible refine qm.out.mono ?_
    rintro e w2 ⟨rfl, hb2⟩
    have HB2 := zB HB1 hb2
    clear hb2
    go_wp2_with fail
    go_ret2
    exact ⟨rfl, HB2.out⟩
  | true =>
  have he : reachP b acc sym side qty = reachR b acc sym side qty := by unfold reachP; rw [hm]; rfl
  rw [he]
  rw [hm] at qm
  have HR := zH (mayB_rise hm)
  clear hm he
  by_cases hsd : side < 0 ∨ 1 < side
  · have he : reachR b acc sym side qty = (0, false) := if_pos hsd
    rw [he]
    clear he
    go_enter Tryz.func95, Tryz.ntmps95
    go_wp2_with fail
    rw [hw1.out]
    with_reducible refine qm.out.mono ?_
    rintro e w2 ⟨rfl, hb2⟩
    have c0 := cells_of_blk (blk_call D1.out hb2) 0 _ rfl
    have HB2 := zB HB1 hb2
    clear hb2
    by_cases h0 : side < 0
    · have t0 : decide (side < 0) = true := decide_eq_true h0
      clear hsd h0
      go_wp2_with fail
      go_ret2
      exact ⟨rfl, HB2.out⟩
    · have t0 : decide (side < 0) = false := decide_eq_false h0
      have t1 : decide (1 < side) = true := decide_eq_true (by omega)
      clear hsd h0
      go_wp2_with fail
      go_ret2
      exact ⟨rfl, HB2.out⟩
  have he : reachR b acc sym side qty = fitsP (reachX b acc sym side qty) := if_neg hsd
  rw [he]
  have hsd0 : 0 ≤ side := by omega
  have hsd1 : side ≤ 1 := by omega
  have t0 : decide (side < 0) = false := decide_eq_false (by omega)
  have t1 : decide (1 < side) = false := decide_eq_false (by omega)
  obtain ⟨rs, F, hl1, hx1⟩ := rec_of LS.out (isKey acc sym)
  match rs, hl1, hx1 with
  | [k0, k1, k2], _, hx1 =>
  have hst : stakeOf b acc sym = k2 := by unfold stakeOf; rw [hx1]; rfl
  have HI2 : Hid (I64 k2) := rec_I64 hi.out.2.1 hx1 k2 (by simp)
  have HX1 := zH hx1
  have HST := zH hst
  have F2 : b.s.length ≤ 1000000 := by have := hs.out; unfold Bk.Small at this; omega
  have hR4 := zH HR.out.2.2.2
  have qk := zH (fun u wz hv => Stake_any u b acc sym k0 k1 k2 F wz hv F2 hR4 HX1)
  clear he hsd hx1 hst
  refine (callsIn_wide (n := 3)).1 ?_
  have hn1 : 1 ≤ 3 := by omega
  have hro : Fence.wide.round = none := rfl
  refine callsIn_of_wp_marks Tryz.func95 rfl trivial ?_ hro
  simp only [Tryz.ntmps95, List.size_toArray, List.length_cons, List.length_nil, Nat.reduceAdd, Nat.reduceSub, Array.replicate_succ, Array.replicate_zero, List.push_toArray, List.append_toArray, List.nil_append, List.cons_append]
  gi_wp2_with (fail)
  rw [hw1.out]
  refine ⟨trivial, callsIn_wide.2 (qm.out.mono ?_)⟩
  rintro e w2 ⟨rfl, hb2⟩
  have K2 := zK K1 hb2
  have Y2 := zK Y1 hb2
  have D2 := zK D1 hb2
  have B2 := zH (B1.out.call hb2)
  have HB2 := zB HB1 hb2
  clear hb2 qm
  obtain ⟨G, hG⟩ : ∃ G, w2.heap.size = G := ⟨_, rfl⟩
  have hbx : Below w2.heap.size w2 (w2.alloc (.cells #[.int .u64 0, .int .u64 0, .int .u64 0] 204)) := below_alloc (Below.refl _ _) (Nat.le_refl _) _
  have K3 := zK K2 hbx
  have Y3 := zK Y2 hbx
  have D3 := zK D2 hbx
  have B3 := zH (B2.out.call hbx)
  have HB3 := zB HB2 hbx
  have S3 : Hid (SumAt (w2.alloc (.cells #[.int .u64 0, .int .u64 0, .int .u64 0] 204)) G 0) := by rw [← hG]; exact sum_new w2
  have HG : Hid (w.heap.size + 2 < G) := (show _ < _ from by have := (zL D2.out); omega)
  have c0 := cells_of_blk D2.out 0 _ rfl
  clear hbx
  gi_wp2_with (fail)
  clear c0
  generalize w2.alloc (.cells #[.int .u64 0, .int .u64 0, .int .u64 0] 204) = w3 at *
  clear hG
  have c0 := cells_of_blk D3.out 0 _ rfl
  have c1 := cells_of_blk Y3.out 0 _ rfl
  have a0 := zC K3.out
  have l0 := zL K3.out
  have l1 := zL Y3.out
  have l2 := zL D3.out
  have hw0 : IntKind.i64.wrap (2 * side) = 2 * side := by rw [IntKind.wrap_i64]; omega
  have hw2 : IntKind.i64.wrap (1 - 2 * side) = 1 - 2 * side := by rw [IntKind.wrap_i64]; omega
  have HC : Hid (w3.drew.heap[w.heap.size]? = some (.cells #[vh, vs, vo, vr, .int .i64 b.n] 27 (0, 0)) ∧ w3.drew.heap[w.heap.size + 1]? = some (.cells #[.int .i64 sym] 2 (0, 0)) ∧ w3.drew.heap[w.heap.size + 2]? = some (.cells #[.int .i64 side] 3 (0, 0))) := ⟨K3.out, Y3.out, D3.out⟩
  have HCb : Hid (Below w3.heap.size w3 w3.drew) := (Below.refl _ _).drew
  refine wpIn_wide.2 ?_
  refine wp_region_D [] (fun wz => Hid (wz.heap[w.heap.size]? = some (.cells #[vh, vs, vo, vr, .int .i64 b.n] 27 (0, 0)) ∧ wz.heap[w.heap.size + 1]? = some (.cells #[.int .i64 sym] 2 (0, 0)) ∧ wz.heap[w.heap.size + 2]? = some (.cells #[.int .i64 side] 3 (0, 0)))) 8 #[false, false, false, false, false, false, false, false] (by kernel_rfl) (by kernel_rfl) (by kernel_rfl) ?_
  refine pure_moreD [0, 1, 2, 4, 5, 6] 2 (L' := #[true, true, true, false, true, true, true, false]) (by kernel_rfl) (by kernel_rfl) HC ?_
  simp only [opsAt, List.getElem?_toArray, List.getElem?_cons_zero, List.getElem?_cons_succ]
  refine pure_atG (.agg #[vh, vs, vo, vr, .int .i64 b.n]) rfl (fun wz hC => by have h0 := cells_of_blk (Hid.out hC).1 0 _ rfl; have h1 := cells_of_blk (Hid.out hC).1 1 _ rfl; have h2 := cells_of_blk (Hid.out hC).1 2 _ rfl; have h3 := cells_of_blk (Hid.out hC).1 3 _ rfl; have h4 := cells_of_blk (Hid.out hC).1 4 _ rfl; unfold execOp; go_simp) ?_
  refine pure_moveG rfl rfl ?_
  refine pure_atG (.int .i64 sym) rfl (fun wz hC => by have h0 := cells_of_blk (Hid.out hC).2.1 0 _ rfl; unfold execOp; go_simp) ?_
  refine pure_atG (.int .i64 side) rfl (fun wz hC => by have h0 := cells_of_blk (Hid.out hC).2.2 0 _ rfl; unfold execOp; go_simp) ?_
  refine pure_atG (.int .i64 (2 * side)) rfl (fun wz _ => by unfold execOp; go_simp) ?_
  refine pure_atG (.int .i64 (1 - 2 * side)) rfl (fun wz _ => by unfold execOp; go_simp) ?_
  unfold wpPure
  go_simp
  refine wpAnyD_one 3 (f := 1) (L' := #[true, true, true, true, true, true, true, false]) (by kernel_rfl) (by kernel_rfl) rfl rfl ?_
  go_wp2_with fail
  with_reducible refine (qk.out _ _ (zH (B3.out.call HCb.out))).mono ?_
  rintro e wc1 ⟨rfl, hb⟩
  replace HCb : Hid (Below w3.heap.size w3 wc1) := HCb.out.trans (hb.mono HCb.out.size)
  replace HC : Hid (wc1.heap[w.heap.size]? = some (.cells #[vh, vs, vo, vr, .int .i64 b.n] 27 (0, 0)) ∧ wc1.heap[w.heap.size + 1]? = some (.cells #[.int .i64 sym] 2 (0, 0)) ∧ wc1.heap[w.heap.size + 2]? = some (.cells #[.int .i64 side] 3 (0, 0))) := ⟨blk_call K3.out HCb.out, blk_call Y3.out HCb.out, blk_call D3.out HCb.out⟩
  clear hb
  go_wp2_with fail
  rw [StepQ_normal]
  refine ⟨fun _ => HC, ?_⟩
  have S4 : Hid (SumAt wc1 G 0) := blk_call S3.out HCb.out
  have qa := zH (AddMul_any G 0 k2 (1 - 2 * side) (by unfold Ok M3; omega) HI2.out (by unfold I64; omega) _ S4)
  have K4 := zH (blk_call K3.out HCb.out)
  have Y4 := zH (blk_call Y3.out HCb.out)
  have D4 := zH (blk_call D3.out HCb.out)
  have HB4 := zH (HB3.out.trans (HCb.out.mono HB3.out.size))
  clear a0 l0 l1 l2 c0 c1 HC HCb
  refine wpAnyD_one 7 (f := 0) (L' := #[true, true, true, true, true, true, true, true]) (by kernel_rfl) (by kernel_rfl) rfl rfl ?_
  go_wp2_with fail
  with_reducible refine qa.out.mono ?_
  rintro e w5 ⟨rfl, hs5, hg5⟩
  rw [Int.zero_add] at hs5
  have S5 := zH hs5
  have K5 := zH ((hg5.block _ (zL K4.out) (fun e => by have := HG.out; injection e with e; omega)).trans K4.out)
  have Y5 := zH ((hg5.block _ (zL Y4.out) (fun e => by have := HG.out; injection e with e; omega)).trans Y4.out)
  have D5 := zH ((hg5.block _ (zL D4.out) (fun e => by have := HG.out; injection e with e; omega)).trans D4.out)
  have HB5 := zH (below_of_grown HB4.out hg5 (by have := HG.out; omega) HB4.out.size)
  have HG5 : Hid (G < w5.heap.size) := zL hs5
  clear hs5 hg5 qa K4 Y4 D4 HB4 S4 S3
  go_wp2_with fail
  rw [StepQ_normal]
  refine ⟨fun _ => ⟨K5.out, Y5.out, D5.out⟩, ?_⟩
  refine ⟨by kernel_rfl, ?_⟩
  rw [OnlyN_normal]
  have a0 := zC K5.out
  gi_wp2_with (fail)
  clear a0
  refine ⟨trivial, callsIn_wide.2 ((opens_any vh vs vo vr b.n acc _).mono ?_)⟩
  rintro e w7 ⟨rfl, hw7⟩
  have HC7 : Hid (Caps w w5.heap.size (w5.heap.size + 1) vh vs vo vr b.n acc w7) := by rw [← hw7]; exact ⟨blk_old (heap_new _ _) _, blk_new _ _ _ (by simp), below_alloc (below_alloc HB5.out HB5.out.size _) (by have := HB5.out.size; simp; omega) _⟩
  have Y7 : Hid (w7.heap[w.heap.size + 1]? = some (.cells #[.int .i64 sym] 2 (0, 0))) := by rw [← hw7]; exact blk_old (blk_old Y5.out _) _
  have D7 : Hid (w7.heap[w.heap.size + 2]? = some (.cells #[.int .i64 side] 3 (0, 0))) := by rw [← hw7]; exact blk_old (blk_old D5.out _) _
  have S7 : Hid (SumAt w7 G (k2 * (1 - 2 * side) % M3)) := by rw [← hw7]; exact blk_old (blk_old S5.out _) _
  clear hw7
  gi_wp2_with (fail)
  have hgb : Hid (w5.heap.size ≠ G ∧ w5.heap.size + 1 ≠ G) := (show _ ∧ _ from by have := HG5.out; omega)
  have BO : Hid (BkAt w (.agg #[vh, vs, vo, vr, .int .i64 b.n]) b) := hb
  refine wpIn_rangeFunc_ownH hro hn1 (gf := 186) (lb := #[.pointer (some ⟨w5.heap.size, 0, none⟩), .pointer (some ⟨w5.heap.size + 1, 0, none⟩)]) rfl trivial (enters_of Tryz.func186 (by kernel_rfl) rfl)
    (opens_stops G w5.heap.size (w5.heap.size + 1) vh vs vo vr b acc w w7 hgb BO hs hi HC7) KpG.trans (KpG.put HC7.out.below.size) (Below.refl _ _) (fun _ => rfl)
    (fun pre W => Hid (SumAt W G ((k2 * (1 - 2 * side) + sumS sym side (pre.map OP.val)) % M3)) ∧ Hid (W.heap[w.heap.size + 1]? = some (.cells #[.int .i64 sym] 2 (0, 0))) ∧ Hid (W.heap[w.heap.size + 2]? = some (.cells #[.int .i64 side] 3 (0, 0))) ∧ Hid (Below w.heap.size w W))
    (fun _ _ _ => False)
    (OwnFrom.and (own_blk _ _ _ _) (OwnFrom.and (own_blk _ _ _ _) (OwnFrom.and (own_blk _ _ _ _) (ownFrom_below (Nat.le_refl _) HC7.out.below.size))))
    (fun _ _ _ _ _ hs _ _ => hs)
    ⟨by show SumAt _ _ _; rw [show k2 * (1 - 2 * side) + sumS sym side (([] : List OP).map OP.val) = k2 * (1 - 2 * side) by simp [sumS]]; exact S7.out, Y7.out, D7.out, HC7.out.below⟩
    (fun x a' W => ∃ Bx, Hid (Bx < W.heap.size) ∧ Hid (W.heap[Bx]? = some (.cells #[.int .i64 x.i, .int .i64 x.a, .int .i64 x.s, .int .i64 x.d, .int .i64 x.l, .int .i64 x.p] 86 (0, 0))) ∧ a' = { tmps := #[.agg #[vh, vs, vo, vr, .int .i64 b.n], .int .i64 acc, .int .i64 sym, .int .i64 side, .int .i64 qty, .pointer (some ⟨w.heap.size, 0, none⟩), undef, .pointer (some ⟨w.heap.size + 1, 0, none⟩), .pointer (some ⟨w.heap.size + 1 + 1, 0, none⟩), undef, .int .i64 0, .bool false, .pointer (some ⟨G, 0, none⟩), .pointer (some ⟨Bx, 0, none⟩), .agg #[vh, vs, vo, vr, .int .i64 b.n], .bool true, .bool false, .bool false, .int .i64 side, .bool false, .bool false, .bool false, .int .i64 side, .bool false, .bool false, .agg #[vh, vs, vo, vr, .int .i64 b.n], .int .i64 acc, .int .i64 sym, .int .i64 k2, .int .i64 side, .int .i64 (2 * side), .int .i64 (1 - 2 * side), .tuple #[], .agg #[vh, vs, vo, vr, .int .i64 b.n], .int .i64 acc, .func (.func 186) #[] #[.pointer (some ⟨w5.heap.size, 0, none⟩), .pointer (some ⟨w5.heap.size + 1, 0, none⟩)], .agg #[.int .i64 x.i, .int .i64 x.a, .int .i64 x.s, .int .i64 x.d, .int .i64 x.l, .int .i64 x.p], undef, undef, undef, undef, undef, undef, undef, undef, undef, undef, undef, undef, undef, undef, undef, undef, undef, undef], defers := [] })
    (fun x a' _ X Y row hs' hg hr => by
      obtain ⟨Bx, h1', h2', h3'⟩ := hs'
      exact ⟨Bx, Nat.lt_of_lt_of_le h1'.out hg.size, (hg.block Bx h1'.out (fun e => by obtain ⟨_, o, ho, hc⟩ := hr Bx e.symm; rw [h2'.out] at ho; cases ho; cases hc)).trans h2'.out, h3'⟩)
    ?assign ?body ?done ?stop
  case assign =>
    rintro l pre x W K ⟨i1, i2, i3, i9⟩ hK
    have hsz : w.heap.size ≤ W.heap.size := i9.out.size
    unfold OP.enc
    gi_wp2_with (fail)
    exact hK _ _ ((KeepsOthers.alloc _ _).from _) (KpG.of_below hsz (below_alloc (Below.refl _ _) (Nat.le_refl _) _)) ⟨blk_old i1.out _, blk_old i2.out _, blk_old i3.out _, below_alloc i9.out hsz _⟩ ⟨W.heap.size, by show _ < _; simp, heap_new _ _, rfl⟩
  case stop =>
    rintro D c pre W _ _ h _
    exact h.elim
  case body =>
    rintro l pre x a' W hl ⟨r, hr⟩ ⟨i1, i2, i3, i9⟩ ⟨Bx, hBx, bX, rfl⟩ hlt
    have cy := cells_of_blk i2.out 0 _ rfl
    have cd := cells_of_blk i3.out 0 _ rfl
    have x2 := zC bX.out
    have hlB := hBx.out
    have hv : Hid (sumS sym side ((pre ++ [x]).map OP.val) = sumS sym side (pre.map OP.val) + (if x.s = sym ∧ x.d = side then x.l else 0)) := (show _ = _ from by
      rw [List.map_append, sumS_append]
      show _ + ((if x.s = sym ∧ x.d = side then x.l else 0) + 0) = _
      omega)
    have hskip : ¬ (x.s = sym ∧ x.d = side) → KeepsFrom w7.heap.size W W ∧ KpG w G W W ∧ (Hid (SumAt W G ((k2 * (1 - 2 * side) + sumS sym side ((pre ++ [x]).map OP.val)) % M3)) ∧ Hid (W.heap[w.heap.size + 1]? = some (.cells #[.int .i64 sym] 2 (0, 0))) ∧ Hid (W.heap[w.heap.size + 2]? = some (.cells #[.int .i64 side] 3 (0, 0))) ∧ Hid (Below w.heap.size w W)) := fun hn =>
      ⟨KeepsFrom.refl _ _, KpG.of_below i9.out.size (Below.refl _ _), by show SumAt _ _ _; rw [hv.out, if_neg hn, Int.add_zero]; exact i1.out, i2.out, i3.out, i9.out⟩
    have HSK := zH hskip
    clear hskip
    by_cases hq : x.s = sym
    · have tq : (x.s == sym) = true := by simp [hq]
      by_cases hd : x.d = side
      · have td : (x.d == side) = true := by simp [hd]
        have hv2 : Hid ((if x.s = sym ∧ x.d = side then x.l else 0) = x.l) := if_pos ⟨hq, hd⟩
        have qa := zH (Add_any G _ x.l (ok_mod _) x.hl W i1)
        clear hq hd HSK
        gi_wp2_with (fail)
        refine ⟨trivial, CallsIn.inRound l (callsIn_wide.2 (qa.out.mono ?_))⟩
        rintro e w9 ⟨rfl, hs9, hg9⟩
        have hN := zH (show KeepsFrom w7.heap.size W w9 ∧ KpG w G W w9 ∧ (Hid (SumAt w9 G ((k2 * (1 - 2 * side) + sumS sym side ((pre ++ [x]).map OP.val)) % M3)) ∧ Hid (w9.heap[w.heap.size + 1]? = some (.cells #[.int .i64 sym] 2 (0, 0))) ∧ Hid (w9.heap[w.heap.size + 2]? = some (.cells #[.int .i64 side] 3 (0, 0))) ∧ Hid (Below w.heap.size w w9)) from
          ⟨(KeepsOthers.of_grownBy hg9 (fun j o ej hj => by cases ej; rw [show W.heap[G]? = _ from i1.out] at hj; cases hj; rfl)).from _, KpG.of_grown i9.out.size (by have := HG.out; omega) hg9,
           by show SumAt _ _ _; rw [turn_add] at hs9; rw [hv.out, hv2.out, ← Int.add_assoc]; exact hs9,
           (hg9.block _ (zL i2.out) (fun e => by have := HG.out; injection e with e; omega)).trans i2.out, (hg9.block _ (zL i3.out) (fun e => by have := HG.out; injection e with e; omega)).trans i3.out, below_of_grown i9.out hg9 (by have := HG.out; omega) i9.out.size⟩)
        clear hs9 hg9 cy cd x2 qa
        gi_wp2_with (fail)
        exact hN.out
      · have td : (x.d == side) = false := by simp [hd]
        have hN := zH (HSK.out (fun h => hd h.2))
        clear hq hd HSK
        gi_wp2_with (fail)
        exact hN.out
    · have tq : (x.s == sym) = false := by simp [hq]
      have hN := zH (HSK.out (fun h => hq h.1))
      clear hq HSK
      gi_wp2_with (fail)
      exact hN.out
  case done =>
    rintro D ys W hD hys ⟨i1, i2, i3, i9⟩ hK
    have HK := zH hK
    have hlen : ys.length ≤ 1000000 := by
      have h1' : ys.length = (opensP acc b.o).length := by rw [← hys]; simp
      have h2' := opensP_len acc b.o
      have h3' := hs.out
      unfold Bk.Small at h3'
      omega
    have hbd := sumS_bound sym side ys
    have hXE : k2 * (1 - 2 * side) + sumS sym side (ys.map OP.val) + qty = reachX b acc sym side qty := by unfold reachX; rw [hys, HST.out]
    have hbd2 : -1569275433846670190958947355801916604025588861116008628224 ≤ reachX b acc sym side qty ∧ reachX b acc sym side qty ≤ 1569275433846670190958947355801916604025588861116008628224 := by
      rw [← hXE]
      have h4' : ys.length * 9223372036854775808 ≤ 1000000 * 9223372036854775808 := Nat.mul_le_mul_right _ hlen
      have h5' := prodB HI2.out (show I64 (1 - 2 * side) by unfold I64; omega)
      have h6' := hq1.out
      unfold I64 at h6'
      omega
    have qa := zH (Add_any G _ qty (ok_mod _) hq1.out W i1)
    have HXE := zH hXE
    have HBD2 := zH hbd2
    have HI9 := i9
    have HS1 := i1
    clear hK hbd hbd2 hlen hys hXE i1 i2 i3 i9
    gi_wp2_with (fail)
    refine ⟨trivial, callsIn_wide.2 (qa.out.mono ?_)⟩
    rintro e w9 ⟨rfl, hs9, hg9⟩
    rw [turn_add, HXE.out] at hs9
    have S9 := zH hs9
    have HB9 := zH (below_of_grown HI9.out hg9 (by have := HG.out; omega) HI9.out.size)
    have HK9 := zH ((hg9.block _ (zL HK.out) (fun e => by injection e with e; subst e; have h := HK.out; rw [show W.heap[D]? = _ from HS1.out] at h; cases h)).trans HK.out)
    clear hs9 hg9 qa
    have qt := zH (Total_any G _ (ok_mod (reachX b acc sym side qty)) w9 S9)
    rw [total_fits HBD2.out] at qt
    obtain ⟨FP, hFP⟩ : ∃ FP, fitsP (reachX b acc sym side qty) = FP := ⟨_, rfl⟩
    rw [hFP] at qt
    have HFP := zH hFP
    clear hFP
    gi_wp2_with (fail)
    refine ⟨trivial, callsIn_wide.2 (qt.out.mono ?_)⟩
    rintro e wa ⟨rfl, rfl⟩
    gi_wp2_with (fail)
    have hDw : w.heap.size ≤ D := Nat.le_trans HC7.out.below.size hD
    refine ⟨by simp, .inl ⟨_, _, rfl, run_takeDeferred HK9.out, ?_⟩⟩
    exact ⟨_, results_tmp2 rfl _ _ _, by rw [HFP.out]; rfl, HB9.out.trans (belowK_b (w := w) (Nat.le_refl _) _ D _ _ hDw HK9.out rfl rfl)⟩
end
section
open Go Go.RowKit Bg Mon
set_option linter.unusedVariables false
set_option linter.unusedSimpArgs false
end
section
open Go Go.RowKit Go.Shelf Mon
set_option linter.unusedVariables false
set_option linter.unusedSimpArgs false
theorem results_tmp4 {fn : Func} {t u v x : Tmp} (h : fn.results = #[.tmp t, .tmp u, .tmp v, .tmp x]) (tmps : Array Value) (P : Program) (w : World) :
    (results fn tmps).run P w = .ok (.tuple #[tmps.getD t undef, tmps.getD u undef, tmps.getD v undef, tmps.getD x undef]) w := by
  simp [results, h]
set_option maxRecDepth 100000 in
set_option maxHeartbeats 2000000 in
theorem lessM_any (g : Nat) (V a b : Int) (hV : Ok V) (ha : I64 a) (hb : I64 b) (w : World) (hS : Hid (SumAt w g V)) :
    Calls Tryz.prog 160 #[.pointer (some ⟨g, 0, none⟩), .int .i64 a, .int .i64 b] w fun r w' =>
      r = .returned (.tuple #[]) ∧ SumAt w' g ((V - a * b) % M3) ∧ w.grownBy w' (some g) := by
  by_cases h : a = -9223372036854775808
  · have ta : (a == -9223372036854775808) = true := by simp [h]
    have q1 := zH (AddMul_any g V 4611686018427387904 b hV (by unfold I64; omega) hb w hS)
    have HE : Hid (a = -9223372036854775808) := h
    have HB := zH hb
    clear h ha hb hV
    go_enter Tryz.func160, Tryz.ntmps160
    go_wp2_with fail
    with_reducible refine q1.out.mono ?_
    rintro e w1 ⟨rfl, hs1, hg1⟩
    have q2 := zH (AddMul_any g _ 4611686018427387904 b (ok_mod _) (by unfold I64; omega) HB.out w1 (zH hs1))
    have G1 := zH hg1
    clear hs1 hg1
    go_wp2_with fail
    with_reducible refine q2.out.mono ?_
    rintro e w2 ⟨rfl, hs2, hg2⟩
    rw [turn_add] at hs2
    have S2 := zH hs2
    have G2 := zH hg2
    clear hs2 hg2
    go_wp2_with fail
    refine bodyPost_ret (results_none rfl _ _ _) rfl ?_
    refine ⟨rfl, ?_, grown_trans G1.out G2.out⟩
    rw [show V - a * b = V + 4611686018427387904 * b + 4611686018427387904 * b by rw [HE.out]; omega]
    exact S2.out
  · have ta : (a == -9223372036854775808) = false := by simp [h]
    have hn : IntKind.i64.wrap (-a) = -a := by rw [IntKind.wrap_i64]; unfold I64 at ha; omega
    have q1 := zH (AddMul_any g V (-a) b hV (by unfold I64 at *; omega) hb w hS)
    clear h ha hb hV
    go_enter Tryz.func160, Tryz.ntmps160
    go_wp2_with fail
    with_reducible refine q1.out.mono ?_
    rintro e w1 ⟨rfl, hs1, hg1⟩
    have S1 := zH hs1
    have G1 := zH hg1
    clear hs1 hg1
    go_wp2_with fail
    go_end0
    refine ⟨rfl, ?_, G1.out⟩
    rw [show V - a * b = V + -a * b by rw [Int.neg_mul]; omega]
    exact S1.out
def afterR (b : Bk) (acc sym side qty price : Int) : (Int × Bool) × (Int × Bool) :=
  if side < 0 ∨ 1 < side then ((0, false), (0, false))
  else (fitsP (cashOf b acc + (if side = 0 then -(qty * price) else qty * price)), fitsP (stakeOf b acc sym + (if side = 0 then qty else -qty)))
def afterP (b : Bk) (acc sym side qty price : Int) : (Int × Bool) × (Int × Bool) := if b.mayB then afterR b acc sym side qty price else ((0, false), (0, false))
set_option maxRecDepth 100000 in
set_option maxHeartbeats 8000000 in
theorem After_any (v : Value) (b : Bk) (id acc sym side left px qty price : Int) (w : World) (hb : Hid (BkAt w v b)) (hs : Hid b.Small) (hi : Hid b.I64s) (hq1 : Hid (I64 qty)) (hp1 : Hid (I64 price)) :
    Calls Tryz.prog 100 #[v, .agg #[.int .i64 id, .int .i64 acc, .int .i64 sym, .int .i64 side, .int .i64 left, .int .i64 px], .int .i64 qty, .int .i64 price] w fun e w' => e = .returned (.tuple #[.int .i64 (afterP b acc sym side qty price).1.1, .int .i64 (afterP b acc sym side qty price).2.1, .bool (afterP b acc sym side qty price).1.2, .bool (afterP b acc sym side qty price).2.2]) ∧ Below w.heap.size w w' := by
  obtain ⟨vh, vs, vo, vr, rfl, g1, g2, g3, g4⟩ := hb.out
  have LH : Hid (∀ r ∈ b.h, r.length = 4) := (by obtain ⟨_, _, _, h, _⟩ := g1; exact h)
  have LS : Hid (∀ r ∈ b.s, r.length = 3) := (by obtain ⟨_, _, _, h, _⟩ := g2; exact h)
  clear g1 g2 g3 g4
  obtain ⟨w1, hw1⟩ : ∃ w1, (w.alloc (.cells #[vh, vs, vo, vr, .int .i64 b.n] 27)).alloc (.cells #[.int .i64 id, .int .i64 acc, .int .i64 sym, .int .i64 side, .int .i64 left, .int .i64 px] 86) = w1 := ⟨_, rfl⟩
  have HB1 : Hid (Below w.heap.size w w1) := by rw [← hw1]; exact below_alloc (below_alloc (Below.refl _ _) (Nat.le_refl _) _) (by simp) _
  have K1 : Hid (w1.heap[w.heap.size]? = some (.cells #[vh, vs, vo, vr, .int .i64 b.n] 27 (0, 0))) := by rw [← hw1]; exact blk_old (heap_new _ _) _
  have O1 : Hid (w1.heap[w.heap.size + 1]? = some (.cells #[.int .i64 id, .int .i64 acc, .int .i64 sym, .int .i64 side, .int .i64 left, .int .i64 px] 86 (0, 0))) := by rw [← hw1]; exact blk_new _ _ _ (by simp)
  have B1 : Hid (BkAt w1 (.agg #[vh, vs, vo, vr, .int .i64 b.n]) b) := hb.out.call HB1.out
  have qm := zH (BkMay_any _ b _ B1 hs)
  replace hw1 := zH hw1
  cases hm : b.mayB with
  | false =>
    have he : afterP b acc sym side qty price = ((0, false), (0, false)) := by unfold afterP; rw [hm]; rfl
    rw [he]
    rw [hm] at qm
    clear hm he
    go_enter Tryz.func100, Tryz.ntmps100
    go_wp2_with fail
    rw [hw1.out]
    with_reducible refine qm.out.mono ?_
    rintro e w2 ⟨rfl, hb2⟩
    have HB2 := zB HB1 hb2
    clear hb2
    go_wp2_with fail
    refine bodyPost_ret (results_tmp4 rfl _ _ _) rfl ?_
    exact ⟨rfl, HB2.out⟩
  | true =>
  have he : afterP b acc sym side qty price = afterR b acc sym side qty price := by unfold afterP; rw [hm]; rfl
  rw [he]
  rw [hm] at qm
  have HR := zH (mayB_rise hm)
  clear hm he
  by_cases hsd : side < 0 ∨ 1 < side
  · have he : afterR b acc sym side qty price = ((0, false), (0, false)) := if_pos hsd
    rw [he]
    clear he
    go_enter Tryz.func100, Tryz.ntmps100
    go_wp2_with fail
    rw [hw1.out]
    with_reducible refine qm.out.mono ?_
    rintro e w2 ⟨rfl, hb2⟩
    have c0 := cells_of_blk (blk_call O1.out hb2) 3 _ rfl
    have HB2 := zB HB1 hb2
    clear hb2
    by_cases h0 : side < 0
    · have t0 : decide (side < 0) = true := decide_eq_true h0
      clear hsd h0
      go_wp2_with fail
      refine bodyPost_ret (results_tmp4 rfl _ _ _) rfl ?_
      exact ⟨rfl, HB2.out⟩
    · have t0 : decide (side < 0) = false := decide_eq_false h0
      have t1 : decide (1 < side) = true := decide_eq_true (by omega)
      clear hsd h0
      go_wp2_with fail
      refine bodyPost_ret (results_tmp4 rfl _ _ _) rfl ?_
      exact ⟨rfl, HB2.out⟩
  obtain ⟨rh, FH, hl1, hx1⟩ := rec_of LH.out (isId acc)
  match rh, hl1, hx1 with
  | [h0, h1, h2, h3], _, hx1 =>
  obtain ⟨rs, FS, hl2, hx2⟩ := rec_of LS.out (isKey acc sym)
  match rs, hl2, hx2 with
  | [k0, k1, k2], _, hx2 =>
  have hc : cashOf b acc = h1 := by unfold cashOf; rw [hx1]; rfl
  have hst : stakeOf b acc sym = k2 := by unfold stakeOf; rw [hx2]; rfl
  have HI1 : Hid (I64 h1) := rec_I64 hi.out.1 hx1 h1 (by simp)
  have HI2 : Hid (I64 k2) := rec_I64 hi.out.2.1 hx2 k2 (by simp)
  have HX1 := zH hx1
  have HX2 := zH hx2
  have F1 : b.h.length ≤ 1000000 := by have := hs.out; unfold Bk.Small at this; omega
  have F2 : b.s.length ≤ 1000000 := by have := hs.out; unfold Bk.Small at this; omega
  have qh := zH (fun u wz hv => Holder_any u b acc h0 h1 h2 h3 FH wz hv F1 (zH HR.out.1) HX1)
  have qs := zH (fun u wz hv => Stake_any u b acc sym k0 k1 k2 FS wz hv F2 (zH HR.out.2.2.2) HX2)
  have he : afterR b acc sym side qty price = (fitsP (h1 + (if side = 0 then -(qty * price) else qty * price)), fitsP (k2 + (if side = 0 then qty else -qty))) := by unfold afterR; rw [if_neg hsd, hc, hst]
  obtain ⟨FP, hFP⟩ : ∃ FP, fitsP (h1 + (if side = 0 then -(qty * price) else qty * price)) = FP := ⟨_, rfl⟩
  obtain ⟨FQ, hFQ⟩ : ∃ FQ, fitsP (k2 + (if side = 0 then qty else -qty)) = FQ := ⟨_, rfl⟩
  rw [he, hFP, hFQ]
  have HFP := zH hFP
  have HFQ := zH hFQ
  have hside : side = 0 ∨ side = 1 := by omega
  have t0 : decide (side < 0) = false := decide_eq_false (by omega)
  have t1 : decide (1 < side) = false := decide_eq_false (by omega)
  clear he hsd hx1 hx2 hc hst F1 F2 hFP hFQ
  go_enter Tryz.func100, Tryz.ntmps100
  go_wp2_with fail
  rw [hw1.out]
  with_reducible refine qm.out.mono ?_
  rintro e w2 ⟨rfl, hb⟩
  have K2 := zK K1 hb
  have O2 := zK O1 hb
  have B2 := zH (B1.out.call hb)
  have HB2 := zB HB1 hb
  clear hb qm
  have c0 := zC O2.out
  have a0 := zC K2.out
  go_wp2_with fail
  with_reducible refine (qh.out _ _ B2).mono ?_
  rintro e w3 ⟨rfl, hb⟩
  have K3 := zK K2 hb
  have O3 := zK O2 hb
  have B3 := zH (B2.out.call hb)
  have HB3 := zB HB2 hb
  clear hb a0 c0 qh
  obtain ⟨GC, hGC⟩ : ∃ GC, w3.heap.size + 1 = GC := ⟨_, rfl⟩
  have k1 := sum_new (w3.alloc (.cells #[.int .i64 h0, .int .i64 h1, .int .i64 h2, .int .i64 h3] 82))
  have k2' := sum_new ((w3.alloc (.cells #[.int .i64 h0, .int .i64 h1, .int .i64 h2, .int .i64 h3] 82)).alloc (.cells #[.int .u64 0, .int .u64 0, .int .u64 0] 204))
  rw [World.size_alloc, hGC] at k1
  rw [World.size_alloc, World.size_alloc, hGC] at k2'
  have hbx : Below w3.heap.size w3 (((w3.alloc (.cells #[.int .i64 h0, .int .i64 h1, .int .i64 h2, .int .i64 h3] 82)).alloc (.cells #[.int .u64 0, .int .u64 0, .int .u64 0] 204)).alloc (.cells #[.int .u64 0, .int .u64 0, .int .u64 0] 204)) := below_alloc (below_alloc (below_alloc (Below.refl _ _) (Nat.le_refl _) _) (by simp) _) (by simp; omega) _
  have K4 := zK K3 hbx
  have O4 := zK O3 hbx
  have B4 := zH (B3.out.call hbx)
  have HB4 := zB HB3 hbx
  have SC4 := zH (blk_old k1 (.cells #[.int .u64 0, .int .u64 0, .int .u64 0] 204))
  have SS4 := zH k2'
  have ch := cells_of_blk (blk_old (blk_old (heap_new w3 (.cells #[.int .i64 h0, .int .i64 h1, .int .i64 h2, .int .i64 h3] 82)) (.cells #[.int .u64 0, .int .u64 0, .int .u64 0] 204)) (.cells #[.int .u64 0, .int .u64 0, .int .u64 0] 204)) 1 _ rfl
  have HG : Hid (w.heap.size + 1 < GC) := (show _ < _ from by have := (zL O3.out); omega)
  have qa := zH (Add_any GC 0 h1 (by unfold Ok M3; omega) HI1.out _ SC4)
  clear hbx k1 k2'
  go_wp2_with fail
  with_reducible refine qa.out.mono ?_
  rintro e w5 ⟨rfl, hsX, hgX⟩
  rw [Int.zero_add] at hsX
  have K5 := zH ((hgX.block _ (zL K4.out) (fun e => by have := HG.out; injection e with e; omega)).trans K4.out)
  have O5 := zH ((hgX.block _ (zL O4.out) (fun e => by have := HG.out; injection e with e; omega)).trans O4.out)
  have HB5 := zH (below_of_grown HB4.out hgX (by have := HG.out; omega) HB4.out.size)
  have SC5 := zH hsX
  have SS5 := zH (SS4.out.oth hgX (by omega))
  clear hsX hgX
  have B5 : Hid (BkAt w5 (.agg #[vh, vs, vo, vr, .int .i64 b.n]) b) := hb.out.call HB5.out
  clear qa K4 O4 B4 HB4 SC4 SS4 ch
  have c1 := zC O5.out
  have a0 := zC K5.out
  go_wp2_with fail
  with_reducible refine (qs.out _ _ B5).mono ?_
  rintro e w6 ⟨rfl, hb6⟩
  have K6 := zK K5 hb6
  have O6 := zK O5 hb6
  have HB6 := zB HB5 hb6
  have SC6 := zH (SC5.out.call hb6)
  have SS6 := zH (SS5.out.call hb6)
  clear hb6 a0 c1 qs B5
  have qa := zH (Add_any (GC + 1) 0 k2 (by unfold Ok M3; omega) HI2.out _ SS6)
  go_wp2_with fail
  with_reducible refine qa.out.mono ?_
  rintro e w7 ⟨rfl, hsX, hgX⟩
  rw [Int.zero_add] at hsX
  have K7 := zH ((hgX.block _ (zL K6.out) (fun e => by have := HG.out; injection e with e; omega)).trans K6.out)
  have O7 := zH ((hgX.block _ (zL O6.out) (fun e => by have := HG.out; injection e with e; omega)).trans O6.out)
  have HB7 := zH (below_of_grown HB6.out hgX (by have := HG.out; omega) HB6.out.size)
  have SS7 := zH hsX
  have SC7 := zH (SC6.out.oth hgX (by omega))
  clear hsX hgX
  clear qa K6 O6 HB6 SC6 SS6
  have c3 := cells_of_blk O7.out 3 _ rfl
  rcases hside with hs0 | hs0
  · have ts : (side == 0) = true := by simp [hs0]
    obtain ⟨X, hX⟩ : ∃ X, h1 + -(qty * price) = X := ⟨_, rfl⟩
    obtain ⟨Y, hY⟩ : ∃ Y, k2 + qty = Y := ⟨_, rfl⟩
    have hBX : -1569275433846670190958947355801916604025588861116008628224 ≤ X ∧ X ≤ 1569275433846670190958947355801916604025588861116008628224 := by
      have h5' := prodB hq1.out hp1.out
      have h6' := HI1.out
      unfold I64 at h6'
      omega
    have hBY : -1569275433846670190958947355801916604025588861116008628224 ≤ Y ∧ Y ≤ 1569275433846670190958947355801916604025588861116008628224 := by
      have h5' := hq1.out
      have h6' := HI2.out
      unfold I64 at h6' h5'
      omega
    have HBX := zH hBX
    have HBY := zH hBY
    have HXE : Hid ((h1 % M3 - qty * price) % M3 = X % M3) := (show _ = _ from by rw [← hX]; unfold M3; omega)
    have HYE : Hid ((k2 % M3 + qty) % M3 = Y % M3) := (show _ = _ from by rw [← hY]; unfold M3; omega)
    have HPX : Hid (fitsP X = FP) := (show _ = _ from by rw [← HFP.out, if_pos hs0, hX])
    have HQY : Hid (fitsP Y = FQ) := (show _ = _ from by rw [← HFQ.out, if_pos hs0, hY])
    clear hX hY hBX hBY hs0
    have qa := zH (Add_any (GC + 1) _ qty (ok_mod _) hq1.out _ SS7)
    go_wp2_with fail
    with_reducible refine qa.out.mono ?_
    rintro e w8 ⟨rfl, hsX, hgX⟩
    skip
    have K8 := zH ((hgX.block _ (zL K7.out) (fun e => by have := HG.out; injection e with e; omega)).trans K7.out)
    have O8 := zH ((hgX.block _ (zL O7.out) (fun e => by have := HG.out; injection e with e; omega)).trans O7.out)
    have HB8 := zH (below_of_grown HB7.out hgX (by have := HG.out; omega) HB7.out.size)
    have SS8 := zH hsX
    have SC8 := zH (SC7.out.oth hgX (by omega))
    clear hsX hgX
    clear c3
    have ql := zH (lessM_any GC _ qty price (ok_mod _) hq1.out hp1.out _ SC8)
    go_wp2_with fail
    with_reducible refine ql.out.mono ?_
    rintro e w9 ⟨rfl, hsX, hgX⟩
    skip
    have K9 := zH ((hgX.block _ (zL K8.out) (fun e => by have := HG.out; injection e with e; omega)).trans K8.out)
    have O9 := zH ((hgX.block _ (zL O8.out) (fun e => by have := HG.out; injection e with e; omega)).trans O8.out)
    have HB9 := zH (below_of_grown HB8.out hgX (by have := HG.out; omega) HB8.out.size)
    have SC9 := zH hsX
    have SS9 := zH (SS8.out.oth hgX (by omega))
    clear hsX hgX
    have qt := zH (Total_any GC _ (ok_mod X) w9 (by rw [← HXE.out]; exact SC9))
    rw [total_fits HBX.out] at qt
    have qu := zH (Total_any (GC + 1) _ (ok_mod Y) w9 (by rw [← HYE.out]; exact SS9))
    rw [total_fits HBY.out] at qu
    rw [HPX.out] at qt
    rw [HQY.out] at qu
    go_wp2_with fail
    with_reducible refine qt.out.mono ?_
    rintro e wa ⟨rfl, rfl⟩
    go_wp2_with fail
    with_reducible refine qu.out.mono ?_
    rintro e wb ⟨rfl, rfl⟩
    go_wp2_with fail
    refine bodyPost_ret (results_tmp4 rfl _ _ _) rfl ?_
    exact ⟨rfl, HB9.out⟩
  · have ts : (side == 0) = false := by simp [hs0]
    obtain ⟨X, hX⟩ : ∃ X, h1 + qty * price = X := ⟨_, rfl⟩
    obtain ⟨Y, hY⟩ : ∃ Y, k2 + -qty = Y := ⟨_, rfl⟩
    have hBX : -1569275433846670190958947355801916604025588861116008628224 ≤ X ∧ X ≤ 1569275433846670190958947355801916604025588861116008628224 := by
      have h5' := prodB hq1.out hp1.out
      have h6' := HI1.out
      unfold I64 at h6'
      omega
    have hBY : -1569275433846670190958947355801916604025588861116008628224 ≤ Y ∧ Y ≤ 1569275433846670190958947355801916604025588861116008628224 := by
      have h5' := hq1.out
      have h6' := HI2.out
      unfold I64 at h6' h5'
      omega
    have HBX := zH hBX
    have HBY := zH hBY
    have HXE : Hid ((h1 % M3 + qty * price) % M3 = X % M3) := (show _ = _ from by rw [← hX]; unfold M3; omega)
    have HYE : Hid ((k2 % M3 - qty * 1) % M3 = Y % M3) := (show _ = _ from by rw [← hY]; unfold M3; omega)
    have HPX : Hid (fitsP X = FP) := (show _ = _ from by rw [← HFP.out, if_neg (show ¬ side = 0 by omega), hX])
    have HQY : Hid (fitsP Y = FQ) := (show _ = _ from by rw [← HFQ.out, if_neg (show ¬ side = 0 by omega), hY])
    clear hX hY hBX hBY hs0
    have ql := zH (lessM_any (GC + 1) _ qty 1 (ok_mod _) hq1.out (by unfold I64; omega) _ SS7)
    go_wp2_with fail
    with_reducible refine ql.out.mono ?_
    rintro e w8 ⟨rfl, hsX, hgX⟩
    skip
    have K8 := zH ((hgX.block _ (zL K7.out) (fun e => by have := HG.out; injection e with e; omega)).trans K7.out)
    have O8 := zH ((hgX.block _ (zL O7.out) (fun e => by have := HG.out; injection e with e; omega)).trans O7.out)
    have HB8 := zH (below_of_grown HB7.out hgX (by have := HG.out; omega) HB7.out.size)
    have SS8 := zH hsX
    have SC8 := zH (SC7.out.oth hgX (by omega))
    clear hsX hgX
    clear c3
    have qa := zH (AddMul_any GC _ qty price (ok_mod _) hq1.out hp1.out _ SC8)
    go_wp2_with fail
    with_reducible refine qa.out.mono ?_
    rintro e w9 ⟨rfl, hsX, hgX⟩
    skip
    have K9 := zH ((hgX.block _ (zL K8.out) (fun e => by have := HG.out; injection e with e; omega)).trans K8.out)
    have O9 := zH ((hgX.block _ (zL O8.out) (fun e => by have := HG.out; injection e with e; omega)).trans O8.out)
    have HB9 := zH (below_of_grown HB8.out hgX (by have := HG.out; omega) HB8.out.size)
    have SC9 := zH hsX
    have SS9 := zH (SS8.out.oth hgX (by omega))
    clear hsX hgX
    have qt := zH (Total_any GC _ (ok_mod X) w9 (by rw [← HXE.out]; exact SC9))
    rw [total_fits HBX.out] at qt
    have qu := zH (Total_any (GC + 1) _ (ok_mod Y) w9 (by rw [← HYE.out]; exact SS9))
    rw [total_fits HBY.out] at qu
    rw [HPX.out] at qt
    rw [HQY.out] at qu
    go_wp2_with fail
    with_reducible refine qt.out.mono ?_
    rintro e wa ⟨rfl, rfl⟩
    go_wp2_with fail
    with_reducible refine qu.out.mono ?_
    rintro e wb ⟨rfl, rfl⟩
    go_wp2_with fail
    refine bodyPost_ret (results_tmp4 rfl _ _ _) rfl ?_
    exact ⟨rfl, HB9.out⟩
end
section
open Go Go.RowKit Bg Mon
set_option linter.unusedVariables false
set_option linter.unusedSimpArgs false
end
section
open Go Go.RowKit Bg Mon
set_option linter.unusedVariables false
set_option linter.unusedSimpArgs false
end
end Go.Proofs.YtjcdpmianmgiaaaGreatDoor
namespace Go.Proofs.YtjcdpmianmgiaaaGreatDoor
open Go Go.RowKit Mon
set_option linter.unusedVariables false
set_option linter.unusedSimpArgs false
structure Ev where
  kind : Int
  acc : Int
  ord : Int
  sym : Int
  side : Int
  qty : Int
  px : Int
def Ev.I64s (e : Ev) : Prop := I64 e.kind ∧ I64 e.acc ∧ I64 e.ord ∧ I64 e.sym ∧ I64 e.side ∧ I64 e.qty ∧ I64 e.px
def Ev.val (e : Ev) : Value := .agg #[.int .i64 e.kind, .int .i64 e.acc, .int .i64 e.ord, .int .i64 e.sym, .int .i64 e.side, .int .i64 e.qty, .int .i64 e.px]
def cutL : List Stp → List Stp
  | [] => []
  | s :: t => s :: (if s.holds then cutL t else [])
theorem cutL_all {l : List Stp} (h : l.all (·.holds) = true) : cutL l = l := by
  induction l with
  | nil => rfl
  | cons a t ih =>
    rw [List.all_cons, Bool.and_eq_true] at h
    rw [cutL, if_pos h.1, ih h.2]
theorem cutL_app (l m : List Stp) : cutL (l ++ m) = cutL l ++ (if l.all (·.holds) then cutL m else []) := by
  induction l with
  | nil => simp [cutL]
  | cons a t ih =>
    rw [List.cons_append, cutL, cutL, List.all_cons, ih]
    cases a.holds <;> simp
theorem cutL_len (l : List Stp) : (cutL l).length ≤ l.length := by
  induction l with
  | nil => simp [cutL]
  | cons a t ih =>
    rw [cutL]
    split <;> simp <;> omega
theorem cutL_pre (l : List Stp) : ∃ m, l = cutL l ++ m := by
  induction l with
  | nil => exact ⟨[], rfl⟩
  | cons a t ih =>
    rw [cutL]
    split
    · obtain ⟨m, hm⟩ := ih
      exact ⟨m, by rw [List.cons_append, ← hm]⟩
    · exact ⟨t, rfl⟩
theorem cutL_last {l : List Stp} {k : Nat} {s : Stp} (h : (cutL l)[k]? = some s) (hk : k + 1 < (cutL l).length) : s.holds = true := by
  induction l generalizing k with
  | nil => simp [cutL] at h
  | cons a t ih =>
    rw [cutL] at h hk
    cases ha : a.holds with
    | false => rw [ha] at hk; simp at hk
    | true =>
      rw [ha] at h hk
      simp only [if_true] at h hk
      cases k with
      | zero => simp at h; rw [← h]; exact ha
      | succ k => exact ih (by simpa using h) (by simpa using hk)
def okL (l : List Stp) : Prop := (∀ s ∈ l, s.known = true ∧ s.bare = false) ∧ l.Pairwise (fun a b => a.rule ≠ b.rule)
theorem okL.pre {l m : List Stp} (h : okL (l ++ m)) : okL l := ⟨fun s hs => h.1 s (by simp [hs]), (List.pairwise_append.1 h.2).1⟩
theorem mayB_of {l : List Stp} (h : ∀ k s, l[k]? = some s → okB l k s = true) : ∀ n, mayB l n = true
  | 0 => rfl
  | n + 1 => by
    unfold mayB
    rw [mayB_of h n]
    cases hl : l[n]? with
    | none => rfl
    | some s => simpa using h n s hl
theorem mayS_cut {l : List Stp} (h : okL l) : mayS (cutL l) = true := by
  have hc : okL (cutL l) := by
    obtain ⟨m, hm⟩ := cutL_pre l
    rw [hm] at h
    exact h.pre
  refine mayB_of (fun k s hs => ?_) _
  obtain ⟨h1, h2⟩ := hc.1 s (List.mem_of_getElem? hs)
  unfold okB
  rw [h1, h2]
  have h3 : ((cutL l).take k).any (fun t => t.rule == s.rule) = false := by
    rw [List.any_eq_false]
    intro t ht
    obtain ⟨j, hj, rfl⟩ := List.getElem_of_mem ht
    have hp := hc.2
    rw [List.pairwise_iff_getElem] at hp
    obtain ⟨hk, hs'⟩ := List.getElem?_eq_some_iff.1 hs
    rw [List.length_take] at hj
    have := hp j k (by omega) hk (by omega)
    rw [List.getElem_take]
    simp
    rw [← hs']
    exact this
  rw [h3]
  by_cases hk : k + 1 < (cutL l).length
  · rw [cutL_last hs hk]; simp
  · simp [hk]
def bitI (b : Bool) : Int := if b then 1 else 0
def sS (n a b : Int) : Stp := ⟨n, a, b, false⟩
def oS (n a b : Int) (f : Bool) : Stp := if f then ⟨n, a, b, false⟩ else ⟨n, 0, 0, true⟩
def hasH (b : Bk) (acc : Int) : Bool := (b.h.find? (isId acc)).isSome
def hasO (b : Bk) (ord : Int) : Bool := (b.o.find? (isId ord)).isSome
def hasR (b : Bk) (sym : Int) : Bool := (b.r.find? (isId sym)).isSome
def recH (b : Bk) (acc : Int) : List Int := (recOf 4 (b.h.find? (isId acc))).1
def recO (b : Bk) (ord : Int) : List Int := (recOf 6 (b.o.find? (isId ord))).1
def mulP (a b : Int) : Int × Bool := fitsP (a * b)
def eqR (b : Bk) (acc : Int) : Int × Bool := fitsP (cashOf b acc + sumQ (heldP b acc b.s))
def needE (b : Bk) (e : Ev) (rate : Int) : Int × Bool := needR (needX b e.acc e.qty e.px) rate
def afterE (b : Bk) (e : Ev) : (Int × Bool) × (Int × Bool) := afterR b ((recO b e.ord).getD 1 0) ((recO b e.ord).getD 2 0) ((recO b e.ord).getD 3 0) e.qty e.px
def ordS (b : Bk) (e : Ev) (rate : Int) : List Stp :=
  [sS 3 e.side 0, sS 4 e.side 1, sS 5 e.qty 1, sS 6 e.px 1, sS 10 (bitI (hasH b e.acc)) 1, sS 12 (bitI (hasO b e.ord)) 0, sS 14 (bitI (hasR b e.sym)) 1, sS 16 b.o.length 63,
   oS 18 (mulP e.qty e.px).1 ((recH b e.acc).getD 3 0) (mulP e.qty e.px).2, oS 19 (reachR b e.acc e.sym e.side e.qty).1 ((recH b e.acc).getD 2 0) (reachR b e.acc e.sym e.side e.qty).2,
   oS 20 (needE b e rate).1 (eqR b e.acc).1 ((needE b e rate).2 && (eqR b e.acc).2)]
def fillS (b : Bk) (e : Ev) : List Stp :=
  [sS 13 (bitI (hasO b e.ord)) 1, sS 5 e.qty 1, sS 6 e.px 1, sS 21 e.qty ((recO b e.ord).getD 4 0),
   oS 22 (afterE b e).1.1 (afterE b e).1.1 (afterE b e).1.2, oS 23 (afterE b e).2.1 (afterE b e).2.1 (afterE b e).2.2]
def accS (b : Bk) (e : Ev) : List Stp := [sS 7 e.qty 0, sS 11 (bitI (hasH b e.acc)) 0, sS 15 b.h.length 31]
def limS (b : Bk) (e : Ev) : List Stp := [sS 10 (bitI (hasH b e.acc)) 1, sS 8 e.qty 0, sS 9 e.px 0]
def quoS (b : Bk) (e : Ev) : List Stp := sS 6 e.px 1 :: (if hasR b e.sym then [] else [sS 17 b.r.length 31])
def canS (b : Bk) (e : Ev) : List Stp := [sS 13 (bitI (hasO b e.ord)) 1]
def kindS (b : Bk) (e : Ev) (rate : Int) : List Stp :=
  if e.kind = 1 then accS b e else if e.kind = 2 then limS b e else if e.kind = 3 then quoS b e else if e.kind = 4 then ordS b e rate
  else if e.kind = 5 then fillS b e else if e.kind = 6 then canS b e else []
def headS (e : Ev) : List Stp := [sS 1 e.kind 1, sS 2 e.kind 7]
def allS (b : Bk) (e : Ev) (rate : Int) : List Stp := headS e ++ kindS b e rate
def gateL (b : Bk) (e : Ev) (rate : Int) : List Stp := cutL (allS b e rate)
def gateV (b : Bk) (e : Ev) (rate : Int) : Int × Int := goW (gateL b e rate) 0
def maxI : Int := 9223372036854775807
def accB (b : Bk) (e : Ev) : Bk := { b with h := setH e.acc [e.acc, e.qty, maxI, maxI] false b.h }
def limB (b : Bk) (e : Ev) : Bk := { b with h := setH ((recH b e.acc).getD 0 0) [(recH b e.acc).getD 0 0, (recH b e.acc).getD 1 0, e.qty, e.px] false b.h }
def quoB (b : Bk) (e : Ev) : Bk := { b with r := setH e.sym [e.sym, e.px] false b.r }
def ordB (b : Bk) (e : Ev) : Bk := { b with o := setH e.ord [e.ord, e.acc, e.sym, e.side, e.qty, e.px] (e.qty == 0) b.o }
def canB (b : Bk) (e : Ev) : Bk := { b with o := setH e.ord [e.ord, 0, 0, 0, 0, 0] true b.o }
def fillX (b : Bk) (o h : List Int) (c s qty : Int) : Bk :=
  { b with h := setH (h.getD 0 0) [h.getD 0 0, c, h.getD 2 0, h.getD 3 0] false b.h,
           s := setS (o.getD 1 0) (o.getD 2 0) [o.getD 1 0, o.getD 2 0, s] (s == 0) b.s,
           o := setH (o.getD 0 0) [o.getD 0 0, o.getD 1 0, o.getD 2 0, o.getD 3 0, o.getD 4 0 - qty, o.getD 5 0] (o.getD 4 0 - qty == 0) b.o }
def fillB (b : Bk) (e : Ev) : Bk := fillX b (recO b e.ord) (recH b ((recO b e.ord).getD 1 0)) (afterE b e).1.1 (afterE b e).2.1 e.qty
def newB (b : Bk) (e : Ev) : Bk :=
  if e.kind = 1 then accB b e else if e.kind = 2 then limB b e else if e.kind = 3 then quoB b e else if e.kind = 4 then ordB b e
  else if e.kind = 5 then fillB b e else if e.kind = 6 then canB b e else b
def doneB (b : Bk) (e : Ev) (rate : Int) : Bk := if (allS b e rate).all (·.holds) then newB b e else b
def gateB (b : Bk) (e : Ev) (rate : Int) : Bk := { doneB b e rate with n := b.n + 1 }
theorem sS_ok (n a b : Int) (h : 0 < n ∧ n < 24) : (sS n a b).known = true ∧ (sS n a b).bare = false := ⟨decide_eq_true h, rfl⟩
theorem oS_ok (n a b : Int) (f : Bool) (h : 0 < n ∧ n < 24) : (oS n a b f).known = true ∧ (oS n a b f).bare = false := by
  cases f
  · exact ⟨decide_eq_true h, rfl⟩
  · exact ⟨decide_eq_true h, rfl⟩
theorem oS_rule (n a b : Int) (f : Bool) : (oS n a b f).rule = n := by cases f <;> rfl
theorem okL_of {l : List Stp} (h : ∀ s ∈ l, s.known = true ∧ s.bare = false) (hp : (l.map (·.rule)).Pairwise (· ≠ ·)) : okL l := ⟨h, List.pairwise_map.1 hp⟩
theorem allS_ok (b : Bk) (e : Ev) (rate : Int) : okL (allS b e rate) := by
  unfold allS headS kindS
  refine okL_of ?_ ?_
  · intro s hs
    rcases List.mem_append.1 hs with hs | hs
    · simp only [List.mem_cons, List.not_mem_nil, or_false] at hs
      rcases hs with rfl | rfl <;> exact sS_ok _ _ _ (by omega)
    · split at hs
      · simp only [accS, List.mem_cons, List.not_mem_nil, or_false] at hs
        rcases hs with rfl | rfl | rfl <;> exact sS_ok _ _ _ (by omega)
      split at hs
      · simp only [limS, List.mem_cons, List.not_mem_nil, or_false] at hs
        rcases hs with rfl | rfl | rfl <;> exact sS_ok _ _ _ (by omega)
      split at hs
      · unfold quoS at hs
        rcases List.mem_cons.1 hs with rfl | hs
        · exact sS_ok _ _ _ (by omega)
        · split at hs
          · simp at hs
          · obtain rfl := List.mem_singleton.1 hs
            exact sS_ok _ _ _ (by omega)
      split at hs
      · simp only [ordS, List.mem_cons, List.not_mem_nil, or_false] at hs
        rcases hs with rfl | rfl | rfl | rfl | rfl | rfl | rfl | rfl | rfl | rfl | rfl <;> first | exact sS_ok _ _ _ (by omega) | exact oS_ok _ _ _ _ (by omega)
      split at hs
      · simp only [fillS, List.mem_cons, List.not_mem_nil, or_false] at hs
        rcases hs with rfl | rfl | rfl | rfl | rfl | rfl <;> first | exact sS_ok _ _ _ (by omega) | exact oS_ok _ _ _ _ (by omega)
      split at hs
      · simp only [canS, List.mem_cons, List.not_mem_nil, or_false] at hs
        subst hs
        exact sS_ok _ _ _ (by omega)
      · simp at hs
  · split
    · simp [accS, sS]
    split
    · simp [limS, sS]
    split
    · unfold quoS; split <;> simp [sS]
    split
    · simp [ordS, sS, oS_rule]
    split
    · simp [fillS, sS, oS_rule]
    split
    · simp [canS, sS]
    · simp [sS]
theorem gateL_may (b : Bk) (e : Ev) (rate : Int) : mayS (gateL b e rate) = true := mayS_cut (allS_ok b e rate)
theorem gateL_len (b : Bk) (e : Ev) (rate : Int) : (gateL b e rate).length ≤ 13 := by
  refine Nat.le_trans (cutL_len _) ?_
  unfold allS headS kindS accS limS quoS ordS fillS canS
  repeat' split
  all_goals simp
end Go.Proofs.YtjcdpmianmgiaaaGreatDoor
namespace Go.Proofs.YtjcdpmianmgiaaaGreatDoor
open Go.ChangeShapes Go.WideShapes Go.ChangeAt Go.RowKit
section
variable {H : Type} {enc : TypeId × Value → H} {P : Program}
theorem trodAll_rest (hl : laidOutB P = true) {W W' : World} (hb : Below W.heap.size W W') :
    ∀ (ts : List TypeId) (vs : List Value) (ds : List (DataW H)) (ps : List MemPlace), (ts.all fun t => P.readableRec t && decide (t < P.types.size)) = true →
      (∀ x ∈ ps, x.block < W.heap.size) → DataW.TrodAll enc P W 0 (fun _ => true) true ts vs ds ps → DataW.TrodAll enc P W' 0 (fun b => decide (b < W.heap.size)) true ts vs ds ps := by
  intro ts
  induction ts with
  | nil =>
    intro vs ds ps _ _ h
    obtain ⟨rfl, rfl, rfl⟩ := trodAll_nil h
    exact trodAll_mk0
  | cons t ts ih =>
    intro vs ds ps hr hlt h
    obtain ⟨v, vs', d, ds', p, q, rfl, rfl, rfl, h1, h2⟩ := trodAll_cons h
    simp only [List.all_cons, Bool.and_eq_true, decide_eq_true_eq] at hr
    refine trodAll_cons_mk (Below.trod hl hr.1.1 hr.1.2 h1 hb (fun x hx => hlt x (by simp [hx]))) (ih _ _ _ ?_ (fun x hx => hlt x (by simp [hx])) h2)
    simpa using hr.2
theorem law_post {f : Func} {s : ChangeSpec} {W W' : World} {args : Array Value} {ds gs : List (DataW H)} {before : List MemPlace} {b : TypeId}
    (hl : laidOutB P = true) (hr : (f.params.toList.all fun t => P.readableRec t && decide (t < P.types.size)) = true) (hb1 : f.resultTypes = #[b]) (hb2 : P.underlying b = some .bool)
    (hv : s.vars = []) (hs : s.fn H (ds ++ gs) = { results := [.lit (.bool true)], args := ds, vars := [] })
    (hW : DataW.Whole enc P f.params.toList s.vars false W args.toList ds gs before) (hb : Below W.heap.size W W') :
    s.post enc P f false true false false W args (.bool true) W' := by
  have hlt : ∀ x ∈ before, x.block < W.heap.size := fun x hx => hW.lt x hx
  have hW' := hW
  obtain ⟨p, q, hA, hV, hpq, _, _⟩ := hW'
  rw [hv] at hV
  obtain ⟨hg, hq⟩ := trodVars_none hV
  refine ⟨ds, gs, before, [], p, [], hW, ?_, ?_, ?_, ?_, fun h => by cases h⟩
  · rw [hs, hb1]
    exact trodAll_cons_mk (shut_bool hb2 true) trodAll_mk0
  · rw [hs]
    exact trodAll_rest hl hb _ _ _ _ hr (fun x hx => hlt x (by rw [hpq]; simp [hx])) hA
  · rw [hs, hv]
    rfl
  · exact hb.frame _
end
end Go.Proofs.YtjcdpmianmgiaaaGreatDoor
namespace Go.Proofs.YtjcdpmianmgiaaaGreatDoor
open Go.ChangeShapes Go.WideShapes Go.Deep
section
variable {H : Type} {enc : TypeId × Value → H} {P : Program} {w : World}
theorem spot_none {a : Addr} {v : Value} (h : w.cell? a = some v) : a.spot = none := by
  unfold World.cell? at h
  split at h
  · split at h
    · simp at h
    · rename_i h1; simpa using h1
  · simp at h
theorem addr_none {a : Addr} (h : a.spot = none) : a = ⟨a.block, a.off, none⟩ := by
  cases a; simp at h; subst h; rfl
theorem add_at (b o i : Nat) : (⟨b, o, none⟩ : Addr).add i = ⟨b, o + i, none⟩ := Addr.add_lit b o i
end
end Go.Proofs.YtjcdpmianmgiaaaGreatDoor
namespace Go.Proofs.YtjcdpmianmgiaaaGreatDoor
open Go.ChangeShapes Go.WideShapes Go.Deep Go.ChangeAt Go.RowKit
def leavesOf (P : Program) : Nat → TypeId → List (Nat × TypeId)
  | 0, _ => []
  | n + 1, t =>
    match P.underlying t with
    | some (.struct fs) => fs.toList.flatMap fun f => (leavesOf P n f.type).map fun x => (f.offset + x.1, x.2)
    | some (.array k e) => (List.range k).flatMap fun i => (leavesOf P n e).map fun x => (i * P.cellsOf e + x.1, x.2)
    | _ => [(0, t)]
section
variable {H : Type} {enc : TypeId × Value → H} {P : Program} {w : World} {base : Nat} {sp : Nat → Bool} {held : Bool}
theorem leaf_int {m : Nat} {u : TypeId} {k : IntKind} {c : Value} {y : DataW H × List MemPlace} (hu : P.underlying u = some (.int k)) (h : DataW.trod enc P w base sp held m u [c] = some y) :
    ∃ n, c = .int k n ∧ (Lit.int k n).wf = true := by
  cases m with
  | zero => simp [DataW.trod] at h
  | succ m =>
    unfold DataW.trod at h
    rw [hu] at h
    split at h <;> simp_all
def isI64 : Option TypeDesc → Bool
  | some (.int .i64) => true
  | _ => false
theorem isI64_spec {u : Option TypeDesc} (h : isI64 u = true) : u = some (.int .i64) := by
  unfold isI64 at h
  split at h
  · rfl
  · cases h
end
end Go.Proofs.YtjcdpmianmgiaaaGreatDoor
namespace Go.Proofs.YtjcdpmianmgiaaaGreatDoor
open Go Go.Lib Go.ChangeShapes Go.WideShapes Go.ChangeAt Go.RowKit
set_option linter.unusedVariables false
set_option linter.unusedSimpArgs false
theorem drop_take1 {α : Type} {l : List α} {i : Nat} {x : α} (h : (l.drop i).take 1 = [x]) : l[i]? = some x := by
  have := congrArg (·[0]?) h
  simpa [List.getElem?_take, List.getElem?_drop] using this
theorem sub_at {α : Type} {l : List α} {i k j : Nat} {x : α} (h : ((l.drop i).take k)[j]? = some x) : l[i + j]? = some x := by
  rw [List.getElem?_take] at h
  split at h
  · rwa [List.getElem?_drop] at h
  · cases h
theorem gRules : Tryz.prog.globalNamed "engross/rules.table" = some 3 := by kernel_rfl
theorem gRulesType : (Tryz.prog.globals[3]?).map (·.type) = some 222 := by kernel_rfl
theorem gRels : Tryz.prog.globalNamed "engross/rules.relations" = some 0 := by kernel_rfl
theorem gRelsType : (Tryz.prog.globals[0]?).map (·.type) = some 159 := by kernel_rfl
set_option maxRecDepth 100000 in
theorem rules_cells {H : Type} {enc : TypeId × Value → H} {W : World} {base : Nat} {sp : Nat → Bool} {held : Bool} {fuel : Nat} {cs : List Value} {p : List MemPlace}
    (h : DataW.trod enc Tryz.prog W base sp held fuel 222 cs = some (.agg (Rule.rows.map fun r => .agg [.lit (.string r.1), .lit (.int .i64 (r.2.1 : Nat)), .lit (.int .i64 (r.2.2 : Nat))]), p)) :
    ∀ n, n < 24 → cs[n * 3]? = some (.string ⟨(Rule.name n).toArray⟩) ∧ cs[n * 3 + 1]? = some (.int .i64 (Rule.rel n)) ∧ cs[n * 3 + 2]? = some (.int .i64 (Rule.code n)) := by
  obtain ⟨xs, m, _, hx, hl, hlen, hf⟩ := DataW.trod_array Tryz.underlying222 h
  have hxs := congrArg Prod.fst hx
  simp only [DataW.agg.injEq] at hxs
  intro n hn
  obtain ⟨y, hy⟩ : ∃ y, xs[n]? = some y := ⟨xs[n]'(by omega), List.getElem?_eq_getElem (by omega)⟩
  have hf := (hf n hn).trans hy
  rw [show Tryz.prog.cellsOf 161 = 3 by kernel_rfl] at hf
  obtain ⟨y0, y1, y2, k, hyy, _, h0, h1, h2⟩ := Go.Deep.trod_struct3 Tryz.underlying161 hf
  have h0 : DataW.trod enc Tryz.prog W base sp held k 9 ((((cs.drop (n * 3)).take 3).drop 0).take 1) = some y0 := h0
  have h1 : DataW.trod enc Tryz.prog W base sp held k 3 ((((cs.drop (n * 3)).take 3).drop 1).take 1) = some y1 := h1
  have h2 : DataW.trod enc Tryz.prog W base sp held k 3 ((((cs.drop (n * 3)).take 3).drop 2).take 1) = some y2 := h2
  obtain ⟨s, c0, rfl, _⟩ := DataW.trod_string Tryz.underlying9 h0
  obtain ⟨a, c1, rfl, _⟩ := DataW.trod_int Tryz.underlying3 h1
  obtain ⟨b, c2, rfl, _⟩ := DataW.trod_int Tryz.underlying3 h2
  have e0 := sub_at (drop_take1 c0)
  have e1 := sub_at (drop_take1 c1)
  have e2 := sub_at (drop_take1 c2)
  have hd := congrArg (·[n]?) hxs
  simp only [List.getElem?_map, hy, Option.map_some] at hd
  rw [hyy] at hd
  have hrow : Rule.rows[n]? = some (Rule.rows.getD n ([], 0, 0)) := by
    rw [List.getD_eq_getElem?_getD, List.getElem?_eq_getElem (show n < Rule.rows.length from hn)]; rfl
  rw [hrow] at hd
  simp only [Option.map_some, Option.some.injEq, DataW.agg.injEq, List.cons.injEq, DataW.lit.injEq, Lit.string.injEq, Lit.int.injEq, true_and, and_true] at hd
  obtain ⟨d0, d1, d2⟩ := hd
  rw [show n * 3 + 0 = n * 3 from rfl] at e0
  refine ⟨by rw [e0]; congr 2; apply ByteArray.ext; apply Array.toList_inj.1; exact d0.symm, by rw [e1, ← d1]; rfl, by rw [e2, ← d2]; rfl⟩
set_option maxRecDepth 100000 in
theorem rels_cells {W : World} {base : Nat} {sp : Nat → Bool} {fuel : Nat} {cs : List Value} {p : List MemPlace}
    (h : DataW.trod (funcToken Tryz.prog) Tryz.prog W base sp true fuel 159 cs = some ((.agg [.agg [.lit (.string [63]), .held [101, 110, 103, 114, 111, 115, 115, 47, 114, 117, 108, 101, 115, 46, 114, 101, 108, 97, 116, 105, 111, 110, 115, 36, 49]], .agg [.lit (.string [60, 61]), .held [101, 110, 103, 114, 111, 115, 115, 47, 114, 117, 108, 101, 115, 46, 114, 101, 108, 97, 116, 105, 111, 110, 115, 36, 50]], .agg [.lit (.string [62, 61]), .held [101, 110, 103, 114, 111, 115, 115, 47, 114, 117, 108, 101, 115, 46, 114, 101, 108, 97, 116, 105, 111, 110, 115, 36, 51]], .agg [.lit (.string [61]), .held [101, 110, 103, 114, 111, 115, 115, 47, 114, 117, 108, 101, 115, 46, 114, 101, 108, 97, 116, 105, 111, 110, 115, 36, 52]]]), p)) :
    (cs[0]? = some (.string ⟨#[63]⟩) ∧ cs[1]? = some (.func (.func 241) #[] #[])) ∧ (cs[2]? = some (.string ⟨#[60, 61]⟩) ∧ cs[3]? = some (.func (.func 242) #[] #[])) ∧
    (cs[4]? = some (.string ⟨#[62, 61]⟩) ∧ cs[5]? = some (.func (.func 243) #[] #[])) ∧ (cs[6]? = some (.string ⟨#[61]⟩) ∧ cs[7]? = some (.func (.func 244) #[] #[])) := by
  obtain ⟨xs, m, _, hx, hl, hlen, hf⟩ := DataW.trod_array Tryz.underlying159 h
  have hxs := congrArg Prod.fst hx
  simp only [DataW.agg.injEq] at hxs
  have r0 : cs[0 * 2]? = some (.string ⟨([63] : List UInt8).toArray⟩) ∧ cs[0 * 2 + 1]? = some (.func (.func 241) #[] #[]) := by
    obtain ⟨y, hy⟩ : ∃ y, xs[0]? = some y := ⟨xs[0]'(by omega), List.getElem?_eq_getElem (by omega)⟩
    have hf := (hf 0 (by omega)).trans hy
    rw [show Tryz.prog.cellsOf 158 = 2 by kernel_rfl] at hf
    obtain ⟨y0, y1, k, hyy, hln, h0, h1⟩ := trod_struct2 Tryz.underlying158 hf
    have h0 : DataW.trod (funcToken Tryz.prog) Tryz.prog W base sp true k 9 ((((cs.drop (0 * 2)).take 2).drop 0).take 1) = some y0 := h0
    have h1 : DataW.trod (funcToken Tryz.prog) Tryz.prog W base sp true k 126 ((((cs.drop (0 * 2)).take 2).drop 1).take 1) = some y1 := h1
    obtain ⟨s, c0, rfl, _⟩ := DataW.trod_string Tryz.underlying9 h0
    have e0 := sub_at (drop_take1 c0)
    have hln2 : ((cs.drop (0 * 2)).take 2).length = 2 := hln.trans (by kernel_rfl)
    obtain ⟨v, hv⟩ : ∃ v, (((cs.drop (0 * 2)).take 2).drop 1).take 1 = [v] := by
      match hq : (cs.drop (0 * 2)).take 2, hln2 with
      | [a, b], _ => exact ⟨b, rfl⟩
    rw [hv] at h1
    have e1 := sub_at (drop_take1 hv)
    have hd := congrArg (·[0]?) hxs
    simp only [List.getElem?_map, hy, Option.map_some, List.getElem?_cons_zero, List.getElem?_cons_succ] at hd
    rw [hyy] at hd
    simp only [Option.some.injEq, DataW.agg.injEq, List.cons.injEq, DataW.lit.injEq, Lit.string.injEq, and_true] at hd
    obtain ⟨d0, d1⟩ := hd
    obtain ⟨z1, z2⟩ := y1
    simp only [] at d1
    subst d1
    obtain rfl := func_of_trod (f0 := 241) Tryz.underlying126 (by kernel_rfl) h1
    refine ⟨?_, e1⟩
    refine e0.trans ?_
    congr 2; apply ByteArray.ext; apply Array.toList_inj.1; exact d0.symm
  have r1 : cs[1 * 2]? = some (.string ⟨([60, 61] : List UInt8).toArray⟩) ∧ cs[1 * 2 + 1]? = some (.func (.func 242) #[] #[]) := by
    obtain ⟨y, hy⟩ : ∃ y, xs[1]? = some y := ⟨xs[1]'(by omega), List.getElem?_eq_getElem (by omega)⟩
    have hf := (hf 1 (by omega)).trans hy
    rw [show Tryz.prog.cellsOf 158 = 2 by kernel_rfl] at hf
    obtain ⟨y0, y1, k, hyy, hln, h0, h1⟩ := trod_struct2 Tryz.underlying158 hf
    have h0 : DataW.trod (funcToken Tryz.prog) Tryz.prog W base sp true k 9 ((((cs.drop (1 * 2)).take 2).drop 0).take 1) = some y0 := h0
    have h1 : DataW.trod (funcToken Tryz.prog) Tryz.prog W base sp true k 126 ((((cs.drop (1 * 2)).take 2).drop 1).take 1) = some y1 := h1
    obtain ⟨s, c0, rfl, _⟩ := DataW.trod_string Tryz.underlying9 h0
    have e0 := sub_at (drop_take1 c0)
    have hln2 : ((cs.drop (1 * 2)).take 2).length = 2 := hln.trans (by kernel_rfl)
    obtain ⟨v, hv⟩ : ∃ v, (((cs.drop (1 * 2)).take 2).drop 1).take 1 = [v] := by
      match hq : (cs.drop (1 * 2)).take 2, hln2 with
      | [a, b], _ => exact ⟨b, rfl⟩
    rw [hv] at h1
    have e1 := sub_at (drop_take1 hv)
    have hd := congrArg (·[1]?) hxs
    simp only [List.getElem?_map, hy, Option.map_some, List.getElem?_cons_zero, List.getElem?_cons_succ] at hd
    rw [hyy] at hd
    simp only [Option.some.injEq, DataW.agg.injEq, List.cons.injEq, DataW.lit.injEq, Lit.string.injEq, and_true] at hd
    obtain ⟨d0, d1⟩ := hd
    obtain ⟨z1, z2⟩ := y1
    simp only [] at d1
    subst d1
    obtain rfl := func_of_trod (f0 := 242) Tryz.underlying126 (by kernel_rfl) h1
    refine ⟨?_, e1⟩
    refine e0.trans ?_
    congr 2; apply ByteArray.ext; apply Array.toList_inj.1; exact d0.symm
  have r2 : cs[2 * 2]? = some (.string ⟨([62, 61] : List UInt8).toArray⟩) ∧ cs[2 * 2 + 1]? = some (.func (.func 243) #[] #[]) := by
    obtain ⟨y, hy⟩ : ∃ y, xs[2]? = some y := ⟨xs[2]'(by omega), List.getElem?_eq_getElem (by omega)⟩
    have hf := (hf 2 (by omega)).trans hy
    rw [show Tryz.prog.cellsOf 158 = 2 by kernel_rfl] at hf
    obtain ⟨y0, y1, k, hyy, hln, h0, h1⟩ := trod_struct2 Tryz.underlying158 hf
    have h0 : DataW.trod (funcToken Tryz.prog) Tryz.prog W base sp true k 9 ((((cs.drop (2 * 2)).take 2).drop 0).take 1) = some y0 := h0
    have h1 : DataW.trod (funcToken Tryz.prog) Tryz.prog W base sp true k 126 ((((cs.drop (2 * 2)).take 2).drop 1).take 1) = some y1 := h1
    obtain ⟨s, c0, rfl, _⟩ := DataW.trod_string Tryz.underlying9 h0
    have e0 := sub_at (drop_take1 c0)
    have hln2 : ((cs.drop (2 * 2)).take 2).length = 2 := hln.trans (by kernel_rfl)
    obtain ⟨v, hv⟩ : ∃ v, (((cs.drop (2 * 2)).take 2).drop 1).take 1 = [v] := by
      match hq : (cs.drop (2 * 2)).take 2, hln2 with
      | [a, b], _ => exact ⟨b, rfl⟩
    rw [hv] at h1
    have e1 := sub_at (drop_take1 hv)
    have hd := congrArg (·[2]?) hxs
    simp only [List.getElem?_map, hy, Option.map_some, List.getElem?_cons_zero, List.getElem?_cons_succ] at hd
    rw [hyy] at hd
    simp only [Option.some.injEq, DataW.agg.injEq, List.cons.injEq, DataW.lit.injEq, Lit.string.injEq, and_true] at hd
    obtain ⟨d0, d1⟩ := hd
    obtain ⟨z1, z2⟩ := y1
    simp only [] at d1
    subst d1
    obtain rfl := func_of_trod (f0 := 243) Tryz.underlying126 (by kernel_rfl) h1
    refine ⟨?_, e1⟩
    refine e0.trans ?_
    congr 2; apply ByteArray.ext; apply Array.toList_inj.1; exact d0.symm
  have r3 : cs[3 * 2]? = some (.string ⟨([61] : List UInt8).toArray⟩) ∧ cs[3 * 2 + 1]? = some (.func (.func 244) #[] #[]) := by
    obtain ⟨y, hy⟩ : ∃ y, xs[3]? = some y := ⟨xs[3]'(by omega), List.getElem?_eq_getElem (by omega)⟩
    have hf := (hf 3 (by omega)).trans hy
    rw [show Tryz.prog.cellsOf 158 = 2 by kernel_rfl] at hf
    obtain ⟨y0, y1, k, hyy, hln, h0, h1⟩ := trod_struct2 Tryz.underlying158 hf
    have h0 : DataW.trod (funcToken Tryz.prog) Tryz.prog W base sp true k 9 ((((cs.drop (3 * 2)).take 2).drop 0).take 1) = some y0 := h0
    have h1 : DataW.trod (funcToken Tryz.prog) Tryz.prog W base sp true k 126 ((((cs.drop (3 * 2)).take 2).drop 1).take 1) = some y1 := h1
    obtain ⟨s, c0, rfl, _⟩ := DataW.trod_string Tryz.underlying9 h0
    have e0 := sub_at (drop_take1 c0)
    have hln2 : ((cs.drop (3 * 2)).take 2).length = 2 := hln.trans (by kernel_rfl)
    obtain ⟨v, hv⟩ : ∃ v, (((cs.drop (3 * 2)).take 2).drop 1).take 1 = [v] := by
      match hq : (cs.drop (3 * 2)).take 2, hln2 with
      | [a, b], _ => exact ⟨b, rfl⟩
    rw [hv] at h1
    have e1 := sub_at (drop_take1 hv)
    have hd := congrArg (·[3]?) hxs
    simp only [List.getElem?_map, hy, Option.map_some, List.getElem?_cons_zero, List.getElem?_cons_succ] at hd
    rw [hyy] at hd
    simp only [Option.some.injEq, DataW.agg.injEq, List.cons.injEq, DataW.lit.injEq, Lit.string.injEq, and_true] at hd
    obtain ⟨d0, d1⟩ := hd
    obtain ⟨z1, z2⟩ := y1
    simp only [] at d1
    subst d1
    obtain rfl := func_of_trod (f0 := 244) Tryz.underlying126 (by kernel_rfl) h1
    refine ⟨?_, e1⟩
    refine e0.trans ?_
    congr 2; apply ByteArray.ext; apply Array.toList_inj.1; exact d0.symm
  exact ⟨r0, r1, r2, r3⟩
set_option maxRecDepth 100000 in
theorem law16_of {W : World} (h : laidMetH Tryz.prog [("engross/rules.table", Rows.laid_engross_rules_table), ("engross/rules.relations", Rows.laid_engross_rules_relations)] W) : Hid (Law16 W) := by
  have hrel := h.funcs (n := "engross/rules.relations") (d := .agg [.agg [.lit (.string [63]), .iface "func" (.lit (.string [101, 110, 103, 114, 111, 115, 115, 47, 114, 117, 108, 101, 115, 46, 114, 101, 108, 97, 116, 105, 111, 110, 115, 36, 49]))], .agg [.lit (.string [60, 61]), .iface "func" (.lit (.string [101, 110, 103, 114, 111, 115, 115, 47, 114, 117, 108, 101, 115, 46, 114, 101, 108, 97, 116, 105, 111, 110, 115, 36, 50]))], .agg [.lit (.string [62, 61]), .iface "func" (.lit (.string [101, 110, 103, 114, 111, 115, 115, 47, 114, 117, 108, 101, 115, 46, 114, 101, 108, 97, 116, 105, 111, 110, 115, 36, 51]))], .agg [.lit (.string [61]), .iface "func" (.lit (.string [101, 110, 103, 114, 111, 115, 115, 47, 114, 117, 108, 101, 115, 46, 114, 101, 108, 97, 116, 105, 111, 110, 115, 36, 52]))]]) (by simp [Rows.laid_engross_rules_relations])
  obtain ⟨g, t, cs, fuel, p, hg, ht, hv, hd⟩ := hrel
  obtain rfl := Option.some.inj (gRels.symm.trans hg)
  obtain rfl := Option.some.inj (gRelsType.symm.trans ht)
  obtain ⟨⟨a0, a1⟩, ⟨b0, b1⟩, ⟨c0, c1⟩, ⟨d0, d1⟩⟩ := rels_cells hd
  have hcell : ∀ i v, cs.toList[i]? = some v → W.cell? ⟨0, i, none⟩ = some v := fun i v hi => by
    rw [World.var?_cell hg hv i, ← Array.getElem?_toList]; exact hi
  have hltr : 0 < W.heap.size := World.block_lt_of_cell? _ _ (hcell 0 _ a0)
  have hp := (show laidMet Tryz.prog [("engross/rules.table", Rows.laid_engross_rules_table)] W ∧ handlesMet Tryz.prog _ W from h).1
  obtain ⟨ps, hl, _⟩ := hp
  have hl' : DataW.LaidVars Tryz.prog W [("engross/rules.table", .agg (Rule.rows.map fun r => .agg [.lit (.string r.1), .lit (.int .i64 (r.2.1 : Nat)), .lit (.int .i64 (r.2.2 : Nat))]))] ps := hl
  obtain ⟨g2, t2, cs2, fuel2, p2, q2, hg2, ht2, hv2, hd2, _⟩ := hl'
  obtain rfl := Option.some.inj (gRules.symm.trans hg2)
  obtain rfl := Option.some.inj (gRulesType.symm.trans ht2)
  have hcell2 : ∀ i v, cs2.toList[i]? = some v → W.cell? ⟨3, i, none⟩ = some v := fun i v hi => by
    rw [World.var?_cell hg2 hv2 i, ← Array.getElem?_toList]; exact hi
  have hrc := rules_cells hd2
  refine zH ⟨⟨fun n hn => ⟨hcell2 _ _ (hrc n hn).1, hcell2 _ _ (hrc n hn).2.1, hcell2 _ _ (hrc n hn).2.2⟩, World.block_lt_of_cell? _ _ (hcell2 _ _ (hrc 0 (by decide)).1)⟩, ⟨⟨hcell _ _ a0, hcell _ _ a1⟩, ⟨hcell _ _ b0, hcell _ _ b1⟩, ⟨hcell _ _ c0, hcell _ _ c1⟩, ⟨hcell _ _ d0, hcell _ _ d1⟩, hltr⟩⟩
set_option maxRecDepth 100000 in
def tabCells (cs : Array Value) : Obj → Obj
  | .cells _ t frozen => .cells cs t frozen
  | o => o
def ruleCells : List Value := Rule.rows.flatMap fun r => [.string ⟨r.1.toArray⟩, .int .i64 (r.2.1 : Nat), .int .i64 (r.2.2 : Nat)]
def relsCells : List Value := [.string ⟨#[63]⟩, .func (.func 241) #[] #[], .string ⟨#[60, 61]⟩, .func (.func 242) #[] #[], .string ⟨#[62, 61]⟩, .func (.func 243) #[] #[], .string ⟨#[61]⟩, .func (.func 244) #[] #[]]
noncomputable def gateWorld (os : Os) : World :=
  { World.holding Tryz.prog os ⟨#[], #[], []⟩ with heap := ((World.holding Tryz.prog os ⟨#[], #[], []⟩).heap.modify 3 (tabCells ruleCells.toArray)).modify 0 (tabCells relsCells.toArray) }
end Go.Proofs.YtjcdpmianmgiaaaGreatDoor
