/- Part 13 of what the claim rests on. -/
import Derived.Test.YtajogedbacpohaaGreatDoorE00
import Derived.Test.YtajogedbacpohaaGreatDoorE10
import Derived.Test.YtajogedbacpohaaGreatDoorE11
set_option linter.unusedVariables false
set_option linter.unusedSimpArgs false
set_option maxRecDepth 1000000
set_option maxHeartbeats 32000000
namespace Go.Proofs.YtajogedbacpohaaGreatDoor
section

section
open Go Go.RowKit Go.Shelf Mon
attribute [local go_sem] Oper.semAt_some
def stakeOf (b : Bk) (acc sym : Int) : Int := ((recOf 3 (b.s.find? (isKey acc sym))).1).getD 2 0
def sumS (sym side : Int) : List (List Int) → Int
 | [] => 0
 | r :: t => (if r.getD 2 0 = sym ∧ r.getD 3 0 = side then r.getD 4 0 else 0) + sumS sym side t
theorem zz98 (sym side : Int) (l m : List (List Int)) : sumS sym side (l ++ m) = sumS sym side l + sumS sym side m := by
 induction l with
 | nil => simp [sumS]
 | cons x t ih => simp only [List.cons_append, sumS, ih]; omega
theorem zz6k (sym side : Int) : ∀ l : List OP, (sumS sym side (l.map OP.val)).natAbs ≤ l.length * 9223372036854775808
 | [] => by simp [sumS]
 | x :: t => by
  have h1 := zz6k sym side t;have h2 := x.hl;unfold I64 at h2;show ((if x.s = sym ∧ x.d = side then x.l else 0) + sumS sym side (t.map OP.val)).natAbs ≤ (t.length + 1) * _
  split <;> omega
def reachX (b : Bk) (acc sym side qty : Int) : Int := stakeOf b acc sym * (1 - 2 * side) + sumS sym side (opensP acc b.o) + qty
def reachR (b : Bk) (acc sym side qty : Int) : Int × Bool := if side < 0 ∨ 1 < side then (0, false) else fitsP (reachX b acc sym side qty)
def reachP (b : Bk) (acc sym side qty : Int) : Int × Bool := if b.mayB then reachR b acc sym side qty else (0, false)
theorem Reach_any (v : Value) (b : Bk) (acc sym side qty : Int) (w : World) (hb : Hid (BkAt w v b)) (hs : Hid b.Small) (hi : Hid b.I64s) (hq1 : Hid (I64 qty)) :
  Calls Tryz.prog 81 #[v, .int .i64 acc, .int .i64 sym, .int .i64 side, .int .i64 qty] w fun e w' => e = .returned (.tuple #[.int .i64 (reachP b acc sym side qty).1, .bool (reachP b acc sym side qty).2]) ∧ Below w.heap.size w w' := by
 obtain ⟨vh, vs, vo, vr, rfl, g1, g2, g3, g4⟩ := hb.out;have LS : Hid (∀ r ∈ b.s, r.length = 3) := (by obtain ⟨_, _, _, h, _⟩ := g2; exact h)
 clear g1 g2 g3 g4;obtain ⟨w1, hw1⟩ : ∃ w1, ((w.alloc (.cells #[vh, vs, vo, vr, b.n] 27)).alloc (.cells #[sym] 2)).alloc (.cells #[side] 3) = w1 := ⟨_, rfl⟩;have HB1 : Hid (Below w.heap.size w w1) := by rw [← hw1]; exact zz01 (zz01 zBa (by simp) _) (by simp; omega) _
 have K1 : ZB w1 w.heap.size #[vh, vs, vo, vr, b.n] 27 := by rw [← hw1]; exact zz04 (zz04 (zz02 _ _) _) _
 have Y1 : ZB w1 (w.heap.size + 1) #[sym] 2 := by rw [← hw1]; exact zz04 (zz0e _ _ _ (by simp)) _
 have D1 : ZB w1 (w.heap.size + 2) #[side] 3 := by rw [← hw1]; exact zz0e _ _ _ (by simp)
 have B1 : Hid (BkAt w1 (.agg #[vh, vs, vo, vr, b.n]) b) := hb.out.call HB1.out;have qm := zH (zz24 _ b _ B1 hs);replace hw1 := zH hw1;cases hm : b.mayB with
 | false =>
  have he : reachP b acc sym side qty = (0, false) := by unfold reachP; rw [hm]; rfl
  rw [he];rw [hm] at qm;clear hm he;go_in;go_wp2_with fail;rw [hw1.out];exact zt72
 | true =>
 have he : reachP b acc sym side qty = reachR b acc sym side qty := by unfold reachP; rw [hm]; rfl
 rw [he];rw [hm] at qm;have HR := zH (zz3v hm);clear hm he;by_cases hsd : side < 0 ∨ 1 < side
 ·have he : reachR b acc sym side qty = (0, false) := if_pos hsd
  rw [he];clear he;go_in;go_wp2_with fail;rw [hw1.out];(with_reducible refine qm.out.mono ?_);rintro e w2 ⟨rfl, hb2⟩;have c0 := zz00 (zz06 D1.out hb2) 0 _ rfl;have HB2 := zB HB1 hb2;clear hb2;by_cases h0 : side < 0
  ·have t0 : decide (side < 0) = true := decide_eq_true h0
   clear hsd h0;go_wp2_with fail;go_ret2;exact ⟨rfl, HB2.out⟩
  ·have t0 : decide (side < 0) = false := decide_eq_false h0
   have t1 : decide (1 < side) = true := decide_eq_true zw;clear hsd h0;go_wp2_with fail;go_ret2;exact ⟨rfl, HB2.out⟩
 have he : reachR b acc sym side qty = fitsP (reachX b acc sym side qty) := if_neg hsd;rw [he];have hsd0 : 0 ≤ side := by omega
 have hsd1 : side ≤ 1 := by omega
 have t0 : decide (side < 0) = false := decide_eq_false zw;have t1 : decide (1 < side) = false := decide_eq_false zw;obtain ⟨rs, F, hl1, hx1⟩ := zz16 LS.out (isKey acc sym)
 match rs, hl1, hx1 with
 | [k0, k1, k2], _, hx1 =>
 have hst : stakeOf b acc sym = k2 := by unfold stakeOf; rw [hx1]; rfl
 have HI2 : Hid (I64 k2) := zz1m hi.out.2.1 hx1 k2 (by simp)
 have HX1 := zH hx1;have HST := zH hst;have F2 : b.s.length ≤ 1000000 := by have := hs.out; unfold Bk.Small at this; omega
 have hR4 := zH HR.out.2.2.2;have qk := zH (fun u wz hv => zz97 u b acc sym k0 k1 k2 F wz hv F2 hR4 HX1)
 clear he hsd hx1 hst;refine (callsIn_wide (n := 3)).1 ?_;have hn1 : 1 ≤ 3 := by omega
 have hro : Fence.wide.round = none := rfl;refine callsIn_of_wp_marks Tryz.func81 rfl trivial ?_ hro;simp only [Tryz.ntmps81, List.size_toArray, List.length_cons, List.length_nil, Nat.reduceAdd, Nat.reduceSub, Array.replicate_succ, Array.replicate_zero, List.push_toArray, List.append_toArray, List.nil_append, List.cons_append]
 gi_wp2_with (fail)
 rw [hw1.out];refine ⟨trivial, callsIn_wide.2 (qm.out.mono ?_)⟩;rintro e w2 ⟨rfl, hb2⟩;have K2 := zK K1 hb2;have Y2 := zK Y1 hb2;have D2 := zK D1 hb2;have B2 := zH (B1.out.call hb2);have HB2 := zB HB1 hb2;clear hb2 qm;obtain ⟨G, hG⟩ : ∃ G, w2.heap.size = G := ⟨_, rfl⟩;have hbx : Below w2.heap.size w2 (w2.alloc (.cells #[.int .u64 0, .int .u64 0, .int .u64 0] 196)) := zBa;have K3 := zK K2 hbx;have Y3 := zK Y2 hbx;have D3 := zK D2 hbx;have B3 := zH (B2.out.call hbx);have HB3 := zB HB2 hbx;have S3 : Hid (SumAt (w2.alloc (.cells #[.int .u64 0, .int .u64 0, .int .u64 0] 196)) G 0) := by rw [← hG]; exact zz56 w2
 have HG : Hid (w.heap.size + 2 < G) := (show _ < _ from by have := (zL D2.out); omega)
 have c0 := zz00 D2.out 0 _ rfl;clear hbx
 gi_wp2_with (fail)
 clear c0;generalize w2.alloc (.cells #[.int .u64 0, .int .u64 0, .int .u64 0] 196) = w3 at *;clear hG;have c0 := zz00 D3.out 0 _ rfl;have c1 := zz00 Y3.out 0 _ rfl;have a0 := zC K3.out;have l0 := zL K3.out;have l1 := zL Y3.out;have l2 := zL D3.out;have hw0 : IntKind.i64.wrap (2 * side) = 2 * side := by rw [IntKind.wrap_i64]; omega
 have hw2 : IntKind.i64.wrap (1 - 2 * side) = 1 - 2 * side := by rw [IntKind.wrap_i64]; omega
 have HC : Hid (w3.drew.heap[w.heap.size]? = some (.cells #[vh, vs, vo, vr, b.n] 27 (0, 0)) ∧ w3.drew.heap[w.heap.size + 1]? = some (.cells #[sym] 2 (0, 0)) ∧ w3.drew.heap[w.heap.size + 2]? = some (.cells #[side] 3 (0, 0))) := ⟨K3.out, Y3.out, D3.out⟩;have HCb : Hid (Below w3.heap.size w3 w3.drew) := (Below.refl _ _).drew;refine wpIn_wide.2 ?_;refine zz07 [] (fun wz => Hid (wz.heap[w.heap.size]? = some (.cells #[vh, vs, vo, vr, b.n] 27 (0, 0)) ∧ wz.heap[w.heap.size + 1]? = some (.cells #[sym] 2 (0, 0)) ∧ wz.heap[w.heap.size + 2]? = some (.cells #[side] 3 (0, 0)))) 8 (zb 8 0) zk zk zk ?_
 refine zM [0, 1, 2, 4, 5, 6] 2 HC ?_;simp only [opsAt, zA];refine zz08 (.agg #[vh, vs, vo, vr, b.n]) rfl (fun wz hC => by have h0 := zz00 (Hid.out hC).1 0 _ rfl; have h1 := zz00 (Hid.out hC).1 1 _ rfl; have h2 := zz00 (Hid.out hC).1 2 _ rfl; have h3 := zz00 (Hid.out hC).1 3 _ rfl; have h4 := zz00 (Hid.out hC).1 4 _ rfl; unfold execOp; go_simp) ?_
 refine zp ?_;refine zz08 (.int .i64 sym) rfl (fun wz hC => by have h0 := zz00 (Hid.out hC).2.1 0 _ rfl; unfold execOp; go_simp) ?_
 refine zz08 (.int .i64 side) rfl (fun wz hC => by have h0 := zz00 (Hid.out hC).2.2 0 _ rfl; unfold execOp; go_simp) ?_
 iterate 2 refine zp ?_
 unfold wpPure;go_simp;refine zW 3 ?_;go_wp2_with fail;(with_reducible refine (qk.out _ _ (zH (B3.out.call HCb.out))).mono ?_);rintro e wc1 ⟨rfl, hb⟩;replace HCb : Hid (Below w3.heap.size w3 wc1) := HCb.out.trans (hb.mono HCb.out.size);replace HC : Hid (wc1.heap[w.heap.size]? = some (.cells #[vh, vs, vo, vr, b.n] 27 (0, 0)) ∧ wc1.heap[w.heap.size + 1]? = some (.cells #[sym] 2 (0, 0)) ∧ wc1.heap[w.heap.size + 2]? = some (.cells #[side] 3 (0, 0))) := ⟨zz06 K3.out HCb.out, zz06 Y3.out HCb.out, zz06 D3.out HCb.out⟩;clear hb;go_wp2_with fail;refine zQs (fun _ => HC) ?_
 have S4 : Hid (SumAt wc1 G 0) := zz06 S3.out HCb.out;have qa := zH (zz0x G 0 k2 (1 - 2 * side) (by unfold Ok M3; omega) HI2.out (by unfold I64; omega) _ S4)
 have K4 := zH (zz06 K3.out HCb.out);have Y4 := zH (zz06 Y3.out HCb.out);have D4 := zH (zz06 D3.out HCb.out);have HB4 := zH (HB3.out.trans (HCb.out.mono HB3.out.size));clear a0 l0 l1 l2 c0 c1 HC HCb;refine zW 7 ?_;go_wp2_with fail;(with_reducible refine qa.out.mono ?_);rintro e w5 ⟨rfl, hs5, hg5⟩;rw [Int.zero_add] at hs5;have S5 := zH hs5;have K5 := zH ((hg5.block _ (zL K4.out) (fun e => by have := HG.out; injection e with e; omega)).trans K4.out)
 have Y5 := zH ((hg5.block _ (zL Y4.out) (fun e => by have := HG.out; injection e with e; omega)).trans Y4.out)
 have D5 := zH ((hg5.block _ (zL D4.out) (fun e => by have := HG.out; injection e with e; omega)).trans D4.out)
 have HB5 := zH (zz0f HB4.out hg5 (by have := HG.out; omega) HB4.out.size)
 have HG5 : Hid (G < w5.heap.size) := zL hs5;clear hs5 hg5 qa K4 Y4 D4 HB4 S4 S3;go_wp2_with fail;refine zQs (fun _ => ⟨K5.out, Y5.out, D5.out⟩) ?_
 refine zQe ?_;have a0 := zC K5.out
 gi_wp2_with (fail)
 clear a0;refine ⟨trivial, callsIn_wide.2 ((zz8m vh vs vo vr b.n acc _).mono ?_)⟩;rintro e w7 ⟨rfl, hw7⟩;have HC7 : Hid (Caps w w5.heap.size (w5.heap.size + 1) vh vs vo vr b.n acc w7) := by rw [← hw7]; exact ⟨zz04 (zz02 _ _) _, zz0e _ _ _ (by simp), zz01 (zz01 HB5.out HB5.out.size _) (by have := HB5.out.size; simp; omega) _⟩
 have Y7 : ZB w7 (w.heap.size + 1) #[sym] 2 := by rw [← hw7]; exact zz04 (zz04 Y5.out _) _
 have D7 : ZB w7 (w.heap.size + 2) #[side] 3 := by rw [← hw7]; exact zz04 (zz04 D5.out _) _
 have S7 : Hid (SumAt w7 G (k2 * (1 - 2 * side) % M3)) := by rw [← hw7]; exact zz04 (zz04 S5.out _) _
 clear hw7
 gi_wp2_with (fail)
 have hgb : Hid (w5.heap.size ≠ G ∧ w5.heap.size + 1 ≠ G) := (show _ ∧ _ from by have := HG5.out; omega)
 have BO : Hid (BkAt w (.agg #[vh, vs, vo, vr, b.n]) b) := hb;refine wpIn_rangeFunc_ownH hro hn1 (gf := 181) (lb := #[.pointer (some ⟨w5.heap.size, 0, none⟩), .pointer (some ⟨w5.heap.size + 1, 0, none⟩)]) rfl trivial (enters_of Tryz.func181 zk rfl)
  (zz5a G w5.heap.size (w5.heap.size + 1) vh vs vo vr b acc w w7 hgb BO hs hi HC7) KpG.trans (KpG.put HC7.out.below.size) (Below.refl _ _) (fun _ => rfl)
  (fun pre W => Hid (SumAt W G ((k2 * (1 - 2 * side) + sumS sym side (pre.map OP.val)) % M3)) ∧ ZB W (w.heap.size + 1) #[sym] 2 ∧ ZB W (w.heap.size + 2) #[side] 3 ∧ Hid (Below w.heap.size w W))
  (fun _ _ _ => False)
  (OwnFrom.and (zz2a _ _ _ _) (OwnFrom.and (zz2a _ _ _ _) (OwnFrom.and (zz2a _ _ _ _) (ownFrom_below (Nat.le_refl _) HC7.out.below.size))))
  (fun _ _ _ _ _ hs _ _ => hs)
  ⟨by show SumAt _ _ _; rw [show k2 * (1 - 2 * side) + sumS sym side (([] : List OP).map OP.val) = k2 * (1 - 2 * side) by simp [sumS]]; exact S7.out, Y7.out, D7.out, HC7.out.below⟩
  (fun x a' W => ∃ Bx, Hid (Bx < W.heap.size) ∧ ZB W Bx #[x.i, x.a, x.s, x.d, x.l, x.p] 82 ∧ a' = { tmps := #[.agg #[vh, vs, vo, vr, b.n], .int .i64 acc, .int .i64 sym, .int .i64 side, .int .i64 qty, .pointer (some ⟨w.heap.size, 0, none⟩), undef, .pointer (some ⟨w.heap.size + 1, 0, none⟩), .pointer (some ⟨w.heap.size + 1 + 1, 0, none⟩), undef, .int .i64 0, .bool false, .pointer (some ⟨G, 0, none⟩), .pointer (some ⟨Bx, 0, none⟩), .agg #[vh, vs, vo, vr, b.n], .bool true, .bool false, .bool false, .int .i64 side, .bool false, .bool false, .bool false, .int .i64 side, .bool false, .bool false, .agg #[vh, vs, vo, vr, b.n], .int .i64 acc, .int .i64 sym, .int .i64 k2, .int .i64 side, .int .i64 (2 * side), .int .i64 (1 - 2 * side), .tuple #[], .agg #[vh, vs, vo, vr, b.n], .int .i64 acc, .func (.func 181) #[] #[.pointer (some ⟨w5.heap.size, 0, none⟩), .pointer (some ⟨w5.heap.size + 1, 0, none⟩)], .agg #[x.i, x.a, x.s, x.d, x.l, x.p], undef, undef, undef, undef, undef, undef, undef, undef, undef, undef, undef, undef, undef, undef, undef, undef, undef, undef], defers := [] })
  (fun x a' _ X Y row hs' hg hr => by
   exact zt42)
  ?assign ?body ?done ?stop
 case assign =>
  rintro l pre x W K ⟨i1, i2, i3, i9⟩ hK;have hsz : w.heap.size ≤ W.heap.size := i9.out.size;unfold OP.enc
  gi_wp2_with (fail)
  exact zt84
 case stop =>
  rintro D c pre W _ _ h _;exact h.elim
 case body =>
  rintro l pre x a' W hl ⟨r, hr⟩ ⟨i1, i2, i3, i9⟩ ⟨Bx, hBx, bX, rfl⟩ hlt;have cy := zz00 i2.out 0 _ rfl;have cd := zz00 i3.out 0 _ rfl;have x2 := zC bX.out;have hlB := hBx.out;have hv : Hid (sumS sym side ((pre ++ [x]).map OP.val) = sumS sym side (pre.map OP.val) + (if x.s = sym ∧ x.d = side then x.l else 0)) := (show _ = _ from by
   rw [List.map_append, zz98];show _ + ((if x.s = sym ∧ x.d = side then x.l else 0) + 0) = _
   omega)
  have hskip : ¬ (x.s = sym ∧ x.d = side) → KeepsFrom w7.heap.size W W ∧ KpG w G W W ∧ (Hid (SumAt W G ((k2 * (1 - 2 * side) + sumS sym side ((pre ++ [x]).map OP.val)) % M3)) ∧ ZB W (w.heap.size + 1) #[sym] 2 ∧ ZB W (w.heap.size + 2) #[side] 3 ∧ Hid (Below w.heap.size w W)) := fun hn =>
   ⟨KeepsFrom.refl _ _, KpG.of_below i9.out.size (Below.refl _ _), by show SumAt _ _ _; rw [hv.out, if_neg hn, Int.add_zero]; exact i1.out, i2.out, i3.out, i9.out⟩
  have HSK := zH hskip;clear hskip;by_cases hq : x.s = sym
  ·have tq : (x.s == sym) = true := by simp [hq]
   by_cases hd : x.d = side
   ·have td : (x.d == side) = true := by simp [hd]
    have hv2 : Hid ((if x.s = sym ∧ x.d = side then x.l else 0) = x.l) := if_pos ⟨hq, hd⟩
    have qa := zH (zz5j G _ x.l (zz26 _) x.hl W i1);clear hq hd HSK
    gi_wp2_with (fail)
    refine ⟨trivial, CallsIn.inRound l (callsIn_wide.2 (qa.out.mono ?_))⟩;rintro e w9 ⟨rfl, hs9, hg9⟩;have hN := zH (show KeepsFrom w7.heap.size W w9 ∧ KpG w G W w9 ∧ (Hid (SumAt w9 G ((k2 * (1 - 2 * side) + sumS sym side ((pre ++ [x]).map OP.val)) % M3)) ∧ ZB w9 (w.heap.size + 1) #[sym] 2 ∧ ZB w9 (w.heap.size + 2) #[side] 3 ∧ Hid (Below w.heap.size w w9)) from
     ⟨(KeepsOthers.of_grownBy hg9 (fun j o ej hj => by cases ej; rw [show W.heap[G]? = _ from i1.out] at hj; cases hj; rfl)).from _, KpG.of_grown i9.out.size (by have := HG.out; omega) hg9,
      by show SumAt _ _ _; rw [zz2n] at hs9; rw [hv.out, hv2.out, ← Int.add_assoc]; exact hs9,
      (hg9.block _ (zL i2.out) (fun e => by have := HG.out; injection e with e; omega)).trans i2.out, (hg9.block _ (zL i3.out) (fun e => by have := HG.out; injection e with e; omega)).trans i3.out, zz0f i9.out hg9 (by have := HG.out; omega) i9.out.size⟩)
    clear hs9 hg9 cy cd x2 qa
    gi_wp2_with (fail)
    exact hN.out
   ·have td : (x.d == side) = false := by simp [hd]
    have hN := zH (HSK.out (fun h => hd h.2))
    clear hq hd HSK
    gi_wp2_with (fail)
    exact hN.out
  ·have tq : (x.s == sym) = false := by simp [hq]
   have hN := zH (HSK.out (fun h => hq h.1))
   clear hq HSK
   gi_wp2_with (fail)
   exact hN.out
 case done =>
  rintro D ys W hD hys ⟨i1, i2, i3, i9⟩ hK;have HK := zH hK;have hlen : ys.length ≤ 1000000 := by
   have h1' : ys.length = (opensP acc b.o).length := by rw [← hys]; simp
   have h2' := zz4h acc b.o;have h3' := hs.out;unfold Bk.Small at h3';omega
  have hbd := zz6k sym side ys;have hXE : k2 * (1 - 2 * side) + sumS sym side (ys.map OP.val) + qty = reachX b acc sym side qty := by unfold reachX; rw [hys, HST.out]
  have hbd2 : -1569275433846670190958947355801916604025588861116008628224 ≤ reachX b acc sym side qty ∧ reachX b acc sym side qty ≤ 1569275433846670190958947355801916604025588861116008628224 := by
   rw [← hXE];have h4' : ys.length * 9223372036854775808 ≤ 1000000 * 9223372036854775808 := Nat.mul_le_mul_right _ hlen;have h5' := prodB HI2.out (show I64 (1 - 2 * side) by unfold I64; omega)
   have h6' := hq1.out;unfold I64 at h6';omega
  have qa := zH (zz5j G _ qty (zz26 _) hq1.out W i1);have HXE := zH hXE;have HBD2 := zH hbd2;have HI9 := i9;have HS1 := i1;clear hK hbd hbd2 hlen hys hXE i1 i2 i3 i9
  gi_wp2_with (fail)
  refine ⟨trivial, callsIn_wide.2 (qa.out.mono ?_)⟩;rintro e w9 ⟨rfl, hs9, hg9⟩;rw [zz2n, HXE.out] at hs9;have S9 := zH hs9;have HB9 := zH (zz0f HI9.out hg9 (by have := HG.out; omega) HI9.out.size)
  have HK9 := zH ((hg9.block _ (zL HK.out) (fun e => by injection e with e; subst e; have h := HK.out; rw [show W.heap[D]? = _ from HS1.out] at h; cases h)).trans HK.out)
  clear hs9 hg9 qa;have qt := zH (zz32 G _ (zz26 (reachX b acc sym side qty)) w9 S9);rw [zz27 HBD2.out] at qt;obtain ⟨FP, hFP⟩ : ∃ FP, fitsP (reachX b acc sym side qty) = FP := ⟨_, rfl⟩;rw [hFP] at qt;have HFP := zH hFP;clear hFP
  gi_wp2_with (fail)
  refine ⟨trivial, callsIn_wide.2 (qt.out.mono ?_)⟩;rintro e wa ⟨rfl, rfl⟩
  gi_wp2_with (fail)
  have hDw : w.heap.size ≤ D := Nat.le_trans HC7.out.below.size hD;refine ⟨by simp, .inl ⟨_, _, rfl, run_takeDeferred HK9.out, ?_⟩⟩
  exact ⟨_, results_tmp2 rfl _ _ _, by rw [HFP.out]; rfl, HB9.out.trans (belowK_b (w := w) (Nat.le_refl _) _ D _ _ hDw HK9.out rfl rfl)⟩
end
section
open Go Go.RowKit Bg Mon
theorem zt1 {p : Prop} (h : p := by
 clear hb;go_wp2_with fail;refine zQs (fun _ => HC) ?_
 replace KX := zH (KX.out.call HCb.out);replace KB := zH (zz06 KB.out HCb.out);replace hBr := zH (hBr.out.trans (HCb.out.mono hBr.out.size));clear e0 e1 lG V7 KV HCb HC;have e0 := KX.out.c0;have e1 := KX.out.c1;have e2 := KX.out.z 0;have e3 := KX.out.z 1;refine zW 4 ?_;go_wp2_with fail;refine zQs (fun h => absurd h zx) ?_
 refine zQe ?_;have KV := zH (V8.out.store KX.out);replace KX := zH ((KX.out.set0 t8).set1 (.slice B8 m8 d8));replace KB : Hid ((((wc2.setCell ⟨G, 0, none⟩ (.bool t8)).setCell ⟨G, 1, none⟩ (.slice B8 m8 d8))).heap[w.heap.size]? = _) := zz09 (zz09 KB.out _ _ (by have := HGw.out; omega)) _ _ (by have := HGw.out; omega)
 replace hBr := zH ((hBr.out.setCell (p := ⟨G, 0, none⟩) (by have := HGw.out; show w.heap.size ≤ G; omega) (.bool t8)).setCell (p := ⟨G, 1, none⟩) (by have := HGw.out; show w.heap.size ≤ G; omega) (.slice B8 m8 d8))
 clear V8 e0 e1 e2 e3;generalize (wc2.setCell ⟨G, 0, none⟩ (.bool t8)).setCell ⟨G, 1, none⟩ (.slice B8 m8 d8) = w9 at *;go_wp2_with fail;go_loopw [13, 14] (fun s9 _ wr => ∃ (j : Nat) (Z : Int) (t : Bool) (B : Option Addr) (m d : Nat), s9 = .int .i64 (j : Int) ∧ Hid (j ≤ b.o.length) ∧ Hid (BigBlk wr G t (.slice B m d)) ∧ Hid (BigAt wr (.agg #[.bool t, .slice B m d]) Z) ∧ Hid (Z + sumS sym side (opensP acc (b.o.drop j)) = X) ∧ Hid (Z.natAbs ≤ (2 + j) * 85070591730234615865843651857942052864) ∧ ZB wr w.heap.size #[vh, vs, .slice A3 b.o.length c3, vr, b.n] 27 ∧ Hid (Below w.heap.size w wr)) (fun s9 _ _ => b.o.length - (intOf s9).toNat)
 case atStart => exact ⟨0, _, _, _, _, _, rfl, Nat.zero_le _, KX.out, KV.out, HX.out, by have := HZ0.out; have := hq1.out; unfold I64 at this; show _ ≤ _; omega, KB.out, hBr.out⟩
 case round =>
  clear KX KV KB hBr;obtain ⟨j, Z, t, B, m, d, rfl, hjl, KX, KV, hrest, hZ, KB, hBr⟩ := hrel;replace hjl := hjl.out;have cb := zz00 KB.out 2 _ rfl;have lK := zL KB.out;by_cases hin : j < b.o.length
  ·have tn : decide ((j : Int) < (b.o.length : Int)) = true := decide_eq_true zw
   have hge : b.o[j]? = some b.o[j] := List.getElem?_eq_getElem hin;obtain ⟨hk, b0, o0, hA0, hbl, hc⟩ := HI3.out j _ hge;subst hA0;have HS := zH (zz3f (acc := acc) hge);have HM : Hid (∀ x ∈ b.o[j], I64 x) := (show ∀ x ∈ b.o[j], I64 x from hi.out.2.2.1 _ (List.getElem_mem hin))
   clear hge;generalize b.o[j] = r at *;obtain ⟨y0, y1, y2, y3, y4, y5, rfl⟩ : ∃ y0 y1 y2 y3 y4 y5, r = [y0, y1, y2, y3, y4, y5] := by
    match r, hk with
    | [y0, y1, y2, y3, y4, y5], _ => exact ⟨y0, y1, y2, y3, y4, y5, rfl⟩
   have hb3 : (j : Int) < (b.o.length : Int) := by omega
   have hb4 : (0 : Int) ≤ (j : Int) := by omega
   have hbl3 : b0 < wr.heap.size := Nat.lt_of_lt_of_le hbl hBr.out.size;have d0' : wr.cell? ⟨b0, o0 + j * 6, none⟩ = some (.int .i64 y0) := (hBr.out.cell (p := ⟨b0, o0 + j * 6 + 0, none⟩) hbl).trans (hc 0 _ rfl);have d1' : wr.cell? ⟨b0, o0 + j * 6 + 1, none⟩ = some (.int .i64 y1) := (hBr.out.cell (p := ⟨b0, o0 + j * 6 + 1, none⟩) hbl).trans (hc 1 _ rfl);have d2' : wr.cell? ⟨b0, o0 + j * 6 + 2, none⟩ = some (.int .i64 y2) := (hBr.out.cell (p := ⟨b0, o0 + j * 6 + 2, none⟩) hbl).trans (hc 2 _ rfl);have d3' : wr.cell? ⟨b0, o0 + j * 6 + 3, none⟩ = some (.int .i64 y3) := (hBr.out.cell (p := ⟨b0, o0 + j * 6 + 3, none⟩) hbl).trans (hc 3 _ rfl);have d4' : wr.cell? ⟨b0, o0 + j * 6 + 4, none⟩ = some (.int .i64 y4) := (hBr.out.cell (p := ⟨b0, o0 + j * 6 + 4, none⟩) hbl).trans (hc 4 _ rfl);have d5' : wr.cell? ⟨b0, o0 + j * 6 + 5, none⟩ = some (.int .i64 y5) := (hBr.out.cell (p := ⟨b0, o0 + j * 6 + 5, none⟩) hbl).trans (hc 5 _ rfl);have lG := KX.out.lt;obtain ⟨wx, hwx⟩ : ∃ wx, wr.alloc (.cells #[y0, y1, y2, y3, y4, y5] 82) = wx := ⟨_, rfl⟩;have hbx := zM0 hwx;have KO : ZB wx wr.heap.size #[y0, y1, y2, y3, y4, y5] 82 := by rw [← hwx]; exact zz02 _ _
   replace KX := zH (KX.out.call hbx);replace KV := zH (KV.out.call hbx);replace KB := zK KB hbx;replace hBr := zB hBr hbx;have HWX := zH hwx;have HZ2 : Hid (Z.natAbs ≤ (2 + (j + 1)) * 85070591730234615865843651857942052864) := (Nat.le_trans hZ.out (Nat.mul_le_mul_right _ zw));have hskip : ¬ (y1 = acc ∧ y2 = sym ∧ y3 = side) → Z + sumS sym side (opensP acc (b.o.drop (j + 1))) = X := fun hn => by
    rw [← hrest.out, HS.out];by_cases h1 : y1 = acc
    ·rw [if_pos (show ([y0, y1, y2, y3, y4, y5] : List Int).getD 1 0 = acc from h1)]
     show _ = Z + ((if y2 = sym ∧ y3 = side then y4 else 0) + _)
     rw [if_neg (fun h => hn ⟨h1, h.1, h.2⟩)]; omega
    ·rw [if_neg (show ¬ ([y0, y1, y2, y3, y4, y5] : List Int).getD 1 0 = acc from h1)]
   have HSK := zH hskip;have htake : (y1 = acc ∧ y2 = sym ∧ y3 = side) → Z + y4 + sumS sym side (opensP acc (b.o.drop (j + 1))) = X := fun hn => by
    rw [← hrest.out, HS.out, if_pos (show ([y0, y1, y2, y3, y4, y5] : List Int).getD 1 0 = acc from hn.1)]
    show _ = Z + ((if y2 = sym ∧ y3 = side then y4 else 0) + _)
    rw [if_pos hn.2]; omega
   have HTK := zH htake;clear hc hk hwx hbx hskip htake HS;by_cases q1 : y1 = acc
   ·have tq1 : (y1 == acc) = true := by simp [q1]
    by_cases q2 : y2 = sym
    ·have tq2 : (y2 == sym) = true := by simp [q2]
     by_cases q3 : y3 = side
     ·have tq3 : (y3 == side) = true := by simp [q3]
      have HS2 := zH (HTK.out ⟨q1, q2, q3⟩);have HQ4 : Hid (I64 y4) := HM.out y4 (by simp)
      have HZ3 : Hid ((Z + y4).natAbs ≤ (2 + (j + 1)) * 85070591730234615865843651857942052864) := (show _ ≤ _ from by
       have h1' := hZ.out;have h2' := HQ4.out;unfold I64 at h2';omega)
      have bZ : Z.natAbs < 10000 ^ 40 := bigB (Nat.le_trans hZ.out (Nat.mul_le_mul_right _ zw));have bY : y4.natAbs < 10000 ^ 40 := bigB (by have := HQ4.out; unfold I64 at this; omega)
      have fm := zH (fun w => zz33 y4 HQ4.out w)
      have fa := zH (fun x y w h1 h2 => zz1t x y Z y4 w h1 h2 bZ bY)
      clear q1 q2 q3 bZ bY HSK HTK;go_wp2_with fail;rw [HWX.out];clear d0' d1' d2' d3' d4' d5' cb lK lG hbl3;have lG := KX.out.lt;have lO := zL KO.out;have e0 := KX.out.c0;have e1 := KX.out.c1;have x4 := zz00 KO.out 4 _ rfl;have HC : ∃ x : ExtOf wx, wx.drew = x.w := ⟨⟨_, (Below.refl _ _).drew⟩, rfl⟩;have HCb : Hid (Below wx.heap.size wx wx.drew) := (Below.refl _ _).drew;refine zRD [5] (fun wz => ∃ x : ExtOf wx, wz = x.w) 6 ?_
      refine zM [0, 1, 2] 3 HC ?_;simp only [opsAt, zA];refine zz08 (.agg #[.bool t, .slice B m d]) rfl (fun wz hC => by obtain ⟨x, rfl⟩ := hC; unfold execOp; go_simp) ?_
      refine zp ?_;refine zz08 (.int .i64 y4) rfl (fun wz hC => by obtain ⟨x, rfl⟩ := hC; unfold execOp; go_simp) ?_
      unfold wpPure;go_simp;refine zW 3 ?_;go_wp2_with fail;(with_reducible refine (fm.out _).mono ?_);rintro e wc1 ⟨⟨v5, rfl, hv5⟩, hb⟩;have V5 := zH hv5;clear hv5;replace HCb : Hid (Below wx.heap.size wx wc1) := HCb.out.trans (hb.mono HCb.out.size);have HC : ∃ x : ExtOf wx, wc1 = x.w := ⟨⟨_, HCb.out⟩, rfl⟩;clear hb;go_wp2_with fail;refine zQs (fun _ => HC) ?_
      refine zW 4 ?_;go_wp2_with fail;(with_reducible refine (fa.out _ _ _ (zH (KV.out.call HCb.out)) V5).mono ?_);rintro e wc2 ⟨⟨v6, rfl, hv6⟩, hb⟩;obtain ⟨t6, B6, m6, d6, rfl⟩ := hv6.form;have V6 := zH hv6;clear hv6;replace HCb : Hid (Below wx.heap.size wx wc2) := HCb.out.trans (hb.mono HCb.out.size);have HC : ∃ x : ExtOf wx, wc2 = x.w := ⟨⟨_, HCb.out⟩, rfl⟩;clear hb;go_wp2_with fail;refine zQs (fun _ => HC) ?_
      replace KX := zH (KX.out.call HCb.out);replace KB := zH (zz06 KB.out HCb.out);replace hBr := zH (hBr.out.trans (HCb.out.mono hBr.out.size));clear e0 e1 lG lO x4 V5 KV HCb HC;have e0 := KX.out.c0;have e1 := KX.out.c1;have e2 := KX.out.z 0;have e3 := KX.out.z 1;refine zW 5 ?_;go_wp2_with fail;refine zQs (fun h => absurd h zx) ?_
      refine zQe ?_;have KV := zH (V6.out.store KX.out);replace KX := zH ((KX.out.set0 t6).set1 (.slice B6 m6 d6));replace KB : Hid ((((wc2.setCell ⟨G, 0, none⟩ (.bool t6)).setCell ⟨G, 1, none⟩ (.slice B6 m6 d6))).heap[w.heap.size]? = _) := zz09 (zz09 KB.out _ _ (by have := HGw.out; omega)) _ _ (by have := HGw.out; omega)
      replace hBr := zH ((hBr.out.setCell (p := ⟨G, 0, none⟩) (by have := HGw.out; show w.heap.size ≤ G; omega) (.bool t6)).setCell (p := ⟨G, 1, none⟩) (by have := HGw.out; show w.heap.size ≤ G; omega) (.slice B6 m6 d6))
      clear V6 e0 e1 e2 e3;go_wp2_with fail;go_roundw
      case rel => exact ⟨j + 1, _, _, _, _, _, by go_num, by show _ ≤ _; omega, KX.out, KV.out, HS2.out, HZ3.out, KB.out, hBr.out⟩
      case measure => simp [intOf]; omega
     ·have tq3 : (y3 == side) = false := by simp [q3]
      have HS2 := zH (HSK.out (fun h => q3 h.2.2))
      clear q1 q2 q3 HSK HTK;go_wp2_with fail;rw [HWX.out];clear d0' d1' d2' d3' d4' d5' cb lK lG hbl3;go_roundw
      case rel => exact ⟨j + 1, Z, t, B, m, d, by go_num, by show _ ≤ _; omega, KX.out, KV.out, HS2.out, HZ2.out, KB.out, hBr.out⟩
      case measure => simp [intOf]; omega
    ·have tq2 : (y2 == sym) = false := by simp [q2]
     have HS2 := zH (HSK.out (fun h => q2 h.2.1))
     clear q1 q2 HSK HTK;go_wp2_with fail;rw [HWX.out];clear d0' d1' d2' d3' d4' d5' cb lK lG hbl3;go_roundw
     case rel => exact ⟨j + 1, Z, t, B, m, d, by go_num, by show _ ≤ _; omega, KX.out, KV.out, HS2.out, HZ2.out, KB.out, hBr.out⟩
     case measure => simp [intOf]; omega
   ·have tq1 : (y1 == acc) = false := by simp [q1]
    have HS2 := zH (HSK.out (fun h => q1 h.1))
    clear q1 HSK HTK;go_wp2_with fail;rw [HWX.out];clear d0' d1' d2' d3' d4' d5' cb lK lG hbl3;go_roundw
    case rel => exact ⟨j + 1, Z, t, B, m, d, by go_num, by show _ ≤ _; omega, KX.out, KV.out, HS2.out, HZ2.out, KB.out, hBr.out⟩
    case measure => simp [intOf]; omega
  ·have tn : decide ((j : Int) < (b.o.length : Int)) = false := decide_eq_false zw
   have hZX : Z = X := by rw [← hrest.out, List.drop_eq_nil_of_le zw]; simp [opensP, sumS]
   have bX : X.natAbs < 10000 ^ 40 := bigB (by rw [← hZX]; exact Nat.le_trans hZ.out (Nat.mul_le_mul_right _ zw))
   rw [hZX] at KV;have qf := zH (fun x w h => zz2f x X w h bX)
   have e0 := KX.out.c0;have e1 := KX.out.c1;clear hrest hZ hZX bX;go_wp2_with fail;(with_reducible refine (qf.out _ _ KV).mono ?_);rintro e w5 ⟨rfl, hb5⟩;have HB5 := zB hBr hb5;clear hb5;go_wp2_with fail;go_ret2;exact ⟨rfl, HB5.out⟩) : p := h
theorem zzaw (v : Value) (b : Bk) (acc sym side qty : Int) (w : World) (hb : Hid (BkAt w v b)) (hs : Hid b.Small) (hi : Hid b.I64s) (hq1 : Hid (I64 qty)) :
  Calls Tryz.prog 105 #[v, .int .i64 acc, .int .i64 sym, .int .i64 side, .int .i64 qty] w fun e w' => e = .returned (.tuple #[.int .i64 (reachR b acc sym side qty).1, .bool (reachR b acc sym side qty).2]) ∧ Below w.heap.size w w' := by
 obtain ⟨vh, vs, vo, vr, rfl, g1, g2, g3, g4⟩ := hb.out;have LS : Hid (∀ r ∈ b.s, r.length = 3) := (by obtain ⟨_, _, _, h, _⟩ := g2; exact h)
 obtain ⟨A3, c3, rfl, hi3⟩ := g3.rec';have HI3 := zH hi3;clear g1 g2 g3 g4 hi3;have HB1 : Hid (Below w.heap.size w (w.alloc (.cells #[vh, vs, .slice A3 b.o.length c3, vr, b.n] 27))) := zBa;have K1 : Hid ((w.alloc (.cells #[vh, vs, .slice A3 b.o.length c3, vr, b.n] 27)).heap[w.heap.size]? = some (.cells #[vh, vs, .slice A3 b.o.length c3, vr, b.n] 27 (0, 0))) := zz02 _ _;have B1 : Hid (BkAt (w.alloc (.cells #[vh, vs, .slice A3 b.o.length c3, vr, b.n] 27)) (.agg #[vh, vs, .slice A3 b.o.length c3, vr, b.n]) b) := hb.out.call HB1.out;by_cases hsd : side < 0 ∨ 1 < side
 ·have he : reachR b acc sym side qty = (0, false) := if_pos hsd
  rw [he];have ta : (side != 0) = true := by simp; omega
  have tb : (side != 1) = true := by simp; omega
  clear he hsd;go_in;go_wp2_with fail;go_ret2;exact ⟨rfl, HB1.out⟩
 have he : reachR b acc sym side qty = fitsP (reachX b acc sym side qty) := if_neg hsd;rw [he];have hlo : b.o.length ≤ 999998 := by have := hs.out; unfold Bk.Small at this; omega
 have hls : b.s.length ≤ 1000000 := by have := hs.out; unfold Bk.Small at this; omega
 obtain ⟨rs, F, hl1, hx1⟩ := zz16 LS.out (isKey acc sym)
 match rs, hl1, hx1 with
 | [k0, k1, k2], _, hx1 =>
 have hst : stakeOf b acc sym = k2 := by unfold stakeOf; rw [hx1]; rfl
 have HI2 : Hid (I64 k2) := zz1m hi.out.2.1 hx1 k2 (by simp)
 have hside : side = 0 ∨ side = 1 := by omega
 obtain ⟨Z0, hZ0⟩ : ∃ Z0, k2 * (1 - 2 * side) = Z0 := ⟨_, rfl⟩;obtain ⟨X, hX⟩ : ∃ X, reachX b acc sym side qty = X := ⟨_, rfl⟩;have HX : Hid (Z0 + qty + sumS sym side (opensP acc b.o) = X) := (show _ = _ from by rw [← hX]; unfold reachX; rw [hst, hZ0]; omega)
 have HZ0 : Hid (Z0.natAbs ≤ 85070591730234615865843651857942052864) := (show _ ≤ _ from by rw [← hZ0]; exact prodB HI2.out (show I64 (1 - 2 * side) by unfold I64; omega))
 rw [hX];have qk := zH (zz6t _ b acc sym k0 k1 k2 F _ B1 hls hx1);have qo := zH (fun w => zz33 k2 HI2.out w)
 have qn := zH (fun x w h => zzbz x k2 w h (bigB (by have := HI2.out; unfold I64 at this; omega)))
 have qq := zH (fun w => zz33 qty hq1.out w)
 have qa := zH (fun x y w h1 h2 => zz1t x y Z0 qty w h1 h2 (bigB (by have := HZ0.out; omega)) (bigB (by have := hq1.out; unfold I64 at this; omega)))
 have hz1 : Hid (side = 0 → k2 = Z0) := (show _ → _ from fun h => by rw [← hZ0, h]; omega)
 have hz2 : Hid (side = 1 → -k2 = Z0) := (show _ → _ from fun h => by rw [← hZ0, h]; omega)
 have BO := hb;clear hb he hsd hx1 hst hX hZ0 B1;have HW : Hid (∀ (w4 : World) (G : Nat) (t : Bool) (B : Option Addr) (m d : Nat), True) := (show ∀ _ _ _ _ _ _, True from fun _ _ _ _ _ _ => trivial)
 clear HW;go_in;rcases hside with hs0 | hs0
 ·have ta : (side != 0) = false := by simp [hs0]
  have tc : (side == 1) = false := by simp [hs0]
  have HZK := zH (hz1.out hs0);have HS0 := zH hs0;clear hs0;go_wp2_with fail;(with_reducible refine qk.out.mono ?_);rintro e w2 ⟨rfl, hb2⟩;have K2 := zK K1 hb2;have HB2 := zB HB1 hb2;clear hb2 qk;go_wp2_with fail;(with_reducible refine (qo.out _).mono ?_);rintro e w3 ⟨⟨v3, rfl, hv3⟩, hb3⟩;obtain ⟨t, B, m, d, rfl⟩ := hv3.form;have V3 := zH hv3;have K3 := zK K2 hb3;have HB3 := zB HB2 hb3;clear hv3 hb3 qo;obtain ⟨G, hG⟩ : ∃ G, w3.heap.size = G := ⟨_, rfl⟩;have hbx : Below w3.heap.size w3 (w3.alloc (.cells #[.bool t, .slice B m d] 143)) := zBa;have KB := zK K3 hbx;have hBr := zB HB3 hbx;have KV := zH (V3.out.call hbx);have KX := zH (BigBlk.mk w3 G t (.slice B m d) hG);have HGw : Hid (w.heap.size < G) := (show _ < _ from by have := (zL K3.out); omega)
  clear hbx V3 K3 HB3;go_wp2_with fail;generalize w3.alloc (.cells #[.bool t, .slice B m d] 143) = w4 at *;clear hG;rw [HZK.out] at KV;have lG := KX.out.lt;have e0 := KX.out.c0;have e1 := KX.out.c1;have HC : ∃ x : ExtOf w4, w4.drew = x.w := ⟨⟨_, (Below.refl _ _).drew⟩, rfl⟩;have HCb : Hid (Below w4.heap.size w4 w4.drew) := (Below.refl _ _).drew;refine zRD [4] (fun wz => ∃ x : ExtOf w4, wz = x.w) 5 ?_
  refine zM [0, 1] 3 HC ?_;simp only [opsAt, zA];refine zz08 (.agg #[.bool t, .slice B m d]) rfl (fun wz hC => by obtain ⟨x, rfl⟩ := hC; unfold execOp; go_simp) ?_
  refine zp ?_;unfold wpPure;go_simp;refine zW 2 ?_;go_wp2_with fail;(with_reducible refine (qq.out _).mono ?_);rintro e wc1 ⟨⟨v7, rfl, hv7⟩, hb⟩;have V7 := zH hv7;clear hv7;replace HCb : Hid (Below w4.heap.size w4 wc1) := HCb.out.trans (hb.mono HCb.out.size);have HC : ∃ x : ExtOf w4, wc1 = x.w := ⟨⟨_, HCb.out⟩, rfl⟩;clear hb;go_wp2_with fail;refine zQs (fun _ => HC) ?_
  refine zW 3 ?_;go_wp2_with fail;(with_reducible refine (qa.out _ _ _ (zH (KV.out.call HCb.out)) V7).mono ?_);rintro e wc2 ⟨⟨v8, rfl, hv8⟩, hb⟩;obtain ⟨t8, B8, m8, d8, rfl⟩ := hv8.form;have V8 := zH hv8;clear hv8;replace HCb : Hid (Below w4.heap.size w4 wc2) := HCb.out.trans (hb.mono HCb.out.size);have HC : ∃ x : ExtOf w4, wc2 = x.w := ⟨⟨_, HCb.out⟩, rfl⟩;exact zt1
 ·have ta : (side != 0) = true := by simp [hs0]
  have tb : (side != 1) = false := by simp [hs0]
  have tc : (side == 1) = true := by simp [hs0]
  have HZK := zH (hz2.out hs0);have HS0 := zH hs0;clear hs0;go_wp2_with fail;(with_reducible refine qk.out.mono ?_);rintro e w2 ⟨rfl, hb2⟩;have K2 := zK K1 hb2;have HB2 := zB HB1 hb2;clear hb2 qk;go_wp2_with fail;(with_reducible refine (qo.out _).mono ?_);rintro e w3 ⟨⟨v3, rfl, hv3⟩, hb3⟩;obtain ⟨t, B, m, d, rfl⟩ := hv3.form;have V3 := zH hv3;have K3 := zK K2 hb3;have HB3 := zB HB2 hb3;clear hv3 hb3 qo;obtain ⟨G, hG⟩ : ∃ G, w3.heap.size = G := ⟨_, rfl⟩;have hbx : Below w3.heap.size w3 (w3.alloc (.cells #[.bool t, .slice B m d] 143)) := zBa;have KB := zK K3 hbx;have hBr := zB HB3 hbx;have KV := zH (V3.out.call hbx);have KX := zH (BigBlk.mk w3 G t (.slice B m d) hG);have HGw : Hid (w.heap.size < G) := (show _ < _ from by have := (zL K3.out); omega)
  clear hbx V3 K3 HB3;go_wp2_with fail;generalize w3.alloc (.cells #[.bool t, .slice B m d] 143) = w4 at *;clear hG;have e0 := KX.out.c0;have e1 := KX.out.c1;go_wp2_with fail;(with_reducible refine (qn.out _ _ KV).mono ?_);rintro e w5 ⟨⟨v5, rfl, hv5⟩, hb5⟩;obtain ⟨t5, B5, m5, d5, rfl⟩ := hv5.form;have V5 := zH hv5;replace KX := zH (KX.out.call hb5);replace KB := zK KB hb5;replace hBr := zB hBr hb5;clear hv5 hb5 KV e0 e1 qn;have e0 := KX.out.c0;have e1 := KX.out.c1;have e2 := KX.out.z 0;have e3 := KX.out.z 1;go_wp2_with fail;have KV := zH (V5.out.store KX.out);replace KX := zH ((KX.out.set0 t5).set1 (.slice B5 m5 d5));replace KB : Hid ((((w5.setCell ⟨G, 0, none⟩ (.bool t5)).setCell ⟨G, 1, none⟩ (.slice B5 m5 d5))).heap[w.heap.size]? = _) := zz09 (zz09 KB.out _ _ (by have := HGw.out; omega)) _ _ (by have := HGw.out; omega)
  replace hBr := zH ((hBr.out.setCell (p := ⟨G, 0, none⟩) (by have := HGw.out; show w.heap.size ≤ G; omega) (.bool t5)).setCell (p := ⟨G, 1, none⟩) (by have := HGw.out; show w.heap.size ≤ G; omega) (.slice B5 m5 d5))
  clear V5 e0 e1 e2 e3;generalize (w5.setCell ⟨G, 0, none⟩ (.bool t5)).setCell ⟨G, 1, none⟩ (.slice B5 m5 d5) = w6 at *;clear w5;rw [HZK.out] at KV;have lG := KX.out.lt;have e0 := KX.out.c0;have e1 := KX.out.c1;have HC : ∃ x : ExtOf w6, w6.drew = x.w := ⟨⟨_, (Below.refl _ _).drew⟩, rfl⟩;have HCb : Hid (Below w6.heap.size w6 w6.drew) := (Below.refl _ _).drew;refine zRD [4] (fun wz => ∃ x : ExtOf w6, wz = x.w) 5 ?_
  refine zM [0, 1] 3 HC ?_;simp only [opsAt, zA];refine zz08 (.agg #[.bool t5, .slice B5 m5 d5]) rfl (fun wz hC => by obtain ⟨x, rfl⟩ := hC; unfold execOp; go_simp) ?_
  refine zp ?_;unfold wpPure;go_simp;refine zW 2 ?_;go_wp2_with fail;(with_reducible refine (qq.out _).mono ?_);rintro e wc1 ⟨⟨v7, rfl, hv7⟩, hb⟩;have V7 := zH hv7;clear hv7;replace HCb : Hid (Below w6.heap.size w6 wc1) := HCb.out.trans (hb.mono HCb.out.size);have HC : ∃ x : ExtOf w6, wc1 = x.w := ⟨⟨_, HCb.out⟩, rfl⟩;clear hb;go_wp2_with fail;refine zQs (fun _ => HC) ?_
  refine zW 3 ?_;go_wp2_with fail;(with_reducible refine (qa.out _ _ _ (zH (KV.out.call HCb.out)) V7).mono ?_);rintro e wc2 ⟨⟨v8, rfl, hv8⟩, hb⟩;obtain ⟨t8, B8, m8, d8, rfl⟩ := hv8.form;have V8 := zH hv8;clear hv8;replace HCb : Hid (Below w6.heap.size w6 wc2) := HCb.out.trans (hb.mono HCb.out.size);have HC : ∃ x : ExtOf w6, wc2 = x.w := ⟨⟨_, HCb.out⟩, rfl⟩;exact zt1
end
section
open Go Go.RowKit Go.Shelf Mon
theorem zz1c {fn : Func} {t u v x : Tmp} (h : fn.results = #[.tmp t, .tmp u, .tmp v, .tmp x]) (tmps : Array Value) (P : Program) (w : World) :
  (results fn tmps).run P w = .ok (.tuple #[tmps.getD t undef, tmps.getD u undef, tmps.getD v undef, tmps.getD x undef]) w := by
 simp [results, h]
theorem zz8p (g : Nat) (V a b : Int) (hV : Ok V) (ha : I64 a) (hb : I64 b) (w : World) (hS : Hid (SumAt w g V)) :
  Calls Tryz.prog 153 #[.pointer (some ⟨g, 0, none⟩), .int .i64 a, .int .i64 b] w fun r w' =>
   r = .returned (.tuple #[]) ∧ SumAt w' g ((V - a * b) % M3) ∧ w.grownBy w' (some g) := by
 by_cases h : a = -9223372036854775808
 ·have ta : (a == -9223372036854775808) = true := by simp [h]
  have q1 := zH (zz0x g V 4611686018427387904 b hV (by unfold I64; omega) hb w hS)
  have HE : Hid (a = -9223372036854775808) := h;have HB := zH hb;clear h ha hb hV;go_in;go_wp2_with fail;(with_reducible refine q1.out.mono ?_);rintro e w1 ⟨rfl, hs1, hg1⟩;have q2 := zH (zz0x g _ 4611686018427387904 b (zz26 _) (by unfold I64; omega) HB.out w1 (zH hs1))
  have G1 := zH hg1;clear hs1 hg1;go_wp2_with fail;(with_reducible refine q2.out.mono ?_);rintro e w2 ⟨rfl, hs2, hg2⟩;rw [zz2n] at hs2;have S2 := zH hs2;have G2 := zH hg2;clear hs2 hg2;go_wp2_with fail;refine bodyPost_ret (results_none rfl _ _ _) rfl ?_;refine ⟨rfl, ?_, zz1k G1.out G2.out⟩;rw [show V - a * b = V + 4611686018427387904 * b + 4611686018427387904 * b by rw [HE.out]; omega]
  exact S2.out
 ·have ta : (a == -9223372036854775808) = false := by simp [h]
  have hn : IntKind.i64.wrap (-a) = -a := by rw [IntKind.wrap_i64]; unfold I64 at ha; omega
  have q1 := zH (zz0x g V (-a) b hV (by unfold I64 at *; omega) hb w hS)
  clear h ha hb hV;go_in;go_wp2_with fail;(with_reducible refine q1.out.mono ?_);rintro e w1 ⟨rfl, hs1, hg1⟩;have S1 := zH hs1;have G1 := zH hg1;clear hs1 hg1;go_wp2_with fail;go_end0;refine ⟨rfl, ?_, G1.out⟩;rw [show V - a * b = V + -a * b by rw [Int.neg_mul]; omega]
  exact S1.out
def afterR (b : Bk) (acc sym side qty price : Int) : (Int × Bool) × (Int × Bool) :=
 if side < 0 ∨ 1 < side then ((0, false), (0, false))
 else (fitsP (cashOf b acc + (if side = 0 then -(qty * price) else qty * price)), fitsP (stakeOf b acc sym + (if side = 0 then qty else -qty)))
def afterP (b : Bk) (acc sym side qty price : Int) : (Int × Bool) × (Int × Bool) := if b.mayB then afterR b acc sym side qty price else ((0, false), (0, false))
theorem zt28 {p : Prop} (h : p := by
 rintro e w9 ⟨rfl, hsX, hgX⟩;skip;have K9 := zH ((hgX.block _ (zL K8.out) (fun e => by have := HG.out; injection e with e; omega)).trans K8.out)
 have O9 := zH ((hgX.block _ (zL O8.out) (fun e => by have := HG.out; injection e with e; omega)).trans O8.out)
 have HB9 := zH (zz0f HB8.out hgX (by have := HG.out; omega) HB8.out.size)
 have SC9 := zH hsX;have SS9 := zH (SS8.out.oth hgX zw);clear hsX hgX;have qt := zH (zz32 GC _ (zz26 X) w9 (by rw [← HXE.out]; exact SC9))
 rw [zz27 HBX.out] at qt;have qu := zH (zz32 (GC + 1) _ (zz26 Y) w9 (by rw [← HYE.out]; exact SS9))
 rw [zz27 HBY.out] at qu;rw [HPX.out] at qt;rw [HQY.out] at qu;go_wp2_with fail;(with_reducible refine qt.out.mono ?_);rintro e wa ⟨rfl, rfl⟩;go_wp2_with fail;(with_reducible refine qu.out.mono ?_);rintro e wb ⟨rfl, rfl⟩;go_wp2_with fail;refine bodyPost_ret (zz1c rfl _ _ _) rfl ?_;exact ⟨rfl, HB9.out⟩) : p := h
theorem After_any (v : Value) (b : Bk) (id acc sym side left px qty price : Int) (w : World) (hb : Hid (BkAt w v b)) (hs : Hid b.Small) (hi : Hid b.I64s) (hq1 : Hid (I64 qty)) (hp1 : Hid (I64 price)) :
  Calls Tryz.prog 86 #[v, .agg #[id, acc, sym, side, left, px], .int .i64 qty, .int .i64 price] w fun e w' => e = .returned (.tuple #[.int .i64 (afterP b acc sym side qty price).1.1, .int .i64 (afterP b acc sym side qty price).2.1, .bool (afterP b acc sym side qty price).1.2, .bool (afterP b acc sym side qty price).2.2]) ∧ Below w.heap.size w w' := by
 obtain ⟨vh, vs, vo, vr, rfl, g1, g2, g3, g4⟩ := hb.out;have LH : Hid (∀ r ∈ b.h, r.length = 4) := (by obtain ⟨_, _, _, h, _⟩ := g1; exact h)
 have LS : Hid (∀ r ∈ b.s, r.length = 3) := (by obtain ⟨_, _, _, h, _⟩ := g2; exact h)
 clear g1 g2 g3 g4;obtain ⟨w1, hw1⟩ : ∃ w1, (w.alloc (.cells #[vh, vs, vo, vr, b.n] 27)).alloc (.cells #[id, acc, sym, side, left, px] 82) = w1 := ⟨_, rfl⟩;have HB1 : Hid (Below w.heap.size w w1) := by rw [← hw1]; exact zz01 zBa (by simp) _
 have K1 : ZB w1 w.heap.size #[vh, vs, vo, vr, b.n] 27 := by rw [← hw1]; exact zz04 (zz02 _ _) _
 have O1 : ZB w1 (w.heap.size + 1) #[id, acc, sym, side, left, px] 82 := by rw [← hw1]; exact zz0e _ _ _ (by simp)
 have B1 : Hid (BkAt w1 (.agg #[vh, vs, vo, vr, b.n]) b) := hb.out.call HB1.out;have qm := zH (zz24 _ b _ B1 hs);replace hw1 := zH hw1;cases hm : b.mayB with
 | false =>
  have he : afterP b acc sym side qty price = ((0, false), (0, false)) := by unfold afterP; rw [hm]; rfl
  rw [he];rw [hm] at qm;clear hm he;go_in;go_wp2_with fail;rw [hw1.out];(with_reducible refine qm.out.mono ?_);rintro e w2 ⟨rfl, hb2⟩;have HB2 := zB HB1 hb2;clear hb2;go_wp2_with fail;refine bodyPost_ret (zz1c rfl _ _ _) rfl ?_;exact ⟨rfl, HB2.out⟩
 | true =>
 have he : afterP b acc sym side qty price = afterR b acc sym side qty price := by unfold afterP; rw [hm]; rfl
 rw [he];rw [hm] at qm;have HR := zH (zz3v hm);clear hm he;by_cases hsd : side < 0 ∨ 1 < side
 ·have he : afterR b acc sym side qty price = ((0, false), (0, false)) := if_pos hsd
  rw [he];clear he;go_in;go_wp2_with fail;rw [hw1.out];(with_reducible refine qm.out.mono ?_);rintro e w2 ⟨rfl, hb2⟩;have c0 := zz00 (zz06 O1.out hb2) 3 _ rfl;have HB2 := zB HB1 hb2;clear hb2;by_cases h0 : side < 0
  ·have t0 : decide (side < 0) = true := decide_eq_true h0
   clear hsd h0;go_wp2_with fail;refine bodyPost_ret (zz1c rfl _ _ _) rfl ?_;exact ⟨rfl, HB2.out⟩
  ·have t0 : decide (side < 0) = false := decide_eq_false h0
   have t1 : decide (1 < side) = true := decide_eq_true zw;clear hsd h0;go_wp2_with fail;refine bodyPost_ret (zz1c rfl _ _ _) rfl ?_;exact ⟨rfl, HB2.out⟩
 obtain ⟨rh, FH, hl1, hx1⟩ := zz16 LH.out (isId acc)
 match rh, hl1, hx1 with
 | [h0, h1, h2, h3], _, hx1 =>
 obtain ⟨rs, FS, hl2, hx2⟩ := zz16 LS.out (isKey acc sym)
 match rs, hl2, hx2 with
 | [k0, k1, k2], _, hx2 =>
 have hc : cashOf b acc = h1 := by unfold cashOf; rw [hx1]; rfl
 have hst : stakeOf b acc sym = k2 := by unfold stakeOf; rw [hx2]; rfl
 have HI1 : Hid (I64 h1) := zz1m hi.out.1 hx1 h1 (by simp)
 have HI2 : Hid (I64 k2) := zz1m hi.out.2.1 hx2 k2 (by simp)
 have HX1 := zH hx1;have HX2 := zH hx2;have F1 : b.h.length ≤ 1000000 := by have := hs.out; unfold Bk.Small at this; omega
 have F2 : b.s.length ≤ 1000000 := by have := hs.out; unfold Bk.Small at this; omega
 have qh := zH (fun u wz hv => zz2e u b acc h0 h1 h2 h3 FH wz hv F1 (zH HR.out.1) HX1)
 have qs := zH (fun u wz hv => zz97 u b acc sym k0 k1 k2 FS wz hv F2 (zH HR.out.2.2.2) HX2)
 have he : afterR b acc sym side qty price = (fitsP (h1 + (if side = 0 then -(qty * price) else qty * price)), fitsP (k2 + (if side = 0 then qty else -qty))) := by unfold afterR; rw [if_neg hsd, hc, hst]
 obtain ⟨FP, hFP⟩ : ∃ FP, fitsP (h1 + (if side = 0 then -(qty * price) else qty * price)) = FP := ⟨_, rfl⟩
 obtain ⟨FQ, hFQ⟩ : ∃ FQ, fitsP (k2 + (if side = 0 then qty else -qty)) = FQ := ⟨_, rfl⟩
 rw [he, hFP, hFQ];have HFP := zH hFP;have HFQ := zH hFQ;have hside : side = 0 ∨ side = 1 := by omega
 have t0 : decide (side < 0) = false := decide_eq_false zw;have t1 : decide (1 < side) = false := decide_eq_false zw;clear he hsd hx1 hx2 hc hst F1 F2 hFP hFQ;go_in;go_wp2_with fail;rw [hw1.out];(with_reducible refine qm.out.mono ?_);rintro e w2 ⟨rfl, hb⟩;have K2 := zK K1 hb;have O2 := zK O1 hb;have B2 := zH (B1.out.call hb);have HB2 := zB HB1 hb;clear hb qm;have c0 := zC O2.out;have a0 := zC K2.out;go_wp2_with fail;(with_reducible refine (qh.out _ _ B2).mono ?_);rintro e w3 ⟨rfl, hb⟩;have K3 := zK K2 hb;have O3 := zK O2 hb;have B3 := zH (B2.out.call hb);have HB3 := zB HB2 hb;clear hb a0 c0 qh;obtain ⟨GC, hGC⟩ : ∃ GC, w3.heap.size + 1 = GC := ⟨_, rfl⟩;have k1 := zz56 (w3.alloc (.cells #[h0, h1, h2, h3] 78));have k2' := zz56 ((w3.alloc (.cells #[h0, h1, h2, h3] 78)).alloc (.cells #[.int .u64 0, .int .u64 0, .int .u64 0] 196));rw [World.size_alloc, hGC] at k1;rw [World.size_alloc, World.size_alloc, hGC] at k2';have hbx : Below w3.heap.size w3 (((w3.alloc (.cells #[h0, h1, h2, h3] 78)).alloc (.cells #[.int .u64 0, .int .u64 0, .int .u64 0] 196)).alloc (.cells #[.int .u64 0, .int .u64 0, .int .u64 0] 196)) := zz01 (zz01 zBa (by simp) _) (by simp; omega) _
 have K4 := zK K3 hbx;have O4 := zK O3 hbx;have B4 := zH (B3.out.call hbx);have HB4 := zB HB3 hbx;have SC4 := zH (zz04 k1 (.cells #[.int .u64 0, .int .u64 0, .int .u64 0] 196));have SS4 := zH k2';have ch := zz00 (zz04 (zz04 (zz02 w3 (.cells #[h0, h1, h2, h3] 78)) (.cells #[.int .u64 0, .int .u64 0, .int .u64 0] 196)) (.cells #[.int .u64 0, .int .u64 0, .int .u64 0] 196)) 1 _ rfl;have HG : Hid (w.heap.size + 1 < GC) := (show _ < _ from by have := (zL O3.out); omega)
 have qa := zH (zz5j GC 0 h1 (by unfold Ok M3; omega) HI1.out _ SC4)
 clear hbx k1 k2';go_wp2_with fail;(with_reducible refine qa.out.mono ?_);rintro e w5 ⟨rfl, hsX, hgX⟩;rw [Int.zero_add] at hsX;have K5 := zH ((hgX.block _ (zL K4.out) (fun e => by have := HG.out; injection e with e; omega)).trans K4.out)
 have O5 := zH ((hgX.block _ (zL O4.out) (fun e => by have := HG.out; injection e with e; omega)).trans O4.out)
 have HB5 := zH (zz0f HB4.out hgX (by have := HG.out; omega) HB4.out.size)
 have SC5 := zH hsX;have SS5 := zH (SS4.out.oth hgX zw);clear hsX hgX;have B5 : Hid (BkAt w5 (.agg #[vh, vs, vo, vr, b.n]) b) := hb.out.call HB5.out;clear qa K4 O4 B4 HB4 SC4 SS4 ch;have c1 := zC O5.out;have a0 := zC K5.out;go_wp2_with fail;(with_reducible refine (qs.out _ _ B5).mono ?_);rintro e w6 ⟨rfl, hb6⟩;have K6 := zK K5 hb6;have O6 := zK O5 hb6;have HB6 := zB HB5 hb6;have SC6 := zH (SC5.out.call hb6);have SS6 := zH (SS5.out.call hb6);clear hb6 a0 c1 qs B5;have qa := zH (zz5j (GC + 1) 0 k2 (by unfold Ok M3; omega) HI2.out _ SS6)
 go_wp2_with fail;(with_reducible refine qa.out.mono ?_);rintro e w7 ⟨rfl, hsX, hgX⟩;rw [Int.zero_add] at hsX;have K7 := zH ((hgX.block _ (zL K6.out) (fun e => by have := HG.out; injection e with e; omega)).trans K6.out)
 have O7 := zH ((hgX.block _ (zL O6.out) (fun e => by have := HG.out; injection e with e; omega)).trans O6.out)
 have HB7 := zH (zz0f HB6.out hgX (by have := HG.out; omega) HB6.out.size)
 have SS7 := zH hsX;have SC7 := zH (SC6.out.oth hgX zw);clear hsX hgX;clear qa K6 O6 HB6 SC6 SS6;have c3 := zz00 O7.out 3 _ rfl;rcases hside with hs0 | hs0
 ·have ts : (side == 0) = true := by simp [hs0]
  obtain ⟨X, hX⟩ : ∃ X, h1 + -(qty * price) = X := ⟨_, rfl⟩;obtain ⟨Y, hY⟩ : ∃ Y, k2 + qty = Y := ⟨_, rfl⟩;have hBX : -1569275433846670190958947355801916604025588861116008628224 ≤ X ∧ X ≤ 1569275433846670190958947355801916604025588861116008628224 := by
   have h5' := prodB hq1.out hp1.out;have h6' := HI1.out;unfold I64 at h6';omega
  have hBY : -1569275433846670190958947355801916604025588861116008628224 ≤ Y ∧ Y ≤ 1569275433846670190958947355801916604025588861116008628224 := by
   have h5' := hq1.out;have h6' := HI2.out;unfold I64 at h6' h5';omega
  have HBX := zH hBX;have HBY := zH hBY;have HXE : Hid ((h1 % M3 - qty * price) % M3 = X % M3) := (show _ = _ from by rw [← hX]; unfold M3; omega)
  have HYE : Hid ((k2 % M3 + qty) % M3 = Y % M3) := (show _ = _ from by rw [← hY]; unfold M3; omega)
  have HPX : Hid (fitsP X = FP) := (show _ = _ from by rw [← HFP.out, if_pos hs0, hX])
  have HQY : Hid (fitsP Y = FQ) := (show _ = _ from by rw [← HFQ.out, if_pos hs0, hY])
  clear hX hY hBX hBY hs0;have qa := zH (zz5j (GC + 1) _ qty (zz26 _) hq1.out _ SS7);go_wp2_with fail;(with_reducible refine qa.out.mono ?_);rintro e w8 ⟨rfl, hsX, hgX⟩;skip;have K8 := zH ((hgX.block _ (zL K7.out) (fun e => by have := HG.out; injection e with e; omega)).trans K7.out)
  have O8 := zH ((hgX.block _ (zL O7.out) (fun e => by have := HG.out; injection e with e; omega)).trans O7.out)
  have HB8 := zH (zz0f HB7.out hgX (by have := HG.out; omega) HB7.out.size)
  have SS8 := zH hsX;have SC8 := zH (SC7.out.oth hgX zw);clear hsX hgX;clear c3;have ql := zH (zz8p GC _ qty price (zz26 _) hq1.out hp1.out _ SC8);go_wp2_with fail;(with_reducible refine ql.out.mono ?_);exact zt28
 ·have ts : (side == 0) = false := by simp [hs0]
  obtain ⟨X, hX⟩ : ∃ X, h1 + qty * price = X := ⟨_, rfl⟩;obtain ⟨Y, hY⟩ : ∃ Y, k2 + -qty = Y := ⟨_, rfl⟩;have hBX : -1569275433846670190958947355801916604025588861116008628224 ≤ X ∧ X ≤ 1569275433846670190958947355801916604025588861116008628224 := by
   have h5' := prodB hq1.out hp1.out;have h6' := HI1.out;unfold I64 at h6';omega
  have hBY : -1569275433846670190958947355801916604025588861116008628224 ≤ Y ∧ Y ≤ 1569275433846670190958947355801916604025588861116008628224 := by
   have h5' := hq1.out;have h6' := HI2.out;unfold I64 at h6' h5';omega
  have HBX := zH hBX;have HBY := zH hBY;have HXE : Hid ((h1 % M3 + qty * price) % M3 = X % M3) := (show _ = _ from by rw [← hX]; unfold M3; omega)
  have HYE : Hid ((k2 % M3 - qty * 1) % M3 = Y % M3) := (show _ = _ from by rw [← hY]; unfold M3; omega)
  have HPX : Hid (fitsP X = FP) := (show _ = _ from by rw [← HFP.out, if_neg (show ¬ side = 0 by omega), hX])
  have HQY : Hid (fitsP Y = FQ) := (show _ = _ from by rw [← HFQ.out, if_neg (show ¬ side = 0 by omega), hY])
  clear hX hY hBX hBY hs0;have ql := zH (zz8p (GC + 1) _ qty 1 (zz26 _) hq1.out (by unfold I64; omega) _ SS7)
  go_wp2_with fail;(with_reducible refine ql.out.mono ?_);rintro e w8 ⟨rfl, hsX, hgX⟩;skip;have K8 := zH ((hgX.block _ (zL K7.out) (fun e => by have := HG.out; injection e with e; omega)).trans K7.out)
  have O8 := zH ((hgX.block _ (zL O7.out) (fun e => by have := HG.out; injection e with e; omega)).trans O7.out)
  have HB8 := zH (zz0f HB7.out hgX (by have := HG.out; omega) HB7.out.size)
  have SS8 := zH hsX;have SC8 := zH (SC7.out.oth hgX zw);clear hsX hgX;clear c3;have qa := zH (zz0x GC _ qty price (zz26 _) hq1.out hp1.out _ SC8);go_wp2_with fail;(with_reducible refine qa.out.mono ?_);exact zt28
end
section
open Go Go.RowKit Bg Mon
theorem zt11 {p : Prop} (h : p := by
 unfold wpPure;go_simp;refine zW 5 ?_;go_wp2_with fail;(with_reducible refine (qs.out _ _ (zH (BB.out.call HCb.out))).mono ?_);rintro e wd1 ⟨rfl, hb⟩;replace HCb : Hid (Below wc3.heap.size wc3 wd1) := HCb.out.trans (hb.mono HCb.out.size);have HC : ∃ x : ExtOf wc3, wd1 = x.w := ⟨⟨_, HCb.out⟩, rfl⟩;clear hb;go_wp2_with fail;refine zQs (fun _ => HC) ?_
 refine zW 6 ?_;go_wp2_with fail;(with_reducible refine (qr.out _).mono ?_);rintro e wd2 ⟨⟨va, rfl, hva⟩, hb⟩;have VA := zH hva;clear hva;replace HCb : Hid (Below wc3.heap.size wc3 wd2) := HCb.out.trans (hb.mono HCb.out.size);have HC : ∃ x : ExtOf wc3, wd2 = x.w := ⟨⟨_, HCb.out⟩, rfl⟩;clear hb;go_wp2_with fail;refine zQs (fun _ => HC) ?_
 refine zW 8 ?_;go_wp2_with fail;(with_reducible refine (qb.out _ _ _ VA (zH (KU.out.call HCb.out))).mono ?_);rintro e wd3 ⟨⟨vb, rfl, hvb⟩, hb⟩;have VB := zH hvb;clear hvb;replace HCb : Hid (Below wc3.heap.size wc3 wd3) := HCb.out.trans (hb.mono HCb.out.size);have HC : ∃ x : ExtOf wc3, wd3 = x.w := ⟨⟨_, HCb.out⟩, rfl⟩;clear hb;go_wp2_with fail;refine zQs (fun _ => HC) ?_
 refine zW 9 ?_;go_wp2_with fail;(with_reducible refine (qg.out _ _ VB).mono ?_);rintro e wd4 ⟨rfl, hb⟩;replace HCb : Hid (Below wc3.heap.size wc3 wd4) := HCb.out.trans (hb.mono HCb.out.size);have HC : ∃ x : ExtOf wc3, wd4 = x.w := ⟨⟨_, HCb.out⟩, rfl⟩;clear hb;go_wp2_with fail;refine zQs (fun _ => HC) ?_
 refine zM [10, 11, 13, 12, 14] 0 HC ?_;simp only [opsAt, zA]
 iterate 5 refine zp ?_
 unfold wpPure;go_simp;refine zQe ?_;have HB9 := zH (hBr.out.trans (HCb.out.mono hBr.out.size));clear lG e0 e1 lK lO a0 f1 HC HCb;go_wp2_with fail;refine bodyPost_ret (zz1c rfl _ _ _) rfl ?_;exact ⟨rfl, HB9.out⟩) : p := h
theorem zz6w (v : Value) (b : Bk) (id acc sym side left px qty price : Int) (w : World) (hb : Hid (BkAt w v b)) (hs : Hid b.Small) (hi : Hid b.I64s) (hq1 : Hid (I64 qty)) (hp1 : Hid (I64 price)) :
  Calls Tryz.prog 46 #[v, .agg #[id, acc, sym, side, left, px], .int .i64 qty, .int .i64 price] w fun e w' => e = .returned (.tuple #[.int .i64 (afterR b acc sym side qty price).1.1, .int .i64 (afterR b acc sym side qty price).2.1, .bool (afterR b acc sym side qty price).1.2, .bool (afterR b acc sym side qty price).2.2]) ∧ Below w.heap.size w w' := by
 obtain ⟨vh, vs, vo, vr, rfl, g1, g2, g3, g4⟩ := hb.out;have LH : Hid (∀ r ∈ b.h, r.length = 4) := (by obtain ⟨_, _, _, h, _⟩ := g1; exact h)
 have LS : Hid (∀ r ∈ b.s, r.length = 3) := (by obtain ⟨_, _, _, h, _⟩ := g2; exact h)
 clear g1 g2 g3 g4;obtain ⟨w1, hw1⟩ : ∃ w1, (w.alloc (.cells #[vh, vs, vo, vr, b.n] 27)).alloc (.cells #[id, acc, sym, side, left, px] 82) = w1 := ⟨_, rfl⟩;have HB1 : Hid (Below w.heap.size w w1) := by rw [← hw1]; exact zz01 zBa (by simp) _
 have K1 : ZB w1 w.heap.size #[vh, vs, vo, vr, b.n] 27 := by rw [← hw1]; exact zz04 (zz02 _ _) _
 have O1 : ZB w1 (w.heap.size + 1) #[id, acc, sym, side, left, px] 82 := by rw [← hw1]; exact zz0e _ _ _ (by simp)
 have B1 : Hid (BkAt w1 (.agg #[vh, vs, vo, vr, b.n]) b) := hb.out.call HB1.out;replace hw1 := zH hw1;by_cases hsd : side < 0 ∨ 1 < side
 ·have he : afterR b acc sym side qty price = ((0, false), (0, false)) := if_pos hsd
  rw [he];have ta : (side != 0) = true := by simp; omega
  have tb : (side != 1) = true := by simp; omega
  clear he hsd;go_in;go_wp2_with fail;rw [hw1.out];refine bodyPost_ret (zz1c rfl _ _ _) rfl ?_;exact ⟨rfl, HB1.out⟩
 obtain ⟨rh, FH, hl1, hx1⟩ := zz16 LH.out (isId acc)
 match rh, hl1, hx1 with
 | [h0, h1, h2, h3], _, hx1 =>
 obtain ⟨rs, FS, hl2, hx2⟩ := zz16 LS.out (isKey acc sym)
 match rs, hl2, hx2 with
 | [k0, k1, k2], _, hx2 =>
 have hc : cashOf b acc = h1 := by unfold cashOf; rw [hx1]; rfl
 have hst : stakeOf b acc sym = k2 := by unfold stakeOf; rw [hx2]; rfl
 have HI1 : Hid (I64 h1) := zz1m hi.out.1 hx1 h1 (by simp)
 have HI2 : Hid (I64 k2) := zz1m hi.out.2.1 hx2 k2 (by simp)
 have HX1 := zH hx1;have HX2 := zH hx2;have F1 : b.h.length ≤ 1000000 := by have := hs.out; unfold Bk.Small at this; omega
 have F2 : b.s.length ≤ 1000000 := by have := hs.out; unfold Bk.Small at this; omega
 have qh := zH (fun u wz hv => zz1j u b acc h0 h1 h2 h3 FH wz hv F1 HX1)
 have qs := zH (fun u wz hv => zz6t u b acc sym k0 k1 k2 FS wz hv F2 HX2)
 have he : afterR b acc sym side qty price = (fitsP (h1 + (if side = 0 then -(qty * price) else qty * price)), fitsP (k2 + (if side = 0 then qty else -qty))) := by unfold afterR; rw [if_neg hsd, hc, hst]
 obtain ⟨FP, hFP⟩ : ∃ FP, fitsP (h1 + (if side = 0 then -(qty * price) else qty * price)) = FP := ⟨_, rfl⟩
 obtain ⟨FQ, hFQ⟩ : ∃ FQ, fitsP (k2 + (if side = 0 then qty else -qty)) = FQ := ⟨_, rfl⟩
 rw [he, hFP, hFQ];have hside : side = 0 ∨ side = 1 := by omega
 have HPB : Hid ((qty * price).natAbs ≤ 85070591730234615865843651857942052864) := prodB hq1.out hp1.out;obtain ⟨QP, hQP⟩ : ∃ QP, qty * price = QP := ⟨_, rfl⟩;have ql := zH (fun wz => zz47 qty price hq1.out hp1.out wz)
 rw [hQP] at HPB ql hFP;have HFP := zH hFP;have HFQ := zH hFQ;have qo := zH (fun wz => zz33 qty hq1.out wz)
 have qp := zH (fun wz => zz33 h1 HI1.out wz)
 have qr := zH (fun wz => zz33 k2 HI2.out wz)
 have HL1 : Hid (h1.natAbs ≤ 9223372036854775808) := (show _ ≤ _ from by have := HI1.out; unfold I64 at this; omega)
 have HL2 : Hid (k2.natAbs ≤ 9223372036854775808) := (show _ ≤ _ from by have := HI2.out; unfold I64 at this; omega)
 have HL3 : Hid (qty.natAbs ≤ 9223372036854775808) := (show _ ≤ _ from by have := hq1.out; unfold I64 at this; omega)
 have qnP := zH (fun x wz h => zzbz x QP wz h (bigB (by have := HPB.out; omega)))
 have qnQ := zH (fun x wz h => zzbz x qty wz h (bigB (by have := HL3.out; omega)))
 clear he hsd hx1 hx2 hc hst F1 F2 hFP hFQ hQP;go_in;rcases hside with hs0 | hs0
 ·have ta : (side != 0) = false := by simp [hs0]
  have tc : (side == 0) = true := by simp [hs0]
  have HP2 : Hid (fitsP (h1 + -QP) = FP) := (show _ = _ from by rw [← HFP.out, if_pos hs0])
  have HQ2 : Hid (fitsP (k2 + qty) = FQ) := (show _ = _ from by rw [← HFQ.out, if_pos hs0])
  clear hs0;go_wp2_with fail;rw [hw1.out];(with_reducible refine (qh.out _ _ B1).mono ?_);rintro e w3 ⟨rfl, hb⟩;have K3 := zK K1 hb;have O3 := zK O1 hb;have HB3 := zB HB1 hb;clear hb qh;obtain ⟨GH, hGH⟩ : ∃ GH, w3.heap.size = GH := ⟨_, rfl⟩;have hbx : Below w3.heap.size w3 (w3.alloc (.cells #[h0, h1, h2, h3] 78)) := zBa;have K4 := zK K3 hbx;have O4 := zK O3 hbx;have HB4 := zB HB3 hbx;have H4 := zH (zz02 w3 (.cells #[h0, h1, h2, h3] 78));rw [hGH] at H4;have HGw : Hid (w.heap.size + 1 < GH) := (show _ < _ from by have := (zL O3.out); omega)
  clear hbx;go_wp2_with fail;generalize w3.alloc (.cells #[h0, h1, h2, h3] 78) = w4 at *;clear K3 O3 HB3 hGH w3;(with_reducible refine (ql.out _).mono ?_);rintro e w5 ⟨⟨v5, rfl, hv5⟩, hb⟩;obtain ⟨t, B, m, d, rfl⟩ := hv5.form;have K5 := zK K4 hb;have O5 := zK O4 hb;have H5 := zK H4 hb;have HB5 := zB HB4 hb;have V5 := zH hv5;clear hb hv5 ql;go_wp2_with fail;(with_reducible refine (qo.out _).mono ?_);rintro e w6 ⟨⟨v6, rfl, hv6⟩, hb⟩;obtain ⟨t2, B2, m2, d2, rfl⟩ := hv6.form;have K6 := zK K5 hb;have O6 := zK O5 hb;have H6 := zK H5 hb;have HB6 := zB HB5 hb;have V6 := zH (V5.out.call hb);have U6 := zH hv6;clear hb hv6 qo V5 K4 O4 H4 HB4 K5 O5 H5 HB5;obtain ⟨GW, hGW⟩ : ∃ GW, w6.heap.size = GW := ⟨_, rfl⟩;have hbx : Below w6.heap.size w6 ((w6.alloc (.cells #[.bool t, .slice B m d] 143)).alloc (.cells #[.bool t2, .slice B2 m2 d2] 143)) := zz01 zBa (by simp) _
  have KB := zK K6 hbx;have KO := zK O6 hbx;have KH := zK H6 hbx;have hBr := zB HB6 hbx;have KV := zH (V6.out.call hbx);have KU := zH (U6.out.call hbx);have KX := zH ((BigBlk.mk w6 GW t (.slice B m d) hGW).alloc (.cells #[.bool t2, .slice B2 m2 d2] 143));have KY := zH (BigBlk.mk (w6.alloc (.cells #[.bool t, .slice B m d] 143)) (GW + 1) t2 (.slice B2 m2 d2) (by rw [World.size_alloc, hGW]))
  have HGW : Hid (GH < GW) := (show _ < _ from by have := (zL H6.out); omega)
  clear hbx K6 O6 H6 HB6 V6 U6;have c3 := zz00 KO.out 3 _ rfl;have e0 := KX.out.c0;have e1 := KX.out.c1;go_wp2_with fail;generalize (w6.alloc (.cells #[.bool t, .slice B m d] 143)).alloc (.cells #[.bool t2, .slice B2 m2 d2] 143) = w7 at *;clear hGW w6;clear c3;(with_reducible refine (qnP.out _ _ KV).mono ?_);rintro e w8 ⟨⟨v8, rfl, hv8⟩, hb⟩;obtain ⟨t5, B5, m5, d5, rfl⟩ := hv8.form;have V8 := zH hv8;replace KX := zH (KX.out.call hb);replace KY := zH (KY.out.call hb);replace KU := zH (KU.out.call hb);replace KB := zK KB hb;replace KO := zK KO hb;replace KH := zK KH hb;replace hBr := zB hBr hb;clear hv8 hb KV e0 e1 qnP qnQ;have e0 := KX.out.c0;have e1 := KX.out.c1;have e2 := KX.out.z 0;have e3 := KX.out.z 1;go_wp2_with fail;have KV := zH (V8.out.store KX.out);replace KU := zH ((KU.out.set KX.out 0 (.bool t5)).set (KX.out.set0 t5) 1 (.slice B5 m5 d5));replace KY := zH ((KY.out.oth 0 (.bool t5) (by omega : _ ≠ GW)).oth 1 (.slice B5 m5 d5) (by omega : _ ≠ GW))
  replace KX := zH ((KX.out.set0 t5).set1 (.slice B5 m5 d5));replace KB : Hid (((w8.setCell ⟨GW, 0, none⟩ (.bool t5)).setCell ⟨GW, 1, none⟩ (.slice B5 m5 d5)).heap[w.heap.size]? = _) := zz09 (zz09 KB.out _ _ (by have := HGw.out; have := HGW.out; omega)) _ _ (by have := HGw.out; have := HGW.out; omega)
  replace KO : Hid (((w8.setCell ⟨GW, 0, none⟩ (.bool t5)).setCell ⟨GW, 1, none⟩ (.slice B5 m5 d5)).heap[w.heap.size + 1]? = _) := zz09 (zz09 KO.out _ _ (by have := HGw.out; have := HGW.out; omega)) _ _ (by have := HGw.out; have := HGW.out; omega)
  replace KH : Hid (((w8.setCell ⟨GW, 0, none⟩ (.bool t5)).setCell ⟨GW, 1, none⟩ (.slice B5 m5 d5)).heap[GH]? = _) := zz09 (zz09 KH.out _ _ (by have := HGw.out; have := HGW.out; omega)) _ _ (by have := HGw.out; have := HGW.out; omega)
  replace hBr := zH ((hBr.out.setCell (p := ⟨GW, 0, none⟩) (by have := HGw.out; have := HGW.out; show w.heap.size ≤ GW; omega) (.bool t5)).setCell (p := ⟨GW, 1, none⟩) (by have := HGw.out; have := HGW.out; show w.heap.size ≤ GW; omega) (.slice B5 m5 d5))
  clear V8 e0 e1 e2 e3;generalize (w8.setCell ⟨GW, 0, none⟩ (.bool t5)).setCell ⟨GW, 1, none⟩ (.slice B5 m5 d5) = w9 at *;have qa := zH (fun x y wz hx hy => zz1t x y h1 (-QP) wz hx hy (bigB (by have := HL1.out; omega)) (bigB (by have := HPB.out; omega)))
  have qb := zH (fun x y wz hx hy => zz1t x y k2 (qty) wz hx hy (bigB (by have := HL2.out; omega)) (bigB (by have := HL3.out; omega)))
  have qf := zH (fun x wz hx => zz2f x (h1 + -QP) wz hx (bigB (by have := HL1.out; have := HPB.out; omega)))
  have qg := zH (fun x wz hx => zz2f x (k2 + qty) wz hx (bigB (by have := HL2.out; have := HL3.out; omega)))
  rw [HP2.out] at qf;rw [HQ2.out] at qg;have lG := KX.out.lt;have e0 := KX.out.c0;have e1 := KX.out.c1;have lH := zL KH.out;have f1 := zz00 KH.out 1 _ rfl;have HC : ∃ x : ExtOf w9, w9.drew = x.w := ⟨⟨_, (Below.refl _ _).drew⟩, rfl⟩;have HCb : Hid (Below w9.heap.size w9 w9.drew) := (Below.refl _ _).drew;refine zz07 [] (fun wz => ∃ x : ExtOf w9, wz = x.w) 11 (zb 11 0) zk zk zk ?_
  refine zM [0, 1, 3] 8 HC ?_;simp only [opsAt, zA];refine zp ?_;refine zz08 (.int .i64 h1) rfl (fun wz hC => by obtain ⟨x, rfl⟩ := hC; unfold execOp; go_simp) ?_
  refine zz08 (.agg #[.bool t5, .slice B5 m5 d5]) rfl (fun wz hC => by obtain ⟨x, rfl⟩ := hC; unfold execOp; go_simp) ?_
  unfold wpPure;go_simp;refine zW 2 ?_;go_wp2_with fail;(with_reducible refine (qp.out _).mono ?_);rintro e wc1 ⟨⟨va, rfl, hva⟩, hb⟩;have VA := zH hva;clear hva;replace HCb : Hid (Below w9.heap.size w9 wc1) := HCb.out.trans (hb.mono HCb.out.size);have HC : ∃ x : ExtOf w9, wc1 = x.w := ⟨⟨_, HCb.out⟩, rfl⟩;clear hb;go_wp2_with fail;refine zQs (fun _ => HC) ?_
  refine zW 4 ?_;go_wp2_with fail;(with_reducible refine (qa.out _ _ _ VA (zH (KV.out.call HCb.out))).mono ?_);rintro e wc2 ⟨⟨vb, rfl, hvb⟩, hb⟩;have VB := zH hvb;clear hvb;replace HCb : Hid (Below w9.heap.size w9 wc2) := HCb.out.trans (hb.mono HCb.out.size);have HC : ∃ x : ExtOf w9, wc2 = x.w := ⟨⟨_, HCb.out⟩, rfl⟩;clear hb;go_wp2_with fail;refine zQs (fun _ => HC) ?_
  refine zW 5 ?_;go_wp2_with fail;(with_reducible refine (qf.out _ _ VB).mono ?_);rintro e wc3 ⟨rfl, hb⟩;replace HCb : Hid (Below w9.heap.size w9 wc3) := HCb.out.trans (hb.mono HCb.out.size);have HC : ∃ x : ExtOf w9, wc3 = x.w := ⟨⟨_, HCb.out⟩, rfl⟩;clear hb;go_wp2_with fail;refine zQs (fun _ => HC) ?_
  refine zM [6, 7, 9, 8, 10] 0 HC ?_;simp only [opsAt, zA]
  iterate 5 refine zp ?_
  unfold wpPure;go_simp;refine zQe ?_;replace KY := zH (KY.out.call HCb.out);replace KU := zH (KU.out.call HCb.out);replace KB := zH (zz06 KB.out HCb.out);replace KO := zH (zz06 KO.out HCb.out);replace hBr := zH (hBr.out.trans (HCb.out.mono hBr.out.size));clear lG e0 e1 lH f1 HC HCb VA VB KX KV KH;go_wp2_with fail;have lG := KY.out.lt;have e0 := KY.out.c0;have e1 := KY.out.c1;have lK := zL KB.out;have lO := zL KO.out;have a0 := zC KB.out;have f1 := zC KO.out;have BB : Hid (BkAt wc3 (.agg #[vh, vs, vo, vr, b.n]) b) := hb.out.call hBr.out;have HC : ∃ x : ExtOf wc3, wc3.drew = x.w := ⟨⟨_, (Below.refl _ _).drew⟩, rfl⟩;have HCb : Hid (Below wc3.heap.size wc3 wc3.drew) := (Below.refl _ _).drew;refine zz07 [] (fun wz => ∃ x : ExtOf wc3, wz = x.w) 15 (zb 15 0) zk zk zk ?_
  refine zM [0, 1, 2, 3, 4, 7] 9 HC ?_;simp only [opsAt, zA];refine zz08 (.agg #[vh, vs, vo, vr, b.n]) rfl (fun wz hC => by obtain ⟨x, rfl⟩ := hC; unfold execOp; go_simp) ?_
  refine zp ?_;refine zz08 (.int .i64 acc) rfl (fun wz hC => by obtain ⟨x, rfl⟩ := hC; unfold execOp; go_simp) ?_
  refine zp ?_;refine zz08 (.int .i64 sym) rfl (fun wz hC => by obtain ⟨x, rfl⟩ := hC; unfold execOp; go_simp) ?_
  refine zz08 (.agg #[.bool t2, .slice B2 m2 d2]) rfl (fun wz hC => by obtain ⟨x, rfl⟩ := hC; unfold execOp; go_simp) ?_
  exact zt11
 ·have ta : (side != 0) = true := by simp [hs0]
  have tb : (side != 1) = false := by simp [hs0]
  have tc : (side == 0) = false := by simp [hs0]
  have HP2 : Hid (fitsP (h1 + QP) = FP) := (show _ = _ from by rw [← HFP.out, if_neg (show ¬ side = 0 by omega)])
  have HQ2 : Hid (fitsP (k2 + -qty) = FQ) := (show _ = _ from by rw [← HFQ.out, if_neg (show ¬ side = 0 by omega)])
  clear hs0;go_wp2_with fail;rw [hw1.out];(with_reducible refine (qh.out _ _ B1).mono ?_);rintro e w3 ⟨rfl, hb⟩;have K3 := zK K1 hb;have O3 := zK O1 hb;have HB3 := zB HB1 hb;clear hb qh;obtain ⟨GH, hGH⟩ : ∃ GH, w3.heap.size = GH := ⟨_, rfl⟩;have hbx : Below w3.heap.size w3 (w3.alloc (.cells #[h0, h1, h2, h3] 78)) := zBa;have K4 := zK K3 hbx;have O4 := zK O3 hbx;have HB4 := zB HB3 hbx;have H4 := zH (zz02 w3 (.cells #[h0, h1, h2, h3] 78));rw [hGH] at H4;have HGw : Hid (w.heap.size + 1 < GH) := (show _ < _ from by have := (zL O3.out); omega)
  clear hbx;go_wp2_with fail;generalize w3.alloc (.cells #[h0, h1, h2, h3] 78) = w4 at *;clear K3 O3 HB3 hGH w3;(with_reducible refine (ql.out _).mono ?_);rintro e w5 ⟨⟨v5, rfl, hv5⟩, hb⟩;obtain ⟨t, B, m, d, rfl⟩ := hv5.form;have K5 := zK K4 hb;have O5 := zK O4 hb;have H5 := zK H4 hb;have HB5 := zB HB4 hb;have V5 := zH hv5;clear hb hv5 ql;go_wp2_with fail;(with_reducible refine (qo.out _).mono ?_);rintro e w6 ⟨⟨v6, rfl, hv6⟩, hb⟩;obtain ⟨t2, B2, m2, d2, rfl⟩ := hv6.form;have K6 := zK K5 hb;have O6 := zK O5 hb;have H6 := zK H5 hb;have HB6 := zB HB5 hb;have V6 := zH (V5.out.call hb);have U6 := zH hv6;clear hb hv6 qo V5 K4 O4 H4 HB4 K5 O5 H5 HB5;obtain ⟨GW, hGW⟩ : ∃ GW, w6.heap.size = GW := ⟨_, rfl⟩;have hbx : Below w6.heap.size w6 ((w6.alloc (.cells #[.bool t, .slice B m d] 143)).alloc (.cells #[.bool t2, .slice B2 m2 d2] 143)) := zz01 zBa (by simp) _
  have KB := zK K6 hbx;have KO := zK O6 hbx;have KH := zK H6 hbx;have hBr := zB HB6 hbx;have KV := zH (V6.out.call hbx);have KU := zH (U6.out.call hbx);have KX := zH ((BigBlk.mk w6 GW t (.slice B m d) hGW).alloc (.cells #[.bool t2, .slice B2 m2 d2] 143));have KY := zH (BigBlk.mk (w6.alloc (.cells #[.bool t, .slice B m d] 143)) (GW + 1) t2 (.slice B2 m2 d2) (by rw [World.size_alloc, hGW]))
  have HGW : Hid (GH < GW) := (show _ < _ from by have := (zL H6.out); omega)
  clear hbx K6 O6 H6 HB6 V6 U6;have c3 := zz00 KO.out 3 _ rfl;have e0 := KY.out.c0;have e1 := KY.out.c1;go_wp2_with fail;generalize (w6.alloc (.cells #[.bool t, .slice B m d] 143)).alloc (.cells #[.bool t2, .slice B2 m2 d2] 143) = w7 at *;clear hGW w6;clear c3;(with_reducible refine (qnQ.out _ _ KU).mono ?_);rintro e w8 ⟨⟨v8, rfl, hv8⟩, hb⟩;obtain ⟨t5, B5, m5, d5, rfl⟩ := hv8.form;have V8 := zH hv8;replace KX := zH (KX.out.call hb);replace KY := zH (KY.out.call hb);replace KV := zH (KV.out.call hb);replace KB := zK KB hb;replace KO := zK KO hb;replace KH := zK KH hb;replace hBr := zB hBr hb;clear hv8 hb KU e0 e1 qnP qnQ;have e0 := KY.out.c0;have e1 := KY.out.c1;have e2 := KY.out.z 0;have e3 := KY.out.z 1;go_wp2_with fail;have KU := zH (V8.out.store KY.out);replace KV := zH ((KV.out.set KY.out 0 (.bool t5)).set (KY.out.set0 t5) 1 (.slice B5 m5 d5));replace KX := zH ((KX.out.oth 0 (.bool t5) (by omega : _ ≠ GW + 1)).oth 1 (.slice B5 m5 d5) (by omega : _ ≠ GW + 1))
  replace KY := zH ((KY.out.set0 t5).set1 (.slice B5 m5 d5));replace KB : Hid (((w8.setCell ⟨GW + 1, 0, none⟩ (.bool t5)).setCell ⟨GW + 1, 1, none⟩ (.slice B5 m5 d5)).heap[w.heap.size]? = _) := zz09 (zz09 KB.out _ _ (by have := HGw.out; have := HGW.out; omega)) _ _ (by have := HGw.out; have := HGW.out; omega)
  replace KO : Hid (((w8.setCell ⟨GW + 1, 0, none⟩ (.bool t5)).setCell ⟨GW + 1, 1, none⟩ (.slice B5 m5 d5)).heap[w.heap.size + 1]? = _) := zz09 (zz09 KO.out _ _ (by have := HGw.out; have := HGW.out; omega)) _ _ (by have := HGw.out; have := HGW.out; omega)
  replace KH : Hid (((w8.setCell ⟨GW + 1, 0, none⟩ (.bool t5)).setCell ⟨GW + 1, 1, none⟩ (.slice B5 m5 d5)).heap[GH]? = _) := zz09 (zz09 KH.out _ _ (by have := HGw.out; have := HGW.out; omega)) _ _ (by have := HGw.out; have := HGW.out; omega)
  replace hBr := zH ((hBr.out.setCell (p := ⟨GW + 1, 0, none⟩) (by have := HGw.out; have := HGW.out; show w.heap.size ≤ GW + 1; omega) (.bool t5)).setCell (p := ⟨GW + 1, 1, none⟩) (by have := HGw.out; have := HGW.out; show w.heap.size ≤ GW + 1; omega) (.slice B5 m5 d5))
  clear V8 e0 e1 e2 e3;generalize (w8.setCell ⟨GW + 1, 0, none⟩ (.bool t5)).setCell ⟨GW + 1, 1, none⟩ (.slice B5 m5 d5) = w9 at *;have qa := zH (fun x y wz hx hy => zz1t x y h1 (QP) wz hx hy (bigB (by have := HL1.out; omega)) (bigB (by have := HPB.out; omega)))
  have qb := zH (fun x y wz hx hy => zz1t x y k2 (-qty) wz hx hy (bigB (by have := HL2.out; omega)) (bigB (by have := HL3.out; omega)))
  have qf := zH (fun x wz hx => zz2f x (h1 + QP) wz hx (bigB (by have := HL1.out; have := HPB.out; omega)))
  have qg := zH (fun x wz hx => zz2f x (k2 + -qty) wz hx (bigB (by have := HL2.out; have := HL3.out; omega)))
  rw [HP2.out] at qf;rw [HQ2.out] at qg;have lG := KX.out.lt;have e0 := KX.out.c0;have e1 := KX.out.c1;have lH := zL KH.out;have f1 := zz00 KH.out 1 _ rfl;have HC : ∃ x : ExtOf w9, w9.drew = x.w := ⟨⟨_, (Below.refl _ _).drew⟩, rfl⟩;have HCb : Hid (Below w9.heap.size w9 w9.drew) := (Below.refl _ _).drew;refine zz07 [] (fun wz => ∃ x : ExtOf w9, wz = x.w) 11 (zb 11 0) zk zk zk ?_
  refine zM [0, 1, 3] 8 HC ?_;simp only [opsAt, zA];refine zp ?_;refine zz08 (.int .i64 h1) rfl (fun wz hC => by obtain ⟨x, rfl⟩ := hC; unfold execOp; go_simp) ?_
  refine zz08 (.agg #[.bool t, .slice B m d]) rfl (fun wz hC => by obtain ⟨x, rfl⟩ := hC; unfold execOp; go_simp) ?_
  unfold wpPure;go_simp;refine zW 2 ?_;go_wp2_with fail;(with_reducible refine (qp.out _).mono ?_);rintro e wc1 ⟨⟨va, rfl, hva⟩, hb⟩;have VA := zH hva;clear hva;replace HCb : Hid (Below w9.heap.size w9 wc1) := HCb.out.trans (hb.mono HCb.out.size);have HC : ∃ x : ExtOf w9, wc1 = x.w := ⟨⟨_, HCb.out⟩, rfl⟩;clear hb;go_wp2_with fail;refine zQs (fun _ => HC) ?_
  refine zW 4 ?_;go_wp2_with fail;(with_reducible refine (qa.out _ _ _ VA (zH (KV.out.call HCb.out))).mono ?_);rintro e wc2 ⟨⟨vb, rfl, hvb⟩, hb⟩;have VB := zH hvb;clear hvb;replace HCb : Hid (Below w9.heap.size w9 wc2) := HCb.out.trans (hb.mono HCb.out.size);have HC : ∃ x : ExtOf w9, wc2 = x.w := ⟨⟨_, HCb.out⟩, rfl⟩;clear hb;go_wp2_with fail;refine zQs (fun _ => HC) ?_
  refine zW 5 ?_;go_wp2_with fail;(with_reducible refine (qf.out _ _ VB).mono ?_);rintro e wc3 ⟨rfl, hb⟩;replace HCb : Hid (Below w9.heap.size w9 wc3) := HCb.out.trans (hb.mono HCb.out.size);have HC : ∃ x : ExtOf w9, wc3 = x.w := ⟨⟨_, HCb.out⟩, rfl⟩;clear hb;go_wp2_with fail;refine zQs (fun _ => HC) ?_
  refine zM [6, 7, 9, 8, 10] 0 HC ?_;simp only [opsAt, zA]
  iterate 5 refine zp ?_
  unfold wpPure;go_simp;refine zQe ?_;replace KY := zH (KY.out.call HCb.out);replace KU := zH (KU.out.call HCb.out);replace KB := zH (zz06 KB.out HCb.out);replace KO := zH (zz06 KO.out HCb.out);replace hBr := zH (hBr.out.trans (HCb.out.mono hBr.out.size));clear lG e0 e1 lH f1 HC HCb VA VB KX KV KH;go_wp2_with fail;have lG := KY.out.lt;have e0 := KY.out.c0;have e1 := KY.out.c1;have lK := zL KB.out;have lO := zL KO.out;have a0 := zC KB.out;have f1 := zC KO.out;have BB : Hid (BkAt wc3 (.agg #[vh, vs, vo, vr, b.n]) b) := hb.out.call hBr.out;have HC : ∃ x : ExtOf wc3, wc3.drew = x.w := ⟨⟨_, (Below.refl _ _).drew⟩, rfl⟩;have HCb : Hid (Below wc3.heap.size wc3 wc3.drew) := (Below.refl _ _).drew;refine zz07 [] (fun wz => ∃ x : ExtOf wc3, wz = x.w) 15 (zb 15 0) zk zk zk ?_
  refine zM [0, 1, 2, 3, 4, 7] 9 HC ?_;simp only [opsAt, zA];refine zz08 (.agg #[vh, vs, vo, vr, b.n]) rfl (fun wz hC => by obtain ⟨x, rfl⟩ := hC; unfold execOp; go_simp) ?_
  refine zp ?_;refine zz08 (.int .i64 acc) rfl (fun wz hC => by obtain ⟨x, rfl⟩ := hC; unfold execOp; go_simp) ?_
  refine zp ?_;refine zz08 (.int .i64 sym) rfl (fun wz hC => by obtain ⟨x, rfl⟩ := hC; unfold execOp; go_simp) ?_
  refine zz08 (.agg #[.bool t5, .slice B5 m5 d5]) rfl (fun wz hC => by obtain ⟨x, rfl⟩ := hC; unfold execOp; go_simp) ?_
  exact zt11
end
section
open Go Go.RowKit Bg Mon
end
end
end Go.Proofs.YtajogedbacpohaaGreatDoor
