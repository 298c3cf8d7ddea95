/- Part 11 of what the claim rests on. -/
import Derived.Test.YtajogedbacpohaaGreatDoorE00
import Derived.Test.YtajogedbacpohaaGreatDoorE01
import Derived.Test.YtajogedbacpohaaGreatDoorE05
import Derived.Test.YtajogedbacpohaaGreatDoorE06
import Derived.Test.YtajogedbacpohaaGreatDoorE09
import Derived.Laws.StructEq
import Derived.LoopIn
import Derived.LoopNIn
import Derived.OwnWalkIn
import Derived.RangeFuncBound
import Derived.RangeFuncBox
import Derived.RangeFuncCalls
import Derived.RangeFuncLeaves
import Derived.RangeFuncNested
import Derived.Shelf.Abstract
import Derived.TacticsInMore
set_option linter.unusedVariables false
set_option linter.unusedSimpArgs false
set_option maxRecDepth 1000000
set_option maxHeartbeats 32000000
namespace Go.Proofs.YtajogedbacpohaaGreatDoor
section

section
open Go Go.RowKit Go.Shelf
attribute [local go_sem] Oper.semAt_some
theorem zz2c {w w' : World} (h : Below w.heap.size w w') (row : Option Nat) : w.grownBy w' row := ⟨h.os, h.tape, h.output, h.size, fun k hk _ => h.block k hk⟩
structure KpG (w0 : World) (G : Nat) (W W' : World) : Prop where
 below : Below w0.heap.size W W'
 size : W.heap.size ≤ W'.heap.size
 same : ∀ (k : Nat) (o : Obj), k ≠ G → W.heap[k]? = some o → o.isCells = true → W'.heap[k]? = some o
theorem KpG.trans {w0 : World} {G : Nat} {A B C : World} (h : KpG w0 G A B) (k : KpG w0 G B C) : KpG w0 G A C :=
 ⟨h.below.trans k.below, Nat.le_trans h.size k.size, fun i o hi ho hc => k.same i o hi (h.same i o hi ho hc) hc⟩
theorem KpG.put {w0 w : World} {G : Nat} (hw : w0.heap.size ≤ w.heap.size) (W : World) (l : Nat) (o o' : Obj) (hl : w.heap.size ≤ l) (h : W.heap[l]? = some o) (ho : o.isCells = false) (hk : o.isWalk = false) : KpG w0 G W (W.putObj l o') :=
 ⟨belowK_b hw W l o o' hl h ho hk, (grownBy_putObj' W l o').size, fun k x hx hX hc => by
  by_cases e : k = l
  ·subst e; rw [h] at hX; cases hX; rw [ho] at hc; cases hc
  ·exact (World.putObj_heap_other e).trans hX⟩
theorem KpG.of_below {w0 : World} {G : Nat} {W W' : World} (hw : w0.heap.size ≤ W.heap.size) (h : Below W.heap.size W W') : KpG w0 G W W' :=
 ⟨h.mono hw, h.size, fun k o _ ho _ => zz06 ho h⟩
theorem KpG.of_grown {w0 : World} {G : Nat} {W W' : World} (hw : w0.heap.size ≤ W.heap.size) (hG : w0.heap.size ≤ G) (h : W.grownBy W' (some G)) : KpG w0 G W W' :=
 ⟨(Below.refl _ W).grown h hw (fun k e => by cases e; exact hG), h.size, fun k o hk ho _ => (h.block k (zL ho) (fun e => hk (by cases e; rfl))).trans ho⟩
structure SP where
 a : Int
 s : Int
 q : Int
 p : Int
 hq : I64 q
 hp : I64 p
 h0 : 0 ≤ p
def SP.val (x : SP) : Int × Int := (x.q, x.p)
def SP.enc (x : SP) : Array Value := #[.agg #[x.a, x.s, x.q], .int .i64 x.p]
structure OP where
 i : Int
 a : Int
 s : Int
 d : Int
 l : Int
 p : Int
 hl : I64 l
 hp : I64 p
def OP.val (x : OP) : List Int := [x.i, x.a, x.s, x.d, x.l, x.p]
def OP.enc (x : OP) : Array Value := #[.agg #[x.i, x.a, x.s, x.d, x.l, x.p]]
def priceOf (b : Bk) (sym : Int) : Int := ((recOf 2 (b.r.find? (isId sym))).1).getD 1 0
def heldP (b : Bk) (acc : Int) : List (List Int) → List (Int × Int)
 | [] => []
 | r :: t => if r.headD 0 = acc then (r.getD 2 0, priceOf b (r.getD 1 0)) :: heldP b acc t else heldP b acc t
def opensP (acc : Int) : List (List Int) → List (List Int)
 | [] => []
 | r :: t => if r.getD 1 0 = acc then r :: opensP acc t else opensP acc t
def Bk.I64s (b : Bk) : Prop := (∀ r ∈ b.h, ∀ x ∈ r, I64 x) ∧ (∀ r ∈ b.s, ∀ x ∈ r, I64 x) ∧ (∀ r ∈ b.o, ∀ x ∈ r, I64 x) ∧ (∀ r ∈ b.r, ∀ x ∈ r, I64 x)
theorem zz4l {b : Bk} {acc : Int} {l : List (List Int)} {j : Nat} {r : List Int} (h : l[j]? = some r) : heldP b acc (l.drop j) = if r.headD 0 = acc then (r.getD 2 0, priceOf b (r.getD 1 0)) :: heldP b acc (l.drop (j + 1)) else heldP b acc (l.drop (j + 1)) := by
 obtain ⟨hj, rfl⟩ := List.getElem?_eq_some_iff.1 h;rw [List.drop_eq_getElem_cons hj, heldP]
theorem zz3f {acc : Int} {l : List (List Int)} {j : Nat} {r : List Int} (h : l[j]? = some r) : opensP acc (l.drop j) = if r.getD 1 0 = acc then r :: opensP acc (l.drop (j + 1)) else opensP acc (l.drop (j + 1)) := by
 obtain ⟨hj, rfl⟩ := List.getElem?_eq_some_iff.1 h;rw [List.drop_eq_getElem_cons hj, opensP]
structure Caps (w0 : World) (gb ga : Nat) (vh vs vo vr : Value) (n acc : Int) (W : World) : Prop where
 b : W.heap[gb]? = some (.cells #[vh, vs, vo, vr, n] 27 (0, 0))
 a : W.heap[ga]? = some (.cells #[acc] 2 (0, 0))
 below : Below w0.heap.size w0 W
theorem Caps.call {w0 : World} {gb ga : Nat} {vh vs vo vr : Value} {n acc : Int} {W W' : World} (h : Caps w0 gb ga vh vs vo vr n acc W) (hb : Below W.heap.size W W') : Caps w0 gb ga vh vs vo vr n acc W' :=
 ⟨zz06 h.b hb, zz06 h.a hb, h.below.trans (hb.mono h.below.size)⟩
theorem Caps.round {w0 : World} {gb ga G : Nat} {vh vs vo vr : Value} {n acc : Int} {W W' : World} (h : Caps w0 gb ga vh vs vo vr n acc W) (hb : KpG w0 G W W') (h1 : gb ≠ G) (h2 : ga ≠ G) : Caps w0 gb ga vh vs vo vr n acc W' :=
 ⟨hb.same _ _ h1 h.b rfl, hb.same _ _ h2 h.a rfl, h.below.trans hb.below⟩
theorem zt91 {p : Prop} (h : p := by
 clear hJ2 hk2
 gi_wp2_with (fail)
 go_roundw
 case rel => exact ⟨pre ++ [x], j + 1, by go_num, by show _ ≤ _; omega, hrest2.out, hC2.out, HJ2.out⟩
 case measure => simp [intOf]; omega) : p := h
theorem zt94 {p : Prop} (h : p := by
 have HJx2 := zH hJx2;clear hJx2
 gi_wp2_with (fail)
 refine bodyPost_ret (results_none rfl _ _ _) rfl ?_;exact ⟨⟨_, rfl⟩, .inr ⟨_, trivial, HJx2.out⟩⟩) : p := h
theorem zt99 {p : Prop} (h : p := by
 go_roundw
 case rel => exact ⟨pre, j + 1, by go_num, by show _ ≤ _; omega, hrest2.out, hCx.out, HJx.out⟩
 case measure => simp [intOf]; omega) : p := h
theorem held1_in (l G gb ga : Nat) (vh vs vo vr : Value) (b : Bk) (acc : Int) (w0 : World) (hG : Hid (gb ≠ G ∧ ga ≠ G)) (J Jx : List SP → World → Prop) (W : World)
  (hJ : Hid (∀ pre A B, J pre A → A.grownBy B none → J pre B))
  (hY : Hid (∀ pre x W1, J pre W1 → pre.length < (heldP b acc b.s).length → YieldAt Fence.wide 1 Tryz.prog l (SP.enc x) W1 fun e W' => (e = .returned (.bool true) ∧ J (pre ++ [x]) W' ∧ KpG w0 G W1 W') ∨ (e = .returned (.bool false) ∧ Jx (pre ++ [x]) W')))
  (hb : Hid (BkAt w0 (.agg #[vh, vs, vo, vr, b.n]) b)) (hs : Hid b.Small) (hr : Hid (riseH b.r)) (hi : Hid b.I64s) (hp : Hid (∀ sym, 0 ≤ priceOf b sym)) (hC : Hid (Caps w0 gb ga vh vs vo vr b.n acc W)) (h0 : J [] W) :
  CallsIn Fence.wide 2 Tryz.prog 182 #[.func (.yield l) #[] #[], .pointer (some ⟨gb, 0, none⟩), .pointer (some ⟨ga, 0, none⟩)] W fun e W' => (∃ v, e = .returned v) ∧ ((∃ ys : List SP, ys.map SP.val = heldP b acc b.s ∧ J ys W') ∨ (∃ pre, True ∧ Jx pre W')) := by
 obtain ⟨vh', vs', vo', vr', he, -, r2, -, r4⟩ := hb.out;injection he with he
 simp only [Array.mk.injEq, List.cons.injEq] at he;obtain ⟨rfl, rfl, rfl, rfl, -⟩ := he;obtain ⟨A2, c2, rfl, hi2⟩ := r2.rec';have HI := zH hi2;have LR : Hid (∀ r ∈ b.r, r.length = 2) := (by obtain ⟨_, _, _, h, _⟩ := r4; exact h)
 have hls : b.s.length ≤ 1000000 := by have := hs.out; unfold Bk.Small at this; omega
 have hlr : b.r.length ≤ 1000000 := by have := hs.out; unfold Bk.Small at this; omega
 have HJ0 := zH h0;clear r2 r4 hi2 h0 hs;have a1 := zz00 hC.out.b 1 _ rfl;refine callsIn_of_wp Tryz.func182 rfl trivial ?_ rfl;simp only [Tryz.ntmps182, List.size_toArray, List.length_cons, List.length_nil, Nat.reduceAdd, Nat.reduceSub, Array.replicate_succ, Array.replicate_zero, List.push_toArray, List.append_toArray, List.nil_append, List.cons_append]
 gi_wp2_with (fail)
 clear a1
 gi_loopw [11] (fun s11 wr => ∃ (pre : List SP) (j : Nat), s11 = .int .i64 (j : Int) ∧ Hid (j ≤ b.s.length) ∧ Hid (pre.map SP.val ++ heldP b acc (b.s.drop j) = heldP b acc b.s) ∧ Hid (Caps w0 gb ga vh (.slice A2 b.s.length c2) vo vr b.n acc wr) ∧ Hid (J pre wr)) (fun s11 _ => b.s.length - (intOf s11).toNat)
 case atStart => exact ⟨[], 0, rfl, Nat.zero_le _, rfl, hC.out, HJ0.out⟩
 case round =>
  clear hC HJ0;obtain ⟨pre, j, rfl, hjl, hrest, hC, HJ⟩ := hrel;replace hjl := hjl.out;by_cases hin : j < b.s.length
  ·have tn : decide ((j : Int) < (b.s.length : Int)) = true := decide_eq_true zw
   have hge : b.s[j]? = some b.s[j] := List.getElem?_eq_getElem hin;obtain ⟨hk, b0, o0, hA0, hbl, hc⟩ := HI.out j _ hge;subst hA0;have HS := zH (zz4l (b := b) (acc := acc) hge);have HM : Hid (∀ x ∈ b.s[j], I64 x) := (show ∀ x ∈ b.s[j], I64 x from hi.out.2.1 _ (List.getElem_mem hin))
   clear hge;generalize b.s[j] = r at *;obtain ⟨y0, y1, y2, rfl⟩ : ∃ y0 y1 y2, r = [y0, y1, y2] := by
    match r, hk with
    | [y0, y1, y2], _ => exact ⟨y0, y1, y2, rfl⟩
   have c0 : wr.cell? ⟨b0, o0 + j * 3, none⟩ = some (.int .i64 y0) := (hC.out.below.cell (p := ⟨b0, o0 + j * 3 + 0, none⟩) hbl).trans (hc 0 _ rfl);have c1 : wr.cell? ⟨b0, o0 + j * 3 + 1, none⟩ = some (.int .i64 y1) := (hC.out.below.cell (p := ⟨b0, o0 + j * 3 + 1, none⟩) hbl).trans (hc 1 _ rfl);have c2' : wr.cell? ⟨b0, o0 + j * 3 + 2, none⟩ = some (.int .i64 y2) := (hC.out.below.cell (p := ⟨b0, o0 + j * 3 + 2, none⟩) hbl).trans (hc 2 _ rfl);have hbl3 : b0 < wr.heap.size := Nat.lt_of_lt_of_le hbl hC.out.below.size;have ca := zz00 hC.out.a 0 _ rfl;have la := zL hC.out.a;have lb := zL hC.out.b;have a0 := zC hC.out.b;have hbx : Below wr.heap.size wr (wr.alloc (.cells #[y0, y1, y2] 80)) := zBa;have hCx := zH (hC.out.call hbx);have HJx := zH (hJ.out _ _ _ HJ.out (zz2c hbx none));have KX : Hid ((wr.alloc (.cells #[y0, y1, y2] 80)).heap[wr.heap.size]? = some (.cells #[y0, y1, y2] 80 (0, 0))) := zz02 _ _;clear hbx hc hk;by_cases hq : y0 = acc
   ·have tq : (y0 != acc) = false := by simp [hq]
    obtain ⟨rr, R0, hl3, hx3⟩ := zz16 LR.out (isId y1)
    match rr, hl3, hx3 with
    | [p0, p1], _, hx3 =>
    have hpr : priceOf b y1 = p1 := by unfold priceOf; rw [hx3]; rfl
    have hp1 : 0 ≤ p1 := by rw [← hpr]; exact hp.out y1
    have hI1 : I64 p1 := by
     cases hf : b.r.find? (isId y1) with
     | none =>
      rw [hf] at hx3;injection hx3 with h1 h2
      injection h1 with g0 t0
      injection t0 with g1 t1
      rw [← g1]; unfold I64; omega
     | some r =>
      rw [hf] at hx3;injection hx3 with h1 h2
      subst h1;exact hi.out.2.2.2 _ (List.mem_of_find?_eq_some hf) p1 (by simp)
    have HS2 : Hid (heldP b acc (b.s.drop j) = (y2, p1) :: heldP b acc (b.s.drop (j + 1))) := (show _ = _ from by
     rw [HS.out, if_pos (show ([y0, y1, y2] : List Int).headD 0 = acc from hq)]
     show (y2, priceOf b y1) :: _ = _;rw [hpr])
    obtain ⟨x, hxe, hxv⟩ : ∃ x : SP, x.enc = #[.agg #[y0, y1, y2], .int .i64 p1] ∧ x.val = (y2, p1) := ⟨⟨y0, y1, y2, p1, HM.out y2 (by simp), hI1, hp1⟩, rfl, rfl⟩
    have HR := zH (hb.out.call hCx.out.below);have HX3 := zH hx3;have HXV := zH hxv;have qR := zH (fun u wz hv => zz4t u b y1 p0 p1 R0 wz hv hlr hr HX3)
    have hN : Hid (pre.length < (heldP b acc b.s).length) := (show _ < _ from by rw [← hrest.out, HS2.out]; simp)
    have hrest2 : Hid ((pre ++ [x]).map SP.val ++ heldP b acc (b.s.drop (j + 1)) = heldP b acc b.s) := (show _ = _ from by rw [← hrest.out, HS2.out, List.map_append, List.append_assoc]; simp [HXV.out])
    clear hq hx3 hpr hI1 hxv HS HM
    gi_wp2_with (fail)
    refine ⟨trivial, callsIn_wide.2 ((qR.out _ _ HR).mono ?_)⟩;rintro e w1 ⟨rfl, hb1⟩;have hC1 := zH (hCx.out.call hb1);have HJ1 := zH (hJ.out _ _ _ HJx.out (zz2c hb1 none));have KX1 := zK KX hb1;clear hb1;have x0 := zC KX1.out;obtain ⟨fn, tmps, assign, body, hy, hRd⟩ := hY.out pre x w1 HJ1.out hN.out;rw [hxe] at hy;have HRd := zH hRd;clear hRd c0 c1 c2' ca a0
    gi_wp2_with (fail)
    refine HRd.out.mono ?_;rintro e w2 (⟨rfl, hJ2, hk2⟩ | ⟨rfl, hJx2⟩)
    ·have HJ2 := zH hJ2
     have hC2 := zH (hC1.out.round hk2 hG.out.1 hG.out.2);exact zt91
    ·exact zt94
   ·have tq : (y0 != acc) = true := by simp [hq]
    have hrest2 : Hid (pre.map SP.val ++ heldP b acc (b.s.drop (j + 1)) = heldP b acc b.s) := (show _ = _ from by rw [← hrest.out, HS.out, if_neg (show ¬ ([y0, y1, y2] : List Int).headD 0 = acc from hq)])
    clear hq HS HM
    gi_wp2_with (fail)
    exact zt99
  ·have tn : decide ((j : Int) < (b.s.length : Int)) = false := decide_eq_false zw
   have hrest2 : Hid (pre.map SP.val = heldP b acc b.s) := (show _ = _ from by rw [← hrest.out, List.drop_eq_nil_of_le zw]; simp [heldP])
   clear hrest
   gi_wp2_with (fail)
   go_end0;exact ⟨⟨_, rfl⟩, .inl ⟨pre, hrest2.out, HJ.out⟩⟩
end
section
open Go Go.RowKit Go.Shelf
attribute [local go_sem] Oper.semAt_some
theorem opens1_in (l G gb ga : Nat) (vh vs vo vr : Value) (b : Bk) (acc : Int) (w0 : World) (hG : Hid (gb ≠ G ∧ ga ≠ G)) (J Jx : List OP → World → Prop) (W : World)
  (hJ : Hid (∀ pre A B, J pre A → A.grownBy B none → J pre B))
  (hY : Hid (∀ pre x W1, J pre W1 → pre.length < (opensP acc b.o).length → YieldAt Fence.wide 1 Tryz.prog l (OP.enc x) W1 fun e W' => (e = .returned (.bool true) ∧ J (pre ++ [x]) W' ∧ KpG w0 G W1 W') ∨ (e = .returned (.bool false) ∧ Jx (pre ++ [x]) W')))
  (hb : Hid (BkAt w0 (.agg #[vh, vs, vo, vr, b.n]) b)) (hs : Hid b.Small) (hi : Hid b.I64s) (hC : Hid (Caps w0 gb ga vh vs vo vr b.n acc W)) (h0 : J [] W) :
  CallsIn Fence.wide 2 Tryz.prog 181 #[.func (.yield l) #[] #[], .pointer (some ⟨gb, 0, none⟩), .pointer (some ⟨ga, 0, none⟩)] W fun e W' => (∃ v, e = .returned v) ∧ ((∃ ys : List OP, ys.map OP.val = opensP acc b.o ∧ J ys W') ∨ (∃ pre, True ∧ Jx pre W')) := by
 obtain ⟨vh', vs', vo', vr', he, -, -, r2, -⟩ := hb.out;injection he with he
 simp only [Array.mk.injEq, List.cons.injEq] at he;obtain ⟨rfl, rfl, rfl, rfl, -⟩ := he;obtain ⟨A2, c2, rfl, hi2⟩ := r2.rec';have HI := zH hi2;have hls : b.o.length ≤ 1000000 := by have := hs.out; unfold Bk.Small at this; omega
 have HJ0 := zH h0;clear r2 hi2 h0 hs;have a1 := zz00 hC.out.b 2 _ rfl;refine callsIn_of_wp Tryz.func181 rfl trivial ?_ rfl;simp only [Tryz.ntmps181, List.size_toArray, List.length_cons, List.length_nil, Nat.reduceAdd, Nat.reduceSub, Array.replicate_succ, Array.replicate_zero, List.push_toArray, List.append_toArray, List.nil_append, List.cons_append]
 gi_wp2_with (fail)
 clear a1
 gi_loopw [9] (fun s11 wr => ∃ (pre : List OP) (j : Nat), s11 = .int .i64 (j : Int) ∧ Hid (j ≤ b.o.length) ∧ Hid (pre.map OP.val ++ opensP acc (b.o.drop j) = opensP acc b.o) ∧ Hid (Caps w0 gb ga vh vs (.slice A2 b.o.length c2) vr b.n acc wr) ∧ Hid (J pre wr)) (fun s11 _ => b.o.length - (intOf s11).toNat)
 case atStart => exact ⟨[], 0, rfl, Nat.zero_le _, rfl, hC.out, HJ0.out⟩
 case round =>
  clear hC HJ0;obtain ⟨pre, j, rfl, hjl, hrest, hC, HJ⟩ := hrel;replace hjl := hjl.out;by_cases hin : j < b.o.length
  ·have tn : decide ((j : Int) < (b.o.length : Int)) = true := decide_eq_true zw
   have hge : b.o[j]? = some b.o[j] := List.getElem?_eq_getElem hin;obtain ⟨hk, b0, o0, hA0, hbl, hc⟩ := HI.out j _ hge;subst hA0;have HS := zH (zz3f (acc := acc) hge);have HM : Hid (∀ x ∈ b.o[j], I64 x) := (show ∀ x ∈ b.o[j], I64 x from hi.out.2.2.1 _ (List.getElem_mem hin))
   clear hge;generalize b.o[j] = r at *;obtain ⟨y0, y1, y2, y3, y4, y5, rfl⟩ : ∃ y0 y1 y2 y3 y4 y5, r = [y0, y1, y2, y3, y4, y5] := by
    match r, hk with
    | [y0, y1, y2, y3, y4, y5], _ => exact ⟨y0, y1, y2, y3, y4, y5, rfl⟩
   have c0 : wr.cell? ⟨b0, o0 + j * 6, none⟩ = some (.int .i64 y0) := (hC.out.below.cell (p := ⟨b0, o0 + j * 6 + 0, none⟩) hbl).trans (hc 0 _ rfl);have c1 : wr.cell? ⟨b0, o0 + j * 6 + 1, none⟩ = some (.int .i64 y1) := (hC.out.below.cell (p := ⟨b0, o0 + j * 6 + 1, none⟩) hbl).trans (hc 1 _ rfl);have c2 : wr.cell? ⟨b0, o0 + j * 6 + 2, none⟩ = some (.int .i64 y2) := (hC.out.below.cell (p := ⟨b0, o0 + j * 6 + 2, none⟩) hbl).trans (hc 2 _ rfl);have c3 : wr.cell? ⟨b0, o0 + j * 6 + 3, none⟩ = some (.int .i64 y3) := (hC.out.below.cell (p := ⟨b0, o0 + j * 6 + 3, none⟩) hbl).trans (hc 3 _ rfl);have c4 : wr.cell? ⟨b0, o0 + j * 6 + 4, none⟩ = some (.int .i64 y4) := (hC.out.below.cell (p := ⟨b0, o0 + j * 6 + 4, none⟩) hbl).trans (hc 4 _ rfl);have c5 : wr.cell? ⟨b0, o0 + j * 6 + 5, none⟩ = some (.int .i64 y5) := (hC.out.below.cell (p := ⟨b0, o0 + j * 6 + 5, none⟩) hbl).trans (hc 5 _ rfl);have hbl3 : b0 < wr.heap.size := Nat.lt_of_lt_of_le hbl hC.out.below.size;have ca := zz00 hC.out.a 0 _ rfl;have la := zL hC.out.a;have lb := zL hC.out.b;have a0 := zC hC.out.b;have hbx : Below wr.heap.size wr (wr.alloc (.cells #[y0, y1, y2, y3, y4, y5] 82)) := zBa;have hCx := zH (hC.out.call hbx);have HJx := zH (hJ.out _ _ _ HJ.out (zz2c hbx none));have KX : Hid ((wr.alloc (.cells #[y0, y1, y2, y3, y4, y5] 82)).heap[wr.heap.size]? = some (.cells #[y0, y1, y2, y3, y4, y5] 82 (0, 0))) := zz02 _ _;clear hbx hc hk;by_cases hq : y1 = acc
   ·have tq : (y1 == acc) = true := by simp [hq]
    have HS2 : Hid (opensP acc (b.o.drop j) = [y0, y1, y2, y3, y4, y5] :: opensP acc (b.o.drop (j + 1))) := (show _ = _ from by
     rw [HS.out, if_pos (show ([y0, y1, y2, y3, y4, y5] : List Int).getD 1 0 = acc from hq)])
    obtain ⟨x, hxe, hxv⟩ : ∃ x : OP, x.enc = #[.agg #[y0, y1, y2, y3, y4, y5]] ∧ x.val = [y0, y1, y2, y3, y4, y5] := ⟨⟨y0, y1, y2, y3, y4, y5, HM.out y4 (by simp), HM.out y5 (by simp)⟩, rfl, rfl⟩
    have HXV := zH hxv;have hN : Hid (pre.length < (opensP acc b.o).length) := (show _ < _ from by rw [← hrest.out, HS2.out]; simp)
    have hrest2 : Hid ((pre ++ [x]).map OP.val ++ opensP acc (b.o.drop (j + 1)) = opensP acc b.o) := (show _ = _ from by rw [← hrest.out, HS2.out, List.map_append, List.append_assoc]; simp [HXV.out])
    clear hq hxv HS HM;obtain ⟨fn, tmps, assign, body, hy, hRd⟩ := hY.out pre x _ HJx.out hN.out;rw [hxe] at hy;have HRd := zH hRd;clear hRd
    gi_wp2_with (fail)
    refine HRd.out.mono ?_;rintro e w2 (⟨rfl, hJ2, hk2⟩ | ⟨rfl, hJx2⟩)
    ·have HJ2 := zH hJ2
     have hC2 := zH (hCx.out.round hk2 hG.out.1 hG.out.2);exact zt91
    ·exact zt94
   ·have tq : (y1 == acc) = false := by simp [hq]
    have hrest2 : Hid (pre.map OP.val ++ opensP acc (b.o.drop (j + 1)) = opensP acc b.o) := (show _ = _ from by rw [← hrest.out, HS.out, if_neg (show ¬ ([y0, y1, y2, y3, y4, y5] : List Int).getD 1 0 = acc from hq)])
    clear hq HS HM
    gi_wp2_with (fail)
    refine ⟨fun _ h => (by cases h), ?_⟩
    gi_wp2_with (fail)
    exact zt99
  ·have tn : decide ((j : Int) < (b.o.length : Int)) = false := decide_eq_false zw
   have hrest2 : Hid (pre.map OP.val = opensP acc b.o) := (show _ = _ from by rw [← hrest.out, List.drop_eq_nil_of_le zw]; simp [opensP])
   clear hrest
   gi_wp2_with (fail)
   go_end0;exact ⟨⟨_, rfl⟩, .inl ⟨pre, hrest2.out, HJ.out⟩⟩
theorem zzbd (vh vs vo vr : Value) (n acc : Int) (w : World) :
  Calls Tryz.prog 150 #[.agg #[vh, vs, vo, vr, n], .int .i64 acc] w fun e w' => e = .returned (.func (.func 182) #[] #[.pointer (some ⟨w.heap.size, 0, none⟩), .pointer (some ⟨w.heap.size + 1, 0, none⟩)]) ∧
   (w.alloc (.cells #[vh, vs, vo, vr, n] 27)).alloc (.cells #[acc] 2) = w' := by
 go_in;go_wp2_with fail;go_ret;exact ⟨rfl, rfl⟩
theorem zz8m (vh vs vo vr : Value) (n acc : Int) (w : World) :
  Calls Tryz.prog 148 #[.agg #[vh, vs, vo, vr, n], .int .i64 acc] w fun e w' => e = .returned (.func (.func 181) #[] #[.pointer (some ⟨w.heap.size, 0, none⟩), .pointer (some ⟨w.heap.size + 1, 0, none⟩)]) ∧
   (w.alloc (.cells #[vh, vs, vo, vr, n] 27)).alloc (.cells #[acc] 2) = w' := by
 go_in;go_wp2_with fail;go_ret;exact ⟨rfl, rfl⟩
theorem zz5i {β : Type} {n : Nat} {J : β → World → Prop} (h : AbidesFrom n J) : ∀ pre A B, J pre A → A.grownBy B none → J pre B := fun pre A B hA hg => h pre A B none hA hg (fun r e => by cases e)
theorem zz73 (G gb ga : Nat) (vh vs vo vr : Value) (b : Bk) (acc : Int) (w0 w : World) (hG : Hid (gb ≠ G ∧ ga ≠ G)) (hb : Hid (BkAt w0 (.agg #[vh, vs, vo, vr, b.n]) b)) (hs : Hid b.Small) (hr : Hid (riseH b.r)) (hi : Hid b.I64s) (hp : Hid (∀ sym, 0 ≤ priceOf b sym)) (hC : Hid (Caps w0 gb ga vh vs vo vr b.n acc w)) :
  SeqStopsK Fence.wide 2 Tryz.prog 182 #[.pointer (some ⟨gb, 0, none⟩), .pointer (some ⟨ga, 0, none⟩)] SP.enc (KpG w0 G) (fun ys => ys.map SP.val = heldP b acc b.s) (fun _ => True) (heldP b acc b.s).length w := fun l J Jx W hW hJ hJx hY h0 =>
 held1_in l G gb ga vh vs vo vr b acc w0 hG J Jx W (zz5i hJ) hY hb hs hr hi hp (hC.out.call hW) h0
theorem zz5a (G gb ga : Nat) (vh vs vo vr : Value) (b : Bk) (acc : Int) (w0 w : World) (hG : Hid (gb ≠ G ∧ ga ≠ G)) (hb : Hid (BkAt w0 (.agg #[vh, vs, vo, vr, b.n]) b)) (hs : Hid b.Small) (hi : Hid b.I64s) (hC : Hid (Caps w0 gb ga vh vs vo vr b.n acc w)) :
  SeqStopsK Fence.wide 2 Tryz.prog 181 #[.pointer (some ⟨gb, 0, none⟩), .pointer (some ⟨ga, 0, none⟩)] OP.enc (KpG w0 G) (fun ys => ys.map OP.val = opensP acc b.o) (fun _ => True) (opensP acc b.o).length w := fun l J Jx W hW hJ hJx hY h0 =>
 opens1_in l G gb ga vh vs vo vr b acc w0 hG J Jx W (zz5i hJ) hY hb hs hi (hC.out.call hW) h0
end
section
open Go Go.RowKit Go.Shelf Mon
attribute [local go_sem] Oper.semAt_some
def sumQ : List (Int × Int) → Int
 | [] => 0
 | x :: t => x.1 * x.2 + sumQ t
theorem zz99 (l m : List (Int × Int)) : sumQ (l ++ m) = sumQ l + sumQ m := by
 induction l with
 | nil => simp [sumQ]
 | cons x t ih => simp only [List.cons_append, sumQ, ih]; omega
theorem zz4j {b : Bk} (h : b.mayB = true) (hk : ∀ r ∈ b.r, r.length = 2) (sym : Int) : 0 ≤ priceOf b sym := by
 unfold Bk.mayB at h;simp only [Bool.and_eq_true, Bool.not_eq_true'] at h;have hr := h.2.2.2.1;unfold priceOf;cases hf : b.r.find? (isId sym) with
 | none => simp [recOf]
 | some r =>
  have hm := List.mem_of_find?_eq_some hf;have h1 : badR r = false := by
   cases hb : badR r with
   | false => rfl
   | true => rw [List.any_eq_true.2 ⟨r, hm, hb⟩] at hr; cases hr
  match r, hk r hm, h1 with
  | [x, y], _, h1 =>
   have h2 : decide (y < 1) = false := h1;have := of_decide_eq_false h2;show 0 ≤ y;omega
theorem zz3v {b : Bk} (h : b.mayB = true) : b.Rise := by
 unfold Bk.mayB at h;rw [Bool.and_eq_true] at h;exact zz5b h.1
theorem zz8s (b : Bk) (acc : Int) : ∀ l : List (List Int), (heldP b acc l).length ≤ l.length
 | [] => Nat.le_refl _
 | r :: t => by
  have := zz8s b acc t;unfold heldP
  split <;> simp <;> omega
theorem zz4h (acc : Int) : ∀ l : List (List Int), (opensP acc l).length ≤ l.length
 | [] => Nat.le_refl _
 | r :: t => by
  have := zz4h acc t;unfold opensP
  split <;> simp <;> omega
theorem prodB {a b : Int} (ha : I64 a) (hb : I64 b) : (a * b).natAbs ≤ 85070591730234615865843651857942052864 := by
 rw [Int.natAbs_mul];have h1 : a.natAbs ≤ 9223372036854775808 := by unfold I64 at ha; omega
 have h2 : b.natAbs ≤ 9223372036854775808 := by unfold I64 at hb; omega
 exact Nat.mul_le_mul h1 h2
theorem zz6l : ∀ l : List SP, (sumQ (l.map SP.val)).natAbs ≤ l.length * 85070591730234615865843651857942052864
 | [] => by simp [sumQ]
 | x :: t => by
  have h1 := zz6l t;have h2 := prodB x.hq x.hp;show (x.q * x.p + sumQ (t.map SP.val)).natAbs ≤ (t.length + 1) * _;omega
theorem zz2a {β : Type} (B g : Nat) (f : β → Array Value) (t : TypeId) : OwnFrom B (fun (s : β) W => ZB W g (f s) t) := fun s X Y row hs hg hr => by
 have h := hs.out;exact (hg.block g (zL h) (fun e => by obtain ⟨_, o, ho, hc⟩ := hr g e.symm; rw [h] at ho; cases ho; cases hc)).trans h
def cashOf (b : Bk) (acc : Int) : Int := ((recOf 4 (b.h.find? (isId acc))).1).getD 1 0
def eqP (b : Bk) (acc : Int) : Int × Bool := if b.mayB then fitsP (cashOf b acc + sumQ (heldP b acc b.s)) else (0, false)
theorem zt42 {p : Prop} (h : p := by
 obtain ⟨Bx, h1', h2', h3'⟩ := hs';exact ⟨Bx, Nat.lt_of_lt_of_le h1'.out hg.size, (hg.block Bx h1'.out (fun e => by obtain ⟨_, o, ho, hc⟩ := hr Bx e.symm; rw [h2'.out] at ho; cases ho; cases hc)).trans h2'.out, h3'⟩) : p := h
theorem zt72 {p : Prop} (h : p := by
 (with_reducible refine qm.out.mono ?_);rintro e w2 ⟨rfl, hb2⟩
 have HB2 := zB HB1 hb2;clear hb2;go_wp2_with fail;go_ret2;exact ⟨rfl, HB2.out⟩) : p := h
theorem zt95 {p : Prop} (h : p := by
 have h1' : ys.length = (heldP b acc b.s).length := by rw [← hys]; simp
 have h2' := zz8s b acc b.s;have h3' := hs.out;unfold Bk.Small at h3';omega) : p := h
theorem zzca (v : Value) (b : Bk) (acc : Int) (w : World) (hb : Hid (BkAt w v b)) (hs : Hid b.Small) (hi : Hid b.I64s) :
  Calls Tryz.prog 84 #[v, .int .i64 acc] w fun e w' => e = .returned (.tuple #[.int .i64 (eqP b acc).1, .bool (eqP b acc).2]) ∧ Below w.heap.size w w' := by
 obtain ⟨vh, vs, vo, vr, rfl, g1, g2, g3, g4⟩ := hb.out;have LH : Hid (∀ r ∈ b.h, r.length = 4) := (by obtain ⟨_, _, _, h, _⟩ := g1; exact h)
 have LR : Hid (∀ r ∈ b.r, r.length = 2) := (by obtain ⟨_, _, _, h, _⟩ := g4; exact h)
 clear g1 g2 g3 g4;have HB1 : Hid (Below w.heap.size w (w.alloc (.cells #[vh, vs, vo, vr, b.n] 27))) := zBa;have K1 : Hid ((w.alloc (.cells #[vh, vs, vo, vr, b.n] 27)).heap[w.heap.size]? = some (.cells #[vh, vs, vo, vr, b.n] 27 (0, 0))) := zz02 _ _;have B1 : Hid (BkAt (w.alloc (.cells #[vh, vs, vo, vr, b.n] 27)) (.agg #[vh, vs, vo, vr, b.n]) b) := hb.out.call HB1.out;have qm := zH (zz24 _ b _ B1 hs);cases hm : b.mayB with
 | false =>
  have he : eqP b acc = (0, false) := by unfold eqP; rw [hm]; rfl
  rw [he];rw [hm] at qm;clear hm he;go_in;go_wp2_with fail;exact zt72
 | true =>
 have he : eqP b acc = fitsP (cashOf b acc + sumQ (heldP b acc b.s)) := by unfold eqP; rw [hm]; rfl
 rw [he];have HR := zH (zz3v hm);have HP : Hid (∀ sym, 0 ≤ priceOf b sym) := fun sym => zz4j hm LR.out sym
 rw [hm] at qm;obtain ⟨rh, F, hl1, hx1⟩ := zz16 LH.out (isId acc)
 match rh, hl1, hx1 with
 | [h0, h1, h2, h3], _, hx1 =>
 have hc : cashOf b acc = h1 := by unfold cashOf; rw [hx1]; rfl
 have hI1 : I64 h1 := by
  cases hf : b.h.find? (isId acc) with
  | none =>
   rw [hf] at hx1;injection hx1 with e1 e2
   injection e1 with _ e1
   injection e1 with e1 _
   rw [← e1]; unfold I64; omega
  | some r =>
   rw [hf] at hx1;injection hx1 with e1 e2
   subst e1;exact hi.out.1 _ (List.mem_of_find?_eq_some hf) h1 (by simp)
 rw [hc];have HX1 := zH hx1;have HI1 := zH hI1;have F1 : b.h.length ≤ 1000000 := by have := hs.out; unfold Bk.Small at this; omega
 have qh := zH (fun u wz hv => zz2e u b acc h0 h1 h2 h3 F wz hv F1 (zH HR.out.1) HX1)
 clear hm he hx1 hc hI1;refine (callsIn_wide (n := 3)).1 ?_;have hn1 : 1 ≤ 3 := by omega
 have hro : Fence.wide.round = none := rfl;refine callsIn_of_wp_marks Tryz.func84 rfl trivial ?_ hro;simp only [Tryz.ntmps84, List.size_toArray, List.length_cons, List.length_nil, Nat.reduceAdd, Nat.reduceSub, Array.replicate_succ, Array.replicate_zero, List.push_toArray, List.append_toArray, List.nil_append, List.cons_append]
 gi_wp2_with (fail)
 refine ⟨trivial, callsIn_wide.2 (qm.out.mono ?_)⟩;rintro e w2 ⟨rfl, hb2⟩;have K2 := zK K1 hb2;have B2 := zH (B1.out.call hb2);have HB2 := zB HB1 hb2;clear hb2 qm;have a0 := zC K2.out
 gi_wp2_with (fail)
 refine ⟨trivial, callsIn_wide.2 ((qh.out _ _ B2).mono ?_)⟩;rintro e w3 ⟨rfl, hb3⟩;have K3 := zK K2 hb3;have HB3 := zB HB2 hb3;clear hb3 a0 qh B2;obtain ⟨G, hG⟩ : ∃ G, w3.heap.size + 1 = G := ⟨_, rfl⟩;have k1 := zz56 (w3.alloc (.cells #[h0, h1, h2, h3] 78));rw [World.size_alloc, hG] at k1;have kb := zz01 (zz01 HB3.out HB3.out.size (.cells #[h0, h1, h2, h3] 78)) (by have := HB3.out.size; rw [World.size_alloc]; omega) (.cells #[.int .u64 0, .int .u64 0, .int .u64 0] 196)
 have K4 := zH (zz04 (zz04 K3.out (.cells #[h0, h1, h2, h3] 78)) (.cells #[.int .u64 0, .int .u64 0, .int .u64 0] 196));have S4 := zH k1;have HB4 := zH kb;have qa := zH (zz5j G 0 h1 (by unfold Ok M3; omega) HI1.out _ S4)
 have HG := zH (show w.heap.size < G ∧ w.heap.size ≤ w3.heap.size by have := HB3.out.size; have := (zL K3.out); omega)
 clear k1 kb
 gi_wp2_with (fail)
 refine ⟨trivial, callsIn_wide.2 (qa.out.mono ?_)⟩;rintro e w5 ⟨rfl, hs5, hg5⟩;rw [Int.zero_add] at hs5;have K5 := zH ((hg5.block _ (zL K4.out) (fun e => by have := HG.out.1; injection e with e; omega)).trans K4.out)
 have HB5 := zH (zz0f HB4.out hg5 (by have := HG.out.1; omega) HB4.out.size)
 have S5 := zH hs5;have HG5 : Hid (G < w5.heap.size) := zL hs5;clear hs5 hg5 hG qa K4 HB4 S4;obtain ⟨w6, hw6⟩ : ∃ w6, w5.alloc (.cells #[.func (.func 145) #[.pointer (some ⟨G, 0, none⟩)] #[]] 197) = w6 := ⟨_, rfl⟩;have KA6 : ZB w6 w5.heap.size #[.func (.func 145) #[.pointer (some ⟨G, 0, none⟩)] #[]] 197 := by rw [← hw6]; exact zz02 _ _
 have K6 : ZB w6 w.heap.size #[vh, vs, vo, vr, b.n] 27 := by rw [← hw6]; exact zz04 K5.out _
 have S6 : Hid (SumAt w6 G (h1 % M3)) := by rw [← hw6]; exact zz04 S5.out _
 have HB6 : Hid (Below w.heap.size w w6) := by rw [← hw6]; exact zz01 HB5.out HB5.out.size _
 have HZ6 : Hid (w6.heap.size = w5.heap.size + 1) := (show _ = _ from by rw [← hw6]; simp)
 have HW6 := zH hw6;clear hw6;have hst := fun (a : Addr) (c d : Array Value) (wz : World) => run_store Tryz.prog wz a (.func (.func 145) c d) .plain rfl
 have a0 := zC K5.out;have l5 := zL K5.out
 gi_wp2_with (fail)
 rw [HW6.out];clear a0 l5;refine ⟨trivial, callsIn_wide.2 ((zzbd vh vs vo vr b.n acc _).mono ?_)⟩;rintro e w7 ⟨rfl, hw7⟩;have HC7 : Hid (Caps w w6.heap.size (w6.heap.size + 1) vh vs vo vr b.n acc w7) := by rw [← hw7]; exact ⟨zz04 (zz02 _ _) _, zz0e _ _ _ (by simp), zz01 (zz01 HB6.out HB6.out.size _) (by have := HB6.out.size; simp; omega) _⟩
 have KA7 : ZB w7 w5.heap.size #[.func (.func 145) #[.pointer (some ⟨G, 0, none⟩)] #[]] 197 := by rw [← hw7]; exact zz04 (zz04 KA6.out _) _
 have S7 : Hid (SumAt w7 G (h1 % M3)) := by rw [← hw7]; exact zz04 (zz04 S6.out _) _
 have HZ7 : Hid (w7.heap.size = w5.heap.size + 3) := (show _ = _ from by rw [← hw7]; have := HZ6.out; simp; omega)
 clear hw7 hst
 gi_wp2_with (fail)
 have hgb : Hid (w6.heap.size ≠ G ∧ w6.heap.size + 1 ≠ G) := (show _ ∧ _ from by have := HZ6.out; have := HG5.out; omega)
 have BO : Hid (BkAt w (.agg #[vh, vs, vo, vr, b.n]) b) := hb;refine wpIn_rangeFunc_ownH hro hn1 (gf := 182) (lb := #[.pointer (some ⟨w6.heap.size, 0, none⟩), .pointer (some ⟨w6.heap.size + 1, 0, none⟩)]) rfl trivial (enters_of Tryz.func182 zk rfl)
  (zz73 G w6.heap.size (w6.heap.size + 1) vh vs vo vr b acc w w7 hgb BO hs (zH HR.out.2.2.1) hi HP HC7) KpG.trans (KpG.put HC7.out.below.size) (Below.refl _ _) (fun _ => rfl)
  (fun pre W => Hid (SumAt W G ((h1 + sumQ (pre.map SP.val)) % M3)) ∧ ZB W w5.heap.size #[.func (.func 145) #[.pointer (some ⟨G, 0, none⟩)] #[]] 197 ∧ Hid (Below w.heap.size w W))
  (fun _ _ _ => False)
  (OwnFrom.and (zz2a _ _ _ _) (OwnFrom.and (zz2a _ _ _ _) (ownFrom_below (Nat.le_refl _) HC7.out.below.size)))
  (fun _ _ _ _ _ hs _ _ => hs)
  ⟨by show SumAt _ _ _; rw [show h1 + sumQ (([] : List SP).map SP.val) = h1 by simp [sumQ]]; exact S7.out, KA7.out, HC7.out.below⟩
  (fun x a' W => ∃ Bx, Hid (Bx < W.heap.size) ∧ ZB W Bx #[x.a, x.s, x.q] 80 ∧ a' = { tmps := #[.agg #[vh, vs, vo, vr, b.n], .int .i64 acc, .pointer (some ⟨w.heap.size, 0, none⟩), undef, .int .i64 0, .bool false, .pointer (some ⟨w3.heap.size, 0, none⟩), .bool F, .pointer (some ⟨G, 0, none⟩), .pointer (some ⟨w5.heap.size, 0, none⟩), .pointer (some ⟨Bx, 0, none⟩), .int .i64 x.p, .agg #[vh, vs, vo, vr, b.n], .bool true, .bool false, .tuple #[.agg #[h0, h1, h2, h3], .bool F], .agg #[vh, vs, vo, vr, b.n], .int .i64 acc, .tuple #[.agg #[h0, h1, h2, h3], .bool F], .agg #[h0, h1, h2, h3], .bool F, .pointer (some ⟨w3.heap.size, 1, none⟩), .int .i64 h1, .tuple #[], .func (.func 145) #[.pointer (some ⟨G, 0, none⟩)] #[], .agg #[vh, vs, vo, vr, b.n], .int .i64 acc, .func (.func 182) #[] #[.pointer (some ⟨w6.heap.size, 0, none⟩), .pointer (some ⟨w6.heap.size + 1, 0, none⟩)], .agg #[x.a, x.s, x.q], .int .i64 x.p, undef, undef, undef, undef, undef, undef, undef, undef], defers := [] })
  (fun x a' _ X Y row hs' hg hr => by
   exact zt42)
  ?assign ?body ?done ?stop
 case assign =>
  rintro l pre x W K ⟨i1, i2, i3⟩ hK;have hsz : w.heap.size ≤ W.heap.size := i3.out.size;unfold SP.enc
  gi_wp2_with (fail)
  exact hK _ _ ((KeepsOthers.alloc _ _).from _) (KpG.of_below hsz zBa) ⟨zz04 i1.out _, zz04 i2.out _, zz01 i3.out hsz _⟩ ⟨W.heap.size, by show _ < _; simp, zz02 _ _, rfl⟩
 case body =>
  rintro l pre x a' W hl ⟨r, hr⟩ ⟨i1, i2, i3⟩ ⟨Bx, hBx, bX, rfl⟩ hlt;have ca := zz00 i2.out 0 _ rfl;have cx := zz00 bX.out 2 _ rfl;have hlB := hBx.out;have hlA := zL i2.out;have qa := zH (zz0x G _ x.q x.p (zz26 _) x.hq x.hp W i1)
  gi_wp2_with (fail)
  refine ⟨trivial, CallsIn.inRound l (callsIn_wide.2 (qa.out.mono ?_))⟩;rintro e w8 ⟨rfl, hs8, hg8⟩;have hN := zH (show KeepsFrom w7.heap.size W w8 ∧ KpG w G W w8 ∧ (Hid (SumAt w8 G ((h1 + sumQ ((pre ++ [x]).map SP.val)) % M3)) ∧ ZB w8 w5.heap.size #[.func (.func 145) #[.pointer (some ⟨G, 0, none⟩)] #[]] 197 ∧ Hid (Below w.heap.size w w8)) from
   ⟨(KeepsOthers.of_grownBy hg8 (fun j o ej hj => by cases ej; rw [show W.heap[G]? = _ from i1.out] at hj; cases hj; rfl)).from _, KpG.of_grown i3.out.size (by have := HG.out.1; omega) hg8,
    by show SumAt _ _ _; rw [zz2n] at hs8; rw [List.map_append, zz99, show sumQ ([x].map SP.val) = x.q * x.p by simp [sumQ, SP.val], ← Int.add_assoc]; exact hs8,
    (hg8.block _ hlA (fun e => by have := HG5.out; injection e with e; omega)).trans i2.out, zz0f i3.out hg8 (by have := HG.out.1; omega) i3.out.size⟩)
  clear hs8 hg8 ca cx qa
  gi_wp2_with (fail)
  exact hN.out
 case done =>
  rintro D ys W hD hys ⟨i1, i2, i3⟩ hK;have HK := zH hK;have hlen : ys.length ≤ 1000000 := by
   exact zt95
  have hbd := zz6l ys;have hbd2 : -1569275433846670190958947355801916604025588861116008628224 ≤ h1 + sumQ (ys.map SP.val) ∧ h1 + sumQ (ys.map SP.val) ≤ 1569275433846670190958947355801916604025588861116008628224 := by
   have h4' : ys.length * 85070591730234615865843651857942052864 ≤ 1000000 * 85070591730234615865843651857942052864 := Nat.mul_le_mul_right _ hlen;have h5' := HI1.out;unfold I64 at h5';omega
  have qt := zH (zz32 G _ (zz26 (h1 + sumQ (ys.map SP.val))) W i1);rw [zz27 hbd2, hys] at qt;have HI3 := zH i3.out;obtain ⟨FP, hFP⟩ : ∃ FP, fitsP (h1 + sumQ (heldP b acc b.s)) = FP := ⟨_, rfl⟩;rw [hFP] at qt;have HFP := zH hFP;clear hFP;clear hK hbd hbd2 hlen hys i1 i2 i3
  gi_wp2_with (fail)
  refine ⟨trivial, callsIn_wide.2 (qt.out.mono ?_)⟩;rintro e w9 ⟨rfl, rfl⟩
  gi_wp2_with (fail)
  have hDw : w.heap.size ≤ D := Nat.le_trans HC7.out.below.size hD;refine ⟨by simp, .inl ⟨_, _, rfl, run_takeDeferred HK.out, ?_⟩⟩
  exact ⟨_, results_tmp2 rfl _ _ _, by rw [HFP.out]; rfl, HI3.out.trans (belowK_b (w := w) (Nat.le_refl _) _ D _ _ hDw HK.out rfl rfl)⟩
 case stop =>
  rintro D c pre W _ _ h _;exact h.elim
end
section
open Go Go.RowKit Go.Shelf Mon
attribute [local go_sem] Oper.semAt_some
def absQ : List (Int × Int) → Int
 | [] => 0
 | x :: t => (if x.1 < 0 then x.1 * -x.2 else x.1 * x.2) + absQ t
def sumL : List (List Int) → Int
 | [] => 0
 | r :: t => r.getD 4 0 * r.getD 5 0 + sumL t
theorem zza3 (l m : List (Int × Int)) : absQ (l ++ m) = absQ l + absQ m := by
 induction l with
 | nil => simp [absQ]
 | cons x t ih => simp only [List.cons_append, absQ, ih]; omega
theorem zz9a (l m : List (List Int)) : sumL (l ++ m) = sumL l + sumL m := by
 induction l with
 | nil => simp [sumL]
 | cons x t ih => simp only [List.cons_append, sumL, ih]; omega
theorem zz7b : ∀ l : List SP, (absQ (l.map SP.val)).natAbs ≤ l.length * 85070591730234615865843651857942052864
 | [] => by simp [absQ]
 | x :: t => by
  have h1 := zz7b t;have h2 := prodB x.hq x.hp;have h3 : (x.q * -x.p).natAbs = (x.q * x.p).natAbs := by rw [Int.mul_neg, Int.natAbs_neg]
  show ((if x.q < 0 then x.q * -x.p else x.q * x.p) + absQ (t.map SP.val)).natAbs ≤ (t.length + 1) * _
  split <;> omega
theorem zz6m : ∀ l : List OP, (sumL (l.map OP.val)).natAbs ≤ l.length * 85070591730234615865843651857942052864
 | [] => by simp [sumL]
 | x :: t => by
  have h1 := zz6m t;have h2 := prodB x.hl x.hp;show (x.l * x.p + sumL (t.map OP.val)).natAbs ≤ (t.length + 1) * _;omega
def needX (b : Bk) (acc qty price : Int) : Int := absQ (heldP b acc b.s) + sumL (opensP acc b.o) + qty * price
def needR (X rate : Int) : Int × Bool := if X < 0 ∨ rate < 0 ∨ 1000 < rate then (0, false) else fitsP (up100 (X * rate))
def needP (b : Bk) (acc qty price rate : Int) : Int × Bool := if b.mayB then needR (needX b acc qty price) rate else (0, false)
theorem zzaf {X r : Int} (hX : X.natAbs ≤ 4000000 * 85070591730234615865843651857942052864) : share (X % M3) r = needR X r := by
 unfold needR;by_cases h0 : X < 0
 ·rw [if_pos (.inl h0)]
  unfold share;rw [if_neg];have e1 : X % M3 = X + M3 := by unfold M3; omega
  rw [e1];unfold M3;omega
 ·by_cases hr : r < 0 ∨ 1000 < r
  ·rw [if_pos (.inr hr)]
   unfold share;rw [if_neg];omega
  ·rw [if_neg zw]
   have e1 : X % M3 = X := by unfold M3; omega
   have h1 : 0 ≤ X * r := Int.mul_nonneg zw zw;have h2 : X * r ≤ (4000000 * 85070591730234615865843651857942052864) * 1000 := Int.mul_le_mul zw zw zw zx;have e2 : (X * r) % M3 = X * r := by unfold M3; omega
   have e3 : (X * r + 99) % M3 = X * r + 99 := by unfold M3; omega
   unfold share;rw [e1, if_pos ⟨by omega, by omega, by omega⟩, e2, e3]
   unfold up100;by_cases h3 : (X * r + 99) / 100 ≤ 9223372036854775807
   ·rw [if_pos h3, zz8y zw]
   ·rw [if_neg h3, zz5z zw]
theorem own_def {β : Type} (B D : Nat) (hD : D < B) : OwnFrom B (fun (_ : β) W => Hid (W.heap[D]? = some (.deferred (some [])))) := fun s X Y row hs hg hr => by
 have h := hs.out;exact (hg.block D (zL h) (fun e => by have := (hr D e.symm).1; omega)).trans h
theorem zt22 {p : Prop} (h : p := by
 refine ⟨trivial, CallsIn.inRound l (callsIn_wide.2 (qa.out.mono ?_))⟩;rintro e w9 ⟨rfl, hs9, hg9⟩;have hN := zH (show KeepsFrom w7.heap.size W w9 ∧ KpG w G W w9 ∧ (Hid (SumAt w9 G ((absQ ((pre ++ [x]).map SP.val)) % M3)) ∧ ZB w9 (G + 1) #[.func (.func 145) #[.pointer (some ⟨G, 0, none⟩)] #[]] 197 ∧ ZB w9 w.heap.size #[vh, vs, vo, vr, b.n] 27 ∧ Hid (Below w.heap.size w w9)) from
  ⟨(KeepsOthers.of_grownBy hg9 (fun j o ej hj => by cases ej; rw [show W.heap[G]? = _ from i1.out] at hj; cases hj; rfl)).from _, KpG.of_grown i9.out.size (by have := HG.out; omega) hg9,
  by show SumAt _ _ _; rw [zz2n] at hs9; rw [List.map_append, zza3, show absQ ([x].map SP.val) = (if x.q < 0 then x.q * -x.p else x.q * x.p) by simp [absQ, SP.val], hv.out]; exact hs9,
  (hg9.block _ hlA (fun e => by injection e with e; omega)).trans i2.out, (hg9.block _ (zL i3.out) (fun e => by have := HG.out; injection e with e; omega)).trans i3.out, zz0f i9.out hg9 (by have := HG.out; omega) i9.out.size⟩)
 clear hs9 hg9 ca qa
 gi_wp2_with (fail)
 exact hN.out) : p := h
theorem zt84 {p : Prop} (h : p := by
 exact hK _ _ ((KeepsOthers.alloc _ _).from _) (KpG.of_below hsz zBa) ⟨zz04 i1.out _, zz04 i2.out _, zz04 i3.out _, zz01 i9.out hsz _⟩ ⟨W.heap.size, by show _ < _; simp, zz02 _ _, rfl⟩) : p := h
theorem Need_any (v : Value) (b : Bk) (acc qty price rate : Int) (w : World) (hb : Hid (BkAt w v b)) (hs : Hid b.Small) (hi : Hid b.I64s) (hq1 : Hid (I64 qty)) (hq2 : Hid (I64 price)) :
  Calls Tryz.prog 83 #[v, .int .i64 acc, .int .i64 qty, .int .i64 price, .int .i64 rate] w fun e w' => e = .returned (.tuple #[.int .i64 (needP b acc qty price rate).1, .bool (needP b acc qty price rate).2]) ∧ Below w.heap.size w w' := by
 obtain ⟨vh, vs, vo, vr, rfl, g1, g2, g3, g4⟩ := hb.out;have LR : Hid (∀ r ∈ b.r, r.length = 2) := (by obtain ⟨_, _, _, h, _⟩ := g4; exact h)
 clear g1 g2 g3 g4;have HB1 : Hid (Below w.heap.size w (w.alloc (.cells #[vh, vs, vo, vr, b.n] 27))) := zBa;have K1 : Hid ((w.alloc (.cells #[vh, vs, vo, vr, b.n] 27)).heap[w.heap.size]? = some (.cells #[vh, vs, vo, vr, b.n] 27 (0, 0))) := zz02 _ _;have B1 : Hid (BkAt (w.alloc (.cells #[vh, vs, vo, vr, b.n] 27)) (.agg #[vh, vs, vo, vr, b.n]) b) := hb.out.call HB1.out;have qm := zH (zz24 _ b _ B1 hs);cases hm : b.mayB with
 | false =>
  have he : needP b acc qty price rate = (0, false) := by unfold needP; rw [hm]; rfl
  rw [he];rw [hm] at qm;clear hm he;go_in;go_wp2_with fail;exact zt72
 | true =>
 have he : needP b acc qty price rate = needR (needX b acc qty price) rate := by unfold needP; rw [hm]; rfl
 rw [he];have HR := zH (zz3v hm);have HP : Hid (∀ sym, 0 ≤ priceOf b sym) := fun sym => zz4j hm LR.out sym
 rw [hm] at qm;clear hm he;refine (callsIn_wide (n := 3)).1 ?_;have hn1 : 1 ≤ 3 := by omega
 have hro : Fence.wide.round = none := rfl;refine callsIn_of_wp_marks Tryz.func83 rfl trivial ?_ hro;simp only [Tryz.ntmps83, List.size_toArray, List.length_cons, List.length_nil, Nat.reduceAdd, Nat.reduceSub, Array.replicate_succ, Array.replicate_zero, List.push_toArray, List.append_toArray, List.nil_append, List.cons_append]
 gi_wp2_with (fail)
 refine ⟨trivial, callsIn_wide.2 (qm.out.mono ?_)⟩;rintro e w2 ⟨rfl, hb2⟩;have K2 := zK K1 hb2;have HB2 := zB HB1 hb2;clear hb2 qm;obtain ⟨G, hG⟩ : ∃ G, w2.heap.size = G := ⟨_, rfl⟩;obtain ⟨w6, hw6⟩ : ∃ w6, (w2.alloc (.cells #[.int .u64 0, .int .u64 0, .int .u64 0] 196)).alloc (.cells #[.func (.func 145) #[.pointer (some ⟨G, 0, none⟩)] #[]] 197) = w6 := ⟨_, rfl⟩;have KA6 : ZB w6 (G + 1) #[.func (.func 145) #[.pointer (some ⟨G, 0, none⟩)] #[]] 197 := by rw [← hw6]; exact zz0e _ _ _ (by simp; omega)
 have K6 : ZB w6 w.heap.size #[vh, vs, vo, vr, b.n] 27 := by rw [← hw6]; exact zz04 (zz04 K2.out _) _
 have S6 : Hid (SumAt w6 G 0) := by rw [← hw6, ← hG]; exact zz04 (zz56 w2) _
 have HB6 : Hid (Below w.heap.size w w6) := by rw [← hw6]; exact zz01 (zz01 HB2.out HB2.out.size _) (by have := HB2.out.size; simp; omega) _
 have HZ6 : Hid (w6.heap.size = G + 2) := (show _ = _ from by rw [← hw6]; simp; omega)
 have HG : Hid (w.heap.size < G) := (show _ < _ from by have := (zL K2.out); omega)
 have HW6 := zH hw6;clear hw6;have hst := fun (a : Addr) (c d : Array Value) (wz : World) => run_store Tryz.prog wz a (.func (.func 145) c d) .plain rfl
 have a0 := zC K2.out;have l5 : w.heap.size < G := HG.out;have l6 : w.heap.size < G + 1 := by omega
 gi_wp2_with (fail)
 rw [HW6.out];clear a0 l5 l6 hG;refine ⟨trivial, callsIn_wide.2 ((zzbd vh vs vo vr b.n acc _).mono ?_)⟩;rintro e w7 ⟨rfl, hw7⟩;have HC7 : Hid (Caps w w6.heap.size (w6.heap.size + 1) vh vs vo vr b.n acc w7) := by rw [← hw7]; exact ⟨zz04 (zz02 _ _) _, zz0e _ _ _ (by simp), zz01 (zz01 HB6.out HB6.out.size _) (by have := HB6.out.size; simp; omega) _⟩
 have KA7 : ZB w7 (G + 1) #[.func (.func 145) #[.pointer (some ⟨G, 0, none⟩)] #[]] 197 := by rw [← hw7]; exact zz04 (zz04 KA6.out _) _
 have K7 : ZB w7 w.heap.size #[vh, vs, vo, vr, b.n] 27 := by rw [← hw7]; exact zz04 (zz04 K6.out _) _
 have S7 : Hid (SumAt w7 G 0) := by rw [← hw7]; exact zz04 (zz04 S6.out _) _
 have HZ7 : Hid (w7.heap.size = G + 4) := (show _ = _ from by rw [← hw7]; have := HZ6.out; simp; omega)
 clear hw7 hst
 gi_wp2_with (fail)
 have hgb : Hid (w6.heap.size ≠ G ∧ w6.heap.size + 1 ≠ G) := (show _ ∧ _ from by have := HZ6.out; omega)
 have BO : Hid (BkAt w (.agg #[vh, vs, vo, vr, b.n]) b) := hb;refine wpIn_rangeFunc_ownH hro hn1 (gf := 182) (lb := #[.pointer (some ⟨w6.heap.size, 0, none⟩), .pointer (some ⟨w6.heap.size + 1, 0, none⟩)]) rfl trivial (enters_of Tryz.func182 zk rfl)
  (zz73 G w6.heap.size (w6.heap.size + 1) vh vs vo vr b acc w w7 hgb BO hs (zH HR.out.2.2.1) hi HP HC7) KpG.trans (KpG.put HC7.out.below.size) (Below.refl _ _) (fun _ => rfl)
  (fun pre W => Hid (SumAt W G ((absQ (pre.map SP.val)) % M3)) ∧ ZB W (G + 1) #[.func (.func 145) #[.pointer (some ⟨G, 0, none⟩)] #[]] 197 ∧ ZB W w.heap.size #[vh, vs, vo, vr, b.n] 27 ∧ Hid (Below w.heap.size w W))
  (fun _ _ _ => False)
  (OwnFrom.and (zz2a _ _ _ _) (OwnFrom.and (zz2a _ _ _ _) (OwnFrom.and (zz2a _ _ _ _) (ownFrom_below (Nat.le_refl _) HC7.out.below.size))))
  (fun _ _ _ _ _ hs _ _ => hs)
  ⟨S7.out, KA7.out, K7.out, HC7.out.below⟩
  (fun x a' W => ∃ Bx, Hid (Bx < W.heap.size) ∧ ZB W Bx #[x.a, x.s, x.q] 80 ∧ a' = { tmps := #[.agg #[vh, vs, vo, vr, b.n], .int .i64 acc, .int .i64 qty, .int .i64 price, .int .i64 rate, .pointer (some ⟨w.heap.size, 0, none⟩), undef, undef, undef, undef, .int .i64 0, .bool false, .pointer (some ⟨G, 0, none⟩), .pointer (some ⟨G + 1, 0, none⟩), .pointer (some ⟨Bx, 0, none⟩), .int .i64 x.p, undef, .agg #[vh, vs, vo, vr, b.n], .bool true, .bool false, .func (.func 145) #[.pointer (some ⟨G, 0, none⟩)] #[], .agg #[vh, vs, vo, vr, b.n], .int .i64 acc, .func (.func 182) #[] #[.pointer (some ⟨w6.heap.size, 0, none⟩), .pointer (some ⟨w6.heap.size + 1, 0, none⟩)], .agg #[x.a, x.s, x.q], .int .i64 x.p, undef, undef, undef, undef, undef, undef, undef, undef, undef, undef, undef, undef, undef, undef, undef, undef, undef, undef, undef, undef, undef, undef, undef, undef, undef, undef, undef, undef, undef, undef, undef, undef], defers := [] })
  (fun x a' _ X Y row hs' hg hr => by
   exact zt42)
  ?assign ?body ?done ?stop
 case assign =>
  rintro l pre x W K ⟨i1, i2, i3, i9⟩ hK;have hsz : w.heap.size ≤ W.heap.size := i9.out.size;unfold SP.enc
  gi_wp2_with (fail)
  exact zt84
 case body =>
  rintro l pre x a' W hl ⟨r, hr⟩ ⟨i1, i2, i3, i9⟩ ⟨Bx, hBx, bX, rfl⟩ hlt;have ca := zz00 i2.out 0 _ rfl;have cx := zz00 bX.out 2 _ rfl;have hlB := hBx.out;have hlA := zL i2.out;have hp0 := x.h0;have hp1 : x.p ≤ 9223372036854775807 := by have := x.hp; unfold I64 at this; omega
  by_cases hq : x.q < 0
  ·have tq : decide (x.q < 0) = true := decide_eq_true hq
   have hnp : I64 (-x.p) := by unfold I64; omega
   have qa := zH (zz0x G _ x.q (-x.p) (zz26 _) x.hq hnp W i1);have hv : Hid ((if x.q < 0 then x.q * -x.p else x.q * x.p) = x.q * -x.p) := if_pos hq
   clear hq hnp
   gi_wp2_with (fail)
   exact zt22
  ·have tq : decide (x.q < 0) = false := decide_eq_false hq
   have qa := zH (zz0x G _ x.q x.p (zz26 _) x.hq x.hp W i1);have hv : Hid ((if x.q < 0 then x.q * -x.p else x.q * x.p) = x.q * x.p) := if_neg hq
   clear hq
   gi_wp2_with (fail)
   exact zt22
 case stop =>
  rintro D c pre W _ _ h _;exact h.elim
 case done =>
  rintro D1 ys W hD1 hys ⟨i1, i2, i3, i9⟩ hK1;have HD1 := zH hK1;have hlen : Hid (ys.length ≤ 1000000) := (show _ ≤ _ from by
   exact zt95)
  have hbd := zz7b ys;rw [hys] at i1 hbd;have HBD := zH hbd;have HLD1 : Hid (w7.heap.size ≤ D1) := hD1;clear hK1 hys hbd hD1;have a0 := zC i3.out
  gi_wp2_with (fail)
  clear a0;refine ⟨trivial, callsIn_wide.2 ((zz8m vh vs vo vr b.n acc _).mono ?_)⟩;rintro e wy ⟨rfl, hwy⟩;obtain ⟨w8, rfl⟩ : ∃ w8 : World, w8 = W := ⟨_, rfl⟩;have HCy : Hid (Caps w w8.heap.size (w8.heap.size + 1) vh vs vo vr b.n acc wy) := by rw [← hwy]; exact ⟨zz04 (zz02 _ _) _, zz0e _ _ _ (by simp), zz01 (zz01 i9.out i9.out.size _) (by have := i9.out.size; simp; omega) _⟩
  have KAy : ZB wy (G + 1) #[.func (.func 145) #[.pointer (some ⟨G, 0, none⟩)] #[]] 197 := by rw [← hwy]; exact zz04 (zz04 i2.out _) _
  have Ky : ZB wy w.heap.size #[vh, vs, vo, vr, b.n] 27 := by rw [← hwy]; exact zz04 (zz04 i3.out _) _
  have Sy : Hid (SumAt wy G (absQ (heldP b acc b.s) % M3)) := by rw [← hwy]; exact zz04 (zz04 i1.out _) _
  have Dy : Hid (wy.heap[D1]? = some (.deferred (some []))) := by rw [← hwy]; exact zz04 (zz04 HD1.out _) _
  have hgy : Hid (w8.heap.size ≠ G ∧ w8.heap.size + 1 ≠ G) := (show _ ∧ _ from by have := (zL i2.out); omega)
  have hDlt : D1 < wy.heap.size := zL Dy.out;have HDLT := zH hDlt;clear hwy i1 i2 i3 hDlt
  gi_wp2_with (fail)
  refine wpIn_rangeFunc_ownH hro hn1 (gf := 181) (lb := #[.pointer (some ⟨w8.heap.size, 0, none⟩), .pointer (some ⟨w8.heap.size + 1, 0, none⟩)]) rfl trivial (enters_of Tryz.func181 zk rfl)
   (zz5a G w8.heap.size (w8.heap.size + 1) vh vs vo vr b acc w wy hgy BO hs hi HCy) KpG.trans (KpG.put HCy.out.below.size) (Below.refl _ _) (fun _ => rfl)
   (fun pre W => Hid (SumAt W G ((absQ (heldP b acc b.s) + sumL (pre.map OP.val)) % M3)) ∧ ZB W (G + 1) #[.func (.func 145) #[.pointer (some ⟨G, 0, none⟩)] #[]] 197 ∧ ZB W w.heap.size #[vh, vs, vo, vr, b.n] 27 ∧ Hid (W.heap[D1]? = some (.deferred (some []))) ∧ Hid (Below w.heap.size w W))
   (fun _ _ _ => False)
   (OwnFrom.and (zz2a _ _ _ _) (OwnFrom.and (zz2a _ _ _ _) (OwnFrom.and (zz2a _ _ _ _) (OwnFrom.and (own_def _ _ HDLT.out) (ownFrom_below (Nat.le_refl _) HCy.out.below.size)))))
   (fun _ _ _ _ _ hs _ _ => hs)
   ⟨by show SumAt _ _ _; rw [show absQ (heldP b acc b.s) + sumL (([] : List OP).map OP.val) = absQ (heldP b acc b.s) by simp [sumL]]; exact Sy.out, KAy.out, Ky.out, Dy.out, HCy.out.below⟩
   (fun x a' W => ∃ Bx, Hid (Bx < W.heap.size) ∧ ZB W Bx #[x.i, x.a, x.s, x.d, x.l, x.p] 82 ∧ a' = { tmps := #[.agg #[vh, vs, vo, vr, b.n], .int .i64 acc, .int .i64 qty, .int .i64 price, .int .i64 rate, .pointer (some ⟨w.heap.size, 0, none⟩), undef, undef, undef, undef, .int .i64 0, .bool false, .pointer (some ⟨G, 0, none⟩), .pointer (some ⟨G + 1, 0, none⟩), undef, undef, .pointer (some ⟨Bx, 0, none⟩), .agg #[vh, vs, vo, vr, b.n], .bool true, .bool false, .func (.func 145) #[.pointer (some ⟨G, 0, none⟩)] #[], .agg #[vh, vs, vo, vr, b.n], .int .i64 acc, .func (.func 182) #[] #[.pointer (some ⟨w6.heap.size, 0, none⟩), .pointer (some ⟨w6.heap.size + 1, 0, none⟩)], undef, undef, undef, undef, undef, undef, undef, undef, undef, undef, undef, undef, undef, undef, undef, undef, .agg #[vh, vs, vo, vr, b.n], .int .i64 acc, .func (.func 181) #[] #[.pointer (some ⟨w8.heap.size, 0, none⟩), .pointer (some ⟨w8.heap.size + 1, 0, none⟩)], .agg #[x.i, x.a, x.s, x.d, x.l, x.p], undef, undef, undef, undef, undef, undef, undef, undef, undef, undef, undef, undef, undef, undef], defers := [] })
   (fun x a' _ X Y row hs' hg hr => by
    exact zt42)
   ?assign2 ?body2 ?done2 ?stop2
  case assign2 =>
   rintro l pre x W K ⟨i1, i2, i3, i4, i9⟩ hK;have hsz : w.heap.size ≤ W.heap.size := i9.out.size;unfold OP.enc
   gi_wp2_with (fail)
   exact hK _ _ ((KeepsOthers.alloc _ _).from _) (KpG.of_below hsz zBa) ⟨zz04 i1.out _, zz04 i2.out _, zz04 i3.out _, zz04 i4.out _, zz01 i9.out hsz _⟩ ⟨W.heap.size, by show _ < _; simp, zz02 _ _, rfl⟩
  case body2 =>
   rintro l pre x a' W hl ⟨r, hr⟩ ⟨i1, i2, i3, i4, i9⟩ ⟨Bx, hBx, bX, rfl⟩ hlt;have ca := zz00 i2.out 0 _ rfl;have cx := zC bX.out;have hlB := hBx.out;have hlA := zL i2.out;have qa := zH (zz0x G _ x.l x.p (zz26 _) x.hl x.hp W i1)
   gi_wp2_with (fail)
   refine ⟨trivial, CallsIn.inRound l (callsIn_wide.2 (qa.out.mono ?_))⟩;rintro e w9 ⟨rfl, hs9, hg9⟩;have hN := zH (show KeepsFrom wy.heap.size W w9 ∧ KpG w G W w9 ∧ (Hid (SumAt w9 G ((absQ (heldP b acc b.s) + sumL ((pre ++ [x]).map OP.val)) % M3)) ∧ ZB w9 (G + 1) #[.func (.func 145) #[.pointer (some ⟨G, 0, none⟩)] #[]] 197 ∧ ZB w9 w.heap.size #[vh, vs, vo, vr, b.n] 27 ∧ Hid (w9.heap[D1]? = some (.deferred (some []))) ∧ Hid (Below w.heap.size w w9)) from
    ⟨(KeepsOthers.of_grownBy hg9 (fun j o ej hj => by cases ej; rw [show W.heap[G]? = _ from i1.out] at hj; cases hj; rfl)).from _, KpG.of_grown i9.out.size (by have := HG.out; omega) hg9,
     by show SumAt _ _ _; rw [zz2n] at hs9; rw [List.map_append, zz9a, show sumL ([x].map OP.val) = x.l * x.p by simp [sumL, OP.val], ← Int.add_assoc]; exact hs9,
     (hg9.block _ hlA (fun e => by injection e with e; omega)).trans i2.out, (hg9.block _ (zL i3.out) (fun e => by have := HG.out; injection e with e; omega)).trans i3.out, (hg9.block _ (zL i4.out) (fun e => by injection e with e; subst e; have h := i4.out; rw [show W.heap[D1]? = _ from i1.out] at h; cases h)).trans i4.out, zz0f i9.out hg9 (by have := HG.out; omega) i9.out.size⟩)
   clear hs9 hg9 ca qa
   gi_wp2_with (fail)
   exact hN.out
  case stop2 =>
   rintro D c pre W _ _ h _;exact h.elim
  case done2 =>
   rintro D2 zs W hD2 hzs ⟨i1, i2, i3, i4, i9⟩ hK2;have HD2 := zH hK2;have hbd2 := zz6m zs;have hlen2 : zs.length ≤ 1000000 := by
    have h1' : zs.length = (opensP acc b.o).length := by rw [← hzs]; simp
    have h2' := zz4h acc b.o;have h3' := hs.out;unfold Bk.Small at h3';omega
   rw [hzs] at i1 hbd2;have HX : Hid ((needX b acc qty price).natAbs ≤ 4000000 * 85070591730234615865843651857942052864) := (show _ ≤ _ from by
    have h1' := HBD.out;have h2' := prodB hq1.out hq2.out;have h3' := hlen.out;have h4' : ys.length * 85070591730234615865843651857942052864 ≤ 1000000 * 85070591730234615865843651857942052864 := Nat.mul_le_mul_right _ h3';have h5' : zs.length * 85070591730234615865843651857942052864 ≤ 1000000 * 85070591730234615865843651857942052864 := Nat.mul_le_mul_right _ hlen2;unfold needX;omega)
   have HLD2 : Hid (wy.heap.size ≤ D2) := hD2;have qa := zH (zz0x G _ qty price (zz26 _) hq1.out hq2.out W i1);have ca := zz00 i2.out 0 _ rfl;have HI9 := i9;have HI4 := i4;have HS1 := i1;clear hK2 hzs hbd2 hlen2 hD2 i1 i3 i4 i9
   gi_wp2_with (fail)
   refine ⟨trivial, callsIn_wide.2 (qa.out.mono ?_)⟩;rintro e w9 ⟨rfl, hs9, hg9⟩;rw [zz2n] at hs9;have S9 : Hid (SumAt w9 G (needX b acc qty price % M3)) := hs9;have HB9 := zH (zz0f HI9.out hg9 (by have := HG.out; omega) HI9.out.size)
   have hcell : ∀ (D : Nat) (o : Obj), W.heap[D]? = some o → o.isCells = false → w9.heap[D]? = some o := fun D o ho hc => (hg9.block _ (zL ho) (fun e => by injection e with e; subst e; rw [show W.heap[D]? = _ from HS1.out] at ho; cases ho; cases hc)).trans ho
   have E1 := zH (hcell _ _ HI4.out rfl);have E2 := zH (hcell _ _ HD2.out rfl);clear hs9 hg9 hcell ca qa;have qs := zH (Share_any G _ rate (zz26 _) w9 S9);rw [zzaf HX.out] at qs;obtain ⟨FP, hFP⟩ : ∃ FP, needR (needX b acc qty price) rate = FP := ⟨_, rfl⟩;rw [hFP] at qs;have HFP := zH hFP;clear hFP
   gi_wp2_with (fail)
   refine ⟨trivial, callsIn_wide.2 (qs.out.mono ?_)⟩;rintro e wa ⟨rfl, hba⟩;have HBa := zB HB9 hba;have E1a := zK E1 hba;have E2a := zK E2 hba;clear hba qs
   gi_wp2_with (fail)
   have hDD : D1 ≠ D2 := by have := HLD2.out; have := HDLT.out; omega
   have hD1w : w.heap.size ≤ D1 := Nat.le_trans HC7.out.below.size HLD1.out;have hD2w : w.heap.size ≤ D2 := Nat.le_trans HCy.out.below.size HLD2.out;have E1b : (wa.putObj D2 (.deferred none)).heap[D1]? = some (.deferred (some [])) := (World.putObj_heap_other hDD).trans E1a.out;refine ⟨by simp, .inl ⟨_, _, rfl, run_takeDeferred E2a.out, ?_⟩⟩
   refine ⟨by simp, .inl ⟨_, _, rfl, run_takeDeferred E1b, ?_⟩⟩
   exact ⟨_, results_tmp2 rfl _ _ _, by rw [HFP.out]; rfl, (HBa.out.trans (belowK_b (w := w) (Nat.le_refl _) _ D2 _ _ hD2w E2a.out rfl rfl)).trans (belowK_b (w := w) (Nat.le_refl _) _ D1 _ _ hD1w E1b rfl rfl)⟩
end
end
section
open Go Go.RowKit Bg Mon
theorem small40 {X : Int} (h : X.natAbs ≤ 1569275433846670190958947355801916604025588861116008628224) : X.natAbs < 10000 ^ 40 := by
 have : (10000 : Nat) ^ 40 = 10000 ^ 20 * 10000 ^ 20 := by rw [← Nat.pow_add]
 have h2 : (10000 : Nat) ^ 20 = 100000000000000000000000000000000000000000000000000000000000000000000000000000000 := by decide
 rw [this, h2];omega
end
section
open Go Go.RowKit


end
end Go.Proofs.YtajogedbacpohaaGreatDoor
