/- Part 23 of what the claim rests on. -/
import Derived.Test.YtajogedbacpohaaGreatDoorR00
import Derived.Test.YtajogedbacpohaaGreatDoorR01
import Derived.Test.YtajogedbacpohaaGreatDoorR14
import Derived.Test.YtajogedbacpohaaGreatDoorR15
import Derived.Test.YtajogedbacpohaaGreatDoorR16
import Derived.Test.YtajogedbacpohaaGreatDoorR17
import Derived.Test.YtajogedbacpohaaGreatDoorR18
import Derived.Test.YtajogedbacpohaaGreatDoorR20
import Derived.Test.YtajogedbacpohaaGreatDoorR21
import Derived.IntWalk
import Derived.Laws.AppendOwnNone
import Derived.Laws.Cover1
import Derived.LoopIn
import Derived.LoopNIn
import Derived.Maps.AppendAt
import Derived.OrdersIn
import Derived.OwnWalkIn
import Derived.RangeFuncCalls
import Derived.Shelf.Abstract
import Derived.SizedLaws
import Derived.TacticsInMore
set_option linter.unusedVariables false
set_option linter.unusedSimpArgs false
set_option maxRecDepth 1000000
set_option maxHeartbeats 32000000
namespace Go.Proofs.YtajogedbacpohaaGreatDoor
section
open Go Go.RowKit
def Vb (a w : World) (l : Bl) (V : Value) (L : List Stp) (u0 u : Value) (b0 nb : Bk) : Prop :=
 En a w l ∧ (∃ B, StepsOwn w B V L) ∧ BkAt a u0 b0 ∧ BkAt w u nb ∧ ∃ B, (a.heap.size ≤ B ∧ Kin B u0 u) ∧ (∀ x ∈ l, x.1 < B) ∧ B ≤ w.heap.size
theorem Kin.refl {B : Nat} {a : World} {u : Value} {b : Bk} (h : BkAt a u b) : Kin B u u := by
 obtain ⟨_, _, _, _, rfl, _⟩ := h;exact ⟨_, _, _, _, _, _, _, _, _, _, rfl, rfl, .inl rfl, .inl rfl, .inl rfl, .inl rfl⟩
theorem Kin1.mono {B B' : Nat} {a b : Value} (h : Kin1 B a b) (hB : B' ≤ B) : Kin1 B' a b := h.imp id fun h q hq => Nat.le_trans hB (h q hq)
theorem Kin.count {B B' : Nat} {u x1 x2 x3 x4 m : Value} (h : Kin B u (.agg #[x1, x2, x3, x4, m])) (hB : B' ≤ B) (m' : Value) : Kin B' u (.agg #[x1, x2, x3, x4, m']) := by
 obtain ⟨a0, a1, a2, a3, n, b0, b1, b2, b3, y, rfl, e, k0, k1, k2, k3⟩ := h;injection e with e
 simp only [Array.mk.injEq, List.cons.injEq, and_true] at e;obtain ⟨rfl, rfl, rfl, rfl, rfl⟩ := e;exact ⟨a0, a1, a2, a3, n, _, _, _, _, m', rfl, rfl, k0.mono hB, k1.mono hB, k2.mono hB, k3.mono hB⟩
section
variable {a w w' : World} {l m : Bl} {V u0 u u' : Value} {L : List Stp} {b0 nb nb' : Bk}
theorem zV0 {B : Nat} (K : Hid (En a w l)) (h : StepsOwn w B V L) (hB : Hid (BkAt a u0 b0)) : Hid (Vb a w l V L u0 u0 b0 b0) :=
 ⟨K.out, ⟨_, h⟩, hB.out, hB.out.call K.out.1, _, ⟨K.out.1.size, Kin.refl hB.out⟩, K.out.2.1.lt, Nat.le_refl _⟩
theorem zVk (K : Hid (Vb a w l V L u0 u b0 nb)) (hb : Below w.heap.size w w') : Hid (Vb a w' l V L u0 u b0 nb) := by
 obtain ⟨h1, ⟨B, h2⟩, h3, h4, B', h5, h6, h7⟩ := K.out;exact ⟨zEk h1 hb, ⟨B, h2.kept hb⟩, h3, h4.call hb, B', h5, h6, Nat.le_trans h7 hb.size⟩
theorem zVa {c : Array Value} {t : TypeId} (h : w.alloc (.cells c t) = w') (K : Hid (Vb a w l V L u0 u0 b0 b0)) : Hid (Vb a w' ((w.heap.size, c, t) :: l) V L u0 u0 b0 b0) := by
 obtain ⟨h1, ⟨B, h2⟩, h3, h4, B', h5, h6, h7⟩ := K.out;have hb : Below w.heap.size w w' := h ▸ zBa;exact zV0 (zEa h h1) (h2.kept hb) h3
theorem zVa2 {c c2 : Array Value} {t t2 : TypeId} (h : (w.alloc (.cells c t)).alloc (.cells c2 t2) = w') (K : Hid (Vb a w l V L u0 u0 b0 b0)) : Hid (Vb a w' ((w.heap.size + 1, c2, t2) :: (w.heap.size, c, t) :: l) V L u0 u0 b0 b0) := by
 have := zVa h (zVa rfl K);simpa using this
theorem zVs (K : Hid (Vb a w l V L u0 u b0 nb)) (hb : Below w.heap.size w w') (hO : BkAt w' u' nb') (hK : Kin w.heap.size u u') : Hid (Vb a w' l V L u0 u' b0 nb') := by
 obtain ⟨h1, ⟨B, h2⟩, h3, h4, B', h5, h6, h7⟩ := K.out;exact ⟨zEk h1 hb, ⟨B, h2.kept hb⟩, h3, hO, B', ⟨h5.1, h5.2.trans hK h7⟩, h6, Nat.le_trans h7 hb.size⟩
theorem zVp {g o : Nat} {c : Array Value} {t : TypeId} {vs : List Value} (E : putC w g o vs = w') (K : Hid (Vb a w ((g, c, t) :: l) V L u0 u b0 nb)) (ht : t ≠ 65 := by decide) : Hid (Vb a w' ((g, putA c o vs, t) :: l) V L u0 u b0 nb) := by
 obtain ⟨h1, ⟨B, h2⟩, h3, h4, B', h5, h6, h7⟩ := K.out;refine ⟨zEp E h1, ⟨B, E ▸ zz0q ht h1.2.1.1.2 h2⟩, h3, E ▸ BkAt.putKin h5.2 h4 h3 h1.2.1.1.1 (h6 _ (.head _)) o vs, B', h5, ?_, by rw [← E, zz36]; exact h7⟩
 intro x hx;rcases List.mem_cons.1 hx with e | hx
 ·rw [e]; exact h6 (g, c, t) (.head _)
 ·exact h6 _ (.tail _ hx)
theorem zVe (K : Hid (Vb a w l V L u0 u b0 nb)) : Hid (En a w l) := K.out.1
theorem zVc (K : Hid (Vb a w l V L u0 u b0 nb)) : Oz w l := zEc K.out.1
theorem zVx {g : Nat} {c : Array Value} {t : TypeId} (K : Hid (Vb a w ((g, c, t) :: l) V L u0 u b0 nb)) : Oz w ((g, c, t) :: l) ∧ Nz g l := zEx K.out.1
theorem zVb (K : Hid (Vb a w l V L u0 u b0 nb)) : Hid (BkAt w u0 b0) := K.out.2.2.1.call K.out.1.1
theorem zVu (K : Hid (Vb a w l V L u0 u b0 nb)) : Hid (BkAt w u nb) := K.out.2.2.2.1
theorem zVt (K : Hid (Vb a w l V L u0 u b0 nb)) : StepsAt w V L := by
 obtain ⟨h1, ⟨B, h2⟩, h3⟩ := K.out;exact h2.at
theorem zVm (K : Hid (Vb a w l V L u0 u b0 nb)) (h : l.Perm m) : Hid (Vb a w m V L u0 u b0 nb) := by
 obtain ⟨h1, h2, h3, h4, B', h5, h6, h7⟩ := K.out;exact ⟨zEm h1 h, h2, h3, h4, B', h5, fun x hx => h6 x (h.mem_iff.2 hx), h7⟩
variable {x y z s t : Nat × Array Value × TypeId}
theorem zVq (K : Hid (Vb a w (x :: y :: l) V L u0 u b0 nb)) : Hid (Vb a w (y :: x :: l) V L u0 u b0 nb) := zVm K (List.Perm.swap _ _ _)
theorem zVw (K : Hid (Vb a w (x :: y :: z :: s :: l) V L u0 u b0 nb)) : Hid (Vb a w (s :: x :: y :: z :: l) V L u0 u b0 nb) := zVm K (List.perm_middle (l₁ := [x, y, z]))
theorem zVd (K : Hid (Vb a w (x :: l) V L u0 u b0 nb)) : Hid (Vb a w l V L u0 u b0 nb) := by
 obtain ⟨h1, h2, h3, h4, B', h5, h6, h7⟩ := K.out;exact ⟨⟨h1.1, h1.2.1.2, (List.pairwise_cons.1 h1.2.2).2⟩, h2, h3, h4, B', h5, fun x hx => h6 x (.tail _ hx), h7⟩
theorem zVp5 {g : Nat} {a0 a1 a2 a3 a4 b1 b2 b3 b4 b5 : Value} {t : TypeId} (h : ((((w.setCell ⟨g, 0, none⟩ b1).setCell ⟨g, 1, none⟩ b2).setCell ⟨g, 2, none⟩ b3).setCell ⟨g, 3, none⟩ b4).setCell ⟨g, 4, none⟩ b5 = w') (K : Hid (Vb a w ((g, #[a0, a1, a2, a3, a4], t) :: l) V L u0 u b0 nb)) (ht : t ≠ 65 := by decide) : Hid (Vb a w' ((g, #[b1, b2, b3, b4, b5], t) :: l) V L u0 u b0 nb) := by
 have E : putC w g 0 [b1, b2, b3, b4, b5] = w' := h;have J : putA #[a0, a1, a2, a3, a4] 0 [b1, b2, b3, b4, b5] = #[b1, b2, b3, b4, b5] := rfl;exact J ▸ zVp E K ht
theorem zVp2 {g : Nat} {a0 a1 b1 b2 : Value} {t : TypeId} (h : (w.setCell ⟨g, 0, none⟩ b1).setCell ⟨g, 1, none⟩ b2 = w') (K : Hid (Vb a w ((g, #[a0, a1], t) :: l) V L u0 u b0 nb)) (ht : t ≠ 65 := by decide) : Hid (Vb a w' ((g, #[b1, b2], t) :: l) V L u0 u b0 nb) := by
 have E : putC w g 0 [b1, b2] = w' := h;have J : putA #[a0, a1] 0 [b1, b2] = #[b1, b2] := rfl;exact J ▸ zVp E K ht
theorem zVn {g : Nat} {a0 a1 a2 a3 a4 b5 : Value} {t : TypeId} (h : w.setCell ⟨g, 4, none⟩ b5 = w') (K : Hid (Vb a w ((g, #[a0, a1, a2, a3, a4], t) :: l) V L u0 u b0 nb)) (ht : t ≠ 65 := by decide) : Hid (Vb a w' ((g, #[a0, a1, a2, a3, b5], t) :: l) V L u0 u b0 nb) := by
 have E : putC w g 4 [b5] = w' := h;have J : putA #[a0, a1, a2, a3, a4] 4 [b5] = #[a0, a1, a2, a3, b5] := rfl;exact J ▸ zVp E K ht
theorem zVo {g : Nat} {a0 a1 a2 a3 a4 a5 b5 : Value} {t : TypeId} (h : w.setCell ⟨g, 4, none⟩ b5 = w') (K : Hid (Vb a w ((g, #[a0, a1, a2, a3, a4, a5], t) :: l) V L u0 u b0 nb)) (ht : t ≠ 65 := by decide) : Hid (Vb a w' ((g, #[a0, a1, a2, a3, b5, a5], t) :: l) V L u0 u b0 nb) := by
 have E : putC w g 4 [b5] = w' := h;have J : putA #[a0, a1, a2, a3, a4, a5] 4 [b5] = #[a0, a1, a2, a3, b5, a5] := rfl;exact J ▸ zVp E K ht
theorem zVh {g : Nat} {a0 a1 a2 a3 b2 b3 : Value} {t : TypeId} (h : (w.setCell ⟨g, 2, none⟩ b2).setCell ⟨g, 3, none⟩ b3 = w') (K : Hid (Vb a w ((g, #[a0, a1, a2, a3], t) :: l) V L u0 u b0 nb)) (ht : t ≠ 65 := by decide) : Hid (Vb a w' ((g, #[a0, a1, b2, b3], t) :: l) V L u0 u b0 nb) := by
 have E : putC w g 2 [b2, b3] = w' := h;have J : putA #[a0, a1, a2, a3] 2 [b2, b3] = #[a0, a1, b2, b3] := rfl;exact J ▸ zVp E K ht
theorem zVp51 {g p : Nat} {a0 a1 a2 a3 a4 b1 b2 b3 b4 b5 c0 c1 c2 c3 c4 c5 d : Value} {t t2 : TypeId} (h : (((((w.setCell ⟨g, 0, none⟩ b1).setCell ⟨g, 1, none⟩ b2).setCell ⟨g, 2, none⟩ b3).setCell ⟨g, 3, none⟩ b4).setCell ⟨g, 4, none⟩ b5).setCell ⟨p, 4, none⟩ d = w') (K : Hid (Vb a w ((g, #[a0, a1, a2, a3, a4], t) :: (p, #[c0, c1, c2, c3, c4, c5], t2) :: l) V L u0 u b0 nb)) (ht : t ≠ 65 := by decide) (ht2 : t2 ≠ 65 := by decide) : Hid (Vb a w' ((g, #[b1, b2, b3, b4, b5], t) :: (p, #[c0, c1, c2, c3, d, c5], t2) :: l) V L u0 u b0 nb) := zVq (zVo h (zVq (zVp5 rfl K ht)) ht2)
theorem zVf {g : Nat} {c : Array Value} {t : TypeId} (K : Hid (Vb a w ((g, c, t) :: l) V L u0 u b0 nb)) : (∀ i, w.cell? ⟨g, i, none⟩ = c[i]?) ∧ (∀ i, w.frozen? ⟨g, i, none⟩ = false) := ⟨(zVc K).1, (zVc K).2.1⟩
theorem zVg {g p : Nat} {c d : Array Value} {t r : TypeId} (K : Hid (Vb a w ((g, c, t) :: (p, d, r) :: l) V L u0 u b0 nb)) : w.heap[g]? = some (.cells c t (0, 0)) ∧ w.heap[p]? = some (.cells d r (0, 0)) := ⟨K.out.1.2.1.1.2, K.out.1.2.1.2.1.2⟩
theorem zVp6 {g : Nat} {a0 a1 a2 a3 a4 b1 b2 b3 b4 b5 b6 : Value} {t : TypeId} (h : (((((w.setCell ⟨g, 0, none⟩ b1).setCell ⟨g, 1, none⟩ b2).setCell ⟨g, 2, none⟩ b3).setCell ⟨g, 3, none⟩ b4).setCell ⟨g, 4, none⟩ b5).setCell ⟨g, 4, none⟩ b6 = w') (K : Hid (Vb a w ((g, #[a0, a1, a2, a3, a4], t) :: l) V L u0 u b0 nb)) (ht : t ≠ 65 := by decide) : Hid (Vb a w' ((g, #[b1, b2, b3, b4, b6], t) :: l) V L u0 u b0 nb) := zVn h (zVp5 rfl K ht) ht
theorem zVK {x1 x2 x3 x4 y1 : Value} (K : Hid (Vb a w l V L u0 (.agg #[x1, x2, x3, x4, y1]) b0 nb)) (m' : Value) : Kin a.heap.size u0 (.agg #[x1, x2, x3, x4, m']) := by
 obtain ⟨_, _, _, _, B, h, _⟩ := K.out;exact h.2.count h.1 _
theorem zVy (K : Hid (Vb a w (x :: y :: l) V L u0 u b0 nb)) : Hid (Bz a.heap.size w [x, y]) := ⟨K.out.1.2.1.1, K.out.1.2.1.2.1, trivial⟩
theorem zVz {g p : Nat} {c d : Array Value} {t r : TypeId} (K : Hid (Vb a w ((g, c, t) :: (p, d, r) :: l) V L u0 u b0 nb)) : Oz w ((g, c, t) :: (p, d, r) :: l) ∧ Nz g ((p, d, r) :: l) ∧ Nz p l := ⟨zVc K, (zVx K).2, (zVx (zVd K)).2⟩
end
theorem doneB_no {b : Bk} {e : Ev} {rate : Int} (h : (allS b e rate).all (·.holds) = false) : doneB b e rate = b := by
 unfold doneB;rw [h]
 rfl
theorem zz5x {b : Bk} {e : Ev} {rate : Int} (h : (allS b e rate).all (·.holds) = true) : doneB b e rate = newB b e := by
 unfold doneB;rw [h]
 rfl
theorem BkAt.count {w : World} {a1 a2 a3 a4 x : Value} {b : Bk} (h : BkAt w (.agg #[a1, a2, a3, a4, x]) b) (m : Int) : BkAt w (.agg #[a1, a2, a3, a4, m]) { b with n := m } := by
 exact zt84
theorem BkAt.forms {w : World} {v : Value} {b : Bk} (h : BkAt w v b) : ∃ A1 c1 A2 c2 A3 c3 A4 c4, v = .agg (BF A1 c1 A2 c2 A3 c3 A4 c4 b b.n) := by
 obtain ⟨_, _, _, _, rfl, ⟨A1, c1, rfl, _⟩, ⟨A2, c2, rfl, _⟩, ⟨A3, c3, rfl, _⟩, ⟨A4, c4, rfl, _⟩⟩ := h;exact ⟨A1, c1, A2, c2, A3, c3, A4, c4, rfl⟩
theorem canB_ref {b : Bk} {e : Ev} {o0 o1 o2 o3 o5 : Int} (h : o0 = e.ord) : canB b e = { b with o := setH o0 [o0, o1, o2, o3, 0, o5] ((0 : Int) == 0) b.o } := by
 subst h;unfold canB;rw [show ((0 : Int) == 0) = true from rfl]
 unfold setH;rw [zz4c, zz4c]
theorem zzaq {P : Program} {fn : Func} {p p2 : Tmp} {ty ty2 : TypeId} {s1 : Tmp} (h : fn.results = #[.cell p ty, .cell p2 ty2, .tmp s1]) (tmps : Array Value) (w : World) (g g2 : Nat) (t t2 : TypeId) (cs cs2 : Array Value) (d d2 : TypeDesc)
  (hp : tmps.getD p undef = .pointer (some ⟨g, 0, none⟩)) (hg : w.heap[g]? = some (.cells cs t (0, 0)))
  (hu : P.underlying ty = some d) (hd : (match d with | .struct _ | .array _ _ => true | _ => false) = true) (hi : (P.info? ty).map (·.size) = some cs.size)
  (hp2 : tmps.getD p2 undef = .pointer (some ⟨g2, 0, none⟩)) (hg2 : w.heap[g2]? = some (.cells cs2 t2 (0, 0)))
  (hu2 : P.underlying ty2 = some d2) (hd2 : (match d2 with | .struct _ | .array _ _ => true | _ => false) = true) (hi2 : (P.info? ty2).map (·.size) = some cs2.size)
  (x : Value) (hx : tmps.getD s1 undef = x) : (results fn tmps).run P w = .ok (.tuple #[.agg cs, .agg cs2, x]) w := by
 subst hx;exact zt66
theorem zt5 {p : Prop} (h : p := by
 generalize hw : World.alloc _ _ = wa;replace K := zVa hw K;clear hw;(with_reducible refine (q5.out _ (zVb K)).mono ?_);rintro r wc ⟨v5, rfl, hO, hK, hb⟩;obtain ⟨U1, u1, U2, u2, U3, u3, U4, u4, hv5⟩ := hO.forms;rw [hnnb.out] at hv5;subst hv5;replace K := zVs K hb hO hK;clear hb hO hK;replace K := zVd (zVd K);have c := zVf K;go_wp2_with fail;clear c;generalize hs : World.setCell _ _ _ = ws;replace K := zVp6 hs K;clear hs;refine zSE [] 6 (zVy K) ?_;intro wd hb;replace K := zVk K hb;clear hb;refine zM [0, 1, 2] 3 (zVy K) ?_;simp only [opsAt, zA];refine zv ?_;refine zv ?_;refine zp ?_;unfold wpPure;go_simp;replace K := zVw K;have c := zVx K;refine zW 3 ?_;go_wp2_with fail;clear c;generalize hs : World.setCell _ _ _ = ws;replace K := zVp5 hs K;clear hs;refine zY ?_ fun _ => zEs (zVe K)
 replace K := zVw K;have c := zVx K;refine zW 4 ?_;go_wp2_with fail;clear c;generalize hs : World.setCell _ _ _ = ws;replace K := zVp2 hs K;clear hs;refine zY ?_ fun _ => zEs (zVe K)
 refine zW 5 ?_;go_wp2_with fail;refine zY ?_ fun _ => zEs (zVe K)
 refine zQe ?_;go_wp2_with fail;refine bodyPost_ret ?_ rfl ⟨_, _, rfl, (show BkAt _ _ _ by unfold gateB; rw [zz5x HC.out, hnb.out]; exact (zVu K).out.count (b.n + 1)), zVK K _, zVt K, zEb (zVe K)⟩
 exact zzaq rfl _ _ _ _ _ _ _ _ _ _ rfl (zVg K).2 Tryz.underlying27 rfl zk rfl (zVg K).1 Tryz.underlying33 rfl zk _ rfl) : p := h
theorem zt32 {p : Prop} (h : p := by
 exact zzaq rfl _ _ _ _ _ _ _ _ _ _ rfl (zVg K).2 Tryz.underlying27 rfl zk rfl (zVg K).1 Tryz.underlying33 rfl zk _ rfl) : p := h
theorem rStep_kin (vh vs vo vr : Value) (b : Bk) (e : Ev) (rate : Int) (w0 : World) (B0 : Hid (BkAt w0 (.agg #[vh, vs, vo, vr, b.n]) b)) (hs : Hid b.Small) (hi : Hid b.I64s) (hm : Hid (b.mayB = true)) (hE : Hid e.I64s) (hrt : Hid (I64 rate)) (hpr : Hid (∀ sym, 0 ≤ priceOf b sym)) (hN : Hid (0 ≤ b.n ∧ b.n ≤ 1099511627776)) :
  Calls Tryz.prog 13 #[.agg #[vh, vs, vo, vr, b.n], e.val, .int .i64 rate] w0 fun r w' => ∃ v vS, r = .returned (.tuple #[v, .agg #[.int .i64 (gateV b e rate).1, .int .i64 (gateV b e rate).2], vS]) ∧ BkAt w' v (gateB b e rate) ∧ Kin w0.heap.size (.agg #[vh, vs, vo, vr, b.n]) v ∧ StepsAt w' vS (gateL b e rate) ∧ Below w0.heap.size w0 w' := by
 unfold Ev.val;obtain ⟨_, _, _, _, hv, r1, r2, r3, r4⟩ := B0.out;injection hv with hv
 simp only [Array.mk.injEq, List.cons.injEq, and_true] at hv;obtain ⟨rfl, rfl, rfl, rfl, _⟩ := hv;have LH : Hid (∀ r ∈ b.h, r.length = 4) := (by obtain ⟨_, _, _, h, _⟩ := r1; exact h)
 have LO : Hid (∀ r ∈ b.o, r.length = 6) := (by obtain ⟨_, _, _, h, _⟩ := r3; exact h)
 have F1 : b.h.length ≤ 1000000 ∧ b.o.length ≤ 1000000 ∧ b.r.length ≤ 1000000 := by have := hs.out; unfold Bk.Small at this; omega
 have HL1 := zH F1;clear F1;obtain ⟨Ah, ch, rfl, _⟩ := r1;obtain ⟨As, cs, rfl, _⟩ := r2;obtain ⟨Ao, co, rfl, _⟩ := r3;obtain ⟨Ar, cr, rfl, _⟩ := r4;have hwr : IntKind.i64.wrap (b.n + 1) = b.n + 1 := by rw [IntKind.wrap_i64]; have := hN.out; omega
 obtain ⟨C, hC⟩ : ∃ C, ((gateV b e rate).1 == 0) = C := ⟨_, rfl⟩;have hC2 : ((goW (gateL b e rate) 0).1 == 0) = C := hC;have HC := zH ((zzbg b e rate).symm.trans hC);clear hC;have K := zEa4 (c := (BF Ah ch As cs Ao co Ar cr b b.n)) (t := 27) (c2 := #[e.kind, e.acc, e.ord, e.sym, e.side, e.qty, e.px]) (t2 := 29) (c3 := BZ) (t3 := 27) (c4 := #[.int .i64 0, .int .i64 0]) (t4 := 33) rfl (zE0 w0);have q1 := zH (fun wz hv => zzav (.slice Ah b.h.length ch) (.slice As b.s.length cs) (.slice Ao b.o.length co) (.slice Ar b.r.length cr) b e rate wz hv hs hi hm hE hrt hpr)
 unfold Ev.val at q1;have c := zEc K;go_in;go_wp2_with fail;generalize hw : World.alloc _ _ = wb;rw [hw] at K;clear c hw;(with_reducible refine (q1.out _ (zH (B0.out.call (zEb K)))).mono ?_);rintro r wc ⟨v5, rfl, hS, hb⟩;obtain ⟨AS, cS, rfl⟩ := hS.form;replace K := zV0 (zEk K hb) hS B0;clear hb hS q1;go_wp2_with fail;(with_reducible refine (zzat _ _ _ (zH (zVt K)) (Nat.le_trans (zz5u b e rate) zx)).mono ?_);rintro r wc ⟨rfl, hb⟩;replace K := zVk K hb;clear hb;cases C with
 | false =>
  have c := zVc K;go_wp2_with fail;clear c;generalize hw : World.alloc _ _ = wa;replace K := zVa2 hw K;clear hw;refine zSE [] 6 (zVy K) ?_;intro wd hb;replace K := zVk K hb;clear hb;refine zM [0, 1, 2] 3 (zVy K) ?_;simp only [opsAt, zA];refine zv ?_;refine zv ?_;refine zp ?_;unfold wpPure;go_simp;replace K := zVw K;have c := zVx K;refine zW 3 ?_;go_wp2_with fail;clear c;generalize hs : World.setCell _ _ _ = ws;replace K := zVp5 hs K;clear hs;refine zY ?_ fun _ => zEs (zVe K)
  replace K := zVw K;have c := zVx K;refine zW 4 ?_;go_wp2_with fail;clear c;generalize hs : World.setCell _ _ _ = ws;replace K := zVp2 hs K;clear hs;refine zY ?_ fun _ => zEs (zVe K)
  refine zW 5 ?_;go_wp2_with fail;refine zY ?_ fun _ => zEs (zVe K)
  refine zQe ?_;go_wp2_with fail;refine bodyPost_ret ?_ rfl ⟨_, _, rfl, (show BkAt _ _ _ by unfold gateB; rw [doneB_no HC.out]; exact (zVb K).out.count (b.n + 1)), zVK K _, zVt K, zEb (zVe K)⟩
  exact zt32
 | true =>
  obtain ⟨rh, FH, hl1, hx1⟩ := zz13 LH.out (isId e.acc)
  match rh, hl1, hx1 with
  | [h0, h1, h2, h3], _, hx1 =>
  have hF : FH = hasH b e.acc := zz0n hx1;subst hF;have HX1 := zH hx1;clear hx1;obtain ⟨ro, FO, hl2, hx2⟩ := zz13 LO.out (isId e.ord)
  match ro, hl2, hx2 with
  | [o0, o1, o2, o3, o4, o5], _, hx2 =>
  have hFo : FO = hasO b e.ord := zz0n hx2;subst hFo;have HX2 := zH hx2;clear hx2;have c := zVc K;go_wp2_with fail;clear c;generalize hw : World.alloc _ _ = wa;replace K := zVa2 hw K;clear hw;(with_reducible refine (zz1g _ b e.acc h0 h1 h2 h3 _ _ (zVb K) HL1.out.1 HX1).mono ?_);rintro r wc ⟨rfl, hb⟩;replace K := zVk K hb;clear hb;have c := zVc K;go_wp2_with fail;clear c;generalize hw : World.alloc _ _ = wa;replace K := zVa hw K;clear hw;(with_reducible refine (zz8h _ b e.ord o0 o1 o2 o3 o4 o5 _ _ (zVb K) HL1.out.2.1 HX2).mono ?_);rintro r wc ⟨rfl, hb⟩;replace K := zVk K hb;clear hb;have hk : 1 ≤ e.kind ∧ e.kind ≤ 7 := (zz8r e).1 (by have h := HC.out; unfold allS at h; rw [List.all_append, Bool.and_eq_true] at h; exact h.1)
  have hk7 : e.kind = 1 ∨ e.kind = 2 ∨ e.kind = 3 ∨ e.kind = 4 ∨ e.kind = 5 ∨ e.kind = 6 ∨ e.kind = 7 := by omega
  clear hk;rcases hk7 with hk | hk | hk | hk | hk | hk | hk
  ·skip
   have tk1 : (e.kind == 1) = true := by rw [hk]; rfl
   have hkS : (kindS b e rate).all (·.holds) = true := by have h := HC.out; unfold allS at h; rw [List.all_append, Bool.and_eq_true] at h; exact h.2
   obtain ⟨nb, hnb⟩ : ∃ nb : Bk, newB b e = nb := ⟨_, rfl⟩;have hnnb : Hid (nb.n = b.n) := (by rw [← hnb]; exact zz9w b e : nb.n = b.n)
   replace hnb := zH hnb;have q5 : Hid (∀ wz : World, Hid (BkAt wz (.agg (BF Ah ch As cs Ao co Ar cr b b.n)) b) → Calls Tryz.prog 43 #[.agg (BF Ah ch As cs Ao co Ar cr b b.n), .agg #[e.acc, e.qty, .int .i64 9223372036854775807, .int .i64 9223372036854775807]] wz fun r w' => ∃ v', r = .returned v' ∧ BkAt w' v' nb ∧ Kin wz.heap.size (.agg (BF Ah ch As cs Ao co Ar cr b b.n)) v' ∧ Below wz.heap.size wz w') := (show _ from fun wz hv => by rw [← hnb.out, show newB b e = accB b e from by unfold newB; simp [hk]]; exact zz1z _ b e.acc e.qty 9223372036854775807 9223372036854775807 wz hv HL1.out.1)
   have c := zVc K;go_wp2_with fail;clear c;exact zt5
  ·skip
   have tk1 : (e.kind == 1) = false := by rw [hk]; rfl
   have tk2 : (e.kind == 2) = true := by rw [hk]; rfl
   have hkS : (kindS b e rate).all (·.holds) = true := by have h := HC.out; unfold allS at h; rw [List.all_append, Bool.and_eq_true] at h; exact h.2
   have hrec : recH b e.acc = [h0, h1, h2, h3] := by unfold recH; rw [HX1.out]
   obtain ⟨nb, hnb⟩ : ∃ nb : Bk, newB b e = nb := ⟨_, rfl⟩;have hnnb : Hid (nb.n = b.n) := (by rw [← hnb]; exact zz9w b e : nb.n = b.n)
   replace hnb := zH hnb;have q5 : Hid (∀ wz : World, Hid (BkAt wz (.agg (BF Ah ch As cs Ao co Ar cr b b.n)) b) → Calls Tryz.prog 43 #[.agg (BF Ah ch As cs Ao co Ar cr b b.n), .agg #[h0, h1, e.qty, e.px]] wz fun r w' => ∃ v', r = .returned v' ∧ BkAt w' v' nb ∧ Kin wz.heap.size (.agg (BF Ah ch As cs Ao co Ar cr b b.n)) v' ∧ Below wz.heap.size wz w') := (show _ from fun wz hv => by rw [← hnb.out, show newB b e = limB b e from by unfold newB; simp [hk], show limB b e = { b with h := setH h0 [h0, h1, e.qty, e.px] false b.h } from by unfold limB; rw [hrec]; rfl]; exact zz1z _ b h0 h1 e.qty e.px wz hv HL1.out.1)
   clear hrec;have c := zVx K;go_wp2_with fail;clear c;generalize hs : World.setCell _ _ _ = ws;replace K := zVh hs K;clear hs;exact zt5
  ·skip
   have tk1 : (e.kind == 1) = false := by rw [hk]; rfl
   have tk2 : (e.kind == 2) = false := by rw [hk]; rfl
   have tk3 : (e.kind == 3) = true := by rw [hk]; rfl
   have hkS : (kindS b e rate).all (·.holds) = true := by have h := HC.out; unfold allS at h; rw [List.all_append, Bool.and_eq_true] at h; exact h.2
   obtain ⟨nb, hnb⟩ : ∃ nb : Bk, newB b e = nb := ⟨_, rfl⟩;have hnnb : Hid (nb.n = b.n) := (by rw [← hnb]; exact zz9w b e : nb.n = b.n)
   replace hnb := zH hnb;have q5 : Hid (∀ wz : World, Hid (BkAt wz (.agg (BF Ah ch As cs Ao co Ar cr b b.n)) b) → Calls Tryz.prog 44 #[.agg (BF Ah ch As cs Ao co Ar cr b b.n), .agg #[e.sym, e.px]] wz fun r w' => ∃ v', r = .returned v' ∧ BkAt w' v' nb ∧ Kin wz.heap.size (.agg (BF Ah ch As cs Ao co Ar cr b b.n)) v' ∧ Below wz.heap.size wz w') := (show _ from fun wz hv => by rw [← hnb.out, show newB b e = quoB b e from by unfold newB; simp [hk]]; exact zz7o _ b e.sym e.px wz hv HL1.out.2.2)
   have c := zVc K;go_wp2_with fail;clear c;exact zt5
  ·skip
   have tk1 : (e.kind == 1) = false := by rw [hk]; rfl
   have tk2 : (e.kind == 2) = false := by rw [hk]; rfl
   have tk3 : (e.kind == 3) = false := by rw [hk]; rfl
   have tk4 : (e.kind == 4) = true := by rw [hk]; rfl
   have hkS : (kindS b e rate).all (·.holds) = true := by have h := HC.out; unfold allS at h; rw [List.all_append, Bool.and_eq_true] at h; exact h.2
   obtain ⟨nb, hnb⟩ : ∃ nb : Bk, newB b e = nb := ⟨_, rfl⟩;have hnnb : Hid (nb.n = b.n) := (by rw [← hnb]; exact zz9w b e : nb.n = b.n)
   replace hnb := zH hnb;have q5 : Hid (∀ wz : World, Hid (BkAt wz (.agg (BF Ah ch As cs Ao co Ar cr b b.n)) b) → Calls Tryz.prog 45 #[.agg (BF Ah ch As cs Ao co Ar cr b b.n), .agg #[e.ord, e.acc, e.sym, e.side, e.qty, e.px]] wz fun r w' => ∃ v', r = .returned v' ∧ BkAt w' v' nb ∧ Kin wz.heap.size (.agg (BF Ah ch As cs Ao co Ar cr b b.n)) v' ∧ Below wz.heap.size wz w') := (show _ from fun wz hv => by rw [← hnb.out, show newB b e = ordB b e from by unfold newB; simp [hk]]; exact zz2v _ b e.ord e.acc e.sym e.side e.qty e.px wz hv HL1.out.2.1)
   have c := zVc K;go_wp2_with fail;clear c;exact zt5
  ·skip
   have tk1 : (e.kind == 1) = false := by rw [hk]; rfl
   have tk2 : (e.kind == 2) = false := by rw [hk]; rfl
   have tk3 : (e.kind == 3) = false := by rw [hk]; rfl
   have tk4 : (e.kind == 4) = false := by rw [hk]; rfl
   have tk5 : (e.kind == 5) = true := by rw [hk]; rfl
   have hkS : (kindS b e rate).all (·.holds) = true := by have h := HC.out; unfold allS at h; rw [List.all_append, Bool.and_eq_true] at h; exact h.2
   have hcs : (fillS b e).all (·.holds) = true := by have h := hkS; unfold kindS at h; simpa [hk] using h
   obtain ⟨hfo, hfq, _, hfl⟩ := zz46 b e hcs;clear hcs;have hro : recO b e.ord = [o0, o1, o2, o3, o4, o5] := by unfold recO; rw [HX2.out]
   have hfl2 : e.qty ≤ o4 := by rw [hro] at hfl; exact hfl
   have hO4 : I64 o4 := by
    have h := (zz7m hfo).1;rw [hro] at h;exact hi.out.2.2.1 _ h _ (by simp)
   have hsub : IntKind.i64.wrap (o4 - e.qty) = o4 - e.qty := by rw [IntKind.wrap_i64]; unfold I64 at hO4; have := hE.out.qty; unfold I64 at this; omega
   clear hfl hfo hfq hO4;obtain ⟨rg, FG, hl3, hx3⟩ := zz13 LH.out (isId o1)
   match rg, hl3, hx3 with
   | [g0, g1, g2, g3], _, hx3 =>
   have HX3 := zH hx3;clear hx3;have hrg : recH b o1 = [g0, g1, g2, g3] := by unfold recH; rw [HX3.out]
   obtain ⟨AF, hAF⟩ : ∃ AF, afterR b o1 o2 o3 e.qty e.px = AF := ⟨_, rfl⟩;obtain ⟨⟨c, cf⟩, ⟨s, sf⟩⟩ := AF;have qA := zH (fun wz hv => zz6s (.agg (BF Ah ch As cs Ao co Ar cr b b.n)) b o0 o1 o2 o3 o4 o5 e.qty e.px wz hv hs hi hE.out.qty hE.out.px)
   rw [hAF] at qA;obtain ⟨nb1, hnb1⟩ : ∃ nb1 : Bk, ({ b with h := setH g0 [g0, c, g2, g3] false b.h } : Bk) = nb1 := ⟨_, rfl⟩
   obtain ⟨nb2, hnb2⟩ : ∃ nb2 : Bk, ({ nb1 with s := setS o1 o2 [o1, o2, s] (s == 0) nb1.s } : Bk) = nb2 := ⟨_, rfl⟩
   obtain ⟨nb, hnb3⟩ : ∃ nb : Bk, ({ nb2 with o := setH o0 [o0, o1, o2, o3, o4 - e.qty, o5] (o4 - e.qty == 0) nb2.o } : Bk) = nb := ⟨_, rfl⟩
   have hnb : Hid (newB b e = nb) := (by
    show newB b e = nb;rw [← hnb3, ← hnb2, ← hnb1, show newB b e = fillB b e from by unfold newB; simp [hk]]
    unfold fillB afterE;rw [hro];show fillX b [o0, o1, o2, o3, o4, o5] (recH b o1) (afterR b o1 o2 o3 e.qty e.px).1.1 (afterR b o1 o2 o3 e.qty e.px).2.1 e.qty = _;rw [hrg, hAF]
    rfl)
   have hnnb1 : Hid (nb1.n = b.n) := (show nb1.n = b.n by rw [← hnb1])
   have hnnb2 : Hid (nb2.n = b.n) := (show nb2.n = b.n by rw [← hnb2, ← hnb1])
   have hnnb : Hid (nb.n = b.n) := (show nb.n = b.n by rw [← hnb3, ← hnb2, ← hnb1])
   have hl1s : Hid (nb1.s.length ≤ 1000000) := (show nb1.s.length ≤ 1000000 by rw [← hnb1]; have := hs.out; unfold Bk.Small at this; show b.s.length ≤ 1000000; omega)
   have hl2o : Hid (nb2.o.length ≤ 1000000) := (show nb2.o.length ≤ 1000000 by rw [← hnb2, ← hnb1]; exact HL1.out.2.1)
   have qH : Hid (∀ wz : World, Hid (BkAt wz (.agg (BF Ah ch As cs Ao co Ar cr b b.n)) b) → Calls Tryz.prog 43 #[.agg (BF Ah ch As cs Ao co Ar cr b b.n), .agg #[g0, c, g2, g3]] wz fun r w' => ∃ v', r = .returned v' ∧ BkAt w' v' nb1 ∧ Kin wz.heap.size (.agg (BF Ah ch As cs Ao co Ar cr b b.n)) v' ∧ Below wz.heap.size wz w') := (show _ from fun wz hv => by rw [← hnb1]; exact zz1z _ b g0 c g2 g3 wz hv HL1.out.1)
   have qS : Hid (∀ (u : Value) (wz : World), Hid (BkAt wz u nb1) → Calls Tryz.prog 47 #[u, .agg #[o1, o2, s]] wz fun r w' => ∃ v', r = .returned v' ∧ BkAt w' v' nb2 ∧ Kin wz.heap.size u v' ∧ Below wz.heap.size wz w') := (show _ from fun u wz hv => by rw [← hnb2]; exact zz6q u nb1 o1 o2 s wz hv hl1s.out)
   have qO : Hid (∀ (u : Value) (wz : World), Hid (BkAt wz u nb2) → Calls Tryz.prog 45 #[u, .agg #[o0, o1, o2, o3, .int .i64 (o4 - e.qty), o5]] wz fun r w' => ∃ v', r = .returned v' ∧ BkAt w' v' nb ∧ Kin wz.heap.size u v' ∧ Below wz.heap.size wz w') := (show _ from fun u wz hv => by rw [← hnb3]; exact zz2v u nb2 o0 o1 o2 o3 (o4 - e.qty) o5 wz hv hl2o.out)
   clear hnb1 hnb2 hnb3 hro hrg hAF hfl2 hkS;have c := zVc K;go_wp2_with fail;clear c;generalize hw : World.alloc _ _ = wa;replace K := zVa hw K;clear hw;(with_reducible refine (qA.out _ (zVb K)).mono ?_);rintro r wc ⟨rfl, hb⟩;replace K := zVk K hb;clear hb;replace K := zVd (zVq K);have c := zVc K;go_wp2_with fail;clear c;(with_reducible refine (zz1g _ b o1 g0 g1 g2 g3 FG _ (zVb K) HL1.out.1 HX3).mono ?_);rintro r wc ⟨rfl, hb⟩;replace K := zVk K hb;clear hb;have c := zVc K;go_wp2_with fail;clear c;generalize hw : World.alloc _ _ = wa;replace K := zVa hw K;clear hw;(with_reducible refine (qH.out _ (zVb K)).mono ?_);rintro r wc ⟨v5, rfl, hO, hK, hb⟩;obtain ⟨U1, u1, U2, u2, U3, u3, U4, u4, hv5⟩ := hO.forms;rw [hnnb1.out] at hv5;subst hv5;replace K := zVs K hb hO hK;clear hb hO hK;replace K := zVq (zVd K);have c := zVz K;go_wp2_with fail;clear c;generalize hs : World.setCell _ _ _ = ws;replace K := zVp5 hs K;clear hs;(with_reducible refine (qS.out _ _ (zVu K)).mono ?_);rintro r wc ⟨v5, rfl, hO, hK, hb⟩;obtain ⟨U1, u1, U2, u2, U3, u3, U4, u4, hv5⟩ := hO.forms;rw [hnnb2.out] at hv5;subst hv5;replace K := zVs K hb hO hK;clear hb hO hK;have c := zVz K;go_wp2_with fail;clear c;generalize hs : World.setCell _ _ _ = ws;replace K := zVp51 hs K;clear hs;(with_reducible refine (qO.out _ _ (zVu K)).mono ?_);rintro r wc ⟨v5, rfl, hO, hK, hb⟩;obtain ⟨U1, u1, U2, u2, U3, u3, U4, u4, hv5⟩ := hO.forms;rw [hnnb.out] at hv5;subst hv5;replace K := zVs K hb hO hK;clear hb hO hK;replace K := zVd (zVq K);have c := zVf K;go_wp2_with fail;clear c;generalize hs : World.setCell _ _ _ = ws;replace K := zVp6 hs K;clear hs;refine zSE [] 6 (zVy K) ?_;intro wd hb;replace K := zVk K hb;clear hb;refine zM [0, 1, 2] 3 (zVy K) ?_;simp only [opsAt, zA];refine zv ?_;refine zv ?_;refine zp ?_;unfold wpPure;go_simp;replace K := zVw K;have c := zVx K;refine zW 3 ?_;go_wp2_with fail;clear c;generalize hs : World.setCell _ _ _ = ws;replace K := zVp5 hs K;clear hs;refine zY ?_ fun _ => zEs (zVe K)
   replace K := zVw K;have c := zVx K;refine zW 4 ?_;go_wp2_with fail;clear c;generalize hs : World.setCell _ _ _ = ws;replace K := zVp2 hs K;clear hs;refine zY ?_ fun _ => zEs (zVe K)
   refine zW 5 ?_;go_wp2_with fail;refine zY ?_ fun _ => zEs (zVe K)
   refine zQe ?_;go_wp2_with fail;refine bodyPost_ret ?_ rfl ⟨_, _, rfl, (show BkAt _ _ _ by unfold gateB; rw [zz5x HC.out, hnb.out]; exact (zVu K).out.count (b.n + 1)), zVK K _, zVt K, zEb (zVe K)⟩
   exact zt32
  ·skip
   have tk1 : (e.kind == 1) = false := by rw [hk]; rfl
   have tk2 : (e.kind == 2) = false := by rw [hk]; rfl
   have tk3 : (e.kind == 3) = false := by rw [hk]; rfl
   have tk4 : (e.kind == 4) = false := by rw [hk]; rfl
   have tk5 : (e.kind == 5) = false := by rw [hk]; rfl
   have tk6 : (e.kind == 6) = true := by rw [hk]; rfl
   have hkS : (kindS b e rate).all (·.holds) = true := by have h := HC.out; unfold allS at h; rw [List.all_append, Bool.and_eq_true] at h; exact h.2
   have hcs : (canS b e).all (·.holds) = true := by have h := hkS; unfold kindS at h; simpa [hk] using h
   have ho0 : o0 = e.ord := by have h := (zz7m ((zzbv b e).1 hcs)).2; unfold recO at h; rw [HX2.out] at h; exact h
   obtain ⟨nb, hnb⟩ : ∃ nb : Bk, newB b e = nb := ⟨_, rfl⟩;have hnnb : Hid (nb.n = b.n) := (by rw [← hnb]; exact zz9w b e : nb.n = b.n)
   replace hnb := zH hnb;have q5 : Hid (∀ wz : World, Hid (BkAt wz (.agg (BF Ah ch As cs Ao co Ar cr b b.n)) b) → Calls Tryz.prog 45 #[.agg (BF Ah ch As cs Ao co Ar cr b b.n), .agg #[o0, o1, o2, o3, .int .i64 0, o5]] wz fun r w' => ∃ v', r = .returned v' ∧ BkAt w' v' nb ∧ Kin wz.heap.size (.agg (BF Ah ch As cs Ao co Ar cr b b.n)) v' ∧ Below wz.heap.size wz w') := (show _ from fun wz hv => by rw [← hnb.out, show newB b e = canB b e from by unfold newB; simp [hk], canB_ref (o1 := o1) (o2 := o2) (o3 := o3) (o5 := o5) ho0]; exact zz2v _ b o0 o1 o2 o3 0 o5 wz hv HL1.out.2.1)
   clear hcs ho0;have c := zVc K;go_wp2_with fail;clear c;exact zt5
  ·skip
   have tk1 : (e.kind == 1) = false := by rw [hk]; rfl
   have tk2 : (e.kind == 2) = false := by rw [hk]; rfl
   have tk3 : (e.kind == 3) = false := by rw [hk]; rfl
   have tk4 : (e.kind == 4) = false := by rw [hk]; rfl
   have tk5 : (e.kind == 5) = false := by rw [hk]; rfl
   have tk6 : (e.kind == 6) = false := by rw [hk]; rfl
   replace K := zVd K;have c := zVx K;go_wp2_with fail;clear c;generalize hs : World.setCell _ _ _ = ws;replace K := zVn hs K;clear hs;generalize hw : World.alloc _ _ = wa;replace K := zVa hw K;clear hw;replace K := zVd K;refine zSE [] 6 (zVy K) ?_;intro wd hb;replace K := zVk K hb;clear hb;refine zM [0, 1, 2] 3 (zVy K) ?_;simp only [opsAt, zA];refine zv ?_;refine zv ?_;refine zp ?_;unfold wpPure;go_simp;replace K := zVw K;have c := zVx K;refine zW 3 ?_;go_wp2_with fail;clear c;generalize hs : World.setCell _ _ _ = ws;replace K := zVp5 hs K;clear hs;refine zY ?_ fun _ => zEs (zVe K)
   replace K := zVw K;have c := zVx K;refine zW 4 ?_;go_wp2_with fail;clear c;generalize hs : World.setCell _ _ _ = ws;replace K := zVp2 hs K;clear hs;refine zY ?_ fun _ => zEs (zVe K)
   refine zW 5 ?_;go_wp2_with fail;refine zY ?_ fun _ => zEs (zVe K)
   refine zQe ?_;go_wp2_with fail;refine bodyPost_ret ?_ rfl ⟨_, _, rfl, (show BkAt _ _ _ by unfold gateB; rw [zz5x HC.out, show newB b e = b from by unfold newB; simp [hk]]; exact (zVb K).out.count (b.n + 1)), zVK K _, zVt K, zEb (zVe K)⟩
   exact zt32
end
section
open Go Go.RowKit Mon
def bZ : Bk := ⟨[], [], [], [], 0⟩
theorem RowAt.zero (w : World) (k : Nat) : RowAt w (.slice none 0 0) k [] := ⟨none, 0, rfl, by simp, .inl rfl⟩
theorem BkAt.zero (w : World) : BkAt w (.agg BZ) bZ := ⟨_, _, _, _, rfl, RowAt.zero w 4, RowAt.zero w 3, RowAt.zero w 6, RowAt.zero w 2⟩
theorem zz2x {w w' : World} (h : Below w.heap.size w w') (row : Option Nat) : w.grownBy w' row := ⟨h.os, h.tape, h.output, h.size, fun k hk _ => h.block k hk⟩
theorem zz71 {g : Nat} : ∀ (us : List Value) (o : Nat) (w : World), w.grownBy (putC w g o us) (some g)
 | [], _, w => ⟨rfl, rfl, rfl, Nat.le_refl _, fun _ _ _ => rfl⟩
 | u :: us, o, w => by
  have h1 := zz71 (g := g) us (o + 1) (w.setCell ⟨g, o, none⟩ u);have h0 : w.grownBy (w.setCell ⟨g, o, none⟩ u) (some g) := ⟨rfl, rfl, rfl, (KeepsWalks.setCell w _ u).size, fun k _ hk => Below.heap_setCell _ _ _ k (fun e => hk (by rw [e]))⟩
  exact ⟨h1.os.trans h0.os, h1.tape.trans h0.tape, h1.output.trans h0.output, Nat.le_trans h0.size h1.size, fun k hk hne => (h1.block k (Nat.lt_of_lt_of_le hk h0.size) hne).trans (h0.block k hk hne)⟩
def KpF (n0 Bs : Nat) (M : Nat) (A B : World) : Prop := Below n0 A B ∧ ∀ k cs t fr, A.heap[k]? = some (.cells cs t fr) → (M ≤ k ∨ (Bs ≤ k ∧ k ≤ Bs + 2)) → B.heap[k]? = some (.cells cs t fr)
theorem KpF.trans {n0 Bs M : Nat} {A B C : World} (h : KpF n0 Bs M A B) (k : KpF n0 Bs M B C) : KpF n0 Bs M A C := ⟨h.1.trans k.1, fun i cs t fr hi hk => k.2 i cs t fr (h.2 i cs t fr hi hk) hk⟩
theorem KpF.put {n0 Bs M : Nat} {W : World} {l : Nat} {o : Obj} (o' : Obj) (hn : n0 ≤ l) (hl : W.heap[l]? = some o) (ho : o.isCells = false) : KpF n0 Bs M W (W.putObj l o') := by
 refine ⟨(Below.refl n0 W).grown (grownBy_putObj' W l o') (by have := (zL hl); omega) (fun k e => by cases e; omega), fun k cs t fr hk _ => ?_⟩
 rw [World.putObj_heap_other (fun e => ?_)]
 ·exact hk
 ·subst e
  rw [hl] at hk;cases hk;cases ho
theorem KpF.of {n0 Bs M : Nat} {W W' : World} (h : Below W.heap.size W W') (hn : n0 ≤ W.heap.size) : KpF n0 Bs M W W' :=
 ⟨h.mono hn, fun k cs t fr hk _ => (h.block k (zL hk)).trans hk⟩
theorem RowOwn.still {A B : World} {b0 : Nat} {e : TypeId} {v : Value} {k : Nat} {l : List (List Int)} (h : RowOwn A b0 e v k l) (hs : A.heap.size ≤ B.heap.size) (hk : ∀ q cs t fr, A.heap[q]? = some (.cells cs t fr) → v.ownBlock = some q → B.heap[q]? = some (.cells cs t fr)) : RowOwn B b0 e v k l := by
 obtain ⟨⟨hl, ho⟩, h2⟩ := h;refine ⟨⟨hl, ?_⟩, h2⟩;rcases ho with h | ⟨g, cap, cur, rfl, h1, h3, h4⟩
 ·exact .inl h
 ·exact .inr ⟨g, cap, cur, rfl, h1, hk _ _ _ _ h3 rfl, h4⟩
theorem RowOwn.block {A : World} {b0 : Nat} {e : TypeId} {v : Value} {k : Nat} {l : List (List Int)} (h : RowOwn A b0 e v k l) {q : Nat} (hq : v.ownBlock = some q) : b0 ≤ q ∧ q < A.heap.size := by
 rcases h.1.2 with ⟨rfl, _⟩ | ⟨g, cap, cur, rfl, h1, h3, _⟩
 ·cases hq
 ·obtain rfl : g = q := by simpa [Value.ownBlock] using hq
  exact ⟨h1, (zL h3)⟩
theorem BkOwn.still {A B : World} {b0 : Nat} {v : Value} {b : Bk} (h : BkOwn A b0 v b) (hs : A.heap.size ≤ B.heap.size) (hk : ∀ q cs t fr, A.heap[q]? = some (.cells cs t fr) → b0 ≤ q → B.heap[q]? = some (.cells cs t fr)) : BkOwn B b0 v b := by
 obtain ⟨vh, vs, vo, vr, rfl, h1, h2, h3, h4⟩ := h;exact ⟨vh, vs, vo, vr, rfl, h1.still hs fun q cs t fr hq hv => hk q cs t fr hq (h1.block hv).1, h2.still hs fun q cs t fr hq hv => hk q cs t fr hq (h2.block hv).1, h3.still hs fun q cs t fr hq hv => hk q cs t fr hq (h3.block hv).1, h4.still hs fun q cs t fr hq hv => hk q cs t fr hq (h4.block hv).1⟩
def EvsAt (w : World) (v : Value) (L : List Ev) : Prop := RowAt w v 7 (L.map Ev.cells)
theorem EvsAt.call {w w' : World} {v : Value} {L : List Ev} (h : EvsAt w v L) (hb : Below w.heap.size w w') : EvsAt w' v L := RowAt.call h hb
theorem EvsAt.get {w : World} {A : Option Addr} {n c : Nat} {L : List Ev} (h : EvsAt w (.slice A n c) L) {i : Nat} {e : Ev} (hi : L[i]? = some e) : ∃ b o, A = some ⟨b, o, none⟩ ∧ b < w.heap.size ∧
  w.cell? ⟨b, o + i * 7, none⟩ = some (.int .i64 e.kind) ∧ w.cell? ⟨b, o + i * 7 + 1, none⟩ = some (.int .i64 e.acc) ∧ w.cell? ⟨b, o + i * 7 + 2, none⟩ = some (.int .i64 e.ord) ∧ w.cell? ⟨b, o + i * 7 + 3, none⟩ = some (.int .i64 e.sym) ∧ w.cell? ⟨b, o + i * 7 + 4, none⟩ = some (.int .i64 e.side) ∧ w.cell? ⟨b, o + i * 7 + 5, none⟩ = some (.int .i64 e.qty) ∧ w.cell? ⟨b, o + i * 7 + 6, none⟩ = some (.int .i64 e.px) := by
 obtain ⟨A', c', hA, hi'⟩ := RowAt.rec' h;injection hA with hA1 _ _
 subst hA1;obtain ⟨_, b, o, hA2, hb, hc⟩ := hi' i e.cells (by rw [List.getElem?_map, hi]; rfl)
 exact ⟨b, o, hA2, hb, hc 0 _ rfl, hc 1 _ rfl, hc 2 _ rfl, hc 3 _ rfl, hc 4 _ rfl, hc 5 _ rfl, hc 6 _ rfl⟩
def EnF (b : Bk) (rate : Int) (pre : List Ev) (e : Ev) (args : Array Value) (M : Nat) (W : World) : Prop :=
 ∃ A1 c1 A2 c2 A3 c3 A4 c4, args = #[.int .i64 (pre.length : Nat), .agg #[.int .i64 (gateV (foldB b rate pre) e rate).1, .int .i64 (gateV (foldB b rate pre) e rate).2, .slice A1 (foldB b rate (pre ++ [e])).h.length c1, .slice A2 (foldB b rate (pre ++ [e])).s.length c2, .slice A3 (foldB b rate (pre ++ [e])).o.length c3, .slice A4 (foldB b rate (pre ++ [e])).r.length c4, .int .i64 (foldB b rate (pre ++ [e])).n]] ∧
  BkOwn W M (.agg #[.slice A1 (foldB b rate (pre ++ [e])).h.length c1, .slice A2 (foldB b rate (pre ++ [e])).s.length c2, .slice A3 (foldB b rate (pre ++ [e])).o.length c3, .slice A4 (foldB b rate (pre ++ [e])).r.length c4, .int .i64 (foldB b rate (pre ++ [e])).n]) (foldB b rate (pre ++ [e]))
theorem zzbk (b : Bk) (rate : Int) (pre : List Ev) (e : Ev) : foldB b rate (pre ++ [e]) = gateB (foldB b rate pre) e rate := zz8w rate pre [e] b
end
section
open Go Go.RowKit Go.Shelf Mon
attribute [local go_sem] Oper.semAt_some
theorem zzae (Ah As Ao Ar AL : Option Addr) (ch cs co cr n cL : Nat) (b : Bk) (rate : Int) (w : World) :
  Calls Tryz.prog 49 #[.agg (BF Ah ch As cs Ao co Ar cr b b.n), .slice AL n cL, .int .i64 rate] w fun r w' => r = .returned (.func (.func 114) #[] #[.pointer (some ⟨w.heap.size + 1, 0, none⟩), .pointer (some ⟨w.heap.size, 0, none⟩), .pointer (some ⟨w.heap.size + 2, 0, none⟩)]) ∧
   w' = ((w.alloc (.cells (BF Ah ch As cs Ao co Ar cr b b.n) 27)).alloc (.cells #[.slice AL n cL] 44)).alloc (.cells #[rate] 3) := by
 go_in;go_wp2_with fail;go_ret;exact ⟨rfl, rfl⟩
structure StX (X : World → Prop) (Bs : Nat) (v : Value) (L : List Ev) : Prop where
 law : ∀ W, X W → Law16 W
 evs : ∀ W, X W → EvsAt W v L
 call : ∀ A B, X A → Below A.heap.size A B → X B
 put : ∀ A cs us, X A → A.heap[Bs]? = some (.cells cs 27 (0, 0)) → X (putC A Bs 0 us)
def KpX (X : World → Prop) (Bs M : Nat) (A B : World) : Prop := A.heap.size ≤ B.heap.size ∧ (X A → X B) ∧ ∀ k cs t fr, A.heap[k]? = some (.cells cs t fr) → (M ≤ k ∨ (Bs ≤ k ∧ k ≤ Bs + 2)) → B.heap[k]? = some (.cells cs t fr)
theorem states1_x (b : Bk) (L : List Ev) (rate : Int) (X : World → Prop) (Kp : Nat → World → World → Prop) (w : World) (Bs : Nat) (Ah As Ao Ar AL : Option Addr) (ch cs co cr cL : Nat) (hSt : Hid (StX X Bs (.slice AL L.length cL) L)) (hx0 : Hid (X w)) (hKp : Hid (∀ M A B, Kp M A B → KpX X Bs M A B)) (B0 : Hid (BkAt w (.agg (BF Ah ch As cs Ao co Ar cr b b.n)) b)) (hgd : Hid b.Good) (hE : Hid (∀ e ∈ L, e.I64s)) (hr0 : Hid (0 ≤ rate ∧ rate ≤ 1000))
  (hcount : Hid (b.n + L.length ≤ 1099511627776)) (hst : Hid (b.s.length + L.length ≤ 900000)) (hln : L.length ≤ 1000000)
  (k0 : ZB w Bs (BF Ah ch As cs Ao co Ar cr b b.n) 27) (k1 : ZB w (Bs + 1) #[.slice AL L.length cL] 44) (k2 : ZB w (Bs + 2) #[rate] 3) :
  IterS Fence.wide 2 Tryz.prog 114 #[.pointer (some ⟨Bs + 1, 0, none⟩), .pointer (some ⟨Bs, 0, none⟩), .pointer (some ⟨Bs + 2, 0, none⟩)] Bs w (EnF b rate) Kp L := by
 intro l J Jx W hW hJ hJx hY h0;have K0 := zK k0 hW;have K1 := zK k1 hW;have K2 := zK k2 hW;have HB := zH (hSt.out.call _ _ hx0.out hW);have H0 := zH h0;have hJh := zH hJ;have hJxh := zH hJx;have hYh := zH hY;have hg1 : Hid (∀ i : Nat, i < L.length → ∃ e, L[i]? = some e) := fun i hi => ⟨_, List.getElem?_eq_getElem hi⟩
 have hlast : Hid (L.take L.length = L) := List.take_length;have BK : Hid (BkAt W (.agg (BF Ah ch As cs Ao co Ar cr b b.n)) (foldB b rate (L.take 0))) := B0.out.call hW;clear k0 k1 k2 hW hx0 h0 hJ hJx hY B0;refine callsIn_of_wp Tryz.func114 rfl trivial ?_ rfl;simp only [Tryz.ntmps114, List.size_toArray, List.length_cons, List.length_nil, Nat.reduceAdd, Nat.reduceSub, Array.replicate_succ, Array.replicate_zero, List.push_toArray, List.append_toArray, List.nil_append, List.cons_append];have c1 := zz00 K1.out 0 _ rfl
 gi_wp2
 clear c1
 gi_loopw [13] (fun s13 wr => ∃ (i : Nat) (V1 V2 V3 V4 : Option Addr) (Vc1 Vc2 Vc3 Vc4 : Nat), s13 = .int .i64 i ∧ Hid (i ≤ L.length) ∧ Hid (J (L.take i) wr) ∧ Hid (X wr) ∧
   ZB wr Bs #[.slice V1 (foldB b rate (L.take i)).h.length Vc1, .slice V2 (foldB b rate (L.take i)).s.length Vc2, .slice V3 (foldB b rate (L.take i)).o.length Vc3, .slice V4 (foldB b rate (L.take i)).r.length Vc4, .int .i64 (foldB b rate (L.take i)).n] 27 ∧ ZB wr (Bs + 1) #[.slice AL L.length cL] 44 ∧ ZB wr (Bs + 2) #[rate] 3 ∧ Hid (BkAt wr (.agg #[.slice V1 (foldB b rate (L.take i)).h.length Vc1, .slice V2 (foldB b rate (L.take i)).s.length Vc2, .slice V3 (foldB b rate (L.take i)).o.length Vc3, .slice V4 (foldB b rate (L.take i)).r.length Vc4, .int .i64 (foldB b rate (L.take i)).n]) (foldB b rate (L.take i))))
  (fun s13 _ => L.length - (intOf s13).toNat)
 case atStart => exact ⟨0, Ah, As, Ao, Ar, ch, cs, co, cr, rfl, Nat.zero_le _, H0.out, HB.out, K0.out, K1.out, K2.out, BK.out⟩
 case round =>
  clear K0 K1 K2 HB H0 BK;obtain ⟨i, V1, V2, V3, V4, Vc1, Vc2, Vc3, Vc4, rfl, hi, HJ, HB, K0, K1, K2, BK⟩ := hrel;have hi2 := hi.out;by_cases hlt : i < L.length
  ·obtain ⟨e, he⟩ := hg1.out i hlt
   have htk := take_snoc he;have hkn : i + 1 ≤ L.length := hlt;have htl : (L.take i).length = i := by rw [List.length_take]; omega
   have hbg := zz39 rate (L.take i) b hgd.out (by rw [htl]; have := hcount.out; omega) (fun x hx => hE.out x (List.mem_of_mem_take hx))
   have hbn := zzbl rate (L.take i) b;have hbs := zz23 rate (L.take i) b;rw [htl] at hbn hbs;have hsn := zzbk b rate (L.take i) e;obtain ⟨bi, hbi⟩ : ∃ bi, foldB b rate (L.take i) = bi := ⟨_, rfl⟩;rw [hbi] at K0 BK hbg hbn hbs hsn;have hEe : Hid e.I64s := hE.out e (List.mem_of_getElem? he);have hsS : Hid (bi.s.length ≤ 900000) := (show bi.s.length ≤ 900000 by have := hst.out; omega)
   have hsm : Hid bi.Small := hbg.small hsS.out;have hin : Hid bi.I64s := hbg.ints;have hmb : Hid (bi.mayB = true) := hbg.may;have q1 := zH (fun wz hz hv => gStep_ok (.slice V1 bi.h.length Vc1) (.slice V2 bi.s.length Vc2) (.slice V3 bi.o.length Vc3) (.slice V4 bi.r.length Vc4) bi e rate wz hz hv hsm hin hmb hEe hsS hr0.out (by have := hcount.out; rw [hbn]; omega))
   unfold Ev.val at q1;obtain ⟨nb, hnb⟩ : ∃ nb, gateB bi e rate = nb := ⟨_, rfl⟩;obtain ⟨⟨X1, X2⟩, hX⟩ : ∃ X, gateV bi e rate = X := ⟨_, rfl⟩;rw [hnb, hX] at q1;rw [hnb] at hsn;have hen : Hid (∀ (Y1 Y2 Y3 Y4 : Option Addr) (d1 d2 d3 d4 M : Nat) (Wz : World), BkOwn Wz M (.agg (BF Y1 d1 Y2 d2 Y3 d3 Y4 d4 nb nb.n)) nb → EnF b rate (L.take i) e #[.int .i64 i, .agg #[X1, X2, .slice Y1 nb.h.length d1, .slice Y2 nb.s.length d2, .slice Y3 nb.o.length d3, .slice Y4 nb.r.length d4, nb.n]] M Wz) := (by
    intro Y1 Y2 Y3 Y4 d1 d2 d3 d4 M Wz hO;refine ⟨Y1, d1, Y2, d2, Y3, d3, Y4, d4, ?_, ?_⟩
    ·rw [htl, hsn, hbi, hX]
    ·rw [hsn]; exact hO)
   have hpre : Hid (L.take i ++ [e] <+: L) := (show L.take i ++ [e] <+: L from htk ▸ List.take_prefix _ _)
   have HTK := zH htk;have HSN := zH hsn;obtain ⟨bb, oo, rfl, hbl, l0, l1, l2, l3, l4, l5, l6⟩ := (hSt.out.evs _ HB.out).get he;clear htk hkn htl hbg hbn hbs hsn hbi hnb hX he hi hsm hin hmb hEe hsS;have hAt : ∀ x, Below wr.heap.size wr (wr.alloc (.cells x 29)) := fun x => zBa
   have hbA := zH (hAt #[.int .i64 e.kind, .int .i64 e.acc, .int .i64 e.ord, .int .i64 e.sym, .int .i64 e.side, .int .i64 e.qty, .int .i64 e.px]);clear hAt;have hzA := zH (hSt.out.law _ (hSt.out.call _ _ HB.out hbA.out));have BKA := zH (BK.out.call hbA.out);have b0 := zC K0.out;have r0 := zz00 K2.out 0 _ rfl;have lt0 := zL K0.out;have lt2 := zL K2.out
   gi_wp2_with (fail)
   refine ⟨trivial, callsIn_wide.2 ((q1.out _ hzA BKA).mono ?_)⟩;rintro r w1 ⟨v5, vS, rfl, hO, hS, hb⟩;clear b0 r0 lt0 lt2 l0 l1 l2 l3 l4 l5 l6 hbl q1 hzA BKA hS BK;obtain ⟨Y1, d1, Y2, d2, Y3, d3, Y4, d4, hv5⟩ := hO.at.forms;subst hv5;have hb1 : Below wr.heap.size wr w1 := hbA.out.trans (hb.mono hbA.out.size);have hO1 := hO.mono hbA.out.size;clear hO hb hbA;obtain ⟨wY, hwY⟩ : ∃ wY : World, (w1.alloc (.cells (BF Y1 d1 Y2 d2 Y3 d3 Y4 d4 nb nb.n) 27)).alloc (.cells #[X1, X2] 33) = wY := ⟨_, rfl⟩;have hY2 : Below w1.heap.size w1 wY := by rw [← hwY]; exact zz01 zBa (by simp) _
   have KN : ZB wY w1.heap.size (BF Y1 d1 Y2 d2 Y3 d3 Y4 d4 nb nb.n) 27 := by rw [← hwY]; exact zz05 (zz02 _ _) _
   have hbY := zH (hb1.trans (hY2.mono hb1.size));have HO := zH (hO1.kept hY2);have HM := zH hb1.size;clear hb1 hO1 hY2;obtain ⟨fn, tmps, assign, body, hy, hR⟩ := hYh.out (L.take i) e #[.int .i64 i, .agg #[X1, X2, .slice Y1 nb.h.length d1, .slice Y2 nb.s.length d2, .slice Y3 nb.o.length d3, .slice Y4 nb.r.length d4, nb.n]] wr wY HJ.out (zz2x hbY.out _) (hen.out _ _ _ _ _ _ _ _ _ _ HO.out) hpre.out;have HR := zH hR;clear hR hen;rw [← hwY] at hy;have HWY := zH hwY;clear hwY
   gi_wp2_with (fail)
   rw [HWY.out];refine HR.out.mono ?_;clear HR hy HWY HJ;rintro r w2 (⟨rfl, hJ2, hk2⟩ | ⟨rfl, hJx2⟩)
   ·have HJ2 := zH hJ2
    obtain ⟨hks, hkx, hkk⟩ := hKp.out _ _ _ hk2;have K0' := zH (hkk _ _ _ _ (zz06 K0.out hbY.out) (.inr ⟨Nat.le_refl _, Nat.le_add_right _ _⟩));have K1' := zH (hkk _ _ _ _ (zz06 K1.out hbY.out) (.inr ⟨by omega, by omega⟩))
    have K2' := zH (hkk _ _ _ _ (zz06 K2.out hbY.out) (.inr ⟨by omega, by omega⟩))
    have KN' := zH (hkk _ _ _ _ KN.out (.inl HM.out));have HO' := zH (HO.out.still hks fun q cs t fr hq hM => hkk q cs t fr hq (.inl hM))
    have HB' := zH (hkx (hSt.out.call _ _ HB.out hbY.out));have hlt : Hid (Bs < wr.heap.size) := zL K0.out;have hne : w1.heap.size ≠ Bs := by have h1 := hlt.out; have h2 := HM.out; omega
    clear hJ2 hk2 hks hkx hkk K0 K1 K2 KN HO HB hbY;have b0 := zC K0'.out;have hne2 := hne.symm;have f0 := zz04 K0'.out 0;have f1 := zz04 K0'.out 1;have f2 := zz04 K0'.out 2;have f3 := zz04 K0'.out 3;have f4 := zz04 K0'.out 4;have n0 := zC KN'.out
    gi_wp2_with (fail)
    generalize hws : World.setCell _ _ _ = ws;clear b0 f0 f1 f2 f3 f4 n0 hne hne2;have EE : putC w2 Bs 0 [(.slice Y1 nb.h.length d1 : Value), .slice Y2 nb.s.length d2, .slice Y3 nb.o.length d3, .slice Y4 nb.r.length d4, .int .i64 nb.n] = ws := hws;clear hws;have J3 := hJh.out _ _ _ HJ2.out (zz71 [(.slice Y1 nb.h.length d1 : Value), .slice Y2 nb.s.length d2, .slice Y3 nb.o.length d3, .slice Y4 nb.r.length d4, .int .i64 nb.n] 0 w2 (g := Bs));have B3 := hSt.out.put _ _ [(.slice Y1 nb.h.length d1 : Value), .slice Y2 nb.s.length d2, .slice Y3 nb.o.length d3, .slice Y4 nb.r.length d4, .int .i64 nb.n] HB'.out K0'.out;have K03 : (putC w2 Bs 0 [(.slice Y1 nb.h.length d1 : Value), .slice Y2 nb.s.length d2, .slice Y3 nb.o.length d3, .slice Y4 nb.r.length d4, .int .i64 nb.n]).heap[Bs]? = some (.cells (BF Y1 d1 Y2 d2 Y3 d3 Y4 d4 nb nb.n) 27 (0, 0)) := zz0v K0'.out;have K13 := zz03 (g := Bs) (p := Bs + 1) zw (o := 0) (vs := [(.slice Y1 nb.h.length d1 : Value), .slice Y2 nb.s.length d2, .slice Y3 nb.o.length d3, .slice Y4 nb.r.length d4, nb.n]) K1'.out;have K23 := zz03 (g := Bs) (p := Bs + 2) zw (o := 0) (vs := [(.slice Y1 nb.h.length d1 : Value), .slice Y2 nb.s.length d2, .slice Y3 nb.o.length d3, .slice Y4 nb.r.length d4, nb.n]) K2'.out;have O3 := BkOwn.low hlt.out HO'.out 0 [(.slice Y1 nb.h.length d1 : Value), .slice Y2 nb.s.length d2, .slice Y3 nb.o.length d3, .slice Y4 nb.r.length d4, .int .i64 nb.n];rw [EE] at J3 B3 K03 K13 K23 O3;go_roundw
    case rel =>
     refine ⟨i + 1, Y1, Y2, Y3, Y4, d1, d2, d3, d4, by go_num, by show _ ≤ _; omega, ?_, B3, ?_, K13, K23, ?_⟩
     ·rw [HTK.out]; exact J3
     ·rw [HTK.out, HSN.out]; exact K03
     ·rw [HTK.out, HSN.out]; exact O3.at
    case measure => simp [intOf]; omega
   ·have HJX := zH hJx2
    clear hJx2
    gi_wp2_with (fail)
    refine bodyPost_ret (results_none rfl _ _ _) rfl ?_;exact ⟨⟨_, rfl⟩, .inr ⟨_, hpre.out, HJX.out⟩⟩
  ·obtain rfl : i = L.length := by omega
   gi_wp2_with (fail)
   go_end0;have h := HJ.out;rw [hlast.out] at h;exact ⟨⟨_, rfl⟩, .inl h⟩
theorem StX.of {n0 : World} {Bs : Nat} {AL : Option Addr} {n cL : Nat} {L : List Ev} (hT : Hid (Law16 n0)) (HL : Hid (EvsAt n0 (.slice AL n cL) L)) (hB : Hid (n0.heap.size ≤ Bs)) : StX (Below n0.heap.size n0) Bs (.slice AL n cL) L :=
 ⟨fun W h => hT.out.call h, fun W h => HL.out.call h, fun A B h hb => h.trans (hb.mono h.size), fun A cs us h _ => zz0y hB.out h⟩
theorem KpF.x {w0 : World} {Bs M : Nat} {A B : World} (h : KpF w0.heap.size Bs M A B) : KpX (Below w0.heap.size w0) Bs M A B := ⟨h.1.size, fun k => k.trans h.1, h.2⟩
theorem zzaf (b : Bk) (L : List Ev) (rate : Int) (w0 w : World) (Bs : Nat) (Ah As Ao Ar AL : Option Addr) (ch cs co cr cL : Nat) (hT : Hid (Law16 w0)) (B0 : Hid (BkAt w0 (.agg (BF Ah ch As cs Ao co Ar cr b b.n)) b)) (HL : Hid (EvsAt w0 (.slice AL L.length cL) L)) (hgd : Hid b.Good) (hE : Hid (∀ e ∈ L, e.I64s)) (hr0 : Hid (0 ≤ rate ∧ rate ≤ 1000))
  (hcount : Hid (b.n + L.length ≤ 1099511627776)) (hst : Hid (b.s.length + L.length ≤ 900000)) (hln : L.length ≤ 1000000) (hbw : Hid (Below w0.heap.size w0 w)) (hB0 : Hid (w0.heap.size ≤ Bs))
  (k0 : ZB w Bs (BF Ah ch As cs Ao co Ar cr b b.n) 27) (k1 : ZB w (Bs + 1) #[.slice AL L.length cL] 44) (k2 : ZB w (Bs + 2) #[rate] 3) :
  IterS Fence.wide 2 Tryz.prog 114 #[.pointer (some ⟨Bs + 1, 0, none⟩), .pointer (some ⟨Bs, 0, none⟩), .pointer (some ⟨Bs + 2, 0, none⟩)] Bs w (EnF b rate) (KpF w0.heap.size Bs) L :=
 states1_x b L rate _ _ w Bs Ah As Ao Ar AL ch cs co cr cL (zH (StX.of hT HL hB0)) hbw (zH fun _ _ _ h => h.x) (zH (B0.out.call hbw.out)) hgd hE hr0 hcount hst hln k0 k1 k2
end
section
open Go Go.RowKit
section
variable {P : Program} {ops : Array Oper} {md : Region.Mode} {Q : Exit → Act → World → Prop}
theorem wpOpIn_of {l n i : Nat} {K : Act → World → Prop} {a : Act} {w : World} (hd : ∀ o c, ops[i]? = some o → o.op ≠ .defer c) (hQ : ¬ LetsOut Q) (h : wpOp P ops Q i K a w) : wpOpIn (Fence.wide.inRound l) n P ops Q i K a w := by
 unfold wpOp at h;unfold wpOpIn;cases ho : ops[i]? with
 | none => rw [ho] at h; exact h
 | some o =>
  rw [ho] at h;simp only [] at h ⊢
  split at h
  ·rename_i hw
   rw [if_pos hw];rcases h with h | ⟨_, h⟩
   ·refine ⟨fun _ _ => trivial, ?_⟩
    rw [Oper.semAt_eq _ _ _ (fun c => hd o c ho)]
    unfold Oper.wp at h;generalize (execOp a.eval o).run P w = r at h ⊢;cases r with
    | ok x w' =>
     cases x with
     | value u => exact h
     | skip => exact h
     | defer d => exact h
     | enter f args =>
      refine ⟨(fun h => by cases h), CallsIn.inRound l (callsIn_wide.2 (Calls.mono h fun e w'' he => ?_))⟩
      cases e <;> exact he
     | row row args => exact ⟨(fun h => by cases h), fun c cs _ => let ⟨v, w', r, s⟩ := h c cs; ⟨v, w', r, stepsIn_wide.2 s⟩⟩
     | _ => exact h.elim
    | halt x w' =>
     cases x with
     | panic u => exact h
     | _ => exact h.elim
   ·exact (hQ h).elim
  ·rename_i hw
   rw [if_neg hw];exact ⟨fun _ _ => trivial, h⟩
theorem zz6e {l n : Nat} (hd : ∀ (i : Nat) (o : Oper) (c : Call), ops[i]? = some o → o.op ≠ .defer c) (hQ : ¬ LetsOut Q) : ∀ (f : Nat) (L : Array Bool) (a : Act) (w : World), wpAny P md ops Q f L a w → wpAnyIn (Fence.wide.inRound l) n P md ops Q f L a w
 | 0, _, _, _, h => h
 | f + 1, _, _, _, h => ⟨h.1, fun i hi => wpOpIn_of (hd i) hQ (wpOp_mono (fun a' w' h' => zz6e hd hQ f _ a' w' h') (h.2 i hi))⟩
def noDefer (ops : Array Oper) : Bool := ops.all fun (o : Oper) => match o.op with | .defer _ => false | _ => true
theorem zz7u (h : noDefer ops = true) : ∀ (i : Nat) (o : Oper) (c : Call), ops[i]? = some o → o.op ≠ .defer c := by
 intro i o c ho hc;have h1 := Array.all_eq_true.1 h i (zL ho);rw [(Array.getElem?_eq_some_iff.1 ho).2, hc] at h1;cases h1
def OnlyX (Q : Exit → Act → World → Prop) : Exit → Act → World → Prop
 | .normal, a, w => Q .normal a w
 | _, _, _ => False
theorem zz87 (a : Act) (w : World) : OnlyN (OnlyX Q) .normal a w = Q .normal a w := rfl
theorem OnlyX.to : ∀ (x : Exit) (a : Act) (w : World), OnlyN (OnlyX Q) x a w → Q x a w
 | .normal, _, _, h => h
 | .outgrown, _, _, h => h.elim
 | .exit _, _, _, h => h.elim
 | .goto _, _, _, h => h.elim
 | .ret, _, _, h => h.elim
 | .panic _, _, _, h => h.elim
theorem zz6b {l n id : Nat} {C : World → Prop} {a : Act} {w : World} {os : List Oper} (ex : List Nat) (f : Nat) (L : Array Bool) (hm : P.follows .mixedOrders = true) (hf : os.length = f) (hL : Array.replicate os.toArray.size false = L) (hd : noDefer os.toArray = true)
  (h : wpAnyD P .any os.toArray C ex (OnlyN (OnlyX Q)) f L a { w with drawn := w.drawn + 1 }) : (Code.region id os.toArray true).wpIn (Fence.wide.inRound l) n P Q a w := by
 subst hL hf;refine wpIn_mono (Q := OnlyN (OnlyX Q)) (wpIn_region_any hm (zz6e (zz7u hd) (by rintro ⟨a, w, h⟩; exact h) _ _ _ _ (zz48 (C := C) (ex := ex) _ _ _ _ ?_))) OnlyX.to
 simpa using h
end
end
section
open Go Go.RowKit Mon
theorem RowOwn.neB {w : World} {B : Nat} {e : TypeId} {v : Value} {k : Nat} {l : List (List Int)} (h : RowOwn w B e v k l) {g : Nat} {cs : Array Value} {t : TypeId} {fr : Nat × Nat} (hg : w.heap[g]? = some (.cells cs t fr)) (hne : e ≠ t) : v.ownBlock ≠ some g := by
 obtain ⟨⟨hl, ho⟩, hk⟩ := h;rcases ho with h | ⟨g', cap, cur, h1, h2, h3, h4⟩
 ·rw [h.1]; intro e'; cases e'
 ·rw [h1]
  intro e';have e2 : g' = g := by simpa [Value.ownBlock] using e'
  subst e2;rw [hg] at h3;injection h3 with h3
  injection h3 with _ h3 _
  exact hne h3.symm
theorem RowOwn.cellsB {w : World} {B : Nat} {e : TypeId} {v : Value} {k : Nat} {l : List (List Int)} (h : RowOwn w B e v k l) {q : Nat} (hq : v.ownBlock = some q) : ∃ o : Obj, w.heap[q]? = some o ∧ o.isCells = true := by
 rcases h.1.2 with ⟨rfl, _⟩ | ⟨g, cap, cur, rfl, _, h3, _⟩
 ·cases hq
 ·obtain rfl : g = q := by simpa [Value.ownBlock] using hq
  exact ⟨_, h3, rfl⟩
theorem RowOwn.grow {A B : World} {b0 : Nat} {e : TypeId} {v : Value} {k : Nat} {l : List (List Int)} {row : Option Nat} (h : RowOwn A b0 e v k l) (hg : A.grownBy B row) (hr : ∀ q, v.ownBlock = some q → row ≠ some q) : RowOwn B b0 e v k l :=
 h.still hg.size fun q cs t fr hq hv => (hg.block q (zL hq) (fun e => hr q hv e.symm)).trans hq
theorem zzbe {W w1 : World} {B : Nat} {e : TypeId} {v : Value} {k : Nat} {l : List (List Int)} {tmp : Obj} (h : RowOwn W B e v k l) (hn : B ≤ W.heap.size) (hg : (W.alloc tmp).grownBy w1 v.ownBlock) : KeepsOthers W w1 ∧ Below B W w1 ∧ ∀ j, j < W.heap.size → v.ownBlock ≠ some j → w1.heap[j]? = W.heap[j]? := by
 refine ⟨(KeepsOthers.alloc W tmp).trans (KeepsOthers.of_grownBy hg fun j o ej hj => ?_), ((Below.refl B W).alloc hn tmp).grown hg (by simp; omega) (fun j ej => (h.block ej).1), fun j hj hne => ?_⟩
 ·obtain ⟨o', ho', hc⟩ := h.cellsB ej
  have := Below.heap_alloc W tmp j (Array.getElem?_eq_some_iff.1 ho').1;rw [this, ho'] at hj;cases hj;exact hc
 ·have h1 := hg.block j (by simp; omega) (fun e => hne e.symm)
  rw [h1, Below.heap_alloc W tmp j hj]
section
variable {P : Program} {ops : Array Oper} {rest : List Oper} {o : Oper} {a : Act} {Q : Exit → Act → World → Prop}
theorem zz3j {wr : World} {B : Nat} (s x : Operand) (t e : TypeId) (z : Value) (k bytes : Nat) (he : Elt P t e z k bytes) (r : List Int) (v : Value) (l : List (List Int))
  (hown : Hid (RowOwn wr B e v k l)) (hB : B ≤ wr.heap.size) (hgd : o.guard = none) (ho : o.op = .call { callee := .builtin .append, args := #[s, x], argTypes := #[t, t] })
  (hs : a.eval s = v) (hx : a.eval x = .slice (some ⟨wr.heap.size, 0, none⟩) 1 1) (hr : r.length = k) (hn : l.length + 1 ≤ 4000000) (hby : bytes ≤ 256)
  (h : ∀ v' w', Hid (RowOwn w' B e v' k (l ++ [r])) → Hid ((wr.alloc (.cells (r.map (Value.int .i64)).toArray e)).grownBy w' v.ownBlock) → wpList P ops Q rest (a.put o.dst v') w') :
  wpList P ops Q (o :: rest) a (wr.alloc (.cells (r.map (Value.int .i64)).toArray e)) := by
 obtain ⟨i, hi, hz, hsz, hbs⟩ := he.info;obtain ⟨ho', hk⟩ := hown.out;refine wpList_append_own _ hgd s x t ho B e i z k bytes he.und hi hz hsz hbs he.zs he.pos v l.length (flatC l) hs (ho'.alloc _) ⟨wr.heap.size, 0, none⟩ 1 1 (r.map (Value.int .i64)) hx (by rw [List.length_map, hr, Nat.one_mul]) ?_ ?_ ?_ ?_ ?_ ?_
 ·exact zt74
 ·intro u hu; obtain ⟨y, _, rfl⟩ := List.mem_map.1 hu; rfl
 ·unfold maxLen; omega
 ·have h1 := Nat.mul_le_mul hn hby; omega
 ·simp; omega
 ·intro v' w' h1 h2 _
  refine h v' w' ⟨?_, ?_⟩ h2
  ·exact zt87
  ·exact zt71
end
theorem el_Pair : Elt Tryz.prog 45 98 (.agg #[.int .i64 0, .int .i64 0, .int .i64 0, .int .i64 0, .int .i64 0, .int .i64 0, .int .i64 0, .int .i64 0, .int .i64 0]) 9 72 := Elt.mk' Tryz.underlying45 zk rfl zx
theorem zz73 (b : Bk) (rate : Int) (pre : List Ev) (e : Ev) : foldP b rate (pre ++ [e]) = foldP b rate pre ++ [pairC e (gateV (foldB b rate pre) e rate)] := by rw [zz8u]; rfl
theorem EvsAt.got {w : World} {bb oo n c : Nat} {L : List Ev} (h : EvsAt w (.slice (some ⟨bb, oo, none⟩) n c) L) {i : Nat} {e : Ev} (hi : L[i]? = some e) : bb < w.heap.size ∧
  w.cell? ⟨bb, oo + i * 7, none⟩ = some (.int .i64 e.kind) ∧ w.cell? ⟨bb, oo + i * 7 + 1, none⟩ = some (.int .i64 e.acc) ∧ w.cell? ⟨bb, oo + i * 7 + 2, none⟩ = some (.int .i64 e.ord) ∧ w.cell? ⟨bb, oo + i * 7 + 3, none⟩ = some (.int .i64 e.sym) ∧ w.cell? ⟨bb, oo + i * 7 + 4, none⟩ = some (.int .i64 e.side) ∧ w.cell? ⟨bb, oo + i * 7 + 5, none⟩ = some (.int .i64 e.qty) ∧ w.cell? ⟨bb, oo + i * 7 + 6, none⟩ = some (.int .i64 e.px) := by
 obtain ⟨b, o, hA, h1⟩ := h.get hi;injection hA with hA
 injection hA with hb ho _
 subst hb ho;exact h1
def NotIn (Bs : Nat) (v : Value) : Prop := ∀ a1 a2 a3 a4 n, v = .agg #[a1, a2, a3, a4, n] → a1.ownBlock ≠ some Bs ∧ a2.ownBlock ≠ some Bs ∧ a3.ownBlock ≠ some Bs ∧ a4.ownBlock ≠ some Bs
theorem BkOwn.notIn {A : World} {b0 : Nat} {v : Value} {b : Bk} {Bs : Nat} (h : BkOwn A b0 v b) (hB : Bs < b0 ∨ A.heap.size ≤ Bs) : NotIn Bs v := by
 obtain ⟨vh, vs, vo, vr, rfl, h1, h2, h3, h4⟩ := h;intro a1 a2 a3 a4 n hv;injection hv with hv
 simp only [Array.mk.injEq, List.cons.injEq, and_true] at hv;obtain ⟨rfl, rfl, rfl, rfl, _⟩ := hv;refine ⟨fun e => ?_, fun e => ?_, fun e => ?_, fun e => ?_⟩
 ·have := h1.block e; omega
 ·have := h2.block e; omega
 ·have := h3.block e; omega
 ·have := h4.block e; omega
theorem BkOwn.grow {A B : World} {b0 Bs N : Nat} {v : Value} {b : Bk} {row : Option Nat} (h : BkOwn A b0 v b) (hn : NotIn Bs v) (hg : A.grownBy B row) (hr : ∀ r, row = some r → r = Bs ∨ (N ≤ r ∧ ∃ o : Obj, A.heap[r]? = some o ∧ o.isCells = false)) : BkOwn B b0 v b := by
 obtain ⟨vh, vs, vo, vr, rfl, h1, h2, h3, h4⟩ := h;obtain ⟨n1, n2, n3, n4⟩ := hn _ _ _ _ _ rfl;have key : ∀ {e : TypeId} {u : Value} {k : Nat} {l : List (List Int)}, RowOwn A b0 e u k l → u.ownBlock ≠ some Bs → RowOwn B b0 e u k l := fun hx hne => hx.grow hg fun q hq e => by
  rcases hr q e with rfl | ⟨_, o, ho, hc⟩
  ·exact hne hq
  ·obtain ⟨o', ho', hc'⟩ := hx.cellsB hq
   rw [ho] at ho';cases ho';rw [hc] at hc';cases hc'
 exact ⟨vh, vs, vo, vr, rfl, key h1 n1, key h2 n2, key h3 n3, key h4 n4⟩
theorem BkOwn.grown {A B : World} {b0 : Nat} {v : Value} {b : Bk} (h : BkOwn A b0 v b) {e : TypeId} {u : Value} {k c0 : Nat} {l : List (List Int)} (hu : RowOwn A c0 e u k l) (he : e ≠ 78 ∧ e ≠ 80 ∧ e ≠ 82 ∧ e ≠ 84) (hs : A.heap.size ≤ B.heap.size) (hk : ∀ j, j < A.heap.size → u.ownBlock ≠ some j → B.heap[j]? = A.heap[j]?) : BkOwn B b0 v b := by
 obtain ⟨vh, vs, vo, vr, rfl, h1, h2, h3, h4⟩ := h;have key : ∀ {e' : TypeId} {x : Value} {k' : Nat} {l' : List (List Int)}, RowOwn A b0 e' x k' l' → e ≠ e' → RowOwn B b0 e' x k' l' := fun {e' x k' l'} hx hne => by
  obtain ⟨⟨hl, ho⟩, h2⟩ := hx;refine ⟨⟨hl, ?_⟩, h2⟩;rcases ho with h | ⟨g, cap, cur, rfl, h1, h3, h4⟩
  ·exact .inl h
  ·exact .inr ⟨g, cap, cur, rfl, h1, (hk g (zL h3) (hu.neB h3 hne)).trans h3, h4⟩
 exact ⟨vh, vs, vo, vr, rfl, key h1 he.1, key h2 he.2.1, key h3 he.2.2.1, key h4 he.2.2.2⟩
theorem RowOwn.putT {g B : Nat} {e t : TypeId} {v : Value} {k : Nat} {l : List (List Int)} {fr : Nat × Nat} (hne : e ≠ t) : ∀ {us : List Value} {o : Nat} {w : World} {cs : Array Value}, RowOwn w B e v k l → w.heap[g]? = some (.cells cs t fr) → RowOwn (putC w g o us) B e v k l
 | [], _, _, _, h, _ => h
 | u :: us, o, w, cs, h, hg => by
  show RowOwn (putC (w.setCell ⟨g, o, none⟩ u) g (o + 1) us) B e v k l;exact RowOwn.putT hne (h.setO hg hne o u) (zz0c hg o u)
theorem BkOwn.putT {g B : Nat} {t : TypeId} {v : Value} {b : Bk} {fr : Nat × Nat} (ht : t ≠ 78 ∧ t ≠ 80 ∧ t ≠ 82 ∧ t ≠ 84) {us : List Value} {o : Nat} {w : World} {cs : Array Value} (h : BkOwn w B v b) (hg : w.heap[g]? = some (.cells cs t fr)) : BkOwn (putC w g o us) B v b := by
 obtain ⟨vh, vs, vo, vr, rfl, h1, h2, h3, h4⟩ := h;exact ⟨vh, vs, vo, vr, rfl, h1.putT ht.1.symm hg, h2.putT ht.2.1.symm hg, h3.putT ht.2.2.1.symm hg, h4.putT ht.2.2.2.symm hg⟩
theorem zz4o {g : Nat} : ∀ (us : List Value) (o : Nat) (w : World), KeepsOthers w (putC w g o us)
 | [], _, w => KeepsOthers.refl w
 | u :: us, o, w => (KeepsOthers.setCell w _ u).trans (zz4o (g := g) us (o + 1) _)
theorem KpF.putC {n0 Bs M g : Nat} {W : World} (hn : n0 ≤ g) (hM : g < M) (hB : g < Bs) (o : Nat) (us : List Value) : KpF n0 Bs M W (putC W g o us) :=
 ⟨zz0y hn (Below.refl _ _), fun k cs t fr hk hr => zz03 zw hk⟩
theorem zz9y {A B : World} (hb : Below A.heap.size A B) : KeepsOthers A B := KeepsOthers.of_grownBy (zz2x hb none) (fun j o e => by cases e)
end
section
open Go Go.RowKit Go.Shelf Mon
attribute [local go_sem] Oper.semAt_some
def rightC (b : Bk) (n : Nat) (rate : Int) : Int :=
 if 65536 < n then 4 else if (b.mayB && (decide (0 ≤ rate) && decide (rate ≤ 1000))) = true then (if 1099511627776 < b.n + n then 11 else 0) else 1
theorem zt59 {p : Prop} (h : p := by
 go_in;go_wp2_with fail;(with_reducible refine (q.out _ _ (zH (hb.out.call HB.out))).mono ?_);rintro r w1 ⟨rfl, hb1⟩;have HB1 := zB HB hb1;clear hb1;go_wp2_with fail;go_ret;exact ⟨rfl, HB1.out⟩) : p := h
theorem zz8f (v : Value) (b : Bk) (n : Nat) (rate : Int) (w : World) (hb : Hid (BkAt w v b)) (hs : Hid b.Small) (hn : n ≤ 9223372036854775807) :
  Calls Tryz.prog 48 #[v, .int .i64 n, .int .i64 rate] w fun e w' => e = .returned (.int .i64 (rightC b n rate)) ∧ Below w.heap.size w w' := by
 obtain ⟨Ah, ch, As, cs, Ao, co, Ar, cr, rfl⟩ := hb.out.forms;have HB : Hid (Below w.heap.size w (w.alloc (.cells (BF Ah ch As cs Ao co Ar cr b b.n) 27))) := zBa;have k := zz02 w (.cells (BF Ah ch As cs Ao co Ar cr b b.n) 27);have K := zH k;clear k;by_cases h1 : 65536 < n
 ·have t1 : decide ((65536 : Int) < (n : Int)) = true := decide_eq_true zw
  have hr : rightC b n rate = 4 := if_pos h1;rw [hr];go_in;go_wp2_with fail;go_ret;exact ⟨rfl, HB.out⟩
 have t1 : decide ((65536 : Int) < (n : Int)) = false := decide_eq_false zw;have q := zH (fun u wz h => zz2n u b wz h hs)
 obtain ⟨M, hM⟩ : ∃ M, b.mayB = M := ⟨_, rfl⟩;rw [hM] at q;cases M with
 | false =>
  have hr : rightC b n rate = 1 := by unfold rightC; rw [if_neg h1, hM, if_neg (by simp)]
  rw [hr];exact zt59
 | true =>
 have hf := (Bk.mayB_iff b).1 hM;have hn0 := hf.n0;have hn1 := hf.n1;by_cases h2 : rate < 0
 ·have t2 : decide (rate < 0) = true := decide_eq_true h2
  have hr : rightC b n rate = 1 := by unfold rightC; rw [if_neg h1, hM, decide_eq_false (show ¬ 0 ≤ rate by omega), if_neg (by simp)]
  rw [hr];clear hf hn0 hn1 h2;exact zt59
 have t2 : decide (rate < 0) = false := decide_eq_false h2;by_cases h3 : 1000 < rate
 ·have t3 : decide (1000 < rate) = true := decide_eq_true h3
  have hr : rightC b n rate = 1 := by unfold rightC; rw [if_neg h1, hM, decide_eq_false (show ¬ rate ≤ 1000 by omega), if_neg (by simp)]
  rw [hr];clear hf hn0 hn1 h2 h3;exact zt59
 have t3 : decide (1000 < rate) = false := decide_eq_false h3;have hw : IntKind.i64.wrap (b.n + (n : Int)) = b.n + (n : Int) := by rw [IntKind.wrap_i64]; omega
 obtain ⟨D, hD⟩ : ∃ D, decide (1099511627776 < b.n + (n : Int)) = D := ⟨_, rfl⟩;have hr : rightC b n rate = if D then 11 else 0 := by
  unfold rightC;rw [if_neg h1, hM, decide_eq_true (show 0 ≤ rate by omega), decide_eq_true (show rate ≤ 1000 by omega), if_pos (by simp), ← hD]
  simp
 rw [hr];clear hf hn0 hn1 h1 h2 h3 hr;go_in;go_wp2_with fail;(with_reducible refine (q.out _ _ (zH (hb.out.call HB.out))).mono ?_);rintro r w1 ⟨rfl, hb1⟩;have HB1 := zB HB hb1;have K1 := zK K hb1;clear hb1;have c4 := zz00 K1.out 4 _ rfl;cases D <;> (go_wp2_with fail; go_ret; exact ⟨rfl, HB1.out⟩)
theorem ret_tct {P : Program} {fn : Func} {p s1 s2 : Tmp} {ty : TypeId} (h : fn.results = #[.tmp s1, .cell p ty, .tmp s2]) (tmps : Array Value) (w : World) (g : Nat) (t : TypeId) (cs : Array Value) (d : TypeDesc)
  (hp : tmps.getD p undef = .pointer (some ⟨g, 0, none⟩)) (hg : w.heap[g]? = some (.cells cs t (0, 0)))
  (hu : P.underlying ty = some d) (hd : (match d with | .struct _ | .array _ _ => true | _ => false) = true) (hi : (P.info? ty).map (·.size) = some cs.size)
  (x y : Value) (hx : tmps.getD s1 undef = x) (hy : tmps.getD s2 undef = y) : (results fn tmps).run P w = .ok (.tuple #[x, .agg cs, y]) w := by
 subst hx hy;exact zt94
theorem RowOwn.baseTo {w : World} {B B' : Nat} {e : TypeId} {v : Value} {k : Nat} {l : List (List Int)} (h : RowOwn w B e v k l) (hB : B' ≤ B) : RowOwn w B' e v k l := by
 obtain ⟨⟨hl, ho⟩, h2⟩ := h;refine ⟨⟨hl, ?_⟩, h2⟩;rcases ho with h | ⟨g, cap, cur, h1, h3, h4⟩
 ·exact .inl h
 ·exact .inr ⟨g, cap, cur, h1, Nat.le_trans hB h3, h4⟩
structure IRun (w0 : World) (no nl Bs : Nat) (vl : Value) (b : Bk) (rate : Int) (pre : List Ev) (M : Nat) (W : World) (vo : Value) (bv : Array Value) : Prop where
 below : Below w0.heap.size w0 W
 lbox : W.heap[w0.heap.size + 1]? = some (.cells #[vl] 44 (0, 0))
 res : W.heap[w0.heap.size + 1 + 1]? = some (.cells BZ 27 (0, 0))
 out : W.heap[no]? = some (.cells #[vo] 45 (0, 0))
 last : W.heap[nl]? = some (.cells bv 27 (0, 0))
 row : RowOwn W (Bs + 3) 98 vo 9 (foldP b rate pre)
 rowM : ∀ q, vo.ownBlock = some q → q < M
 bk : BkOwn W w0.heap.size (.agg bv) (foldB b rate pre)
 bkB : NotIn Bs (.agg bv)
theorem IRun.grow {w0 A B : World} {no nl Bs N M : Nat} {vl vo : Value} {bv : Array Value} {b : Bk} {rate : Int} {pre : List Ev} {row : Option Nat} (h : IRun w0 no nl Bs vl b rate pre M A vo bv) (hg : A.grownBy B row) (hr : ∀ r, row = some r → r = Bs ∨ (N ≤ r ∧ ∃ o : Obj, A.heap[r]? = some o ∧ o.isCells = false))
  (h1 : w0.heap.size + 1 + 1 < Bs ∧ no < Bs ∧ nl < Bs ∧ Bs ≤ N) : IRun w0 no nl Bs vl b rate pre M B vo bv := by
 have fx : ∀ {k : Nat} {cs : Array Value} {t : TypeId} {fr : Nat × Nat}, A.heap[k]? = some (.cells cs t fr) → k < Bs → B.heap[k]? = some (.cells cs t fr) := fun {k cs t fr} hk hlt => (hg.block k (zL hk) fun e => by
  rcases hr k e.symm with h | ⟨h, _⟩ <;> omega).trans hk
 refine ⟨h.below.grown hg h.below.size (fun k e => ?_), fx h.lbox zw, fx h.res h1.1, fx h.out h1.2.1, fx h.last h1.2.2.1, h.row.grow hg fun q hq e => ?_, h.rowM, h.bk.grow h.bkB hg hr, h.bkB⟩
 ·rcases hr k e with h | ⟨h, _⟩ <;> omega
 ·rcases hr q e with h2 | ⟨h2, o, ho, hc⟩
  ·have := (h.row.block hq).1
   omega
  ·obtain ⟨o', ho', hc'⟩ := h.row.cellsB hq
   rw [ho] at ho';cases ho';rw [hc] at hc';cases hc'
theorem IRun.call {w0 A B : World} {no nl Bs M : Nat} {vl vo : Value} {bv : Array Value} {b : Bk} {rate : Int} {pre : List Ev} (h : IRun w0 no nl Bs vl b rate pre M A vo bv) (hb : Below A.heap.size A B) (h1 : w0.heap.size + 1 + 1 < Bs ∧ no < Bs ∧ nl < Bs) : IRun w0 no nl Bs vl b rate pre M B vo bv :=
 h.grow (N := Bs) (zz2x hb none) (fun r e => by cases e) ⟨h1.1, h1.2.1, h1.2.2, Nat.le_refl _⟩
theorem zz4y (Ah As Ao Ar AL : Option Addr) (ch cs co cr cL : Nat) (b : Bk) (L : List Ev) (rate : Int) (w : World) (hT : Hid (Law16 w)) (B0 : Hid (BkAt w (.agg (BF Ah ch As cs Ao co Ar cr b b.n)) b)) (HL : Hid (EvsAt w (.slice AL L.length cL) L)) (hgd : Hid b.Good) (hE : Hid (∀ e ∈ L, e.I64s)) (hr0 : Hid (0 ≤ rate ∧ rate ≤ 1000))
  (hcount : Hid (b.n + L.length ≤ 1099511627776)) (hst : Hid (b.s.length + L.length ≤ 900000)) (hln : L.length ≤ 60000) :
  Calls Tryz.prog 16 #[.agg (BF Ah ch As cs Ao co Ar cr b b.n), .slice AL L.length cL, .int .i64 rate] w fun r w' => ∃ vp vb, r = .returned (.tuple #[vp, vb, .int .i64 0]) ∧ RowOwn w' w.heap.size 98 vp 9 (foldP b rate L) ∧ BkOwn w' w.heap.size vb (foldB b rate L) ∧ Below w.heap.size w w' := by
 have hsm : Hid b.Small := hgd.out.small (by have := hst.out; omega)
 have q1 : Hid (∀ (v : Value) (wz : World), Hid (BkAt wz v b) → Calls Tryz.prog 48 #[v, .int .i64 L.length, .int .i64 rate] wz fun e w' => e = .returned (.int .i64 0) ∧ Below wz.heap.size wz w') := (show _ from fun v wz hv => by
  have h := zz8f v b L.length rate wz hv hsm zw;rw [show rightC b L.length rate = 0 from by unfold rightC; rw [if_neg zw, hgd.out.may, decide_eq_true hr0.out.1, decide_eq_true hr0.out.2, if_pos (by rfl), if_neg (by have := hcount.out; omega)]] at h
  exact h)
 refine (callsIn_wide (n := 3)).1 ?_;have h1 : 1 ≤ 3 := by omega
 have hro : Fence.wide.round = none := rfl;obtain ⟨wb, hwb⟩ : ∃ wb : World, ((w.alloc (.cells (BF Ah ch As cs Ao co Ar cr b b.n) 27)).alloc (.cells #[.slice AL L.length cL] 44)).alloc (.cells BZ 27) = wb := ⟨_, rfl⟩;have HB : Hid (Below w.heap.size w wb) := by rw [← hwb]; exact zz01 (zz01 zBa (by simp) _) (by simp; omega) _
 have K0 : ZB wb w.heap.size (BF Ah ch As cs Ao co Ar cr b b.n) 27 := by rw [← hwb]; exact zz05 (zz05 (zz02 _ _) _) _
 have K1 : ZB wb (w.heap.size + 1) #[.slice AL L.length cL] 44 := by rw [← hwb]; exact zz05 (zz0d _ _ _ (by simp)) _
 have K2 : ZB wb (w.heap.size + 1 + 1) BZ 27 := by rw [← hwb]; exact zz0d _ _ _ (by simp)
 replace hwb := zH hwb;have b0 := zC K0.out;have l0 := zz00 K1.out 0 _ rfl;rw [← hwb.out] at b0 l0;refine callsIn_of_wp_marks Tryz.func16 rfl trivial ?_ hro;simp only [Tryz.ntmps16, List.size_toArray, List.length_cons, List.length_nil, Nat.reduceAdd, Nat.reduceSub, Array.replicate_succ, Array.replicate_zero, List.push_toArray, List.append_toArray, List.nil_append, List.cons_append]
 gi_wp2_with (fail)
 rw [hwb.out];refine ⟨trivial, callsIn_wide.2 ((q1.out _ _ (zH (B0.out.call HB.out))).mono ?_)⟩;rintro r w1 ⟨rfl, hb⟩;clear b0 l0 hwb q1;replace K0 := zK K0 hb;replace K1 := zK K1 hb;replace K2 := zK K2 hb;replace HB := zB HB hb;clear hb;have b0 := zC K0.out;have lt0 := zL K0.out
 gi_wp2_with (fail)
 clear b0 lt0;generalize hwo : World.alloc _ _ = wo;have hbo := zM0 hwo;have KO : ZB wo w1.heap.size #[.slice none 0 0] 45 := by rw [← hwo]; exact zz02 _ _
 have NO : Hid (w.heap.size + 1 + 1 < w1.heap.size) := zL K2.out;replace K0 := zK K0 hbo;replace K1 := zK K1 hbo;replace K2 := zK K2 hbo;replace HB := zB HB hbo;have NW := zH HB.out.size;clear hbo hwo;refine ⟨trivial, callsIn_wide.2 ((zz30 _ b _ (zH (B0.out.call HB.out)) hsm).mono ?_)⟩;rintro r w2 ⟨v6, rfl, hOw, hb⟩;obtain ⟨C1, d1, C2, d2, C3, d3, C4, d4, hv6⟩ := hOw.at.forms;subst hv6;have HO := zH hOw;replace KO := zK KO hb;replace K0 := zK K0 hb;replace K1 := zK K1 hb;replace K2 := zK K2 hb;replace HB := zB HB hb;clear hb hOw;have b0 := zC K0.out;have l0 := zz00 K1.out 0 _ rfl;have lt0 := zL K0.out;have lt1 := zL K1.out
 gi_wp2_with (fail)
 clear b0 l0 lt0 lt1;generalize hwl : World.alloc _ _ = wl;have hbl := zM0 hwl;have KL : ZB wl w2.heap.size (BF C1 d1 C2 d2 C3 d3 C4 d4 b b.n) 27 := by rw [← hwl]; exact zz02 _ _
 have NL : Hid (w1.heap.size < w2.heap.size) := zL KO.out;have NI := zH (fun Bs (h : w2.heap.size ≤ Bs) => HO.out.notIn (.inr h))
 replace KO := zK KO hbl;replace K1 := zK K1 hbl;replace K2 := zK K2 hbl;replace HO := zH (HO.out.kept hbl);replace HB := zB HB hbl;clear hbl hwl K0;have NB : Hid (w2.heap.size < wl.heap.size) := zL KL.out;refine ⟨trivial, callsIn_wide.2 ((zzae Ah As Ao Ar AL ch cs co cr L.length cL b rate wl).mono ?_)⟩;rintro r w3 ⟨rfl, hw3⟩;have hb3 : Below wl.heap.size wl w3 := by rw [hw3]; exact zz01 (zz01 zBa (by simp) _) (by simp; omega) _
 have S0 : ZB w3 wl.heap.size (BF Ah ch As cs Ao co Ar cr b b.n) 27 := by rw [hw3]; exact zz05 (zz05 (zz02 _ _) _) _
 have S1 : ZB w3 (wl.heap.size + 1) #[.slice AL L.length cL] 44 := by rw [hw3]; exact zz05 (zz0d _ _ _ (by simp)) _
 have S2 : ZB w3 (wl.heap.size + 2) #[rate] 3 := by rw [hw3]; exact zz0d _ _ _ (by simp)
 replace KO := zK KO hb3;replace KL := zK KL hb3;replace K1 := zK K1 hb3;replace K2 := zK K2 hb3;replace HO := zH (HO.out.kept hb3);replace HB := zB HB hb3;have N3 : Hid (wl.heap.size + 2 < w3.heap.size) := zL S2.out;clear hw3 hb3
 gi_wp2_with (fail)
 have hsz : w.heap.size + 1 + 1 < wl.heap.size ∧ w1.heap.size < wl.heap.size ∧ w2.heap.size < wl.heap.size ∧ wl.heap.size + 2 < w3.heap.size ∧ w.heap.size + 1 + 1 < w1.heap.size ∧ w1.heap.size < w2.heap.size := by have h1 := NO.out; have h2 := NL.out; have h3 := NB.out; have h4 := N3.out; omega
 have SZ := zH hsz;refine zz7n hro h1 (gf := 114) (lb := #[.pointer (some ⟨wl.heap.size + 1, 0, none⟩), .pointer (some ⟨wl.heap.size, 0, none⟩), .pointer (some ⟨wl.heap.size + 2, 0, none⟩)]) rfl trivial (enters_of Tryz.func114 zk rfl)
  (EnF b rate) (KpF w.heap.size wl.heap.size) L wl.heap.size
  (fun pre x args M W h => by obtain ⟨_, _, _, _, _, _, _, _, rfl, _⟩ := h; rfl) (fun h k => h.trans k) (fun M W l o o' hl ho hc => KpF.put o' zw ho hc)
  (zzaf b L rate w w3 wl.heap.size Ah As Ao Ar AL ch cs co cr cL hT B0 HL hgd hE hr0 hcount hst zw HB (zH (by show _ ≤ _; omega)) S0 S1 S2) zw
  (fun pre M W => ∃ vo bv, Hid (IRun w w1.heap.size w2.heap.size wl.heap.size (.slice AL L.length cL) b rate pre M W vo bv)) (fun _ _ _ => False)
  (fun M pre A B row ⟨vo, bv, h⟩ hg hr => ⟨vo, bv, h.out.grow hg hr zw⟩)
  (fun pre M W ⟨vo, bv, h⟩ => ⟨vo, bv, { h.out with rowM := fun q hq => (h.out.row.block hq).2 }⟩)
  (fun c pre A B row h _ _ => h)
  ⟨_, _, zH ⟨HB.out, K1.out, K2.out, KO.out, KL.out, ⟨World.ownsRow_nil _ _ _ _, (show ∀ r ∈ ([] : List (List Int)), r.length = 9 from fun r hr => by simp at hr)⟩, (fun q hq => by cases hq), HO.out.mono NW.out, NI.out _ zw⟩⟩
  (fun pre x M a' W => ∃ (g : Nat) (Y1 : Option Addr) (e1 : Nat) (Y2 : Option Addr) (e2 : Nat) (Y3 : Option Addr) (e3 : Nat) (Y4 : Option Addr) (e4 : Nat), a' = { tmps := #[.agg (BF Ah ch As cs Ao co Ar cr b b.n), .slice AL L.length cL, .int .i64 rate, .pointer (some ⟨w.heap.size, 0, none⟩), .pointer (some ⟨w.heap.size + 1, 0, none⟩), undef, .slice none 0 0, .pointer (some ⟨w.heap.size + 1 + 1, 0, none⟩), .int .i64 0, .int .i64 0, .pointer (some ⟨w1.heap.size, 0, none⟩), .pointer (some ⟨w2.heap.size, 0, none⟩), .int .i64 (pre.length : Nat), .pointer (some ⟨g, 0, none⟩), .agg (BF Ah ch As cs Ao co Ar cr b b.n), .slice AL L.length cL, .int .i64 L.length, .int .i64 rate, .int .i64 0, .int .i64 0, .bool false, undef, undef, .agg (BF Ah ch As cs Ao co Ar cr b b.n), .agg (BF C1 d1 C2 d2 C3 d3 C4 d4 b b.n), .agg (BF Ah ch As cs Ao co Ar cr b b.n), .slice AL L.length cL, .int .i64 rate, .func (.func 114) #[] #[.pointer (some ⟨wl.heap.size + 1, 0, none⟩), .pointer (some ⟨wl.heap.size, 0, none⟩), .pointer (some ⟨wl.heap.size + 2, 0, none⟩)], .int .i64 (pre.length : Nat), .agg #[.int .i64 (gateV (foldB b rate pre) x rate).1, .int .i64 (gateV (foldB b rate pre) x rate).2, .slice Y1 (foldB b rate (pre ++ [x])).h.length e1, .slice Y2 (foldB b rate (pre ++ [x])).s.length e2, .slice Y3 (foldB b rate (pre ++ [x])).o.length e3, .slice Y4 (foldB b rate (pre ++ [x])).r.length e4, .int .i64 (foldB b rate (pre ++ [x])).n], undef, undef, undef, undef, undef, undef, undef, undef, undef, undef, undef, undef, undef, undef], defers := [] } ∧ M ≤ g ∧ ZB W g #[.int .i64 (gateV (foldB b rate pre) x rate).1, .int .i64 (gateV (foldB b rate pre) x rate).2, .slice Y1 (foldB b rate (pre ++ [x])).h.length e1, .slice Y2 (foldB b rate (pre ++ [x])).s.length e2, .slice Y3 (foldB b rate (pre ++ [x])).o.length e3, .slice Y4 (foldB b rate (pre ++ [x])).r.length e4, .int .i64 (foldB b rate (pre ++ [x])).n] 104 ∧ Hid (BkOwn W M (.agg #[.slice Y1 (foldB b rate (pre ++ [x])).h.length e1, .slice Y2 (foldB b rate (pre ++ [x])).s.length e2, .slice Y3 (foldB b rate (pre ++ [x])).o.length e3, .slice Y4 (foldB b rate (pre ++ [x])).r.length e4, .int .i64 (foldB b rate (pre ++ [x])).n]) (foldB b rate (pre ++ [x]))))
  ?hAx ?assign ?body ?done ?stop
 case hAx =>
  rintro pre x M a' W l o o' ⟨g, Y1, e1, Y2, e2, Y3, e3, Y4, e4, rfl, hg, hk, hO⟩ hl ho hc;have fx : ∀ {k : Nat} {cs : Array Value} {t : TypeId} {fr : Nat × Nat}, W.heap[k]? = some (.cells cs t fr) → (W.putObj l o').heap[k]? = some (.cells cs t fr) := fun {k cs t fr} hk => by
   rw [World.putObj_heap_other (fun e => ?_)]
   ·exact hk
   ·subst e
    rw [ho] at hk;cases hk;cases hc
  exact ⟨g, Y1, e1, Y2, e2, Y3, e3, Y4, e4, rfl, hg, zH (fx hk.out), zH (hO.out.still (by simp) fun q cs t fr hq _ => fx hq)⟩
 case assign =>
  rintro l pre x args M W K hwM hMW ⟨vo, bv, hI⟩ ⟨Y1, e1, Y2, e2, Y3, e3, Y4, e4, rfl, hO⟩ hpre hK;have hbW : Below W.heap.size W (W.alloc (.cells #[.int .i64 (gateV (foldB b rate pre) x rate).1, .int .i64 (gateV (foldB b rate pre) x rate).2, .slice Y1 (foldB b rate (pre ++ [x])).h.length e1, .slice Y2 (foldB b rate (pre ++ [x])).s.length e2, .slice Y3 (foldB b rate (pre ++ [x])).o.length e3, .slice Y4 (foldB b rate (pre ++ [x])).r.length e4, .int .i64 (foldB b rate (pre ++ [x])).n] 104)) := zBa;have hK2 := zH (hK _ (W.alloc (.cells #[.int .i64 (gateV (foldB b rate pre) x rate).1, .int .i64 (gateV (foldB b rate pre) x rate).2, .slice Y1 (foldB b rate (pre ++ [x])).h.length e1, .slice Y2 (foldB b rate (pre ++ [x])).s.length e2, .slice Y3 (foldB b rate (pre ++ [x])).o.length e3, .slice Y4 (foldB b rate (pre ++ [x])).r.length e4, .int .i64 (foldB b rate (pre ++ [x])).n] 104)) ((KeepsOthers.alloc _ _).from _) (KpF.of hbW zw) ⟨vo, bv, hI.out.call hbW zw⟩ ⟨W.heap.size, Y1, e1, Y2, e2, Y3, e3, Y4, e4, rfl, hMW, zH (zz02 _ _), zH (hO.kept hbW)⟩)
  clear hK hbW hO hI
  gi_wp2
  exact hK2.out
 case body =>
  rintro l pre x M a' W hwM hMW ⟨vo, bv, hI⟩ ⟨g, Y1, e1, Y2, e2, Y3, e3, Y4, e4, rfl, hMg, hS, hO⟩ hpre;have hlt : pre.length < L.length := by
   obtain ⟨t, ht⟩ := hpre;rw [← ht];simp
  have hxi : L[pre.length]? = some x := by
   obtain ⟨t, ht⟩ := hpre;rw [← ht];simp
  have HX := zH hxi;have HEv := zH (HL.out.call hI.out.below);have hlenP := zH (zz21 rate pre b);have hsnP := zH (zz73 b rate pre x);obtain ⟨nb, hnb⟩ : ∃ nb, foldB b rate (pre ++ [x]) = nb := ⟨_, rfl⟩;obtain ⟨X1, hX1⟩ : ∃ X1, (gateV (foldB b rate pre) x rate).1 = X1 := ⟨_, rfl⟩;obtain ⟨X2, hX2⟩ : ∃ X2, (gateV (foldB b rate pre) x rate).2 = X2 := ⟨_, rfl⟩;have hpc : Hid (pairC x (gateV (foldB b rate pre) x rate) = [x.kind, x.acc, x.ord, x.sym, x.side, x.qty, x.px, X1, X2]) := (show _ = _ by rw [← hX1, ← hX2]; rfl)
  rw [hnb, hX1, hX2] at hS;rw [hnb] at hO;simp only [hnb, hX1, hX2];have HNB := zH hnb;clear hpre hxi hnb hX1 hX2;obtain ⟨bb, oo, rfl, _⟩ := HEv.out.get HX.out;have hPL : pre.length ≤ 60000 := by omega
  gi_wp2_with (fail)
  obtain ⟨Z1, z1, Z2, z2, Z3, z3, Z4, z4, hbv⟩ := hI.out.bk.at.forms;injection hbv with hbv
  subst hbv;refine zz6b [10] (C := fun wz : World => ZB wz w1.heap.size #[vo] 45 ∧ ZB wz (w.heap.size + 1) #[.slice (some ⟨bb, oo, none⟩) L.length cL] 44 ∧ Hid (EvsAt wz (.slice (some ⟨bb, oo, none⟩) L.length cL) L) ∧ ZB wz g #[X1, X2, .slice Y1 nb.h.length e1, .slice Y2 nb.s.length e2, .slice Y3 nb.o.length e3, .slice Y4 nb.r.length e4, nb.n] 104) 11 (zb 11 0) zk zk zk zk ?_
  obtain ⟨wd, hwd⟩ : ∃ wd : World, { W with drawn := W.drawn + 1 } = wd := ⟨_, rfl⟩
  rw [hwd];have hb : Below W.heap.size W wd := by rw [← hwd]; exact (Below.refl _ _).drew
  replace hI := zH (hI.out.call hb (by have := SZ.out; omega))
  replace HEv := zH (HEv.out.call hb);replace hS := zK hS hb;replace hO := zH (hO.out.kept hb);have hMd := Nat.le_trans hMW hb.size;have HF : Hid (KpF w.heap.size wl.heap.size M W wd) := KpF.of hb (by have := SZ.out; omega)
  have HK : Hid (KeepsOthers W wd) := zz9y hb;clear hwd hb;refine zM [0, 1, 2, 3, 4, 5, 6, 7] 3 ⟨zH hI.out.out, zH hI.out.lbox, HEv, hS⟩ ?_;simp only [opsAt, zA];refine zq (fun wz hC => zC hC.1.out) ?_
  refine zq (fun wz hC => zC hC.2.1.out) ?_
  iterate 2 refine zp ?_
  refine zz08 (.agg #[x.kind, x.acc, x.ord, x.sym, x.side, x.qty, x.px]) rfl (fun wz hC => by obtain ⟨_, y0, y1, y2, y3, y4, y5, y6⟩ := hC.2.2.1.out.got HX.out; unfold execOp; go_simp) ?_
  refine zp ?_;refine zq (fun wz hC => zC hC.2.2.2.out) ?_
  refine zp ?_;unfold wpPure;go_simp;refine zW 8 ?_;go_wp2_with fail;refine zQs (fun _ => ⟨zH (zz05 hI.out.out _), zH (zz05 hI.out.lbox _), zH (HEv.out.call zBa), zH (zz05 hS.out _)⟩) ?_
  refine zW 9 ?_;have hBle : wl.heap.size + 3 ≤ wd.heap.size := by have := SZ.out; omega
  refine zz3j (wr := wd) _ _ 45 98 (.agg #[.int .i64 0, .int .i64 0, .int .i64 0, .int .i64 0, .int .i64 0, .int .i64 0, .int .i64 0, .int .i64 0, .int .i64 0]) 9 72 el_Pair [x.kind, x.acc, x.ord, x.sym, x.side, x.qty, x.px, X1, X2] vo (foldP b rate pre) (zH hI.out.row) hBle rfl rfl rfl rfl rfl (by rw [hlenP.out]; omega) zx ?_
  intro v' w9 hown' hg';obtain ⟨ko, kb, kk⟩ := zzbe hI.out.row hBle hg'.out;have fx : ∀ {k : Nat} {cs : Array Value} {t : TypeId} {fr : Nat × Nat}, wd.heap[k]? = some (.cells cs t fr) → 98 ≠ t → w9.heap[k]? = some (.cells cs t fr) := fun {k cs t fr} hk hne => (kk k (zL hk) (hI.out.row.neB hk hne)).trans hk
  have k9o := zH (fx hI.out.out zx);have k9l := zH (fx hI.out.lbox zx);have k9r := zH (fx hI.out.res zx);have k9t := zH (fx hI.out.last zx);have k9s := zH (fx hS.out zx);have b9 : Hid (BkOwn w9 w.heap.size (.agg (BF Z1 z1 Z2 z2 Z3 z3 Z4 z4 (foldB b rate pre) (foldB b rate pre).n)) (foldB b rate pre)) := hI.out.bk.grown hI.out.row zx kb.size kk;have o9 : Hid (BkOwn w9 M (.agg (BF Y1 e1 Y2 e2 Y3 e3 Y4 e4 nb nb.n)) nb) := hO.out.grown hI.out.row zx kb.size kk;have w9b : Hid (Below w.heap.size w w9) := hI.out.below.trans (kb.mono (by have := SZ.out; omega))
  have e9 := zH (HL.out.call w9b.out);have s9 : M ≤ w9.heap.size := Nat.le_trans hMd kb.size;have F9 : Hid (KpF w.heap.size wl.heap.size M W w9) := HF.out.trans ⟨kb.mono (by have := SZ.out; omega), fun k cs t fr hk hr => (kk k (zL hk) fun e => by
   have h1 := hI.out.rowM k e;have h2 := (hI.out.row.block e).1;omega).trans hk⟩
  have K9 : Hid (KeepsOthers W w9) := HK.out.trans ko;have bkB := zH hI.out.bkB;obtain ⟨A', c', hv'⟩ := hown'.out.form;obtain ⟨nL, hnL⟩ : ∃ nL, (foldP b rate pre ++ [[x.kind, x.acc, x.ord, x.sym, x.side, x.qty, x.px, X1, X2]]).length = nL := ⟨_, rfl⟩;rw [hnL] at hv';subst hv';clear hnL;clear hI HEv hS hO HF HK hg' ko kb kk fx hBle hMd;go_wp2_with fail;refine zQs (fun _ => ⟨k9o, k9l, e9, k9s⟩) ?_
  refine zW 10 ?_;have c0 := zz00 k9o.out 0 _ rfl;have f0 := zz04 k9o.out 0;go_wp2_with fail;generalize hws : World.setCell _ _ _ = ws;have E1 : putC w9 w1.heap.size 0 [.slice A' nL c'] = ws := hws;clear hws c0 f0;have hz := SZ.out;have p0 := zz0v (o := 0) (vs := [.slice A' nL c']) k9o.out;have pl := zz03 (g := w1.heap.size) zw (o := 0) (vs := [.slice A' nL c']) k9l.out;have pr := zz03 (g := w1.heap.size) zw (o := 0) (vs := [.slice A' nL c']) k9r.out;have pt := zz03 (g := w1.heap.size) zw (o := 0) (vs := [.slice A' nL c']) k9t.out;have ps := zz03 (g := w1.heap.size) zw (o := 0) (vs := [.slice A' nL c']) k9s.out;have pb := BkOwn.putT (g := w1.heap.size) zx (o := 0) (us := [.slice A' nL c']) o9.out k9o.out;have pw := RowOwn.putT (g := w1.heap.size) (t := 45) zx (o := 0) (us := [.slice A' nL c']) hown'.out k9o.out;have pq := zz0y (g := w1.heap.size) zw (o := 0) (vs := [.slice A' nL c']) w9b.out;have pf := F9.out.trans (KpF.putC (g := w1.heap.size) (M := M) (n0 := w.heap.size) (Bs := wl.heap.size) zw zw zw 0 [.slice A' nL c']);have pk := K9.out.trans (zz4o (g := w1.heap.size) [.slice A' nL c'] 0 w9);have pz := zz36 (g := w1.heap.size) [.slice A' nL c'] 0 w9;rw [E1] at p0 pl pr pt ps pb pw pq pf pk pz;have P0 : ZB ws w1.heap.size #[.slice A' nL c'] 45 := p0;have PL := zH pl; have PR := zH pr; have PT := zH pt; have PS := zH ps; have PB := zH pb; have PW := zH pw; have PQ := zH pq; have PF := zH pf; have PK := zH pk;have PZ : Hid (M ≤ ws.heap.size) := by show _ ≤ _; omega
  clear p0 pl pr pt ps pb pw pq pf pk pz E1 k9o k9l k9r k9t k9s o9 hown' w9b F9 K9 e9 b9 s9 hz;refine zQs (fun h => absurd h zx) ?_
  refine ⟨by kernel_rfl, ?_⟩
  rw [zz87];have s0 := zC PS.out;have l0 := zC PT.out;have f0 := zF PT.out;have ne1 := zz0a PS.out PT.out zx;have ne2 := ne1.symm;have hN : Hid (∀ we : World, putC ws w2.heap.size 0 [(.slice Y1 nb.h.length e1 : Value), .slice Y2 nb.s.length e2, .slice Y3 nb.o.length e3, .slice Y4 nb.r.length e4, .int .i64 nb.n] = we → KeepsFrom w3.heap.size W we ∧ KpF w.heap.size wl.heap.size M W we ∧ ∃ vo bv, Hid (IRun w w1.heap.size w2.heap.size wl.heap.size (.slice (some ⟨bb, oo, none⟩) L.length cL) b rate (pre ++ [x]) we.heap.size we vo bv)) := by
   intro we hwe;have hz := SZ.out;have hPZ := PZ.out;have q0 := zz03 (g := w2.heap.size) zw (o := 0) (vs := [(.slice Y1 nb.h.length e1 : Value), .slice Y2 nb.s.length e2, .slice Y3 nb.o.length e3, .slice Y4 nb.r.length e4, nb.n]) P0.out;have ql := zz03 (g := w2.heap.size) zw (o := 0) (vs := [(.slice Y1 nb.h.length e1 : Value), .slice Y2 nb.s.length e2, .slice Y3 nb.o.length e3, .slice Y4 nb.r.length e4, nb.n]) PL.out;have qr := zz03 (g := w2.heap.size) zw (o := 0) (vs := [(.slice Y1 nb.h.length e1 : Value), .slice Y2 nb.s.length e2, .slice Y3 nb.o.length e3, .slice Y4 nb.r.length e4, nb.n]) PR.out;have qt : (putC ws w2.heap.size 0 [(.slice Y1 nb.h.length e1 : Value), .slice Y2 nb.s.length e2, .slice Y3 nb.o.length e3, .slice Y4 nb.r.length e4, .int .i64 nb.n]).heap[w2.heap.size]? = some (.cells (BF Y1 e1 Y2 e2 Y3 e3 Y4 e4 nb nb.n) 27 (0, 0)) := zz0v PT.out;have qb := BkOwn.putT (g := w2.heap.size) (t := 27) zx (o := 0) (us := [(.slice Y1 nb.h.length e1 : Value), .slice Y2 nb.s.length e2, .slice Y3 nb.o.length e3, .slice Y4 nb.r.length e4, .int .i64 nb.n]) PB.out PT.out;have qw := RowOwn.putT (g := w2.heap.size) (t := 27) zx (o := 0) (us := [(.slice Y1 nb.h.length e1 : Value), .slice Y2 nb.s.length e2, .slice Y3 nb.o.length e3, .slice Y4 nb.r.length e4, .int .i64 nb.n]) PW.out PT.out;have qq := zz0y (g := w2.heap.size) zw (o := 0) (vs := [(.slice Y1 nb.h.length e1 : Value), .slice Y2 nb.s.length e2, .slice Y3 nb.o.length e3, .slice Y4 nb.r.length e4, nb.n]) PQ.out;have qf := PF.out.trans (KpF.putC (g := w2.heap.size) (M := M) (n0 := w.heap.size) (Bs := wl.heap.size) zw zw zw 0 [(.slice Y1 nb.h.length e1 : Value), .slice Y2 nb.s.length e2, .slice Y3 nb.o.length e3, .slice Y4 nb.r.length e4, .int .i64 nb.n]);have qk := PK.out.trans (zz4o (g := w2.heap.size) [(.slice Y1 nb.h.length e1 : Value), .slice Y2 nb.s.length e2, .slice Y3 nb.o.length e3, .slice Y4 nb.r.length e4, .int .i64 nb.n] 0 ws);rw [hwe] at q0 ql qr qt qb qw qq qf qk;have hrow : RowOwn we (wl.heap.size + 3) 98 (.slice A' nL c') 9 (foldP b rate (pre ++ [x])) := by
    rw [hsnP.out, hpc.out];exact qw
   exact ⟨qk.from _, qf, _, _, zH ⟨qq, ql, qr, q0, qt, hrow, fun q hq => (hrow.block hq).2, by rw [HNB.out]; exact qb.mono zw, qb.notIn (.inl zw)⟩⟩
  gi_wp2_with (fail)
  exact hN.out _ rfl
 case done =>
  rintro D M W hD ⟨vo, bv, hI⟩ hK;obtain ⟨Z1, z1, Z2, z2, Z3, z3, Z4, z4, hbv⟩ := hI.out.bk.at.forms;injection hbv with hbv
  subst hbv;obtain ⟨A', c', rfl⟩ := hI.out.row.form;have HK := zH hK;clear hK
  gi_wp2_with (fail)
  refine wpIn_wide.2 ?_;obtain ⟨nL, hnL⟩ : ∃ nL, (foldP b rate L).length = nL := ⟨_, rfl⟩;have ho := zH hI.out.out;have hrw := zH hI.out.row;rw [hnL] at ho hrw;clear hnL;refine zRD [3] (fun wz : World => ZB wz w1.heap.size #[.slice A' nL c'] 45 ∧ ZB wz w2.heap.size (BF Z1 z1 Z2 z2 Z3 z3 Z4 z4 (foldB b rate L) (foldB b rate L).n) 27) 5 ?_
  obtain ⟨wd, hwd⟩ : ∃ wd : World, { W with drawn := W.drawn + 1 } = wd := ⟨_, rfl⟩
  rw [hwd];have hb : Below W.heap.size W wd := by rw [← hwd]; exact (Below.refl _ _).drew
  replace hI := zH (hI.out.call hb (by have := SZ.out; omega))
  replace ho := zK ho hb;replace hrw := zH (hrw.out.kept hb);replace HK := zK HK hb;clear hb hwd;refine zM [0, 1, 2] 2 ⟨ho, zH hI.out.last⟩ ?_;simp only [opsAt, zA];refine zq (fun wz hC => zC hC.1.out) ?_
  refine zq (fun wz hC => zC hC.2.out) ?_
  refine zp ?_;unfold wpPure;go_simp;refine zW 3 ?_;have r0 := zC hI.out.res;have f0 := zF hI.out.res;go_wp2_with fail;have hE : ∀ we : World, putC wd (w.heap.size + 1 + 1) 0 [(.slice Z1 (foldB b rate L).h.length z1 : Value), .slice Z2 (foldB b rate L).s.length z2, .slice Z3 (foldB b rate L).o.length z3, .slice Z4 (foldB b rate L).r.length z4, .int .i64 (foldB b rate L).n] = we → ZB we w1.heap.size #[.slice A' nL c'] 45 ∧ ZB we w2.heap.size (BF Z1 z1 Z2 z2 Z3 z3 Z4 z4 (foldB b rate L) (foldB b rate L).n) 27 ∧ ZB we (w.heap.size + 1 + 1) (BF Z1 z1 Z2 z2 Z3 z3 Z4 z4 (foldB b rate L) (foldB b rate L).n) 27 ∧ Hid (BkOwn we w.heap.size (.agg (BF Z1 z1 Z2 z2 Z3 z3 Z4 z4 (foldB b rate L) (foldB b rate L).n)) (foldB b rate L)) ∧ Hid (RowOwn we (wl.heap.size + 3) 98 (.slice A' nL c') 9 (foldP b rate L)) ∧ Hid (Below w.heap.size w we) ∧ Hid (we.heap[D]? = some (.deferred (some []))) := by
   intro we hwe;have hz := SZ.out;have q0 := zz03 (g := w.heap.size + 1 + 1) zw (o := 0) (vs := [(.slice Z1 (foldB b rate L).h.length z1 : Value), .slice Z2 (foldB b rate L).s.length z2, .slice Z3 (foldB b rate L).o.length z3, .slice Z4 (foldB b rate L).r.length z4, .int .i64 (foldB b rate L).n]) ho.out;have q1 := zz03 (g := w.heap.size + 1 + 1) zw (o := 0) (vs := [(.slice Z1 (foldB b rate L).h.length z1 : Value), .slice Z2 (foldB b rate L).s.length z2, .slice Z3 (foldB b rate L).o.length z3, .slice Z4 (foldB b rate L).r.length z4, .int .i64 (foldB b rate L).n]) hI.out.last;have q2 : (putC wd (w.heap.size + 1 + 1) 0 [(.slice Z1 (foldB b rate L).h.length z1 : Value), .slice Z2 (foldB b rate L).s.length z2, .slice Z3 (foldB b rate L).o.length z3, .slice Z4 (foldB b rate L).r.length z4, .int .i64 (foldB b rate L).n]).heap[w.heap.size + 1 + 1]? = some (.cells (BF Z1 z1 Z2 z2 Z3 z3 Z4 z4 (foldB b rate L) (foldB b rate L).n) 27 (0, 0)) := zz0v hI.out.res;have q3 := BkOwn.putT (g := w.heap.size + 1 + 1) (t := 27) zx (o := 0) (us := [(.slice Z1 (foldB b rate L).h.length z1 : Value), .slice Z2 (foldB b rate L).s.length z2, .slice Z3 (foldB b rate L).o.length z3, .slice Z4 (foldB b rate L).r.length z4, .int .i64 (foldB b rate L).n]) hI.out.bk hI.out.res;have q4 := RowOwn.putT (g := w.heap.size + 1 + 1) (t := 27) zx (o := 0) (us := [(.slice Z1 (foldB b rate L).h.length z1 : Value), .slice Z2 (foldB b rate L).s.length z2, .slice Z3 (foldB b rate L).o.length z3, .slice Z4 (foldB b rate L).r.length z4, .int .i64 (foldB b rate L).n]) hrw.out hI.out.res;have q5 := zz0y (g := w.heap.size + 1 + 1) zw (o := 0) (vs := [(.slice Z1 (foldB b rate L).h.length z1 : Value), .slice Z2 (foldB b rate L).s.length z2, .slice Z3 (foldB b rate L).o.length z3, .slice Z4 (foldB b rate L).r.length z4, .int .i64 (foldB b rate L).n]) hI.out.below;have q6 := zz03 (g := w.heap.size + 1 + 1) (p := D) zw (o := 0) (vs := [(.slice Z1 (foldB b rate L).h.length z1 : Value), .slice Z2 (foldB b rate L).s.length z2, .slice Z3 (foldB b rate L).o.length z3, .slice Z4 (foldB b rate L).r.length z4, .int .i64 (foldB b rate L).n]) HK.out;rw [hwe] at q0 q1 q2 q3 q4 q5 q6;exact ⟨zH q0, zH q1, zH q2, zH q3, zH q4, zH q5, zH q6⟩
  obtain ⟨we, hwe⟩ : ∃ we : World, putC wd (w.heap.size + 1 + 1) 0 [(.slice Z1 (foldB b rate L).h.length z1 : Value), .slice Z2 (foldB b rate L).s.length z2, .slice Z3 (foldB b rate L).o.length z3, .slice Z4 (foldB b rate L).r.length z4, .int .i64 (foldB b rate L).n] = we := ⟨_, rfl⟩;obtain ⟨e0, e1, e2, e3, e4, e5, e6⟩ := hE we hwe;rw [show ((((wd.setCell ⟨w.heap.size + 1 + 1, 0, none⟩ (.slice Z1 (foldB b rate L).h.length z1)).setCell ⟨w.heap.size + 1 + 1, 1, none⟩ (.slice Z2 (foldB b rate L).s.length z2)).setCell ⟨w.heap.size + 1 + 1, 2, none⟩ (.slice Z3 (foldB b rate L).o.length z3)).setCell ⟨w.heap.size + 1 + 1, 3, none⟩ (.slice Z4 (foldB b rate L).r.length z4)).setCell ⟨w.heap.size + 1 + 1, 4, none⟩ (.int .i64 (foldB b rate L).n) = we from hwe]
  clear hE hwe r0 f0 hI ho hrw HK;refine zQs (fun h => absurd h zx) ?_
  refine zW 4 ?_;go_wp2_with fail;refine zQs (fun _ => ⟨e0, e1⟩) ?_
  refine zQe ?_
  gi_wp2_with (fail)
  have hz := SZ.out;refine ⟨by simp, .inl ⟨_, _, rfl, run_takeDeferred e6.out, ?_⟩⟩
  have fx : ∀ {k : Nat} {cs : Array Value} {t : TypeId} {fr : Nat × Nat} (o' : Obj), we.heap[k]? = some (.cells cs t fr) → (we.putObj D o').heap[k]? = some (.cells cs t fr) := fun {k cs t fr} o' hk => by
   rw [World.putObj_heap_other (fun e => ?_)]
   ·exact hk
   ·subst e
    rw [e6.out] at hk;cases hk
  exact ⟨_, ret_tct rfl _ _ _ _ _ _ rfl (fx _ e2.out) Tryz.underlying27 rfl zk _ _ rfl rfl, _, _, rfl, (e4.out.still (by simp) fun q cs t fr hq _ => fx _ hq).baseTo zw, e3.out.still (by simp) fun q cs t fr hq _ => fx _ hq, e5.out.trans (belowK_b (w := w) (Nat.le_refl _) we D _ _ zw e6.out rfl rfl)⟩
 case stop =>
  rintro D c pre W _ _ h _;exact h.elim
end
section
open Go Go.RowKit Mon
theorem pSame_eq (v1 v2 : Value) (l : List (List Int)) (w : World) (h1 : Hid (RowAt w v1 9 l)) (h2 : Hid (RowAt w v2 9 l)) (hn : l.length ≤ 1000000) :
  Calls Tryz.prog 19 #[v1, v2] w fun e w' => e = .returned (.bool true) ∧ Below w.heap.size w w' := by
 obtain ⟨A1, c1, rfl, hi1⟩ := h1.out.rec';obtain ⟨A2, c2, rfl, hi2⟩ := h2.out.rec';have H1 := zH hi1;have H2 := zH hi2;have hg1 : Hid (∀ i : Nat, i < l.length → ∃ r, l[i]? = some r) := fun i hi => ⟨_, List.getElem?_eq_getElem hi⟩
 clear hi1 hi2 h1 h2;obtain ⟨n, hN⟩ : ∃ n, l.length = n := ⟨_, rfl⟩;rw [hN] at hg1 hn ⊢;clear hN;go_in;go_wp2_with fail;go_loopw [5] (fun iv wr => ∃ i : Nat, iv = .int .i64 i ∧ Hid (i ≤ n) ∧ Hid (∃ d, wr = w.drewN d)) (fun iv _ => n - (intOf iv).toNat)
 case atStart => exact ⟨0, rfl, Nat.zero_le _, ⟨0, rfl⟩⟩
 case round =>
  obtain ⟨i, rfl, hi, hd⟩ := hrel;obtain ⟨d, rfl⟩ := hd.out;have hi2 := hi.out;by_cases hlt : i < n
  ·obtain ⟨r, hr⟩ := hg1.out i hlt
   obtain ⟨hk, b1, o1, rfl, hb1, m1⟩ := H1.out i r hr;obtain ⟨_, b2, o2, rfl, hb2, m2⟩ := H2.out i r hr
   match r, hk, m1, m2 with
   | [y0, y1, y2, y3, y4, y5, y6, y7, y8], _, m1, m2 =>
    have p10 : w.cell? ⟨b1, o1 + i * 9, none⟩ = some (.int .i64 y0) := m1 0 _ rfl;have p11 : w.cell? ⟨b1, o1 + i * 9 + 1, none⟩ = some (.int .i64 y1) := m1 1 _ rfl;have p12 : w.cell? ⟨b1, o1 + i * 9 + 2, none⟩ = some (.int .i64 y2) := m1 2 _ rfl;have p13 : w.cell? ⟨b1, o1 + i * 9 + 3, none⟩ = some (.int .i64 y3) := m1 3 _ rfl;have p14 : w.cell? ⟨b1, o1 + i * 9 + 4, none⟩ = some (.int .i64 y4) := m1 4 _ rfl;have p15 : w.cell? ⟨b1, o1 + i * 9 + 5, none⟩ = some (.int .i64 y5) := m1 5 _ rfl;have p16 : w.cell? ⟨b1, o1 + i * 9 + 6, none⟩ = some (.int .i64 y6) := m1 6 _ rfl;have p17 : w.cell? ⟨b1, o1 + i * 9 + 7, none⟩ = some (.int .i64 y7) := m1 7 _ rfl;have p18 : w.cell? ⟨b1, o1 + i * 9 + 8, none⟩ = some (.int .i64 y8) := m1 8 _ rfl;have p20 : w.cell? ⟨b2, o2 + i * 9, none⟩ = some (.int .i64 y0) := m2 0 _ rfl;have p21 : w.cell? ⟨b2, o2 + i * 9 + 1, none⟩ = some (.int .i64 y1) := m2 1 _ rfl;have p22 : w.cell? ⟨b2, o2 + i * 9 + 2, none⟩ = some (.int .i64 y2) := m2 2 _ rfl;have p23 : w.cell? ⟨b2, o2 + i * 9 + 3, none⟩ = some (.int .i64 y3) := m2 3 _ rfl;have p24 : w.cell? ⟨b2, o2 + i * 9 + 4, none⟩ = some (.int .i64 y4) := m2 4 _ rfl;have p25 : w.cell? ⟨b2, o2 + i * 9 + 5, none⟩ = some (.int .i64 y5) := m2 5 _ rfl;have p26 : w.cell? ⟨b2, o2 + i * 9 + 6, none⟩ = some (.int .i64 y6) := m2 6 _ rfl;have p27 : w.cell? ⟨b2, o2 + i * 9 + 7, none⟩ = some (.int .i64 y7) := m2 7 _ rfl;have p28 : w.cell? ⟨b2, o2 + i * 9 + 8, none⟩ = some (.int .i64 y8) := m2 8 _ rfl;clear m1 m2 hr hi;go_wp2_with fail;go_quiet (fail);go_wp2_with fail;go_roundw
    case rel => exact ⟨i + 1, by go_num, by show _ ≤ _; omega, ⟨_, rfl⟩⟩
    case measure => simp [intOf]; omega
  ·obtain rfl : i = n := by omega
   go_wp2_with fail;go_ret;exact ⟨rfl, zz0b (Below.refl _ _) _⟩
def NilOk (u : Value) : Prop := u = .slice none 0 0 ∨ ∃ ad n c, u = .slice (some ad) n c
section
variable {P : Program} {ops : Array Oper} {rest : List Oper} {o : Oper} {a : Act} {Q : Exit → Act → World → Prop}
end
theorem bZ_good : bZ.Good := ⟨by decide +kernel, by unfold Bk.I64s bZ; simp, by unfold Bk.Lens bZ; simp⟩
def eZ : Ev := ⟨0, 0, 0, 0, 0, 0, 0⟩
theorem fold_eg : gateV bZ eZ 20 = (1, 0) ∧ (foldB bZ 20 [eZ]).n = 1 := by refine ⟨?_, ?_⟩ <;> decide +kernel
theorem EvsAt.nil (w : World) : EvsAt w (.slice none 0 0) [] := ⟨none, 0, rfl, by simp, .inl rfl⟩
theorem EvsAt.one (w : World) : EvsAt (w.alloc (.cells #[.int .i64 0, .int .i64 0, .int .i64 0, .int .i64 0, .int .i64 0, .int .i64 0, .int .i64 0] 29)) (.slice (some ⟨w.heap.size, 0, none⟩) 1 1) [eZ] := by
 refine ⟨some ⟨w.heap.size, 0, none⟩, 1, rfl, by simp [eZ, Ev.cells], .inr ⟨w.heap.size, 0, rfl, by simp, fun j x hj => ?_⟩⟩
 rw [Nat.zero_add];refine zz00 (zz02 w (.cells #[.int .i64 0, .int .i64 0, .int .i64 0, .int .i64 0, .int .i64 0, .int .i64 0, .int .i64 0] 29)) j _ ?_;have hj : ([0, 0, 0, 0, 0, 0, 0] : List Int)[j]? = some x := hj
 match j with
 | 0 | 1 | 2 | 3 | 4 | 5 | 6 => cases hj; rfl
 | j + 7 => simp at hj
theorem alive18 (w : World) (hT : Hid (Law16 w)) : Calls Tryz.prog 15 #[] w fun e w' => e = .returned (.bool true) ∧ Below w.heap.size w w' := by
 obtain ⟨g1, g2⟩ := fold_eg;have z1 : Hid (0 ≤ (20 : Int) ∧ (20 : Int) ≤ 1000) := (show _ ∧ _ by omega)
 have q1 := zH (fun (wz : World) (hz : Hid (Law16 wz)) => zz4y none none none none none 0 0 0 0 0 bZ [] 20 wz hz (zH (BkAt.zero wz)) (zH (EvsAt.nil wz)) (zH bZ_good) (zH (fun e he => by simp at he)) z1 (zH zx) (zH zx) zx)
 have q1 : Hid (∀ wz : World, Hid (Law16 wz) → Calls Tryz.prog 16 #[.agg BZ, .slice none 0 0, .int .i64 20] wz fun r w' => ∃ vp vb, r = .returned (.tuple #[vp, vb, .int .i64 0]) ∧ RowOwn w' wz.heap.size 98 vp 9 [] ∧ BkOwn w' wz.heap.size vb bZ ∧ Below wz.heap.size wz w') := q1
 have q2 := zH (fun (A : Option Addr) (wz : World) (hz : Hid (Law16 wz)) (hv : Hid (EvsAt wz (.slice A 1 1) [eZ])) => zz4y none none none none A 0 0 0 0 1 bZ [eZ] 20 wz hz (zH (BkAt.zero wz)) hv (zH bZ_good) (zH (fun e he => by simp at he; subst he; exact ⟨zz0k zx, zz0k zx, zz0k zx, zz0k zx, zz0k zx, zz0k zx, zz0k zx⟩)) z1 (zH zx) (zH zx) zx)
 rw [show foldP bZ 20 [eZ] = [[0, 0, 0, 0, 0, 0, 0, 1, 0]] from by unfold foldP foldP pairC; rw [g1]; rfl] at q2
 obtain ⟨nb, hnb⟩ : ∃ nb, foldB bZ 20 [eZ] = nb := ⟨_, rfl⟩;rw [hnb] at q2 g2;have q2 : Hid (∀ (A : Option Addr) (wz : World), Hid (Law16 wz) → Hid (EvsAt wz (.slice A 1 1) [eZ]) → Calls Tryz.prog 16 #[.agg BZ, .slice A 1 1, .int .i64 20] wz fun r w' => ∃ vp vb, r = .returned (.tuple #[vp, vb, .int .i64 0]) ∧ RowOwn w' wz.heap.size 98 vp 9 [[0, 0, 0, 0, 0, 0, 0, 1, 0]] ∧ BkOwn w' wz.heap.size vb nb ∧ Below wz.heap.size wz w') := q2
 clear hnb g1;go_in;go_wp2_with fail;(with_reducible refine (q1.out _ hT).mono ?_);rintro r w1 ⟨vp, vb, rfl, hp, hbk, hb⟩;obtain ⟨A1, c1, rfl⟩ := hp.form;obtain ⟨U1, u1, U2, u2, U3, u3, U4, u4, rfl⟩ := hbk.at.forms;have HB := zH hb;clear hp hbk hb q1;have hl0 : ([] : List (List Int)).length = 0 := rfl;go_wp2_with fail;obtain ⟨wa, hwa⟩ : ∃ wa : World, w1.alloc (.cells (BF U1 u1 U2 u2 U3 u3 U4 u4 bZ bZ.n) 27) = wa := ⟨_, rfl⟩;have hza : wa.heap.size = w1.heap.size + 1 := by rw [← hwa]; simp
 have ha := zM0 hwa;have K1 : ZB wa w1.heap.size (BF U1 u1 U2 u2 U3 u3 U4 u4 bZ bZ.n) 27 := by rw [← hwa]; exact zz02 _ _
 have hev := EvsAt.one wa;rw [hza] at hev;rw [hwa];have hbb : Below wa.heap.size wa (wa.alloc (.cells #[.int .i64 0, .int .i64 0, .int .i64 0, .int .i64 0, .int .i64 0, .int .i64 0, .int .i64 0] 29)) := zBa;generalize wa.alloc (.cells #[.int .i64 0, .int .i64 0, .int .i64 0, .int .i64 0, .int .i64 0, .int .i64 0, .int .i64 0] 29) = wb at *;replace K1 := zK K1 hbb;replace HB := zH ((HB.out.trans (ha.mono HB.out.size)).trans (hbb.mono (Nat.le_trans HB.out.size ha.size)));clear ha hbb hwa hza;(with_reducible refine (q2.out _ _ (zH (hT.out.call HB.out)) (zH hev)).mono ?_);rintro r w2 ⟨vp, vb, rfl, hp, hbk, hb⟩;obtain ⟨A', c', hA, hi⟩ := hp.row.rec';obtain ⟨_, bb, o, hAA, hlt, hc⟩ := hi 0 _ rfl;have c7 : w2.cell? ⟨bb, o + 7, none⟩ = some (.int .i64 1) := by simpa using hc 7 _ rfl
 subst hA;subst hAA;obtain ⟨Y1, d1, Y2, d2, Y3, d3, Y4, d4, hvb⟩ := hbk.at.forms;rw [g2] at hvb;subst hvb;have K2 := zK K1 hb;have HB2 := zB HB hb;clear hp hi hc hbk hb hev K1 HB q2;have b4 : w2.cell? ⟨w1.heap.size, 4, none⟩ = some (.int .i64 0) := zz00 K2.out 4 _ rfl;have lt1 := zL K2.out;have hl1 : ([[0, 0, 0, 0, 0, 0, 0, 1, 0]] : List (List Int)).length = 1 := rfl;go_wp2_with fail;go_ret;exact ⟨rfl, zz01 HB2.out HB2.out.size _⟩
end
section
open Go Go.Lib Go.ChangeShapes Go.WideShapes Go.Deep Go.ChangeAt Go.RowKit
def evOf : List Int → Ev
 | [a, b, c, d, e, f, g] => ⟨a, b, c, d, e, f, g⟩
 | _ => eZ
theorem zzbn {r : List Int} (h : r.length = 7) : (evOf r).cells = r := by
 match r, h with
 | [a, b, c, d, e, f, g], _ => rfl
theorem evOf_i64s {r : List Int} (h : r.length = 7) (hi : ∀ x ∈ r, I64 x) : (evOf r).I64s := by
 match r, h with
 | [a, b, c, d, e, f, g], _ => exact ⟨hi a (by simp), hi b (by simp), hi c (by simp), hi d (by simp), hi e (by simp), hi f (by simp), hi g (by simp)⟩
theorem open_evs {H : Type} {enc : TypeId × Value → H} {W : World} {r : Reach} {b0 : Nat} {v : Value} {d : DataW H} {ps : List MemPlace} (hv : Value.okWide Tryz.prog W r b0 44 v) (h : DataW.Trod enc Tryz.prog W 0 (fun _ => true) true 44 v d ps) :
  ∃ (A : Option Addr) (c : Nat) (L : List Ev), v = .slice A L.length c ∧ EvsAt W v L ∧ NilOk v ∧ (∀ e ∈ L, e.I64s) ∧ (L = [] ∨ ∃ es sp, d = .slice es sp ∧ es.length = L.length) := by
 obtain ⟨a0, len, cap, rfl⟩ := okWide_slice Tryz.underlying44 hv;obtain ⟨fuel, hf⟩ := h;have hf : DataW.trod enc Tryz.prog W 0 (fun _ => true) true fuel 44 [.slice a0 len cap] = some (d, ps) := hf
 obtain ⟨l, hat, _, hi⟩ := zz37 Tryz.underlying44 Tryz.underlying29 zk zk zx (fun j f hj => zz38 (P := Tryz.prog) zk j f hj) hf
 have hat : RowAt W (.slice a0 len cap) 7 l := hat;obtain ⟨A', c', hA, h7, hc⟩ := hat;injection hA with hA hn hcc
 subst hA hn hcc;have hl : (l.map evOf).map Ev.cells = l := by
  rw [List.map_map]
  conv => rhs; rw [← List.map_id l]
  exact List.map_congr_left fun r hr => zzbn (h7 r hr)
 refine ⟨a0, cap, l.map evOf, by rw [List.length_map], ?_, ?_, ?_, ?_⟩
 ·show RowAt W _ 7 ((l.map evOf).map Ev.cells)
  rw [hl];exact ⟨a0, cap, rfl, h7, hc⟩
 ·rcases open_slice Tryz.underlying44 hf with ⟨hcs, _⟩ | ⟨a, len', cap', m, n, D, Pl, hcs, _⟩
  ·have := List.cons.inj hcs |>.1
   exact .inl this
  ·have := List.cons.inj hcs |>.1
   exact .inr ⟨_, _, _, this⟩
 ·intro e he
  obtain ⟨r, hr, rfl⟩ := List.mem_map.1 he;exact evOf_i64s (h7 r hr) (hi r hr)
 ·rcases open_slice Tryz.underlying44 hf with ⟨hcs, _⟩ | ⟨a, len', cap', m, n, D, Pl, hcs, _, _, _, _, hx, _⟩
  ·left
   have := List.cons.inj hcs |>.1
   injection this with _ h0 _
   rw [List.map_eq_nil_iff];exact List.eq_nil_of_length_eq_zero h0
  ·right
   have := List.cons.inj hcs |>.1
   injection this with _ h0 _
   have hx := congrArg Prod.fst hx;refine ⟨_, _, hx, ?_⟩;rw [List.length_map, List.length_map, List.length_range, h0]
theorem evs_len {H : Type} {ts : List TypeId} {ds : List (DataW H)} (h : (DataW.weightsEach Tryz.prog ts ds).all (· ≤ reachBytes) = true) {j : Nat} {d : DataW H} {L : List Ev} (ht : ts[j]? = some 44) (hd : ds[j]? = some d) (hl : L = [] ∨ ∃ es sp, d = .slice es sp ∧ es.length = L.length) : L.length ≤ 4611686018427387903 := by
 rcases hl with rfl | ⟨es, sp, rfl, hl⟩
 ·simp
 ·have h1 := sized_slice h ht hd Tryz.underlying44
  rw [show Tryz.prog.bytesOf 29 = 56 by kernel_rfl] at h1
  unfold reachBytes at h1;omega
end
section
open Go Go.RowKit Mon
def FarR (w : World) (S : Nat → Prop) (x y : Value) (k : Nat) (l : List (List Int)) : Prop := RowAt w y k l ∧ (l = [] ∨ y = x ∨ ∀ q, y.ownBlock = some q → ¬ S q)
theorem FarR.call {w w' : World} {S : Nat → Prop} {x y : Value} {k : Nat} {l : List (List Int)} (h : FarR w S x y k l) (hb : Below w.heap.size w w') : FarR w' S x y k l := ⟨h.1.call hb, h.2⟩
theorem FarR.to {w : World} {S T : Nat → Prop} {x y : Value} {k : Nat} {l : List (List Int)} (h : FarR w S x y k l) (hT : ∀ q, T q → S q ∨ w.heap.size ≤ q) : FarR w T x y k l := by
 obtain ⟨hr, hs⟩ := h;refine ⟨hr, ?_⟩;obtain ⟨A, c, rfl, _, hl⟩ := hr;rcases hl with hl | ⟨b, o, rfl, hb, _⟩
 ·exact .inl hl
 ·rcases hs with hs | hs | hs
  ·exact .inl hs
  ·exact .inr (.inl hs)
  ·refine .inr (.inr fun q hq hTq => ?_)
   rcases hT q hTq with h | h
   ·exact hs q hq h
   ·have : b = q := by simpa [Value.ownBlock] using hq
    omega
theorem FarR.chg {a w w' : World} {S : Nat → Prop} {x y : Value} {k : Nat} {l l0 : List (List Int)} (h : FarR w S x y k l) (hx : RowAt a x k l0) (hS : ∀ q, S q → a.heap.size ≤ q) (hsz : w.heap.size ≤ w'.heap.size) (hk : ∀ j, j < w.heap.size → ¬ S j → w'.heap[j]? = w.heap[j]?) : FarR w' S x y k l := by
 obtain ⟨hr, hs⟩ := h;refine ⟨?_, hs⟩;obtain ⟨A, c, rfl, hlen, hl⟩ := hr;refine ⟨A, c, rfl, hlen, ?_⟩;rcases hl with hl | ⟨b, o, rfl, hb, hc⟩
 ·exact .inl hl
 by_cases hz : l = []
 ·exact .inl hz
 refine .inr ⟨b, o, rfl, Nat.lt_of_lt_of_le hb hsz, fun j u hj => ?_⟩
 have hn : ¬ S b := by
  rcases hs with hs | hs | hs
  ·exact absurd hs hz
  ·obtain ⟨A0, c0, e0, _, h0⟩ := hx
   rw [← hs] at e0;injection e0 with e1 e2 _
   rcases h0 with h0 | ⟨b2, o2, e3, hb2, _⟩
   ·subst h0
    exact absurd (List.eq_nil_of_length_eq_zero (by simpa using e2)) hz
   ·rw [← e1] at e3
    injection e3 with e3
    injection e3 with e3
    intro hSb;have := hS b hSb;omega
  ·exact hs b rfl
 have : w'.cell? ⟨b, o + j, none⟩ = w.cell? ⟨b, o + j, none⟩ := by
  unfold World.cell?;simp [hk b hb hn]
 rw [this];exact hc j u hj
theorem FarR.step2 {w wc w' : World} {S T : Nat → Prop} {x y y' : Value} {k lo hi : Nat} {l l' : List (List Int)} (h : FarR w S x y k l) (hk : Kin1 lo y y') (hc : RowAt wc y' k l') (hi' : wc.heap.size = hi) (hr : RowAt w' y' k l') (hT : ∀ q, T q → (S q ∧ q < lo) ∨ (w.heap.size ≤ q ∧ (q < lo ∨ hi ≤ q))) : FarR w' T x y' k l' := by
 refine ⟨hr, ?_⟩;obtain ⟨A', c', e', _, hl'⟩ := hc;rcases hl' with hl' | ⟨b, o, rfl, hb, _⟩
 ·exact .inl hl'
 subst e';by_cases hz : l' = []
 ·exact .inl hz
 rcases hk with rfl | hk
 ·have hw := h.1
  rcases h.2 with hs | hs | hs
  ·left
   obtain ⟨A, c, e, _, _⟩ := hw;injection e with _ e _
   exact List.eq_nil_of_length_eq_zero (by rw [e, hs]; rfl)
  ·exact .inr (.inl hs)
  ·refine .inr (.inr fun q hq hTq => ?_)
   rcases hT q hTq with h1 | h1
   ·exact hs q hq h1.1
   ·obtain ⟨A, c, e, _, hl⟩ := hw
    injection e with e1 e2 _
    have hqb : b = q := by simpa [Value.ownBlock] using hq
    rcases hl with hl | ⟨b2, o2, h2, hb2, _⟩
    ·subst hl
     exact absurd (List.eq_nil_of_length_eq_zero (by simpa using e2)) hz
    ·rw [← e1] at h2
     injection h2 with h2
     injection h2 with h2
     omega
 ·refine .inr (.inr fun q hq hTq => ?_)
  have hqb : b = q := by simpa [Value.ownBlock] using hq
  have := hk q hq;rcases hT q hTq with h1 | h1 <;> omega
def BkF (w : World) (S : Nat → Prop) (u0 u : Value) (b : Bk) : Prop :=
 ∃ x1 x2 x3 x4 n y1 y2 y3 y4, u0 = .agg #[x1, x2, x3, x4, n] ∧ u = .agg #[y1, y2, y3, y4, b.n] ∧ FarR w S x1 y1 4 b.h ∧ FarR w S x2 y2 3 b.s ∧ FarR w S x3 y3 6 b.o ∧ FarR w S x4 y4 2 b.r
theorem BkF.of {w : World} {S : Nat → Prop} {u0 : Value} {b : Bk} (h : BkAt w u0 b) : BkF w S u0 u0 b := by
 obtain ⟨y1, y2, y3, y4, rfl, h1, h2, h3, h4⟩ := h;exact ⟨_, _, _, _, _, _, _, _, _, rfl, rfl, ⟨h1, .inr (.inl rfl)⟩, ⟨h2, .inr (.inl rfl)⟩, ⟨h3, .inr (.inl rfl)⟩, ⟨h4, .inr (.inl rfl)⟩⟩
theorem BkF.at {w : World} {S : Nat → Prop} {u0 u : Value} {b : Bk} (h : BkF w S u0 u b) : BkAt w u b := by
 obtain ⟨_, _, _, _, _, _, _, _, _, _, rfl, h1, h2, h3, h4⟩ := h;exact ⟨_, _, _, _, rfl, h1.1, h2.1, h3.1, h4.1⟩
theorem BkF.call {w w' : World} {S : Nat → Prop} {u0 u : Value} {b : Bk} (h : BkF w S u0 u b) (hb : Below w.heap.size w w') : BkF w' S u0 u b := by
 obtain ⟨_, _, _, _, _, _, _, _, _, e, rfl, h1, h2, h3, h4⟩ := h;exact ⟨_, _, _, _, _, _, _, _, _, e, rfl, h1.call hb, h2.call hb, h3.call hb, h4.call hb⟩
theorem BkF.to {w : World} {S T : Nat → Prop} {u0 u : Value} {b : Bk} (h : BkF w S u0 u b) (hT : ∀ q, T q → S q ∨ w.heap.size ≤ q) : BkF w T u0 u b := by
 obtain ⟨_, _, _, _, _, _, _, _, _, e, rfl, h1, h2, h3, h4⟩ := h;exact ⟨_, _, _, _, _, _, _, _, _, e, rfl, h1.to hT, h2.to hT, h3.to hT, h4.to hT⟩
theorem BkF.chg {a w w' : World} {S : Nat → Prop} {u0 u : Value} {b b0 : Bk} (h : BkF w S u0 u b) (hx : BkAt a u0 b0) (hS : ∀ q, S q → a.heap.size ≤ q) (hsz : w.heap.size ≤ w'.heap.size) (hk : ∀ j, j < w.heap.size → ¬ S j → w'.heap[j]? = w.heap[j]?) : BkF w' S u0 u b := by
 obtain ⟨_, _, _, _, _, _, _, _, _, rfl, rfl, h1, h2, h3, h4⟩ := h;obtain ⟨_, _, _, _, e, j1, j2, j3, j4⟩ := hx;injection e with e
 simp only [Array.mk.injEq, List.cons.injEq, and_true] at e;obtain ⟨rfl, rfl, rfl, rfl, _⟩ := e;exact ⟨_, _, _, _, _, _, _, _, _, rfl, rfl, h1.chg j1 hS hsz hk, h2.chg j2 hS hsz hk, h3.chg j3 hS hsz hk, h4.chg j4 hS hsz hk⟩
theorem BkF.step2 {w wc w' : World} {S T : Nat → Prop} {u0 u u' : Value} {b b' : Bk} {lo hi : Nat} (h : BkF w S u0 u b) (hk : Kin lo u u') (hc : BkAt wc u' b') (hi' : wc.heap.size = hi) (hr : BkAt w' u' b') (hT : ∀ q, T q → (S q ∧ q < lo) ∨ (w.heap.size ≤ q ∧ (q < lo ∨ hi ≤ q))) : BkF w' T u0 u' b' := by
 obtain ⟨_, _, _, _, _, _, _, _, _, e0, rfl, h1, h2, h3, h4⟩ := h;obtain ⟨_, _, _, _, _, _, _, _, _, _, e, rfl, k1, k2, k3, k4⟩ := hk;injection e with e
 simp only [Array.mk.injEq, List.cons.injEq, and_true] at e;obtain ⟨rfl, rfl, rfl, rfl, rfl⟩ := e;obtain ⟨_, _, _, _, e, j1, j2, j3, j4⟩ := hr;injection e with e
 simp only [Array.mk.injEq, List.cons.injEq, and_true] at e;obtain ⟨rfl, rfl, rfl, rfl, rfl⟩ := e;obtain ⟨_, _, _, _, e, i1, i2, i3, i4⟩ := hc;injection e with e
 simp only [Array.mk.injEq, List.cons.injEq, and_true] at e;obtain ⟨rfl, rfl, rfl, rfl, _⟩ := e;exact ⟨_, _, _, _, _, _, _, _, _, e0, rfl, h1.step2 k1 i1 hi' j1 hT, h2.step2 k2 i2 hi' j2 hT, h3.step2 k3 i3 hi' j3 hT, h4.step2 k4 i4 hi' j4 hT⟩
def flatU (us : List Value) : List Value := us.flatMap fun u => u.cells.toList
theorem zz81 (us vs : List Value) : flatU (us ++ vs) = flatU us ++ flatU vs := by simp [flatU]
theorem zz8x : ∀ {us : List Value} {i j : Nat} {a0 a1 a2 a3 a4 x : Value}, (∀ u ∈ us, u.cells.size = 5) → us[i]? = some (.agg #[a0, a1, a2, a3, a4]) → ([a0, a1, a2, a3, a4] : List Value)[j]? = some x → (flatU us)[i * 5 + j]? = some x
 | [], i, j, _, _, _, _, _, x, _, hi, _ => by simp at hi
 | a :: t, 0, j, _, _, _, _, _, x, _, hi, hj => by
  obtain rfl := (show a = _ by simpa using hi)
  rw [flatU, List.flatMap_cons, Nat.zero_mul, Nat.zero_add];show ([_, _, _, _, _] ++ _)[j]? = _;rw [List.getElem?_append_left (List.getElem?_eq_some_iff.1 hj).1];exact hj
 | a :: t, i + 1, j, _, _, _, _, _, x, hl, hi, hj => by
  have ha := hl a (.head _);rw [flatU, List.flatMap_cons, List.getElem?_append_right (by simp; omega), show (i + 1) * 5 + j - a.cells.toList.length = i * 5 + j by simp; omega]
  exact zz8x (fun u hu => hl u (.tail _ hu)) (by simpa using hi) hj
section
variable {P : Program} {ops : Array Oper} {rest : List Oper} {o : Oper} {a : Act} {Q : Exit → Act → World → Prop}
theorem zz1u {wr : World} {B : Nat} (s x : Operand) (t e : TypeId) (z : Value) (k bytes : Nat) (he : Elt P t e z k bytes) (cs : List Value) (v : Value) (n : Nat) (xs : List Value)
  (hown : Hid (wr.ownsRow B e k v n xs)) (hB : B ≤ wr.heap.size) (hgd : o.guard = none) (ho : o.op = .call { callee := .builtin .append, args := #[s, x], argTypes := #[t, t] })
  (hs : a.eval s = v) (hx : a.eval x = .slice (some ⟨wr.heap.size, 0, none⟩) 1 1) (hcs : cs.length = k) (h1 : ∀ u ∈ cs, u.oneCell' = true) (hn : n + 1 ≤ 4000000) (hby : bytes ≤ 256)
  (h : ∀ v' w', Hid (w'.ownsRow B e k v' (n + 1) (xs ++ cs)) → Hid ((wr.alloc (.cells cs.toArray e)).grownBy w' v.ownBlock) → Hid (v'.ownBlock = v.ownBlock ∨ v'.ownBlock = some (wr.heap.size + 1)) → wpList P ops Q rest (a.put o.dst v') w') :
  wpList P ops Q (o :: rest) a (wr.alloc (.cells cs.toArray e)) := by
 obtain ⟨i, hi, hz, hsz, hbs⟩ := he.info;refine wpList_append_own_at _ hgd s x t ho B e i z k bytes he.und hi hz hsz hbs he.zs he.pos v n xs hs (hown.out.alloc _) ⟨wr.heap.size, 0, none⟩ 1 1 cs hx (by rw [hcs, Nat.one_mul]) ?_ h1 ?_ ?_ ?_ ?_
 ·intro j u hj
  rw [Addr.add_lit, Nat.zero_add];exact zz00 (zz02 wr (.cells cs.toArray e)) j u (by simpa using hj)
 ·unfold maxLen; omega
 ·have h1 := Nat.mul_le_mul hn hby; omega
 ·simp; omega
 ·intro v' w' h1 h2 _ h3
  exact h v' w' h1 h2 (show _ ∨ _ by simpa using h3)
end
theorem el_BookR : Elt Tryz.prog 48 27 (.agg BZ) 5 104 := Elt.mk' Tryz.underlying48 zk rfl zx
end
section
open Go Go.RowKit
section
variable {P : Program} {ops : Array Oper} {md : Region.Mode} {C : World → Prop} {ex : List Nat}
theorem zz72 {Q : Exit → Act → World → Prop} {W0 : World} (i : Nat) (hs : List Nat) (di : Tmp) (Rv : Nat → Nat → Value → World → Prop) (vs0 : Value → List (Tmp × Value)) (f : Nat) (Lf : Array Bool) (T : List Tmp) (N : Nat)
  (hC : ∀ w, Below W0.heap.size W0 w → C w) (hdi : di ∈ T) (hvT : ∀ v, ∀ p ∈ vs0 v, p.1 ∈ T)
  (hp : ∀ (lo hi : Nat) (v : Value) (w : World), Rv lo hi v w → ∀ (a' : Act) (K : Act → Prop), a'.tmps.size = N → K (putsV (a'.put (some di) v) (vs0 v)) → wpPure P ops C K (opsAt ops hs) (a'.put (some di) v))
  (hRs : ∀ lo hi v w1 w2, Rv lo hi v w1 → Below w1.heap.size w1 w2 → Rv lo hi v w2) :
  ∀ (n : Nat) (es : List FreeC) (L : Array Bool) (a : Act) (w : World), es.length = n → Below W0.heap.size W0 w → okC md ops ex i hs Lf n (es.map (·.i)) L = true → (es.map (·.i)).Nodup → (es.map (·.d)).Nodup →
  (∀ e ∈ es, e.i ≠ i ∧ e.d ≠ di ∧ ∀ v, ∀ p ∈ vs0 v, p.1 ≠ e.d) → (∀ e ∈ es, CanC P ops T W0 e a ∧ e.d ∈ T) → CanC P ops T W0 ⟨i, di, Rv⟩ a → a.tmps.size = N →
  (∀ e ∈ es, ∀ lo hi v w1 w2, e.R lo hi v w1 → Below w1.heap.size w1 w2 → e.R lo hi v w2) →
  (∀ lo hi v vs w', w.heap.size ≤ lo → (∀ r ∈ vs, r.hi ≤ lo ∨ hi ≤ r.lo) → Rv lo hi v w' → Holds w.heap.size es vs w' → Apart (fun _ _ => false) es vs → Below w.heap.size w w' → wpAnyD P md ops C ex (OnlyN Q) f Lf (putsE es vs (putsV (a.put (some di) v) (vs0 v))) w') →
  wpAnyD P md ops C ex (OnlyN Q) (f + hs.length + 1 + n) L a w
 | 0, es, L, a, w, hn, hB, hok, _, _, _, _, hca, hN, _, K => by
  obtain rfl : es = [] := List.eq_nil_of_length_eq_zero hn;simp only [okC, Bool.and_eq_true, beq_iff_eq] at hok;obtain ⟨⟨⟨_, hr⟩, hh⟩, hL⟩ := hok;refine ⟨fun h => (by rw [hr] at h; cases h), fun k hk => ?_⟩
  rw [hr] at hk;obtain rfl : k = i := by simpa using hk
  refine hca.run _ a w _ (fun _ _ => rfl) hB fun u w1 hu hb => ⟨fun _ => hC _ (hB.trans (hb.mono hB.size)), ?_⟩
  exact zz1k hs f hh hL (hC _ (hB.trans (hb.mono hB.size))) (hp _ _ _ _ hu a _ hN (K _ _ _ [] w1 (Nat.le_refl _) (fun r hr => by cases hr) hu trivial trivial hb))
 | n + 1, es, L, a, w, hn, hB, hok, hni, hnd, hdis, hga, hca, hN, hst, K => by
  simp only [okC, Bool.and_eq_true, List.all_eq_true] at hok;obtain ⟨hr0, hr2⟩ := hok;refine ⟨fun h0 => ?_, fun k hk => ?_⟩
  ·rw [h0] at hr0
   simp at hr0
  have h2 := hr2 k hk;by_cases hki : k = i
  ·subst hki
   rw [if_pos (by simp), Bool.and_eq_true] at h2
   refine hca.run _ a w _ (fun _ _ => rfl) hB fun u w1 hu hb => ⟨fun _ => hC _ (hB.trans (hb.mono hB.size)), ?_⟩
   have hB1 := hB.trans (hb.mono hB.size);have hev : ∀ x : Operand, (∀ t ∈ T, x ≠ .tmp t) → (putsV (a.put (some di) u) (vs0 u)).eval x = a.eval x := fun x hx => by rw [zz35 T (vs0 u) _ (hvT u) x hx, zz0f a x di u (hx _ hdi)]
   show wpAnyD P md ops C ex (OnlyN Q) (f + hs.length + 1 + n) _ _ _;rw [show f + hs.length + 1 + n = (f + (n + 1)) + hs.length by omega]
   refine zz1k hs (f + (n + 1)) h2.1 rfl (hC _ hB1) (hp _ _ _ _ hu a _ hN ?_);exact zz7y f Lf (fun _ _ => false) hC T (n + 1) es _ _ w1 hn hB1 h2.2 hni hnd (fun e he => ⟨(hga e he).1.act hev, (hga e he).2⟩) hst
    (fun vs w' hh hap hb' => K _ _ _ vs w' (Nat.le_refl _) (fun r hr => .inr (hh.all r hr)) (hRs _ _ _ _ _ hu hb') (hh.lower hb.size) hap (hb.trans (hb'.mono hb.size)))
  ·rw [if_neg (by simpa using hki), Bool.and_eq_true] at h2
   obtain ⟨hin0, h2⟩ := h2;obtain ⟨e, he, rfl⟩ := List.mem_map.1 (show k ∈ es.map (·.i) by simpa using hin0)
   obtain ⟨l1, l2, rfl⟩ := List.append_of_mem he;have hni' := hni;have hnd' := hnd;rw [List.map_append, List.map_cons] at hni' hnd' h2;have hi1 : e.i ∉ l1.map (·.i) := fun h => (List.nodup_append.1 hni').2.2 _ h _ (by simp) rfl
   have hd1 : e.d ∉ l1.map (·.d) := fun h => (List.nodup_append.1 hnd').2.2 _ h _ (by simp) rfl
   rw [List.erase_append_right _ hi1, List.erase_cons_head, ← List.map_append] at h2;have hin : ∀ x ∈ l1 ++ l2, x ∈ l1 ++ e :: l2 := fun x hx => by
    exact zt77
   have hsub : List.Sublist (l1 ++ l2) (l1 ++ e :: l2) := List.Sublist.append (List.Sublist.refl l1) (List.sublist_cons_self e l2);refine (hga e (by simp)).1.run _ a w _ (fun _ _ => rfl) hB fun ve w1 hv hb => ?_
   have hB1 := hB.trans (hb.mono hB.size);refine ⟨fun _ => hC _ hB1, ?_⟩
   have heT := (hga e (by simp)).2
   refine zz72 i hs di Rv vs0 f Lf T N hC hdi hvT hp hRs n (l1 ++ l2) (L.setIfInBounds e.i true) (a.put (some e.d) ve) w1 (by simp at hn ⊢; omega) hB1 h2 ((hsub.map _).nodup hni) ((hsub.map _).nodup hnd) (fun x hx => hdis x (hin x hx))
    (fun x hx => ⟨(hga x (hin x hx)).1.put heT ve, (hga x (hin x hx)).2⟩) (hca.put heT ve) (by rw [zz4h]; exact hN) (fun x hx => hst x (hin x hx)) ?_
   intro lo hi v vs w' hlo hrs hv2 hh hap hb';obtain ⟨v1, v2, rfl, h1, h2'⟩ := Holds.split hh;have hall := hh.all;have := K lo hi v (v1 ++ ⟨w.heap.size, w1.heap.size, ve⟩ :: v2) w' (Nat.le_trans hb.size hlo) (fun r hr => by
    rcases List.mem_append.1 hr with hr | hr
    ·exact hrs r (List.mem_append_left _ hr)
    ·rcases List.mem_cons.1 hr with rfl | hr
     ·exact .inl hlo
     ·exact hrs r (List.mem_append_right _ hr)) hv2 (Holds.join (h1.lower hb.size) ⟨⟨hst e (by simp) _ _ ve w1 w' hv hb', Nat.le_refl _⟩, h2'.lower hb.size⟩)
    (Apart.mid h1.len hap hall (fun x hx => rfl)) (hb.trans (hb'.mono hb.size))
   obtain ⟨_, hne, hnv⟩ := hdis e (by simp)
   rw [zz42 e _ l2 v2 l1 v1 _ h1.len (fun x hx h => hd1 (h ▸ List.mem_map_of_mem hx))] at this
   have hcomm : (a.put (some e.d) ve).put (some di) v = (a.put (some di) v).put (some e.d) ve := Act.put_comm a _ _ (fun d h1 h2 => hne (by injection h1 with h1; injection h2 with h2; rw [h1, h2]))
   rw [hcomm, zz41 _ _ _ _ (hnv v)];exact this
end
end
section
open Go Go.RowKit Mon
def Sx (vp vb : Value) : Nat → Prop := fun q => vp.ownBlock = some q ∨ vb.ownBlock = some q
structure RRun (w0 : World) (u0 : Value) (PL : List (List Int)) (KL : List Bk) (w : World) (vp vb : Value) : Prop where
 below : Below w0.heap.size w0 w
 pairs : RowOwn w w0.heap.size 98 vp 9 PL
 row : ∃ us : List Value, w.ownsRow w0.heap.size 27 5 vb KL.length (flatU us) ∧ us.length = KL.length ∧ (∀ u ∈ us, u.cells.size = 5) ∧ ∀ (i : Nat) (u : Value) (b : Bk), us[i]? = some u → KL[i]? = some b → BkF w (Sx vp vb) u0 u b
section
variable {w0 w w1 : World} {u0 vp vb : Value} {b0 : Bk} {PL : List (List Int)} {KL : List Bk}
theorem zz18 {B : Nat} {e : TypeId} {k n : Nat} {v : Value} {xs : List Value} (h : w.ownsRow B e k v n xs) {q : Nat} (hq : v.ownBlock = some q) : B ≤ q ∧ q < w.heap.size ∧ ∃ cs, w.heap[q]? = some (.cells cs e (0, 0)) := by
 rcases h.2 with ⟨rfl, _⟩ | ⟨g, cap, cur, rfl, h1, h3, _⟩
 ·cases hq
 ·obtain rfl : g = q := by simpa [Value.ownBlock] using hq
  exact ⟨h1, (zL h3), _, h3⟩
theorem zz6x {B B' : Nat} {e e' : TypeId} {k k' n n' : Nat} {v v' : Value} {xs xs' : List Value} (h : w.ownsRow B e k v n xs) (h' : w.ownsRow B' e' k' v' n' xs') (hne : e ≠ e') {q : Nat} (hq : v.ownBlock = some q) : v'.ownBlock ≠ some q := fun hq' => by
 obtain ⟨_, _, cs, h1⟩ := zz18 h hq;obtain ⟨_, _, cs', h2⟩ := zz18 h' hq';rw [h1] at h2;injection h2 with h2
 injection h2 with _ h2 _
 exact hne h2
theorem RRun.blk (h : RRun w0 u0 PL KL w vp vb) {q : Nat} (hq : Sx vp vb q) : w0.heap.size ≤ q ∧ q < w.heap.size := by
 obtain ⟨us, hr, _⟩ := h.row;rcases hq with hq | hq
 ·exact ⟨(zz18 h.pairs.1 hq).1, (zz18 h.pairs.1 hq).2.1⟩
 ·exact ⟨(zz18 hr hq).1, (zz18 hr hq).2.1⟩
theorem zz2w {B : Nat} {e : TypeId} {k n : Nat} {v : Value} {xs : List Value} (h : w.ownsRow B e k v n xs) (hb : Below w.heap.size w w1) : w1.ownsRow B e k v n xs := by
 refine h.kept (row := none) ⟨hb.os, hb.tape, hb.output, hb.size, fun j hj _ => hb.block j hj⟩ ?_
 cases hv : v.ownBlock with
 | none => exact .inl rfl
 | some b => exact .inr (by simp)
theorem zz3s {B : Nat} {e : TypeId} {k n : Nat} {v : Value} {xs : List Value} {row : Option Nat} (h : w.ownsRow B e k v n xs) (hg : w.grownBy w1 row) (hne : ∀ q, v.ownBlock = some q → row ≠ some q) : w1.ownsRow B e k v n xs := by
 refine h.kept hg ?_;cases hv : v.ownBlock with
 | none => exact .inl rfl
 | some b => exact .inr (fun e => hne b hv (by first | exact e | exact e.symm))
theorem RRun.call (h : RRun w0 u0 PL KL w vp vb) (hb : Below w.heap.size w w1) : RRun w0 u0 PL KL w1 vp vb := by
 obtain ⟨us, hr, hl, h5, hk⟩ := h.row;exact ⟨h.below.trans (hb.mono h.below.size), h.pairs.kept hb, us, zz2w hr hb, hl, h5, fun i u b hi hj => (hk i u b hi hj).call hb⟩
theorem RRun.get (h : RRun w0 u0 PL KL w vp vb) {i : Nat} {b : Bk} (hi : KL[i]? = some b) : ∃ g c A1 c1 A2 c2 A3 c3 A4 c4, vb = .slice (some ⟨g, 0, none⟩) KL.length c ∧ g < w.heap.size ∧
  BkF w (Sx vp vb) u0 (.agg (BF A1 c1 A2 c2 A3 c3 A4 c4 b b.n)) b ∧
  w.cell? ⟨g, i * 5, none⟩ = some (.slice A1 b.h.length c1) ∧ w.cell? ⟨g, i * 5 + 1, none⟩ = some (.slice A2 b.s.length c2) ∧ w.cell? ⟨g, i * 5 + 2, none⟩ = some (.slice A3 b.o.length c3) ∧ w.cell? ⟨g, i * 5 + 3, none⟩ = some (.slice A4 b.r.length c4) ∧ w.cell? ⟨g, i * 5 + 4, none⟩ = some (.int .i64 b.n) := by
 obtain ⟨us, hr, hl, h5, hk⟩ := h.row;have hlt := (List.getElem?_eq_some_iff.1 hi).1;have hu : us[i]? = some us[i] := List.getElem?_eq_getElem zw;have hf := hk i _ _ hu hi;obtain ⟨A1, c1, A2, c2, A3, c3, A4, c4, hv⟩ := hf.at.forms;rw [hv] at hu hf;rcases hr.2 with ⟨_, h0⟩ | ⟨g, cap, cur, rfl, h1, h3, _⟩
 ·omega
 have key : ∀ j x, ((BF A1 c1 A2 c2 A3 c3 A4 c4 b b.n) : List Value)[j]? = some x → w.cell? ⟨g, 0 + (i * 5 + j), none⟩ = some x := fun j x hj => by
  have := hr.cells (g := g) rfl (i * 5 + j) x (zz8x h5 hu hj)
  rwa [Addr.add_lit] at this
 refine ⟨g, cap, A1, c1, A2, c2, A3, c3, A4, c4, rfl, (zL h3), hf, ?_, ?_, ?_, ?_, ?_⟩
 ·simpa using key 0 _ rfl
 ·simpa using key 1 _ rfl
 ·simpa using key 2 _ rfl
 ·simpa using key 3 _ rfl
 ·simpa using key 4 _ rfl
theorem BkF.app {S T : Nat → Prop} {u : Value} {b : Bk} {tmp : Obj} {row : Option Nat} (h : BkF w S u0 u b) (B0 : BkAt w0 u0 b0) (hS : ∀ q, S q → w0.heap.size ≤ q) (hT : ∀ q, T q → S q ∨ q = w.heap.size + 1) (hsz : w0.heap.size ≤ w.heap.size) (hrow : ∀ q, row = some q → S q) (hg : (w.alloc tmp).grownBy w1 row) : BkF w1 T u0 u b := by
 have h1 : BkF (w.alloc tmp) (fun q => S q ∨ T q) u0 u b := (h.call zBa).to fun q hq => by
  rcases hq with hq | hq
  ·exact .inl hq
  ·rcases hT q hq with h | h
   ·exact .inl h
   ·exact .inr (by simp; omega)
 have hST : ∀ q, S q ∨ T q → w0.heap.size ≤ q := fun q hq => by
  rcases hq with hq | hq
  ·exact hS q hq
  ·rcases hT q hq with h | h
   ·exact hS q h
   ·omega
 exact (h1.chg B0 hST hg.size fun j hj hn => hg.block j hj fun e => hn (.inl (hrow j e.symm))).to fun q hq => .inl (.inr hq)
theorem RRun.pair (h : RRun w0 u0 PL KL w vp vb) (B0 : BkAt w0 u0 b0) {tmp : Obj} {vp' : Value} {r : List Int} (hr : r.length = 9) (ho : w1.ownsRow w0.heap.size 98 9 vp' (PL.length + 1) (flatC PL ++ r.map (Value.int .i64))) (hg : (w.alloc tmp).grownBy w1 vp.ownBlock) (hat : vp'.ownBlock = vp.ownBlock ∨ vp'.ownBlock = some (w.heap.size + 1)) : RRun w0 u0 (PL ++ [r]) KL w1 vp' vb := by
 obtain ⟨us, hro, hl, h5, hk⟩ := h.row;refine ⟨(zz01 h.below h.below.size tmp).grown hg (by simp; have := h.below.size; omega) (fun q hq => (h.blk (.inl hq)).1), ⟨?_, ?_⟩, us, ?_, hl, h5, fun i u b hi hj => (hk i u b hi hj).app B0 (fun q hq => (h.blk hq).1) (fun q hq => ?_) h.below.size (fun q hq => .inl hq) hg⟩
 ·rw [List.length_append, zz0i, show flatC [r] = r.map (Value.int .i64) by simp [flatC]]
  exact ho
 ·intro x hx
  rcases List.mem_append.1 hx with hx | hx
  ·exact h.pairs.2 x hx
  ·simp at hx; rw [hx]; exact hr
 ·exact zz3s (zz2w hro (zz01 (Below.refl _ _) (Nat.le_refl _) tmp)) hg fun q hq e => zz6x h.pairs.1 hro zx e hq
 ·rcases hq with hq | hq
  ·rcases hat with e | e
   ·exact .inl (.inl (e ▸ hq))
   ·rw [e] at hq; injection hq with hq; exact .inr hq.symm
  ·exact .inl (.inr hq)
theorem RRun.book (h : RRun w0 u0 PL KL w vp vb) (B0 : BkAt w0 u0 b0) {us : List Value} (hl : us.length = KL.length) (h5 : ∀ u ∈ us, u.cells.size = 5) (hk : ∀ (i : Nat) (u : Value) (b : Bk), us[i]? = some u → KL[i]? = some b → BkF w (Sx vp vb) u0 u b) {tmp : Obj} {vb' : Value} {a0 a1 a2 a3 a4 : Value} {nb : Bk} (hn : BkF w (Sx vp vb) u0 (.agg #[a0, a1, a2, a3, a4]) nb)
  (ho : w1.ownsRow w0.heap.size 27 5 vb' (KL.length + 1) (flatU us ++ [a0, a1, a2, a3, a4])) (hg : (w.alloc tmp).grownBy w1 vb.ownBlock) (hat : vb'.ownBlock = vb.ownBlock ∨ vb'.ownBlock = some (w.heap.size + 1)) : RRun w0 u0 PL (KL ++ [nb]) w1 vp vb' := by
 obtain ⟨us0, hro, _⟩ := h.row;have hT : ∀ q, Sx vp vb' q → Sx vp vb q ∨ q = w.heap.size + 1 := fun q hq => by
  rcases hq with hq | hq
  ·exact .inl (.inl hq)
  ·rcases hat with e | e
   ·exact .inl (.inr (e ▸ hq))
   ·rw [e] at hq; injection hq with hq; exact .inr hq.symm
 refine ⟨(zz01 h.below h.below.size tmp).grown hg (by simp; have := h.below.size; omega) (fun q hq => (h.blk (.inr hq)).1), ⟨zz3s (zz2w h.pairs.1 (zz01 (Below.refl _ _) (Nat.le_refl _) tmp)) hg fun q hq e => zz6x h.pairs.1 hro zx hq e, h.pairs.2⟩, us ++ [.agg #[a0, a1, a2, a3, a4]], ?_, by simp [hl], ?_, ?_⟩
 ·rw [List.length_append, zz81]
  exact ho
 ·intro u hu
  rcases List.mem_append.1 hu with hu | hu
  ·exact h5 u hu
  ·simp at hu; rw [hu]; rfl
 ·intro i u b hi hj
  by_cases hlt : i < us.length
  ·rw [List.getElem?_append_left hlt] at hi
   rw [List.getElem?_append_left zw] at hj;exact (hk i u b hi hj).app B0 (fun q hq => (h.blk hq).1) hT h.below.size (fun q hq => .inr hq) hg
  ·rw [List.getElem?_append_right zw] at hi
   rw [List.getElem?_append_right zw] at hj;have h1 := (List.getElem?_eq_some_iff.1 hi).1;simp at h1;rw [h1] at hi;rw [show i - KL.length = 0 by omega] at hj
   simp at hi hj;subst hi hj;exact hn.app B0 (fun q hq => (h.blk hq).1) hT h.below.size (fun q hq => .inr hq) hg
theorem BkF.put {T : Nat → Prop} {u : Value} {b : Bk} {g o : Nat} {vs : List Value} (h : BkF w T u0 u b) (B0 : BkAt w0 u0 b0) (hT : ∀ q, T q → w0.heap.size ≤ q) (hg : T g) (E : putC w g o vs = w1) : BkF w1 T u0 u b := by
 subst E;exact h.chg B0 hT (by rw [zz36]; exact Nat.le_refl _) fun j hj hn => zz03 (fun e => hn (by rw [e]; exact hg)) rfl
theorem blk_app {q : Nat} {ob tmp : Obj} {row : Option Nat} (h : w.heap[q]? = some ob) (hg : (w.alloc tmp).grownBy w1 row) (hne : row ≠ some q) : w1.heap[q]? = some ob :=
 (hg.block q (by have := zL h; simp; omega) (fun e => hne e.symm)).trans (zz05 h _)
theorem own_ne {B : Nat} {e t : TypeId} {k n : Nat} {v : Value} {xs : List Value} {q : Nat} {cs : Array Value} {fr : Nat × Nat} (h : w.ownsRow B e k v n xs) (hq : w.heap[q]? = some (.cells cs t fr)) (hne : e ≠ t) : v.ownBlock ≠ some q := fun e' => by
 obtain ⟨_, _, cs', h2⟩ := zz18 h e';rw [hq] at h2;injection h2 with h2
 injection h2 with _ h2 _
 exact hne h2.symm
end
def tupG (u : Value) (k : Nat) : Value := match u with | .tuple xs => xs.getD k undef | _ => undef
theorem RRun.start {w : World} {b : Bk} {a0 a1 a2 a3 : Value} {t : TypeId} {cs : Array Value} (B0 : BkAt w (.agg #[a0, a1, a2, a3, b.n]) b) {wb : World} (h : (w.alloc (.cells cs t)).alloc (.cells #[a0, a1, a2, a3, b.n] 27) = wb) : RRun w (.agg #[a0, a1, a2, a3, b.n]) [] [b] wb (.slice none 0 0) (.slice (some ⟨w.heap.size + 1, 0, none⟩) 1 1) := by
 have hb : Below w.heap.size w wb := h ▸ zz01 zBa (by simp) _
 refine ⟨hb, ⟨World.ownsRow_nil _ _ _ _, fun r hr => by simp at hr⟩, [.agg #[a0, a1, a2, a3, b.n]], ⟨rfl, .inr ⟨w.heap.size + 1, 1, _, rfl, Nat.le_succ _, h ▸ zz0d _ _ _ (by simp), Nat.le_refl _, by unfold maxLen; omega, rfl, rfl⟩⟩, rfl, fun u hu => by simp at hu; rw [hu]; rfl, fun i u c hi hj => ?_⟩
 match i with
 | 0 =>
  simp at hi hj;subst hi hj;exact (BkF.of B0).call hb
 | i + 1 => simp at hi
theorem rRun_some (v : Value) (b : Bk) (bb oo : Nat) (cL : Nat) (L : List Ev) (rate : Int) (w : World) (B0 : Hid (BkAt w v b)) (HL : Hid (EvsAt w (.slice (some ⟨bb, oo, none⟩) L.length cL) L)) (hgd : Hid b.Good) (hE : Hid (∀ e ∈ L, e.I64s)) (hr0 : Hid (0 ≤ rate ∧ rate ≤ 1000))
  (hcount : Hid (b.n + L.length ≤ 1099511627776)) (hst : Hid (b.s.length + L.length ≤ 900000)) (hln : L.length ≤ 60000) :
  Calls Tryz.prog 18 #[v, .slice (some ⟨bb, oo, none⟩) L.length cL, .int .i64 rate] w fun r w' => ∃ vp vb, r = .returned (.tuple #[vp, vb]) ∧ RRun w v (foldP b rate L) (foldK b rate L) w' vp vb := by
 obtain ⟨Ah, ch, As, cs, Ao, co, Ar, cr, rfl⟩ := B0.out.forms;have k0 := zM1 (w := w) (cs := BF Ah ch As cs Ao co Ar cr b b.n) (t := 27) rfl;have c := zC k0.out;go_in;go_wp2_with fail;generalize hw : World.alloc _ _ = wb;have H0 := zH (RRun.start B0.out hw);clear c k0 hw;go_loopw [8, 9, 10] (fun s8 s9 s10 wr => ∃ i : Nat, s10 = .int .i64 (i : Int) ∧ Hid (i ≤ L.length) ∧ Hid (RRun w (.agg (BF Ah ch As cs Ao co Ar cr b b.n)) (foldP b rate (L.take i)) (foldK b rate (L.take i)) wr s8 s9)) (fun _ _ s10 _ => L.length - (intOf s10).toNat)
 case atStart => exact ⟨0, rfl, Nat.zero_le _, H0.out⟩
 case round =>
  obtain ⟨i, rfl, hil, HR⟩ := hrel;replace hil := hil.out;by_cases hin : i < L.length
  ·have tn : decide ((i : Int) < (L.length : Int)) = true := decide_eq_true zw
   obtain ⟨e, he⟩ : ∃ e, L[i]? = some e := ⟨_, List.getElem?_eq_getElem hin⟩;have hEe : Hid e.I64s := hE.out e (List.mem_of_getElem? he);have hlt : (L.take i).length = i := by rw [List.length_take]; omega
   have hsn : L.take (i + 1) = L.take i ++ [e] := by rw [List.take_add_one, he]; rfl
   obtain ⟨pb, hpb⟩ : ∃ pb, foldB b rate (L.take i) = pb := ⟨_, rfl⟩;have hkl : (foldK b rate (L.take i)).length = i + 1 := by rw [zz22, hlt]
   have hg := zz39 rate (L.take i) b hgd.out (by rw [hlt]; have := hcount.out; omega) (fun e he => hE.out e (List.mem_of_mem_take he))
   have hnn := zzbl rate (L.take i) b;have hss := zz23 rate (L.take i) b;rw [hpb] at hg hnn hss;rw [hlt] at hnn hss;have HG := zH hg;have Hs : Hid pb.Small := hg.small (by have := hst.out; omega)
   have HP1 : Hid (foldP b rate (L.take (i + 1)) = foldP b rate (L.take i) ++ [pairC e (gateV pb e rate)]) := (show _ = _ by rw [hsn, zz73, hpb])
   have HP2 : Hid (foldK b rate (L.take (i + 1)) = foldK b rate (L.take i) ++ [gateB pb e rate]) := (show _ = _ by rw [hsn, zz8v, hpb])
   obtain ⟨g, c, A1, c1, A2, c2, A3, c3, A4, c4, hvb, hgl, hF, m0, m1, m2, m3, m4⟩ := HR.out.get (i := i) (b := pb) (by rw [zz5v rate _ b _ (by rw [hlt]; exact Nat.le_refl _), List.take_take, Nat.min_self, hpb])
   rw [hkl] at hvb;subst hvb;have HF := zH hF;have hm : Hid (∀ wz : World, Hid (Below wr.heap.size wr wz) → wz.cell? ⟨g, i * 5, none⟩ = some (.slice A1 pb.h.length c1) ∧ wz.cell? ⟨g, i * 5 + 1, none⟩ = some (.slice A2 pb.s.length c2) ∧ wz.cell? ⟨g, i * 5 + 2, none⟩ = some (.slice A3 pb.o.length c3) ∧ wz.cell? ⟨g, i * 5 + 3, none⟩ = some (.slice A4 pb.r.length c4) ∧ wz.cell? ⟨g, i * 5 + 4, none⟩ = some (.int .i64 pb.n)) := (show ∀ _ _, _ from fun wz h => ⟨(h.out.cell (p := ⟨_, _, _⟩) hgl).trans m0, (h.out.cell (p := ⟨_, _, _⟩) hgl).trans m1, (h.out.cell (p := ⟨_, _, _⟩) hgl).trans m2, (h.out.cell (p := ⟨_, _, _⟩) hgl).trans m3, (h.out.cell (p := ⟨_, _, _⟩) hgl).trans m4⟩)
   have hz : Hid (∀ wz : World, Hid (Below wr.heap.size wr wz) → bb < wz.heap.size ∧ wz.cell? ⟨bb, oo + i * 7, none⟩ = some (.int .i64 e.kind) ∧ wz.cell? ⟨bb, oo + i * 7 + 1, none⟩ = some (.int .i64 e.acc) ∧ wz.cell? ⟨bb, oo + i * 7 + 2, none⟩ = some (.int .i64 e.ord) ∧ wz.cell? ⟨bb, oo + i * 7 + 3, none⟩ = some (.int .i64 e.sym) ∧ wz.cell? ⟨bb, oo + i * 7 + 4, none⟩ = some (.int .i64 e.side) ∧ wz.cell? ⟨bb, oo + i * 7 + 5, none⟩ = some (.int .i64 e.qty) ∧ wz.cell? ⟨bb, oo + i * 7 + 6, none⟩ = some (.int .i64 e.px)) := (show ∀ _ _, _ from fun wz h => (HL.out.call (HR.out.below.trans (h.out.mono HR.out.below.size))).got he)
   have hq := zH (fun wz hv => rStep_kin (.slice A1 pb.h.length c1) (.slice A2 pb.s.length c2) (.slice A3 pb.o.length c3) (.slice A4 pb.r.length c4) pb e rate wz hv Hs HG.out.ints HG.out.may hEe (zH (by unfold I64; have := hr0.out; omega)) (zH HG.out.price) HG.out.n)
   unfold Ev.val at hq;obtain ⟨nb, hnb⟩ : ∃ nb, gateB pb e rate = nb := ⟨_, rfl⟩;obtain ⟨V1, hV1⟩ : ∃ V1, (gateV pb e rate).1 = V1 := ⟨_, rfl⟩;obtain ⟨V2, hV2⟩ : ∃ V2, (gateV pb e rate).2 = V2 := ⟨_, rfl⟩;rw [hnb] at HP2;rw [hnb, hV1, hV2] at hq;have hpc : Hid (pairC e (gateV pb e rate) = [e.kind, e.acc, e.ord, e.sym, e.side, e.qty, e.px, V1, V2]) := (show _ = _ by rw [← hV1, ← hV2]; rfl)
   rw [hpc.out] at HP1;clear hnb hV1 hV2 hpc;have hi1 : (i : Int) < (i : Int) + 1 := by omega
   have hi2 : (i : Int) < (L.length : Int) := by omega
   have Hhe := zH he;clear hg hnn hss hF m0 m1 m2 m3 m4 hpb hsn hlt hkl he;go_wp2_with fail;refine zS [] (fun wz => Hid (Below wr.heap.size wr wz)) 19 zk zk ?_
   intro wd hbd;refine zM [0, 1, 2, 3, 4, 5, 6, 7, 8] 10 hbd ?_;simp only [opsAt, zA]
   iterate 3 refine zp ?_
   refine zq hm.out ?_
   iterate 3 refine zp ?_
   refine zq hz.out ?_;refine zp ?_;unfold wpPure;go_simp;refine zz72 (W0 := wd) 9 [10, 11, 12, 13] 32 (fun lo hi u wz => ∃ X1 x1 X2 x2 X3 x3 X4 x4 S, u = .tuple #[.agg (BF X1 x1 X2 x2 X3 x3 X4 x4 nb nb.n), .agg #[V1, V2], S] ∧ BkAt wz (.agg (BF X1 x1 X2 x2 X3 x3 X4 x4 nb nb.n)) nb ∧ Kin lo (.agg (BF A1 c1 A2 c2 A3 c3 A4 c4 pb pb.n)) (.agg (BF X1 x1 X2 x2 X3 x3 X4 x4 nb nb.n)) ∧ ∃ wc : World, wc.heap.size = hi ∧ BkAt wc (.agg (BF X1 x1 X2 x2 X3 x3 X4 x4 nb nb.n)) nb)
    (fun u => [(22, u), (33, tupG u 0), (34, tupG u 1), (35, tupG u 2)]) 3 (setAll [10, 11, 12, 13] ((((setAll [0, 1, 2, 3, 4, 5, 6, 7, 8] (Array.replicate 19 false)).setIfInBounds 14 true).setIfInBounds 15 true).setIfInBounds 9 true)) [32, 22, 33, 34, 35, 11, 12] 51 (fun wz hz => zH (hbd.trans (hz.mono hbd.size))) (by simp) (fun v p hp => by simp at hp; rcases hp with rfl | rfl | rfl | rfl <;> simp) ?_ ?_ 2
    [⟨14, 11, fun lo hi v wz => v = .pointer (some ⟨lo, 0, none⟩) ∧ lo < hi ∧ wz.heap[lo]? = some (.cells BZ 27 (0, 0))⟩, ⟨15, 12, fun lo hi v wz => v = .pointer (some ⟨lo, 0, none⟩) ∧ lo < hi ∧ wz.heap[lo]? = some (.cells #[.int .i64 0, .int .i64 0] 33 (0, 0))⟩] _ _ _ rfl (Below.refl _ _)
    (zz2b (S1 := [([14, 15], setAll [0, 1, 2, 3, 4, 5, 6, 7, 8] (Array.replicate 19 false)), ([15], (setAll [0, 1, 2, 3, 4, 5, 6, 7, 8] (Array.replicate 19 false)).setIfInBounds 14 true), ([14], (setAll [0, 1, 2, 3, 4, 5, 6, 7, 8] (Array.replicate 19 false)).setIfInBounds 15 true), ([], ((setAll [0, 1, 2, 3, 4, 5, 6, 7, 8] (Array.replicate 19 false)).setIfInBounds 14 true).setIfInBounds 15 true)])
     (S2 := [([14, 15], setAll [10, 11, 12, 13] ((setAll [0, 1, 2, 3, 4, 5, 6, 7, 8] (Array.replicate 19 false)).setIfInBounds 9 true)), ([15], setAll [10, 11, 12, 13] (((setAll [0, 1, 2, 3, 4, 5, 6, 7, 8] (Array.replicate 19 false)).setIfInBounds 14 true).setIfInBounds 9 true)), ([14], setAll [10, 11, 12, 13] (((setAll [0, 1, 2, 3, 4, 5, 6, 7, 8] (Array.replicate 19 false)).setIfInBounds 15 true).setIfInBounds 9 true)), ([], setAll [10, 11, 12, 13] ((((setAll [0, 1, 2, 3, 4, 5, 6, 7, 8] (Array.replicate 19 false)).setIfInBounds 14 true).setIfInBounds 15 true).setIfInBounds 9 true))])
     zk zk 2 _ _ (List.mem_cons_self ..) rfl) (by simp) (by simp) (by simp) ?_ ?_ rfl ?_ ?_
   ·intro lo hi u wz hR a' K hN hK
    obtain ⟨X1, x1, X2, x2, X3, x3, X4, x4, S, rfl, _⟩ := hR;generalize hU : Value.agg (BF X1 x1 X2 x2 X3 x3 X4 x4 nb nb.n) = U at *;generalize hV : Value.agg #[V1, V2] = V at *;have n0 : (a'.put (some 32) (.tuple #[U, V, S])).tmps.size = 51 := by rw [zz4h]; exact hN
    have e0 : (a'.put (some 32) (.tuple #[U, V, S])).eval (.tmp 32) = .tuple #[U, V, S] := zz2m _ _ _ (by rw [hN]; decide)
    refine zz08 (.tuple #[U, V, S]) rfl (fun wz _ => by unfold execOp; simp only [e0]; go_simp) ?_
    have e1 : ((a'.put (some 32) (.tuple #[U, V, S])).put (some 22) (.tuple #[U, V, S])).eval (.tmp 22) = .tuple #[U, V, S] := zz2m _ _ _ (by rw [n0]; decide)
    refine zz08 U rfl (fun wz _ => by unfold execOp; simp only [e1]; go_simp) ?_
    have e2 : (((a'.put (some 32) (.tuple #[U, V, S])).put (some 22) (.tuple #[U, V, S])).put (some 33) U).eval (.tmp 22) = .tuple #[U, V, S] := (zz0f _ _ _ _ (by simp)).trans e1
    refine zz08 V rfl (fun wz _ => by unfold execOp; simp only [e2]; go_simp) ?_
    have e3 : ((((a'.put (some 32) (.tuple #[U, V, S])).put (some 22) (.tuple #[U, V, S])).put (some 33) U).put (some 34) V).eval (.tmp 22) = .tuple #[U, V, S] := (zz0f _ _ _ _ (by simp)).trans e2
    refine zz08 S rfl (fun wz _ => by unfold execOp; simp only [e3]; go_simp) ?_
    unfold wpPure;exact hK
   ·rintro lo hi v w1 w2 ⟨X1, x1, X2, x2, X3, x3, X4, x4, S, rfl, h1, h2, h3⟩ hb
    exact ⟨X1, x1, X2, x2, X3, x3, X4, x4, S, rfl, h1.call hb, h2, h3⟩
   ·intro e he
    simp only [List.mem_cons, List.not_mem_nil, or_false] at he;rcases he with rfl | rfl
    ·exact ⟨zz25 _ rfl rfl rfl #[.slice none 0 0, .slice none 0 0, .slice none 0 0, .slice none 0 0, .int .i64 0] 27 (fun ev wz => by unfold execOp; go_simp) (fun wz hz => ⟨rfl, by simp, zz02 wz _⟩), by simp⟩
    ·exact ⟨zz25 _ rfl rfl rfl #[.int .i64 0, .int .i64 0] 33 (fun ev wz => by unfold execOp; go_simp) (fun wz hz => ⟨rfl, by simp, zz02 wz _⟩), by simp⟩
   ·exact zz2z 13 #[.agg (BF A1 c1 A2 c2 A3 c3 A4 c4 pb pb.n), .agg #[e.kind, e.acc, e.ord, e.sym, e.side, e.qty, e.px], .int .i64 rate] ⟨_, _, _, rfl, rfl, rfl, rfl, by simp [Act.eval, Act.put], by simp⟩ (fun w => enters_of Tryz.func13 zk rfl _ w) (fun wz hz => (hq.out wz (zH (HF.out.at.call (hbd.trans (hz.mono hbd.size))))).mono fun r w' ⟨x, S, hr, h1, h2, _, h4⟩ => by
     obtain ⟨X1, x1, X2, x2, X3, x3, X4, x4, rfl⟩ := h1.forms;exact ⟨_, hr, ⟨X1, x1, X2, x2, X3, x3, X4, x4, S, rfl, h1, h2, w', rfl, h1⟩, h4⟩)
   ·intro e he lo hi v w1 w2 hv hb
    simp only [List.mem_cons, List.not_mem_nil, or_false] at he;rcases he with rfl | rfl <;> exact ⟨hv.1, hv.2.1, zz06 hv.2.2 hb⟩
   intro lo hi u us wf hlo hrs hR hus hap hb;obtain ⟨X1, x1, X2, x2, X3, x3, X4, x4, S, rfl, hO, hK, wc, hwc, hOc⟩ := hR
   match us, hus, hrs with
   | [t1, t2], ⟨⟨⟨e1, n1, g1⟩, m1⟩, ⟨⟨e2, n2, g2⟩, m2⟩, _⟩, hrs =>
   obtain ⟨q1, i1, v1⟩ := t1;obtain ⟨q2, i2, v2⟩ := t2;have ra := hrs _ (.head _);have rb := hrs _ (.tail _ (.head _));simp only at e1 n1 g1 m1 e2 n2 g2 m2 ra rb ⊢;subst e1 e2;simp only [putsE, putsV, tupG];go_simp;have Kx : ZB wf q1 BZ 27 := g1;have Kv : ZB wf q2 #[.int .i64 0, .int .i64 0] 33 := g2;obtain ⟨T, hT⟩ : ∃ T : Nat → Prop, (fun q => Sx u8 (.slice (some ⟨g, 0, none⟩) (i + 1) c) q ∨ q = q1 ∨ q = q2) = T := ⟨_, rfl⟩
   have hN : Hid (BkF wf T (.agg (BF Ah ch As cs Ao co Ar cr b b.n)) (.agg (BF X1 x1 X2 x2 X3 x3 X4 x4 nb nb.n)) nb) := HF.out.step2 hK hOc hwc hO (fun q hq => by
    subst hT;have s1 := hbd.size;rcases hq with hq | hq | hq
    ·have := (HR.out.blk hq).2
     exact .inl ⟨hq, by omega⟩
    ·subst hq; exact .inr ⟨by omega, by omega⟩
    ·subst hq; exact .inr ⟨by omega, by omega⟩)
   have HT1 : Hid (∀ q, T q → w.heap.size ≤ q) := (show ∀ _ _, _ from fun q hq => by
    subst hT;have s1 := hbd.size;have s2 := HR.out.below.size;rcases hq with hq | hq | hq
    ·exact (HR.out.blk hq).1
    ·omega
    ·omega)
   have HTx : Hid (T q1 ∧ T q2 ∧ ∀ q, Sx u8 (.slice (some ⟨g, 0, none⟩) (i + 1) c) q → T q) := (show _ ∧ _ ∧ _ by subst hT; exact ⟨.inr (.inl rfl), .inr (.inr rfl), fun q hq => .inl hq⟩)
   have M1 : Hid (wd.heap.size ≤ q1) := m1;have M2 : Hid (wd.heap.size ≤ q2) := m2;have HBd : Hid (Below wd.heap.size wd wf) := hb;have hBd := zH hbd;clear hT g1 g2 m1 m2 ra rb n1 n2 hb hbd hK hOc hwc hO hrs hap hus hlo hm hq HF;have k1 := zC Kx.out;have k2 := zF Kx.out;have k3 := zC Kv.out;have k4 := zz0a Kx.out Kv.out zx;have k5 := k4.symm;refine zW 16 ?_;go_wp2_with fail;generalize hs : World.setCell _ _ _ = ws1;clear k1 k2 k3 k4 k5;obtain ⟨vs, zE, hvs⟩ := zV5 hs;replace hN := zH (hN.out.put B0.out HT1.out HTx.out.1 zE);replace HBd := zQ zE M1 HBd;replace Kv := zO zE Kx Kv;replace Kx := zP zE Kx;subst hvs;replace Kx : ZB ws1 q1 (BF X1 x1 X2 x2 X3 x3 X4 x4 nb nb.n) 27 := Kx.out;clear zE hs;refine zY ?_ (fun _ => zH (hBd.out.trans (HBd.out.mono hBd.out.size)))
   have k1 := zC Kv.out;have k2 := zF Kv.out;refine zW 17 ?_;go_wp2_with fail;generalize hs : World.setCell _ _ _ = ws2;clear k1 k2;obtain ⟨vs, zE, hvs⟩ := zV2 hs;replace hN := zH (hN.out.put B0.out HT1.out HTx.out.2.1 zE);replace HBd := zQ zE M2 HBd;replace Kx := zO zE Kv Kx;replace Kv := zP zE Kv;subst hvs;replace Kv : ZB ws2 q2 #[V1, V2] 33 := Kv.out;clear zE hs;refine zY ?_ (fun _ => zH (hBd.out.trans (HBd.out.mono hBd.out.size)))
   refine zW 18 ?_;go_wp2_with fail;refine zY ?_ (fun _ => zH (hBd.out.trans (HBd.out.mono hBd.out.size)))
   refine zQe ?_;replace HR := zH (HR.out.call (hBd.out.trans (HBd.out.mono hBd.out.size)));replace hN := zH (hN.out.to fun q hq => .inl (HTx.out.2.2 q hq))
   have HEv := zH (HL.out.call HR.out.below);clear HBd hBd HTx HT1 M1 M2 hz;go_wp2_with fail;refine zS [] (fun wz => Hid (EvsAt wz (.slice (some ⟨bb, oo, none⟩) L.length cL) L) ∧ ZB wz q2 #[V1, V2] 33) 10 zk zk ?_
   intro we hbe;replace HR := zH (HR.out.call hbe);replace hN := zH (hN.out.call hbe);replace HEv := zH (HEv.out.call hbe);replace Kx := zK Kx hbe;replace Kv := zK Kv hbe;clear hbe;refine zM [0, 1, 2, 3, 4, 5, 6] 3 ⟨HEv, Kv⟩ ?_;simp only [opsAt, zA]
   iterate 4 refine zp ?_
   refine zq (fun wz hC => hC.1.out.got Hhe.out) ?_
   refine zq (fun wz hC => zC hC.2.out) ?_
   refine zp ?_;unfold wpPure;go_simp;refine zW 7 ?_;go_wp2_with fail;refine zY ?_ (fun _ => ⟨zH (HEv.out.call zBa), zH (zz05 Kv.out _)⟩)
   refine zW 8 ?_;have hPl := zH (show (foldP b rate (L.take i)).length + 1 ≤ 4000000 by rw [zz21, List.length_take]; omega)
   refine zz1u (wr := we) (B := w.heap.size) _ _ 45 98 _ 9 72 el_Pair (([e.kind, e.acc, e.ord, e.sym, e.side, e.qty, e.px, V1, V2] : List Int).map (Value.int .i64)) u8 (foldP b rate (L.take i)).length (flatC (foldP b rate (L.take i))) HR.out.pairs.1 HR.out.below.size rfl rfl rfl rfl rfl (by intro u hu; obtain ⟨y, _, rfl⟩ := List.mem_map.1 hu; rfl) hPl.out zx ?_
   intro vp' w9 hown hg hat;have n1 := own_ne HR.out.pairs.1 Kx.out zx;have n2 := own_ne HR.out.pairs.1 Kv.out zx;replace hN := zH (hN.out.app (T := Sx vp' (.slice (some ⟨g, 0, none⟩) (i + 1) c)) B0.out (fun q hq => (HR.out.blk hq).1) (fun q hq => by
    rcases hq with hq | hq
    ·rcases hat.out with e | e
     ·exact .inl (.inl (e ▸ hq))
     ·rw [e] at hq; injection hq with hq; exact .inr hq.symm
    ·exact .inl (.inr hq)) HR.out.below.size (fun q hq => .inl hq) hg.out)
   replace HR := zH (HR.out.pair B0.out rfl hown.out hg.out hat.out);replace HEv := zH (HL.out.call HR.out.below);replace Kx := zH (blk_app Kx.out hg.out n1);replace Kv := zH (blk_app Kv.out hg.out n2);obtain ⟨A9, c9, hv9⟩ := HR.out.pairs.form;obtain ⟨nP, hnP⟩ : ∃ nP, (foldP b rate (L.take i) ++ [[e.kind, e.acc, e.ord, e.sym, e.side, e.qty, e.px, V1, V2]]).length = nP := ⟨_, rfl⟩;rw [hnP] at hv9;subst hv9;clear hown hg hat n1 n2 hnP hPl;go_wp2_with fail;refine zY ?_ (fun _ => ⟨HEv, Kv⟩)
   refine zW 9 ?_;go_wp2_with fail;refine zY ?_ (fun _ => ⟨HEv, Kv⟩)
   refine zQe ?_;obtain ⟨us, hro, hl, h5, hk⟩ := HR.out.row;have Hro := zH hro;have Hk := zH hk;have H5 := zH h5;have Hl := zH hl;have hKl := zH (show (foldK b rate (L.take i)).length + 1 ≤ 4000000 by rw [zz22, List.length_take]; omega)
   clear hro hk h5 hl HEv Kv;have k1 := zC Kx.out;go_wp2_with (at_builtin; refine zz1u (wr := w9) (B := w.heap.size) _ _ 48 27 _ 5 104 el_BookR (BF X1 x1 X2 x2 X3 x3 X4 x4 nb nb.n) _ (foldK b rate (L.take i)).length (flatU us) Hro.out HR.out.below.size rfl rfl rfl rfl rfl (by intro u hu; simp at hu; rcases hu with rfl | rfl | rfl | rfl | rfl <;> rfl) hKl.out zx ?_)
   intro vb' w10 hown hg hat;replace HR := zH (HR.out.book B0.out Hl.out H5.out Hk.out hN.out hown.out hg.out hat.out);clear hown hg hat hN Kx k1 Hro Hk H5 Hl hKl;rw [← HP2.out] at HR;go_wp2_with fail;go_roundw
   case rel => exact ⟨i + 1, by go_num, by show _ ≤ _; omega, by have h := HR.out; rw [← HP1.out] at h; exact h⟩
   case measure => simp [intOf]; omega
  ·obtain rfl : i = L.length := by omega
   rw [List.take_length] at HR;have tn : decide ((L.length : Int) < (L.length : Int)) = false := decide_eq_false zw;go_wp2_with fail;go_ret2;exact ⟨_, _, rfl, HR.out⟩
theorem zza5 (v : Value) (b : Bk) (A : Option Addr) (c : Nat) (n : Nat) (rate : Int) (k : Int) (w : World) (B0 : Hid (BkAt w v b)) (hs : Hid b.Small) (hn : n ≤ 9223372036854775807) (hk : rightC b n rate = k) (h0 : (k != 0) = true) :
  Calls Tryz.prog 16 #[v, .slice A n c, .int .i64 rate] w fun r w' => r = .returned (.tuple #[.slice none 0 0, .agg BZ, .int .i64 k]) ∧ Below w.heap.size w w' := by
 obtain ⟨Ah, ch, As, cs, Ao, co, Ar, cr, rfl⟩ := B0.out.forms;have q1 := zH (fun v wz hv => zz8f v b n rate wz hv hs hn)
 rw [hk] at q1;clear hk;have K := zEa2 (c := BF Ah ch As cs Ao co Ar cr b b.n) (t := 27) (c2 := #[.slice A n c]) (t2 := 44) rfl (zE0 w);have K := zEa (c := BZ) (t := 27) rfl K;have e1 : ((w.alloc (.cells (BF Ah ch As cs Ao co Ar cr b b.n) 27)).alloc (.cells #[.slice A n c] 44)).heap.size = w.heap.size + 1 + 1 := by simp
 rw [e1] at K;clear e1;have c := zEc K;go_in;go_wp2_with fail;generalize hw : World.alloc _ _ = wb;rw [hw] at K;clear c hw;(with_reducible refine (q1.out _ _ (zH (B0.out.call (zEb K)))).mono ?_);rintro r wc ⟨rfl, hb⟩;replace K := zEk K hb;clear hb q1;have c := zEx K;go_wp2_with fail;clear c;generalize hs : World.setCell _ _ _ = ws;have E : putC wc (w.heap.size + 1 + 1) 0 [.slice none 0 0, .slice none 0 0, .slice none 0 0, .slice none 0 0, .int .i64 0] = ws := hs;replace K := zEp E K;refine bodyPost_ret (v := .tuple #[.slice none 0 0, .agg BZ, .int .i64 k]) ?_ rfl ⟨rfl, zEb K⟩;exact ret_tct rfl _ _ _ _ _ _ rfl (zEg K) Tryz.underlying27 rfl zk _ _ rfl rfl
theorem rRun_nil (v : Value) (b : Bk) (A : Option Addr) (cL : Nat) (rate : Int) (w : World) (B0 : Hid (BkAt w v b)) :
  Calls Tryz.prog 18 #[v, .slice A 0 cL, .int .i64 rate] w fun r w' => ∃ vp vb, r = .returned (.tuple #[vp, vb]) ∧ RRun w v [] [b] w' vp vb := by
 obtain ⟨Ah, ch, As, cs, Ao, co, Ar, cr, rfl⟩ := B0.out.forms;have k0 := zM1 (w := w) (cs := BF Ah ch As cs Ao co Ar cr b b.n) (t := 27) rfl;have c := zC k0.out;go_in;go_wp2_with fail;generalize hw : World.alloc _ _ = wb;have H0 := zH (RRun.start B0.out hw);clear c k0 hw;go_loopw [8, 9, 10] (fun s8 s9 s10 wr => s10 = .int .i64 0 ∧ Hid (RRun w (.agg (BF Ah ch As cs Ao co Ar cr b b.n)) [] [b] wr s8 s9)) (fun _ _ _ _ => 0)
 case atStart => exact ⟨rfl, H0.out⟩
 case round =>
  obtain ⟨rfl, HR⟩ := hrel;go_wp2_with fail;go_ret2;exact ⟨_, _, rfl, HR.out⟩
theorem rRun_any (v : Value) (b : Bk) (A : Option Addr) (cL : Nat) (L : List Ev) (rate : Int) (w : World) (B0 : Hid (BkAt w v b)) (HL : Hid (EvsAt w (.slice A L.length cL) L)) (hgd : Hid b.Good) (hE : Hid (∀ e ∈ L, e.I64s)) (hr0 : Hid (0 ≤ rate ∧ rate ≤ 1000))
  (hcount : Hid (b.n + L.length ≤ 1099511627776)) (hst : Hid (b.s.length + L.length ≤ 900000)) (hln : L.length ≤ 60000) :
  Calls Tryz.prog 18 #[v, .slice A L.length cL, .int .i64 rate] w fun r w' => ∃ vp vb, r = .returned (.tuple #[vp, vb]) ∧ RRun w v (foldP b rate L) (foldK b rate L) w' vp vb := by
 obtain ⟨A', c', hA, _, h⟩ := HL.out;rcases h with h | ⟨bb, oo, rfl, _⟩
 ·obtain rfl : L = [] := List.map_eq_nil_iff.1 h
  exact rRun_nil v b A cL rate w B0
 ·injection hA with hA _ _
  subst hA;exact rRun_some v b bb oo cL L rate w B0 HL hgd hE hr0 hcount hst hln
theorem zz9g {b : Bk} {n : Nat} {rate : Int} (h : rightC b n rate = 0) : b.mayB = true ∧ 0 ≤ rate ∧ rate ≤ 1000 ∧ b.n + n ≤ 1099511627776 ∧ n ≤ 65536 := by
 unfold rightC at h;by_cases h1 : 65536 < n
 ·rw [if_pos h1] at h; cases h
 rw [if_neg h1] at h;by_cases h2 : (b.mayB && (decide (0 ≤ rate) && decide (rate ≤ 1000))) = true
 ·rw [if_pos h2] at h
  by_cases h3 : 1099511627776 < b.n + n
  ·rw [if_pos h3] at h; cases h
  ·simp only [Bool.and_eq_true, decide_eq_true_eq] at h2
   exact ⟨h2.1, h2.2.1, h2.2.2, by omega, by omega⟩
 ·rw [if_neg h2] at h; cases h
theorem zz7l {b : Bk} {n : Nat} {rate k : Int} (h : rightC b n rate = k) (hk : k ≠ 0) (hn : ¬ 65536 < n) : (b.mayB = false ∧ k = 1) ∨ (b.mayB = true ∧ decide (rate < 0) = true ∧ k = 1) ∨ (b.mayB = true ∧ decide (rate < 0) = false ∧ decide (1000 < rate) = true ∧ k = 1) ∨ (b.mayB = true ∧ decide (rate < 0) = false ∧ decide (1000 < rate) = false ∧ decide (1099511627776 < b.n + (n : Int)) = true ∧ IntKind.i64.wrap (b.n + (n : Int)) = b.n + (n : Int) ∧ k = 11) := by
 unfold rightC at h;rw [if_neg hn] at h;cases hm : b.mayB with
 | false =>
  rw [hm, if_neg (by simp)] at h
  exact .inl ⟨rfl, h.symm⟩
 | true =>
 rw [hm] at h;by_cases h1 : rate < 0
 ·rw [if_neg (by simp; omega)] at h
  exact .inr (.inl ⟨rfl, decide_eq_true h1, h.symm⟩)
 by_cases h2 : 1000 < rate
 ·rw [if_neg (by simp; omega)] at h
  exact .inr (.inr (.inl ⟨rfl, decide_eq_false h1, decide_eq_true h2, h.symm⟩))
 rw [if_pos (by simp; omega)] at h
 by_cases h3 : 1099511627776 < b.n + (n : Int)
 ·rw [if_pos h3] at h
  have hf := (Bk.mayB_iff b).1 hm;have hn0 := hf.n0;have hn1 := hf.n1;exact .inr (.inr (.inr ⟨rfl, decide_eq_false h1, decide_eq_false h2, decide_eq_true h3, by rw [IntKind.wrap_i64]; omega, h.symm⟩))
 ·rw [if_neg h3] at h
  exact absurd h.symm hk
theorem zz7b (v : Value) (b : Bk) (A : Option Addr) (cA : Nat) (L : List Ev) (rate : Int) (w : World) (hT : Hid (Law16 w)) (B0 : Hid (BkAt w v b)) (hi : Hid b.I64s) (HL : Hid (EvsAt w (.slice A L.length cA) L)) (hE : Hid (∀ e ∈ L, e.I64s)) (hl : L.length ≤ 4611686018427387903) :
  Calls Tryz.prog 4 #[v, .slice A L.length cA, .int .i64 rate] w fun r w' => r = .returned (.bool true) ∧ Below w.heap.size w w' := by
 obtain ⟨Ah, ch, As, cs, Ao, co, Ar, cr, rfl⟩ := B0.out.forms;have K := zEa (c := BF Ah ch As cs Ao co Ar cr b b.n) (t := 27) rfl (zE0 w);go_in;go_wp2_with fail;generalize hw : World.alloc _ _ = wb;rw [hw] at K;clear hw;(with_reducible refine (alive18 _ (zH (hT.out.call (zEb K)))).mono ?_);rintro r wc1 ⟨rfl, hb⟩;replace K := zEk K hb;clear hb;have c := zEc K;go_wp2_with fail;clear c;(with_reducible refine (Great_any _ b _ (zH (B0.out.call (zEb K)))).mono ?_);rintro r wc2 ⟨gr, rfl, hg, hb⟩;replace K := zEk K hb;clear hb;cases gr with
 | true =>
  clear hg;go_wp2_with fail;go_ret;exact ⟨rfl, zEb K⟩
 | false =>
 have hs := zH (hg rfl).small;have hsS : Hid (b.s.length ≤ 900) := (show b.s.length ≤ 900 by have := hg rfl; unfold Bk.Fit at this; omega)
 clear hg;by_cases h1 : 60 < L.length ∧ L.length ≤ 65536
 ·have t1 : decide (60 < (L.length : Int)) = true := decide_eq_true zw
  have t2 : decide ((L.length : Int) ≤ 65536) = true := decide_eq_true zw;go_wp2_with fail;go_ret;exact ⟨rfl, zEb K⟩
 have t0 : ∀ x : Int, (x == x) = true := fun x => by simp
 have qz : Hid (∀ wz : World, Calls Tryz.prog 12 #[.agg BZ, .agg BZ] wz fun r w' => r = .returned (.bool true) ∧ Below wz.heap.size wz w') := (show _ from fun wz => by have h := zz8g (.agg BZ) (.agg BZ) bZ bZ wz (zH (BkAt.zero wz)) (zH (BkAt.zero wz)) (zH (by unfold Bk.Small bZ; simp)); rw [(zz3z bZ bZ).2 rfl] at h; exact h)
 have qm := zH (fun v wz hv => zzax v b wz hv hs)
 obtain ⟨k, hk⟩ : ∃ k, rightC b L.length rate = k := ⟨_, rfl⟩;by_cases hk0 : k = 0
 ·obtain ⟨hm, hr0, hr1, hc0, h2⟩ := zz9g (hk.trans hk0)
  have HM : Hid (b.mayB = true) := hm;have hln : L.length ≤ 60 := by omega
  have t1 : decide (60 < (L.length : Int)) = false := decide_eq_false zw;have t3 : decide (65536 < (L.length : Int)) = false := decide_eq_false zw;have t4 : decide (rate < 0) = false := decide_eq_false zw;have t5 : decide (1000 < rate) = false := decide_eq_false zw;have t6 : decide (1099511627776 < b.n + (L.length : Int)) = false := decide_eq_false zw;have hn0 := ((Bk.mayB_iff b).1 hm).n0;have t7 : IntKind.i64.wrap (b.n + (L.length : Int)) = b.n + (L.length : Int) := by rw [IntKind.wrap_i64]; omega
  have HG : Hid b.Good := ⟨hm, hi.out, B0.out.lens⟩;have HR0 : Hid (0 ≤ rate ∧ rate ≤ 1000) := ⟨hr0, hr1⟩;have HC : Hid (b.n + L.length ≤ 1099511627776) := hc0;have HST : Hid (b.s.length + L.length ≤ 900000) := (show _ ≤ _ by have := hsS.out; omega)
  have qr := zH (fun wz h1 h2 h3 => zz4y Ah As Ao Ar A ch cs co cr cA b L rate wz h1 h2 h3 HG hE HR0 HC HST zw)
  have qf := zH (fun wz h2 h3 => rRun_any (.agg (BF Ah ch As cs Ao co Ar cr b b.n)) b A cA L rate wz h2 h3 HG hE HR0 HC HST zw)
  rw [hm] at qm;obtain ⟨nb, hnb⟩ : ∃ nb, foldB b rate L = nb := ⟨_, rfl⟩;obtain ⟨PL, hPL⟩ : ∃ PL, foldP b rate L = PL := ⟨_, rfl⟩;have hKn : Hid ((foldK b rate L)[L.length]? = some nb) := (show _ = _ by rw [zz5v rate L b _ (Nat.le_refl _), List.take_length, hnb])
  have hKl : Hid ((foldK b rate L).length = L.length + 1) := zz22 rate L b;have hPl : Hid (PL.length ≤ 1000000) := (show _ ≤ _ by rw [← hPL, zz21]; omega)
  have hNs : Hid nb.Small := (by
   have h := zz39 rate L b HG.out hc0 hE.out;have h3 := zz23 rate L b;rw [hnb] at h h3;exact h.small (by have := HST.out; omega))
  rw [hnb, hPL] at qr;rw [hPL] at qf;have qs : Hid (∀ (v v' : Value) (wz : World), Hid (BkAt wz v nb) → Hid (BkAt wz v' nb) → Calls Tryz.prog 12 #[v, v'] wz fun r w' => r = .returned (.bool true) ∧ Below wz.heap.size wz w') := (show _ from fun v v' wz h1 h2 => by
   have h := zz8g v v' nb nb wz h1 h2 hNs;rw [(zz3z nb nb).2 rfl] at h;exact h)
  have hi9 : (L.length : Int) < (L.length : Int) + 1 := by omega
  clear hk hk0 hm hr0 hr1 hc0 h2 hn0 h1 hnb hPL;have c := zEc K;go_wp2_with fail;clear c;(with_reducible refine (qr.out _ (zH (hT.out.call (zEb K))) (zH (B0.out.call (zEb K))) (zH (HL.out.call (zEb K)))).mono ?_);rintro r wc3 ⟨vp, vb, rfl, hP, hO, hb⟩;obtain ⟨U1, u1, U2, u2, U3, u3, U4, u4, rfl⟩ := hO.at.forms;obtain ⟨A3, c3, rfl⟩ := hP.form;replace K := zEk K hb;have HP := zH hP.row;have HO := zH hO.at;clear hb hP hO;have c := zEc K;go_wp2_with fail;clear c;generalize hw : World.alloc _ _ = wa;have hb := zM0 hw;replace HP := zH (HP.out.call hb);replace HO := zH (HO.out.call hb);replace K := zEa hw K;clear hw hb;have c := zEc K;go_wp2_with fail;clear c;(with_reducible refine (qm.out _ _ (zH (B0.out.call (zEb K)))).mono ?_);rintro r wc4 ⟨rfl, hb⟩;replace HP := zH (HP.out.call hb);replace HO := zH (HO.out.call hb);replace K := zEk K hb;clear hb;have c := zEc K;go_wp2_with fail;clear c;(with_reducible refine (qf.out _ (zH (B0.out.call (zEb K))) (zH (HL.out.call (zEb K)))).mono ?_);rintro r wr ⟨vp2, vb2, rfl, hR⟩;replace HP := zH (HP.out.call hR.below);replace HO := zH (HO.out.call hR.below);replace K := zEk K hR.below;obtain ⟨g, c, A1, c1, A2, c2, A3, c3, A4, c4, hvb, hgl, hF, m0, m1, m2, m3, m4⟩ := hR.get hKn.out;rw [hKl.out] at hvb;subst hvb;have HP2 := zH hR.pairs.row;obtain ⟨A9, c9, rfl⟩ := hR.pairs.form;have HF := zH hF.at;have hm : Hid (∀ wz : World, Hid (Below wr.heap.size wr wz) → wz.cell? ⟨g, L.length * 5, none⟩ = some (.slice A1 nb.h.length c1) ∧ wz.cell? ⟨g, L.length * 5 + 1, none⟩ = some (.slice A2 nb.s.length c2) ∧ wz.cell? ⟨g, L.length * 5 + 2, none⟩ = some (.slice A3 nb.o.length c3) ∧ wz.cell? ⟨g, L.length * 5 + 3, none⟩ = some (.slice A4 nb.r.length c4) ∧ wz.cell? ⟨g, L.length * 5 + 4, none⟩ = some (.int .i64 nb.n)) := (show ∀ _ _, _ from fun wz h => ⟨(h.out.cell (p := ⟨_, _, _⟩) hgl).trans m0, (h.out.cell (p := ⟨_, _, _⟩) hgl).trans m1, (h.out.cell (p := ⟨_, _, _⟩) hgl).trans m2, (h.out.cell (p := ⟨_, _, _⟩) hgl).trans m3, (h.out.cell (p := ⟨_, _, _⟩) hgl).trans m4⟩)
  clear hR hF m0 m1 m2 m3 m4 hgl;have K8 := zH (zEg K);go_wp2_with fail;refine zS [] (fun wz => Hid (Below wr.heap.size wr wz)) 17 zk zk ?_
  intro wd hbd;refine zM [0, 1, 2, 3, 4] 12 hbd ?_;simp only [opsAt, zA]
  iterate 5 refine zp ?_
  unfold wpPure;go_simp;refine zW 5 ?_;go_wp2_with fail;(with_reducible refine (pSame_eq _ _ PL _ (zH (HP.out.call hbd)) (zH (HP2.out.call hbd)) hPl.out).mono ?_);rintro r wc5 ⟨rfl, hb⟩;replace hbd := hbd.trans (hb.mono hbd.size);clear hb;go_wp2_with fail;refine zY ?_ (fun _ => zH hbd)
  refine zM [6, 7] 9 hbd ?_;simp only [opsAt, zA]
  iterate 2 refine zp ?_
  unfold wpPure;go_simp;refine zM [8, 9, 10, 11, 12, 13] 3 hbd ?_;simp only [opsAt, zA];refine zq (fun wz hC => zC (zK K8 hC.out).out) ?_ zk
  iterate 4 refine zp ?_ zk
  refine zq hm.out ?_ zk;unfold wpPure;go_simp;refine zW 14 ?_;go_wp2_with fail;(with_reducible refine (qs.out _ _ _ (zH (HO.out.call hbd)) (zH (HF.out.call hbd))).mono ?_);rintro r wc6 ⟨rfl, hb⟩;replace hbd := hbd.trans (hb.mono hbd.size);clear hb;go_wp2_with fail;refine zY ?_ (fun _ => zH hbd)
  refine zM [15, 16] 0 hbd ?_;simp only [opsAt, zA]
  iterate 2 refine zp ?_
  unfold wpPure;go_simp;refine zQe ?_;go_wp2_with fail;go_ret;exact ⟨rfl, zEb (zEk K hbd)⟩
 have qb := zH (fun v wz hv => zza5 v b A cA L.length rate k wz hv hs zw hk (by simpa using hk0))
 by_cases h2 : 65536 < L.length
 ·have t1 : decide (60 < (L.length : Int)) = true := decide_eq_true zw
  have t2 : decide ((L.length : Int) ≤ 65536) = false := decide_eq_false zw;have t3 : decide (65536 < (L.length : Int)) = true := decide_eq_true zw;obtain rfl : k = 4 := by rw [← hk]; unfold rightC; rw [if_pos h2]
  clear hk hk0 h1 h2;have c := zEc K;go_wp2_with fail;clear c;(with_reducible refine (qb.out _ _ (zH (B0.out.call (zEb K)))).mono ?_);rintro r wc3 ⟨rfl, hb⟩;replace K := zEk K hb;clear hb;have c := zEc K;go_wp2_with fail;generalize hw : World.alloc _ _ = wa;clear c;replace K := zEa hw K;clear hw;(with_reducible refine (qz.out _).mono ?_);rintro r wc4 ⟨rfl, hb⟩;replace K := zEk K hb;clear hb;go_wp2_with fail;go_ret;exact ⟨rfl, zEb K⟩
 have t1 : decide (60 < (L.length : Int)) = false := decide_eq_false zw;have t3 : decide (65536 < (L.length : Int)) = false := decide_eq_false zw;have hcase := zz7l hk hk0 h2;clear hk hk0 h1 h2;rcases hcase with ⟨m, rfl⟩ | ⟨m, t4, rfl⟩ | ⟨m, t4, t5, rfl⟩ | ⟨m, t4, t5, t6, t7, rfl⟩
 all_goals
  rw [m] at qm;clear m;have c := zEc K;go_wp2_with fail;clear c;(with_reducible refine (qb.out _ _ (zH (B0.out.call (zEb K)))).mono ?_);rintro r wc3 ⟨rfl, hb⟩;replace K := zEk K hb;clear hb;have c := zEc K;go_wp2_with fail;clear c;generalize hw : World.alloc _ _ = wa;replace K := zEa hw K;clear hw;have c := zEc K;go_wp2_with fail;clear c;(with_reducible refine (qm.out _ _ (zH (B0.out.call (zEb K)))).mono ?_);rintro r wc4 ⟨rfl, hb⟩;replace K := zEk K hb;clear hb;have c := zEc K;go_wp2_with fail;clear c;(with_reducible refine (qz.out _).mono ?_);rintro r wc5 ⟨rfl, hb⟩;replace K := zEk K hb;clear hb;go_wp2_with fail;go_ret;exact ⟨rfl, zEb K⟩
end
end Go.Proofs.YtajogedbacpohaaGreatDoor
