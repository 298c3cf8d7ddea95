/- Part 21 of what the claim rests on. -/
import Derived.Test.YtajogedbacpohaaGreatDoorB00
import Derived.Test.YtajogedbacpohaaGreatDoorB01
import Derived.Test.YtajogedbacpohaaGreatDoorB12
import Derived.Test.YtajogedbacpohaaGreatDoorB14
import Derived.Test.YtajogedbacpohaaGreatDoorB15
import Derived.Test.YtajogedbacpohaaGreatDoorB18
import Derived.Test.YtajogedbacpohaaGreatDoorB19
import Derived.IntWalk
import Derived.Laws.Cover1
import Derived.LoopIn
import Derived.LoopNIn
import Derived.OrdersIn
import Derived.OwnWalkIn
import Derived.RangeFuncCalls
import Derived.Shelf.Abstract
import Derived.TacticsInMore
set_option linter.unusedVariables false
set_option linter.unusedSimpArgs false
set_option maxRecDepth 1000000
set_option maxHeartbeats 32000000
namespace Go.Proofs.YtajogedbacpohaaGreatDoor
section
open Go Go.RowKit
def Vb (a w : World) (l : Bl) (V : Value) (L : List Stp) (u0 u : Value) (b0 nb : Bk) : Prop :=
 En a w l ∧ (∃ B, StepsOwn w B V L) ∧ BkAt a u0 b0 ∧ BkAt w u nb ∧ ∃ B, (a.heap.size ≤ B ∧ Kin B u0 u) ∧ (∀ x ∈ l, x.1 < B) ∧ B ≤ w.heap.size
theorem Kin.refl {B : Nat} {a : World} {u : Value} {b : Bk} (h : BkAt a u b) : Kin B u u := by
 obtain ⟨_, _, _, _, rfl, _⟩ := h;exact ⟨_, _, _, _, _, _, _, _, _, _, rfl, rfl, .inl rfl, .inl rfl, .inl rfl, .inl rfl⟩
theorem Kin1.mono {B B' : Nat} {a b : Value} (h : Kin1 B a b) (hB : B' ≤ B) : Kin1 B' a b := h.imp id fun h q hq => Nat.le_trans hB (h q hq)
theorem Kin.count {B B' : Nat} {u x1 x2 x3 x4 m : Value} (h : Kin B u (.agg #[x1, x2, x3, x4, m])) (hB : B' ≤ B) (m' : Value) : Kin B' u (.agg #[x1, x2, x3, x4, m']) := by
 obtain ⟨a0, a1, a2, a3, n, b0, b1, b2, b3, y, rfl, e, k0, k1, k2, k3⟩ := h;injection e with e
 simp only [Array.mk.injEq, List.cons.injEq, and_true] at e;obtain ⟨rfl, rfl, rfl, rfl, rfl⟩ := e;exact ⟨a0, a1, a2, a3, n, _, _, _, _, m', rfl, rfl, k0.mono hB, k1.mono hB, k2.mono hB, k3.mono hB⟩
section
variable {a w w' : World} {l m : Bl} {V u0 u u' : Value} {L : List Stp} {b0 nb nb' : Bk}
theorem zV0 {B : Nat} (K : Hid (En a w l)) (h : StepsOwn w B V L) (hB : Hid (BkAt a u0 b0)) : Hid (Vb a w l V L u0 u0 b0 b0) :=
 ⟨K.out, ⟨_, h⟩, hB.out, hB.out.call K.out.1, _, ⟨K.out.1.size, Kin.refl hB.out⟩, K.out.2.1.lt, Nat.le_refl _⟩
theorem zVk (K : Hid (Vb a w l V L u0 u b0 nb)) (hb : Below w.heap.size w w') : Hid (Vb a w' l V L u0 u b0 nb) := by
 obtain ⟨h1, ⟨B, h2⟩, h3, h4, B', h5, h6, h7⟩ := K.out;exact ⟨zEk h1 hb, ⟨B, h2.kept hb⟩, h3, h4.call hb, B', h5, h6, Nat.le_trans h7 hb.size⟩
theorem zVa {c : Array Value} {t : TypeId} (h : w.alloc (.cells c t) = w') (K : Hid (Vb a w l V L u0 u0 b0 b0)) : Hid (Vb a w' ((w.heap.size, c, t) :: l) V L u0 u0 b0 b0) := by
 obtain ⟨h1, ⟨B, h2⟩, h3, h4, B', h5, h6, h7⟩ := K.out;have hb : Below w.heap.size w w' := h ▸ zBa;exact zV0 (zEa h h1) (h2.kept hb) h3
theorem zVa2 {c c2 : Array Value} {t t2 : TypeId} (h : (w.alloc (.cells c t)).alloc (.cells c2 t2) = w') (K : Hid (Vb a w l V L u0 u0 b0 b0)) : Hid (Vb a w' ((w.heap.size + 1, c2, t2) :: (w.heap.size, c, t) :: l) V L u0 u0 b0 b0) := by
 have := zVa h (zVa rfl K);simpa using this
theorem zVs (K : Hid (Vb a w l V L u0 u b0 nb)) (hb : Below w.heap.size w w') (hO : BkAt w' u' nb') (hK : Kin w.heap.size u u') : Hid (Vb a w' l V L u0 u' b0 nb') := by
 obtain ⟨h1, ⟨B, h2⟩, h3, h4, B', h5, h6, h7⟩ := K.out;exact ⟨zEk h1 hb, ⟨B, h2.kept hb⟩, h3, hO, B', ⟨h5.1, h5.2.trans hK h7⟩, h6, Nat.le_trans h7 hb.size⟩
theorem zVp {g o : Nat} {c : Array Value} {t : TypeId} {vs : List Value} (E : putC w g o vs = w') (K : Hid (Vb a w ((g, c, t) :: l) V L u0 u b0 nb)) (ht : t ≠ 65 := by decide) : Hid (Vb a w' ((g, putA c o vs, t) :: l) V L u0 u b0 nb) := by
 obtain ⟨h1, ⟨B, h2⟩, h3, h4, B', h5, h6, h7⟩ := K.out;refine ⟨zEp E h1, ⟨B, E ▸ zz0p ht h1.2.1.1.2 h2⟩, h3, E ▸ BkAt.putKin h5.2 h4 h3 h1.2.1.1.1 (h6 _ (.head _)) o vs, B', h5, ?_, by rw [← E, zz36]; exact h7⟩
 intro x hx;rcases List.mem_cons.1 hx with e | hx
 ·rw [e]; exact h6 (g, c, t) (.head _)
 ·exact h6 _ (.tail _ hx)
theorem zVe (K : Hid (Vb a w l V L u0 u b0 nb)) : Hid (En a w l) := K.out.1
theorem zVc (K : Hid (Vb a w l V L u0 u b0 nb)) : Oz w l := zEc K.out.1
theorem zVx {g : Nat} {c : Array Value} {t : TypeId} (K : Hid (Vb a w ((g, c, t) :: l) V L u0 u b0 nb)) : Oz w ((g, c, t) :: l) ∧ Nz g l := zEx K.out.1
theorem zVb (K : Hid (Vb a w l V L u0 u b0 nb)) : Hid (BkAt w u0 b0) := K.out.2.2.1.call K.out.1.1
theorem zVu (K : Hid (Vb a w l V L u0 u b0 nb)) : Hid (BkAt w u nb) := K.out.2.2.2.1
theorem zVt (K : Hid (Vb a w l V L u0 u b0 nb)) : StepsAt w V L := by
 obtain ⟨h1, ⟨B, h2⟩, h3⟩ := K.out;exact h2.at
theorem zVm (K : Hid (Vb a w l V L u0 u b0 nb)) (h : l.Perm m) : Hid (Vb a w m V L u0 u b0 nb) := by
 obtain ⟨h1, h2, h3, h4, B', h5, h6, h7⟩ := K.out;exact ⟨zEm h1 h, h2, h3, h4, B', h5, fun x hx => h6 x (h.mem_iff.2 hx), h7⟩
variable {x y z s t : Nat × Array Value × TypeId}
theorem zVq (K : Hid (Vb a w (x :: y :: l) V L u0 u b0 nb)) : Hid (Vb a w (y :: x :: l) V L u0 u b0 nb) := zVm K (List.Perm.swap _ _ _)
theorem zVw (K : Hid (Vb a w (x :: y :: z :: s :: l) V L u0 u b0 nb)) : Hid (Vb a w (s :: x :: y :: z :: l) V L u0 u b0 nb) := zVm K (List.perm_middle (l₁ := [x, y, z]))
theorem zVd (K : Hid (Vb a w (x :: l) V L u0 u b0 nb)) : Hid (Vb a w l V L u0 u b0 nb) := by
 obtain ⟨h1, h2, h3, h4, B', h5, h6, h7⟩ := K.out;exact ⟨⟨h1.1, h1.2.1.2, (List.pairwise_cons.1 h1.2.2).2⟩, h2, h3, h4, B', h5, fun x hx => h6 x (.tail _ hx), h7⟩
theorem zVp5 {g : Nat} {a0 a1 a2 a3 a4 b1 b2 b3 b4 b5 : Value} {t : TypeId} (h : ((((w.setCell ⟨g, 0, none⟩ b1).setCell ⟨g, 1, none⟩ b2).setCell ⟨g, 2, none⟩ b3).setCell ⟨g, 3, none⟩ b4).setCell ⟨g, 4, none⟩ b5 = w') (K : Hid (Vb a w ((g, #[a0, a1, a2, a3, a4], t) :: l) V L u0 u b0 nb)) (ht : t ≠ 65 := by decide) : Hid (Vb a w' ((g, #[b1, b2, b3, b4, b5], t) :: l) V L u0 u b0 nb) := by
 have E : putC w g 0 [b1, b2, b3, b4, b5] = w' := h;have J : putA #[a0, a1, a2, a3, a4] 0 [b1, b2, b3, b4, b5] = #[b1, b2, b3, b4, b5] := rfl;exact J ▸ zVp E K ht
theorem zVp2 {g : Nat} {a0 a1 b1 b2 : Value} {t : TypeId} (h : (w.setCell ⟨g, 0, none⟩ b1).setCell ⟨g, 1, none⟩ b2 = w') (K : Hid (Vb a w ((g, #[a0, a1], t) :: l) V L u0 u b0 nb)) (ht : t ≠ 65 := by decide) : Hid (Vb a w' ((g, #[b1, b2], t) :: l) V L u0 u b0 nb) := by
 have E : putC w g 0 [b1, b2] = w' := h;have J : putA #[a0, a1] 0 [b1, b2] = #[b1, b2] := rfl;exact J ▸ zVp E K ht
theorem zVn {g : Nat} {a0 a1 a2 a3 a4 b5 : Value} {t : TypeId} (h : w.setCell ⟨g, 4, none⟩ b5 = w') (K : Hid (Vb a w ((g, #[a0, a1, a2, a3, a4], t) :: l) V L u0 u b0 nb)) (ht : t ≠ 65 := by decide) : Hid (Vb a w' ((g, #[a0, a1, a2, a3, b5], t) :: l) V L u0 u b0 nb) := by
 have E : putC w g 4 [b5] = w' := h;have J : putA #[a0, a1, a2, a3, a4] 4 [b5] = #[a0, a1, a2, a3, b5] := rfl;exact J ▸ zVp E K ht
theorem zVo {g : Nat} {a0 a1 a2 a3 a4 a5 b5 : Value} {t : TypeId} (h : w.setCell ⟨g, 4, none⟩ b5 = w') (K : Hid (Vb a w ((g, #[a0, a1, a2, a3, a4, a5], t) :: l) V L u0 u b0 nb)) (ht : t ≠ 65 := by decide) : Hid (Vb a w' ((g, #[a0, a1, a2, a3, b5, a5], t) :: l) V L u0 u b0 nb) := by
 have E : putC w g 4 [b5] = w' := h;have J : putA #[a0, a1, a2, a3, a4, a5] 4 [b5] = #[a0, a1, a2, a3, b5, a5] := rfl;exact J ▸ zVp E K ht
theorem zVh {g : Nat} {a0 a1 a2 a3 b2 b3 : Value} {t : TypeId} (h : (w.setCell ⟨g, 2, none⟩ b2).setCell ⟨g, 3, none⟩ b3 = w') (K : Hid (Vb a w ((g, #[a0, a1, a2, a3], t) :: l) V L u0 u b0 nb)) (ht : t ≠ 65 := by decide) : Hid (Vb a w' ((g, #[a0, a1, b2, b3], t) :: l) V L u0 u b0 nb) := by
 have E : putC w g 2 [b2, b3] = w' := h;have J : putA #[a0, a1, a2, a3] 2 [b2, b3] = #[a0, a1, b2, b3] := rfl;exact J ▸ zVp E K ht
theorem zVp51 {g p : Nat} {a0 a1 a2 a3 a4 b1 b2 b3 b4 b5 c0 c1 c2 c3 c4 c5 d : Value} {t t2 : TypeId} (h : (((((w.setCell ⟨g, 0, none⟩ b1).setCell ⟨g, 1, none⟩ b2).setCell ⟨g, 2, none⟩ b3).setCell ⟨g, 3, none⟩ b4).setCell ⟨g, 4, none⟩ b5).setCell ⟨p, 4, none⟩ d = w') (K : Hid (Vb a w ((g, #[a0, a1, a2, a3, a4], t) :: (p, #[c0, c1, c2, c3, c4, c5], t2) :: l) V L u0 u b0 nb)) (ht : t ≠ 65 := by decide) (ht2 : t2 ≠ 65 := by decide) : Hid (Vb a w' ((g, #[b1, b2, b3, b4, b5], t) :: (p, #[c0, c1, c2, c3, d, c5], t2) :: l) V L u0 u b0 nb) := zVq (zVo h (zVq (zVp5 rfl K ht)) ht2)
theorem zVf {g : Nat} {c : Array Value} {t : TypeId} (K : Hid (Vb a w ((g, c, t) :: l) V L u0 u b0 nb)) : (∀ i, w.cell? ⟨g, i, none⟩ = c[i]?) ∧ (∀ i, w.frozen? ⟨g, i, none⟩ = false) := ⟨(zVc K).1, (zVc K).2.1⟩
theorem zVg {g p : Nat} {c d : Array Value} {t r : TypeId} (K : Hid (Vb a w ((g, c, t) :: (p, d, r) :: l) V L u0 u b0 nb)) : w.heap[g]? = some (.cells c t (0, 0)) ∧ w.heap[p]? = some (.cells d r (0, 0)) := ⟨K.out.1.2.1.1.2, K.out.1.2.1.2.1.2⟩
theorem zVp6 {g : Nat} {a0 a1 a2 a3 a4 b1 b2 b3 b4 b5 b6 : Value} {t : TypeId} (h : (((((w.setCell ⟨g, 0, none⟩ b1).setCell ⟨g, 1, none⟩ b2).setCell ⟨g, 2, none⟩ b3).setCell ⟨g, 3, none⟩ b4).setCell ⟨g, 4, none⟩ b5).setCell ⟨g, 4, none⟩ b6 = w') (K : Hid (Vb a w ((g, #[a0, a1, a2, a3, a4], t) :: l) V L u0 u b0 nb)) (ht : t ≠ 65 := by decide) : Hid (Vb a w' ((g, #[b1, b2, b3, b4, b6], t) :: l) V L u0 u b0 nb) := zVn h (zVp5 rfl K ht) ht
theorem zVK {x1 x2 x3 x4 y1 : Value} (K : Hid (Vb a w l V L u0 (.agg #[x1, x2, x3, x4, y1]) b0 nb)) (m' : Value) : Kin a.heap.size u0 (.agg #[x1, x2, x3, x4, m']) := by
 obtain ⟨_, _, _, _, B, h, _⟩ := K.out;exact h.2.count h.1 _
theorem zVy (K : Hid (Vb a w (x :: y :: l) V L u0 u b0 nb)) : Hid (Bz a.heap.size w [x, y]) := ⟨K.out.1.2.1.1, K.out.1.2.1.2.1, trivial⟩
theorem zVz {g p : Nat} {c d : Array Value} {t r : TypeId} (K : Hid (Vb a w ((g, c, t) :: (p, d, r) :: l) V L u0 u b0 nb)) : Oz w ((g, c, t) :: (p, d, r) :: l) ∧ Nz g ((p, d, r) :: l) ∧ Nz p l := ⟨zVc K, (zVx K).2, (zVx (zVd K)).2⟩
end
theorem doneB_no {b : Bk} {e : Ev} {rate : Int} (h : (allS b e rate).all (·.holds) = false) : doneB b e rate = b := by
 unfold doneB;rw [h]
 rfl
theorem zz62 {b : Bk} {e : Ev} {rate : Int} (h : (allS b e rate).all (·.holds) = true) : doneB b e rate = newB b e := by
 unfold doneB;rw [h]
 rfl
theorem BkAt.count {w : World} {a1 a2 a3 a4 x : Value} {b : Bk} (h : BkAt w (.agg #[a1, a2, a3, a4, x]) b) (m : Int) : BkAt w (.agg #[a1, a2, a3, a4, m]) { b with n := m } := by
 exact zt80
theorem BkAt.forms {w : World} {v : Value} {b : Bk} (h : BkAt w v b) : ∃ A1 c1 A2 c2 A3 c3 A4 c4, v = .agg (BF A1 c1 A2 c2 A3 c3 A4 c4 b b.n) := by
 obtain ⟨_, _, _, _, rfl, ⟨A1, c1, rfl, _⟩, ⟨A2, c2, rfl, _⟩, ⟨A3, c3, rfl, _⟩, ⟨A4, c4, rfl, _⟩⟩ := h;exact ⟨A1, c1, A2, c2, A3, c3, A4, c4, rfl⟩
theorem canB_ref {b : Bk} {e : Ev} {o0 o1 o2 o3 o5 : Int} (h : o0 = e.ord) : canB b e = { b with o := setH o0 [o0, o1, o2, o3, 0, o5] ((0 : Int) == 0) b.o } := by
 subst h;unfold canB;rw [show ((0 : Int) == 0) = true from rfl]
 unfold setH;rw [zz47, zz47]
theorem zzas {P : Program} {fn : Func} {p p2 : Tmp} {ty ty2 : TypeId} {s1 : Tmp} (h : fn.results = #[.cell p ty, .cell p2 ty2, .tmp s1]) (tmps : Array Value) (w : World) (g g2 : Nat) (t t2 : TypeId) (cs cs2 : Array Value) (d d2 : TypeDesc)
  (hp : tmps.getD p undef = .pointer (some ⟨g, 0, none⟩)) (hg : w.heap[g]? = some (.cells cs t (0, 0)))
  (hu : P.underlying ty = some d) (hd : (match d with | .struct _ | .array _ _ => true | _ => false) = true) (hi : (P.info? ty).map (·.size) = some cs.size)
  (hp2 : tmps.getD p2 undef = .pointer (some ⟨g2, 0, none⟩)) (hg2 : w.heap[g2]? = some (.cells cs2 t2 (0, 0)))
  (hu2 : P.underlying ty2 = some d2) (hd2 : (match d2 with | .struct _ | .array _ _ => true | _ => false) = true) (hi2 : (P.info? ty2).map (·.size) = some cs2.size)
  (x : Value) (hx : tmps.getD s1 undef = x) : (results fn tmps).run P w = .ok (.tuple #[.agg cs, .agg cs2, x]) w := by
 subst hx;exact zt64
theorem zt5 {p : Prop} (h : p := by
 generalize hw : World.alloc _ _ = wa;replace K := zVa hw K;clear hw;(with_reducible refine (q5.out _ (zVb K)).mono ?_);rintro r wc ⟨v5, rfl, hO, hK, hb⟩;obtain ⟨U1, u1, U2, u2, U3, u3, U4, u4, hv5⟩ := hO.forms;rw [hnnb.out] at hv5;subst hv5;replace K := zVs K hb hO hK;clear hb hO hK;replace K := zVd (zVd K);have c := zVf K;go_wp2_with fail;clear c;generalize hs : World.setCell _ _ _ = ws;replace K := zVp6 hs K;clear hs;refine zSE [] 6 (zVy K) ?_;intro wd hb;replace K := zVk K hb;clear hb;refine zM [0, 1, 2] 3 (zVy K) ?_;simp only [opsAt, zA];refine zv ?_;refine zv ?_;refine zp ?_;unfold wpPure;go_simp;replace K := zVw K;have c := zVx K;refine zW 3 ?_;go_wp2_with fail;clear c;generalize hs : World.setCell _ _ _ = ws;replace K := zVp5 hs K;clear hs;refine zY ?_ fun _ => zEs (zVe K)
 replace K := zVw K;have c := zVx K;refine zW 4 ?_;go_wp2_with fail;clear c;generalize hs : World.setCell _ _ _ = ws;replace K := zVp2 hs K;clear hs;refine zY ?_ fun _ => zEs (zVe K)
 refine zW 5 ?_;go_wp2_with fail;refine zY ?_ fun _ => zEs (zVe K)
 refine zQe ?_;go_wp2_with fail;refine bodyPost_ret ?_ rfl ⟨_, _, rfl, (show BkAt _ _ _ by unfold gateB; rw [zz62 HC.out, hnb.out]; exact (zVu K).out.count (b.n + 1)), zVK K _, zVt K, zEb (zVe K)⟩
 exact zzas rfl _ _ _ _ _ _ _ _ _ _ rfl (zVg K).2 Tryz.underlying27 rfl zk rfl (zVg K).1 Tryz.underlying33 rfl zk _ rfl) : p := h
theorem zt32 {p : Prop} (h : p := by
 exact zzas rfl _ _ _ _ _ _ _ _ _ _ rfl (zVg K).2 Tryz.underlying27 rfl zk rfl (zVg K).1 Tryz.underlying33 rfl zk _ rfl) : p := h
theorem rStep_kin (vh vs vo vr : Value) (b : Bk) (e : Ev) (rate : Int) (w0 : World) (B0 : Hid (BkAt w0 (.agg #[vh, vs, vo, vr, b.n]) b)) (hs : Hid b.Small) (hi : Hid b.I64s) (hm : Hid (b.mayB = true)) (hE : Hid e.I64s) (hrt : Hid (I64 rate)) (hpr : Hid (∀ sym, 0 ≤ priceOf b sym)) (hN : Hid (0 ≤ b.n ∧ b.n ≤ 1099511627776)) :
  Calls Tryz.prog 13 #[.agg #[vh, vs, vo, vr, b.n], e.val, .int .i64 rate] w0 fun r w' => ∃ v vS, r = .returned (.tuple #[v, .agg #[.int .i64 (gateV b e rate).1, .int .i64 (gateV b e rate).2], vS]) ∧ BkAt w' v (gateB b e rate) ∧ Kin w0.heap.size (.agg #[vh, vs, vo, vr, b.n]) v ∧ StepsAt w' vS (gateL b e rate) ∧ Below w0.heap.size w0 w' := by
 unfold Ev.val;obtain ⟨_, _, _, _, hv, r1, r2, r3, r4⟩ := B0.out;injection hv with hv
 simp only [Array.mk.injEq, List.cons.injEq, and_true] at hv;obtain ⟨rfl, rfl, rfl, rfl, _⟩ := hv;have LH : Hid (∀ r ∈ b.h, r.length = 4) := (by obtain ⟨_, _, _, h, _⟩ := r1; exact h)
 have LO : Hid (∀ r ∈ b.o, r.length = 6) := (by obtain ⟨_, _, _, h, _⟩ := r3; exact h)
 have F1 : b.h.length ≤ 1000000 ∧ b.o.length ≤ 1000000 ∧ b.r.length ≤ 1000000 := by have := hs.out; unfold Bk.Small at this; omega
 have HL1 := zH F1;clear F1;obtain ⟨Ah, ch, rfl, _⟩ := r1;obtain ⟨As, cs, rfl, _⟩ := r2;obtain ⟨Ao, co, rfl, _⟩ := r3;obtain ⟨Ar, cr, rfl, _⟩ := r4;have hwr : IntKind.i64.wrap (b.n + 1) = b.n + 1 := by rw [IntKind.wrap_i64]; have := hN.out; omega
 obtain ⟨C, hC⟩ : ∃ C, ((gateV b e rate).1 == 0) = C := ⟨_, rfl⟩;have hC2 : ((goW (gateL b e rate) 0).1 == 0) = C := hC;have HC := zH ((zzbe b e rate).symm.trans hC);clear hC;have K := zEa4 (c := (BF Ah ch As cs Ao co Ar cr b b.n)) (t := 27) (c2 := #[e.kind, e.acc, e.ord, e.sym, e.side, e.qty, e.px]) (t2 := 29) (c3 := BZ) (t3 := 27) (c4 := #[.int .i64 0, .int .i64 0]) (t4 := 33) rfl (zE0 w0);have q1 := zH (fun wz hv => zzaw (.slice Ah b.h.length ch) (.slice As b.s.length cs) (.slice Ao b.o.length co) (.slice Ar b.r.length cr) b e rate wz hv hs hi hm hE hrt hpr)
 unfold Ev.val at q1;have c := zEc K;go_in;go_wp2_with fail;generalize hw : World.alloc _ _ = wb;rw [hw] at K;clear c hw;(with_reducible refine (q1.out _ (zH (B0.out.call (zEb K)))).mono ?_);rintro r wc ⟨v5, rfl, hS, hb⟩;obtain ⟨AS, cS, rfl⟩ := hS.form;replace K := zV0 (zEk K hb) hS B0;clear hb hS q1;go_wp2_with fail;(with_reducible refine (zzav _ _ _ (zH (zVt K)) (Nat.le_trans (zz5y b e rate) zx)).mono ?_);rintro r wc ⟨rfl, hb⟩;replace K := zVk K hb;clear hb;cases C with
 | false =>
  have c := zVc K;go_wp2_with fail;clear c;generalize hw : World.alloc _ _ = wa;replace K := zVa2 hw K;clear hw;refine zSE [] 6 (zVy K) ?_;intro wd hb;replace K := zVk K hb;clear hb;refine zM [0, 1, 2] 3 (zVy K) ?_;simp only [opsAt, zA];refine zv ?_;refine zv ?_;refine zp ?_;unfold wpPure;go_simp;replace K := zVw K;have c := zVx K;refine zW 3 ?_;go_wp2_with fail;clear c;generalize hs : World.setCell _ _ _ = ws;replace K := zVp5 hs K;clear hs;refine zY ?_ fun _ => zEs (zVe K)
  replace K := zVw K;have c := zVx K;refine zW 4 ?_;go_wp2_with fail;clear c;generalize hs : World.setCell _ _ _ = ws;replace K := zVp2 hs K;clear hs;refine zY ?_ fun _ => zEs (zVe K)
  refine zW 5 ?_;go_wp2_with fail;refine zY ?_ fun _ => zEs (zVe K)
  refine zQe ?_;go_wp2_with fail;refine bodyPost_ret ?_ rfl ⟨_, _, rfl, (show BkAt _ _ _ by unfold gateB; rw [doneB_no HC.out]; exact (zVb K).out.count (b.n + 1)), zVK K _, zVt K, zEb (zVe K)⟩
  exact zt32
 | true =>
  obtain ⟨rh, FH, hl1, hx1⟩ := zz16 LH.out (isId e.acc)
  match rh, hl1, hx1 with
  | [h0, h1, h2, h3], _, hx1 =>
  have hF : FH = hasH b e.acc := zz0q hx1;subst hF;have HX1 := zH hx1;clear hx1;obtain ⟨ro, FO, hl2, hx2⟩ := zz16 LO.out (isId e.ord)
  match ro, hl2, hx2 with
  | [o0, o1, o2, o3, o4, o5], _, hx2 =>
  have hFo : FO = hasO b e.ord := zz0q hx2;subst hFo;have HX2 := zH hx2;clear hx2;have c := zVc K;go_wp2_with fail;clear c;generalize hw : World.alloc _ _ = wa;replace K := zVa2 hw K;clear hw;(with_reducible refine (zz1u _ b e.acc h0 h1 h2 h3 _ _ (zVb K) HL1.out.1 HX1).mono ?_);rintro r wc ⟨rfl, hb⟩;replace K := zVk K hb;clear hb;have c := zVc K;go_wp2_with fail;clear c;generalize hw : World.alloc _ _ = wa;replace K := zVa hw K;clear hw;(with_reducible refine (zz8l _ b e.ord o0 o1 o2 o3 o4 o5 _ _ (zVb K) HL1.out.2.1 HX2).mono ?_);rintro r wc ⟨rfl, hb⟩;replace K := zVk K hb;clear hb;have hk : 1 ≤ e.kind ∧ e.kind ≤ 7 := (zz8v e).1 (by have h := HC.out; unfold allS at h; rw [List.all_append, Bool.and_eq_true] at h; exact h.1)
  have hk7 : e.kind = 1 ∨ e.kind = 2 ∨ e.kind = 3 ∨ e.kind = 4 ∨ e.kind = 5 ∨ e.kind = 6 ∨ e.kind = 7 := by omega
  clear hk;rcases hk7 with hk | hk | hk | hk | hk | hk | hk
  ·skip
   have tk1 : (e.kind == 1) = true := by rw [hk]; rfl
   have hkS : (kindS b e rate).all (·.holds) = true := by have h := HC.out; unfold allS at h; rw [List.all_append, Bool.and_eq_true] at h; exact h.2
   obtain ⟨nb, hnb⟩ : ∃ nb : Bk, newB b e = nb := ⟨_, rfl⟩;have hnnb : Hid (nb.n = b.n) := (by rw [← hnb]; exact zza0 b e : nb.n = b.n)
   replace hnb := zH hnb;have q5 : Hid (∀ wz : World, Hid (BkAt wz (.agg (BF Ah ch As cs Ao co Ar cr b b.n)) b) → Calls Tryz.prog 43 #[.agg (BF Ah ch As cs Ao co Ar cr b b.n), .agg #[e.acc, e.qty, .int .i64 9223372036854775807, .int .i64 9223372036854775807]] wz fun r w' => ∃ v', r = .returned v' ∧ BkAt w' v' nb ∧ Kin wz.heap.size (.agg (BF Ah ch As cs Ao co Ar cr b b.n)) v' ∧ Below wz.heap.size wz w') := (show _ from fun wz hv => by rw [← hnb.out, show newB b e = accB b e from by unfold newB; simp [hk]]; exact zz1z _ b e.acc e.qty 9223372036854775807 9223372036854775807 wz hv HL1.out.1)
   have c := zVc K;go_wp2_with fail;clear c;exact zt5
  ·skip
   have tk1 : (e.kind == 1) = false := by rw [hk]; rfl
   have tk2 : (e.kind == 2) = true := by rw [hk]; rfl
   have hkS : (kindS b e rate).all (·.holds) = true := by have h := HC.out; unfold allS at h; rw [List.all_append, Bool.and_eq_true] at h; exact h.2
   have hrec : recH b e.acc = [h0, h1, h2, h3] := by unfold recH; rw [HX1.out]
   obtain ⟨nb, hnb⟩ : ∃ nb : Bk, newB b e = nb := ⟨_, rfl⟩;have hnnb : Hid (nb.n = b.n) := (by rw [← hnb]; exact zza0 b e : nb.n = b.n)
   replace hnb := zH hnb;have q5 : Hid (∀ wz : World, Hid (BkAt wz (.agg (BF Ah ch As cs Ao co Ar cr b b.n)) b) → Calls Tryz.prog 43 #[.agg (BF Ah ch As cs Ao co Ar cr b b.n), .agg #[h0, h1, e.qty, e.px]] wz fun r w' => ∃ v', r = .returned v' ∧ BkAt w' v' nb ∧ Kin wz.heap.size (.agg (BF Ah ch As cs Ao co Ar cr b b.n)) v' ∧ Below wz.heap.size wz w') := (show _ from fun wz hv => by rw [← hnb.out, show newB b e = limB b e from by unfold newB; simp [hk], show limB b e = { b with h := setH h0 [h0, h1, e.qty, e.px] false b.h } from by unfold limB; rw [hrec]; rfl]; exact zz1z _ b h0 h1 e.qty e.px wz hv HL1.out.1)
   clear hrec;have c := zVx K;go_wp2_with fail;clear c;generalize hs : World.setCell _ _ _ = ws;replace K := zVh hs K;clear hs;exact zt5
  ·skip
   have tk1 : (e.kind == 1) = false := by rw [hk]; rfl
   have tk2 : (e.kind == 2) = false := by rw [hk]; rfl
   have tk3 : (e.kind == 3) = true := by rw [hk]; rfl
   have hkS : (kindS b e rate).all (·.holds) = true := by have h := HC.out; unfold allS at h; rw [List.all_append, Bool.and_eq_true] at h; exact h.2
   obtain ⟨nb, hnb⟩ : ∃ nb : Bk, newB b e = nb := ⟨_, rfl⟩;have hnnb : Hid (nb.n = b.n) := (by rw [← hnb]; exact zza0 b e : nb.n = b.n)
   replace hnb := zH hnb;have q5 : Hid (∀ wz : World, Hid (BkAt wz (.agg (BF Ah ch As cs Ao co Ar cr b b.n)) b) → Calls Tryz.prog 44 #[.agg (BF Ah ch As cs Ao co Ar cr b b.n), .agg #[e.sym, e.px]] wz fun r w' => ∃ v', r = .returned v' ∧ BkAt w' v' nb ∧ Kin wz.heap.size (.agg (BF Ah ch As cs Ao co Ar cr b b.n)) v' ∧ Below wz.heap.size wz w') := (show _ from fun wz hv => by rw [← hnb.out, show newB b e = quoB b e from by unfold newB; simp [hk]]; exact zz7u _ b e.sym e.px wz hv HL1.out.2.2)
   have c := zVc K;go_wp2_with fail;clear c;exact zt5
  ·skip
   have tk1 : (e.kind == 1) = false := by rw [hk]; rfl
   have tk2 : (e.kind == 2) = false := by rw [hk]; rfl
   have tk3 : (e.kind == 3) = false := by rw [hk]; rfl
   have tk4 : (e.kind == 4) = true := by rw [hk]; rfl
   have hkS : (kindS b e rate).all (·.holds) = true := by have h := HC.out; unfold allS at h; rw [List.all_append, Bool.and_eq_true] at h; exact h.2
   obtain ⟨nb, hnb⟩ : ∃ nb : Bk, newB b e = nb := ⟨_, rfl⟩;have hnnb : Hid (nb.n = b.n) := (by rw [← hnb]; exact zza0 b e : nb.n = b.n)
   replace hnb := zH hnb;have q5 : Hid (∀ wz : World, Hid (BkAt wz (.agg (BF Ah ch As cs Ao co Ar cr b b.n)) b) → Calls Tryz.prog 45 #[.agg (BF Ah ch As cs Ao co Ar cr b b.n), .agg #[e.ord, e.acc, e.sym, e.side, e.qty, e.px]] wz fun r w' => ∃ v', r = .returned v' ∧ BkAt w' v' nb ∧ Kin wz.heap.size (.agg (BF Ah ch As cs Ao co Ar cr b b.n)) v' ∧ Below wz.heap.size wz w') := (show _ from fun wz hv => by rw [← hnb.out, show newB b e = ordB b e from by unfold newB; simp [hk]]; exact zz2w _ b e.ord e.acc e.sym e.side e.qty e.px wz hv HL1.out.2.1)
   have c := zVc K;go_wp2_with fail;clear c;exact zt5
  ·skip
   have tk1 : (e.kind == 1) = false := by rw [hk]; rfl
   have tk2 : (e.kind == 2) = false := by rw [hk]; rfl
   have tk3 : (e.kind == 3) = false := by rw [hk]; rfl
   have tk4 : (e.kind == 4) = false := by rw [hk]; rfl
   have tk5 : (e.kind == 5) = true := by rw [hk]; rfl
   have hkS : (kindS b e rate).all (·.holds) = true := by have h := HC.out; unfold allS at h; rw [List.all_append, Bool.and_eq_true] at h; exact h.2
   have hcs : (fillS b e).all (·.holds) = true := by have h := hkS; unfold kindS at h; simpa [hk] using h
   obtain ⟨hfo, hfq, _, hfl⟩ := zz41 b e hcs;clear hcs;have hro : recO b e.ord = [o0, o1, o2, o3, o4, o5] := by unfold recO; rw [HX2.out]
   have hfl2 : e.qty ≤ o4 := by rw [hro] at hfl; exact hfl
   have hO4 : I64 o4 := by
    have h := (zz7t hfo).1;rw [hro] at h;exact hi.out.2.2.1 _ h _ (by simp)
   have hsub : IntKind.i64.wrap (o4 - e.qty) = o4 - e.qty := by rw [IntKind.wrap_i64]; unfold I64 at hO4; have := hE.out.qty; unfold I64 at this; omega
   clear hfl hfo hfq hO4;obtain ⟨rg, FG, hl3, hx3⟩ := zz16 LH.out (isId o1)
   match rg, hl3, hx3 with
   | [g0, g1, g2, g3], _, hx3 =>
   have HX3 := zH hx3;clear hx3;have hrg : recH b o1 = [g0, g1, g2, g3] := by unfold recH; rw [HX3.out]
   obtain ⟨AF, hAF⟩ : ∃ AF, afterR b o1 o2 o3 e.qty e.px = AF := ⟨_, rfl⟩;obtain ⟨⟨c, cf⟩, ⟨s, sf⟩⟩ := AF;have qA := zH (fun wz hv => zz70 (.agg (BF Ah ch As cs Ao co Ar cr b b.n)) b o0 o1 o2 o3 o4 o5 e.qty e.px wz hv hs hi hE.out.qty hE.out.px)
   rw [hAF] at qA;obtain ⟨nb1, hnb1⟩ : ∃ nb1 : Bk, ({ b with h := setH g0 [g0, c, g2, g3] false b.h } : Bk) = nb1 := ⟨_, rfl⟩
   obtain ⟨nb2, hnb2⟩ : ∃ nb2 : Bk, ({ nb1 with s := setS o1 o2 [o1, o2, s] (s == 0) nb1.s } : Bk) = nb2 := ⟨_, rfl⟩
   obtain ⟨nb, hnb3⟩ : ∃ nb : Bk, ({ nb2 with o := setH o0 [o0, o1, o2, o3, o4 - e.qty, o5] (o4 - e.qty == 0) nb2.o } : Bk) = nb := ⟨_, rfl⟩
   have hnb : Hid (newB b e = nb) := (by
    show newB b e = nb;rw [← hnb3, ← hnb2, ← hnb1, show newB b e = fillB b e from by unfold newB; simp [hk]]
    unfold fillB afterE;rw [hro];show fillX b [o0, o1, o2, o3, o4, o5] (recH b o1) (afterR b o1 o2 o3 e.qty e.px).1.1 (afterR b o1 o2 o3 e.qty e.px).2.1 e.qty = _;rw [hrg, hAF]
    rfl)
   have hnnb1 : Hid (nb1.n = b.n) := (show nb1.n = b.n by rw [← hnb1])
   have hnnb2 : Hid (nb2.n = b.n) := (show nb2.n = b.n by rw [← hnb2, ← hnb1])
   have hnnb : Hid (nb.n = b.n) := (show nb.n = b.n by rw [← hnb3, ← hnb2, ← hnb1])
   have hl1s : Hid (nb1.s.length ≤ 1000000) := (show nb1.s.length ≤ 1000000 by rw [← hnb1]; have := hs.out; unfold Bk.Small at this; show b.s.length ≤ 1000000; omega)
   have hl2o : Hid (nb2.o.length ≤ 1000000) := (show nb2.o.length ≤ 1000000 by rw [← hnb2, ← hnb1]; exact HL1.out.2.1)
   have qH : Hid (∀ wz : World, Hid (BkAt wz (.agg (BF Ah ch As cs Ao co Ar cr b b.n)) b) → Calls Tryz.prog 43 #[.agg (BF Ah ch As cs Ao co Ar cr b b.n), .agg #[g0, c, g2, g3]] wz fun r w' => ∃ v', r = .returned v' ∧ BkAt w' v' nb1 ∧ Kin wz.heap.size (.agg (BF Ah ch As cs Ao co Ar cr b b.n)) v' ∧ Below wz.heap.size wz w') := (show _ from fun wz hv => by rw [← hnb1]; exact zz1z _ b g0 c g2 g3 wz hv HL1.out.1)
   have qS : Hid (∀ (u : Value) (wz : World), Hid (BkAt wz u nb1) → Calls Tryz.prog 47 #[u, .agg #[o1, o2, s]] wz fun r w' => ∃ v', r = .returned v' ∧ BkAt w' v' nb2 ∧ Kin wz.heap.size u v' ∧ Below wz.heap.size wz w') := (show _ from fun u wz hv => by rw [← hnb2]; exact zz6y u nb1 o1 o2 s wz hv hl1s.out)
   have qO : Hid (∀ (u : Value) (wz : World), Hid (BkAt wz u nb2) → Calls Tryz.prog 45 #[u, .agg #[o0, o1, o2, o3, .int .i64 (o4 - e.qty), o5]] wz fun r w' => ∃ v', r = .returned v' ∧ BkAt w' v' nb ∧ Kin wz.heap.size u v' ∧ Below wz.heap.size wz w') := (show _ from fun u wz hv => by rw [← hnb3]; exact zz2w u nb2 o0 o1 o2 o3 (o4 - e.qty) o5 wz hv hl2o.out)
   clear hnb1 hnb2 hnb3 hro hrg hAF hfl2 hkS;have c := zVc K;go_wp2_with fail;clear c;generalize hw : World.alloc _ _ = wa;replace K := zVa hw K;clear hw;(with_reducible refine (qA.out _ (zVb K)).mono ?_);rintro r wc ⟨rfl, hb⟩;replace K := zVk K hb;clear hb;replace K := zVd (zVq K);have c := zVc K;go_wp2_with fail;clear c;(with_reducible refine (zz1u _ b o1 g0 g1 g2 g3 FG _ (zVb K) HL1.out.1 HX3).mono ?_);rintro r wc ⟨rfl, hb⟩;replace K := zVk K hb;clear hb;have c := zVc K;go_wp2_with fail;clear c;generalize hw : World.alloc _ _ = wa;replace K := zVa hw K;clear hw;(with_reducible refine (qH.out _ (zVb K)).mono ?_);rintro r wc ⟨v5, rfl, hO, hK, hb⟩;obtain ⟨U1, u1, U2, u2, U3, u3, U4, u4, hv5⟩ := hO.forms;rw [hnnb1.out] at hv5;subst hv5;replace K := zVs K hb hO hK;clear hb hO hK;replace K := zVq (zVd K);have c := zVz K;go_wp2_with fail;clear c;generalize hs : World.setCell _ _ _ = ws;replace K := zVp5 hs K;clear hs;(with_reducible refine (qS.out _ _ (zVu K)).mono ?_);rintro r wc ⟨v5, rfl, hO, hK, hb⟩;obtain ⟨U1, u1, U2, u2, U3, u3, U4, u4, hv5⟩ := hO.forms;rw [hnnb2.out] at hv5;subst hv5;replace K := zVs K hb hO hK;clear hb hO hK;have c := zVz K;go_wp2_with fail;clear c;generalize hs : World.setCell _ _ _ = ws;replace K := zVp51 hs K;clear hs;(with_reducible refine (qO.out _ _ (zVu K)).mono ?_);rintro r wc ⟨v5, rfl, hO, hK, hb⟩;obtain ⟨U1, u1, U2, u2, U3, u3, U4, u4, hv5⟩ := hO.forms;rw [hnnb.out] at hv5;subst hv5;replace K := zVs K hb hO hK;clear hb hO hK;replace K := zVd (zVq K);have c := zVf K;go_wp2_with fail;clear c;generalize hs : World.setCell _ _ _ = ws;replace K := zVp6 hs K;clear hs;refine zSE [] 6 (zVy K) ?_;intro wd hb;replace K := zVk K hb;clear hb;refine zM [0, 1, 2] 3 (zVy K) ?_;simp only [opsAt, zA];refine zv ?_;refine zv ?_;refine zp ?_;unfold wpPure;go_simp;replace K := zVw K;have c := zVx K;refine zW 3 ?_;go_wp2_with fail;clear c;generalize hs : World.setCell _ _ _ = ws;replace K := zVp5 hs K;clear hs;refine zY ?_ fun _ => zEs (zVe K)
   replace K := zVw K;have c := zVx K;refine zW 4 ?_;go_wp2_with fail;clear c;generalize hs : World.setCell _ _ _ = ws;replace K := zVp2 hs K;clear hs;refine zY ?_ fun _ => zEs (zVe K)
   refine zW 5 ?_;go_wp2_with fail;refine zY ?_ fun _ => zEs (zVe K)
   refine zQe ?_;go_wp2_with fail;refine bodyPost_ret ?_ rfl ⟨_, _, rfl, (show BkAt _ _ _ by unfold gateB; rw [zz62 HC.out, hnb.out]; exact (zVu K).out.count (b.n + 1)), zVK K _, zVt K, zEb (zVe K)⟩
   exact zt32
  ·skip
   have tk1 : (e.kind == 1) = false := by rw [hk]; rfl
   have tk2 : (e.kind == 2) = false := by rw [hk]; rfl
   have tk3 : (e.kind == 3) = false := by rw [hk]; rfl
   have tk4 : (e.kind == 4) = false := by rw [hk]; rfl
   have tk5 : (e.kind == 5) = false := by rw [hk]; rfl
   have tk6 : (e.kind == 6) = true := by rw [hk]; rfl
   have hkS : (kindS b e rate).all (·.holds) = true := by have h := HC.out; unfold allS at h; rw [List.all_append, Bool.and_eq_true] at h; exact h.2
   have hcs : (canS b e).all (·.holds) = true := by have h := hkS; unfold kindS at h; simpa [hk] using h
   have ho0 : o0 = e.ord := by have h := (zz7t ((zzbu b e).1 hcs)).2; unfold recO at h; rw [HX2.out] at h; exact h
   obtain ⟨nb, hnb⟩ : ∃ nb : Bk, newB b e = nb := ⟨_, rfl⟩;have hnnb : Hid (nb.n = b.n) := (by rw [← hnb]; exact zza0 b e : nb.n = b.n)
   replace hnb := zH hnb;have q5 : Hid (∀ wz : World, Hid (BkAt wz (.agg (BF Ah ch As cs Ao co Ar cr b b.n)) b) → Calls Tryz.prog 45 #[.agg (BF Ah ch As cs Ao co Ar cr b b.n), .agg #[o0, o1, o2, o3, .int .i64 0, o5]] wz fun r w' => ∃ v', r = .returned v' ∧ BkAt w' v' nb ∧ Kin wz.heap.size (.agg (BF Ah ch As cs Ao co Ar cr b b.n)) v' ∧ Below wz.heap.size wz w') := (show _ from fun wz hv => by rw [← hnb.out, show newB b e = canB b e from by unfold newB; simp [hk], canB_ref (o1 := o1) (o2 := o2) (o3 := o3) (o5 := o5) ho0]; exact zz2w _ b o0 o1 o2 o3 0 o5 wz hv HL1.out.2.1)
   clear hcs ho0;have c := zVc K;go_wp2_with fail;clear c;exact zt5
  ·skip
   have tk1 : (e.kind == 1) = false := by rw [hk]; rfl
   have tk2 : (e.kind == 2) = false := by rw [hk]; rfl
   have tk3 : (e.kind == 3) = false := by rw [hk]; rfl
   have tk4 : (e.kind == 4) = false := by rw [hk]; rfl
   have tk5 : (e.kind == 5) = false := by rw [hk]; rfl
   have tk6 : (e.kind == 6) = false := by rw [hk]; rfl
   replace K := zVd K;have c := zVx K;go_wp2_with fail;clear c;generalize hs : World.setCell _ _ _ = ws;replace K := zVn hs K;clear hs;generalize hw : World.alloc _ _ = wa;replace K := zVa hw K;clear hw;replace K := zVd K;refine zSE [] 6 (zVy K) ?_;intro wd hb;replace K := zVk K hb;clear hb;refine zM [0, 1, 2] 3 (zVy K) ?_;simp only [opsAt, zA];refine zv ?_;refine zv ?_;refine zp ?_;unfold wpPure;go_simp;replace K := zVw K;have c := zVx K;refine zW 3 ?_;go_wp2_with fail;clear c;generalize hs : World.setCell _ _ _ = ws;replace K := zVp5 hs K;clear hs;refine zY ?_ fun _ => zEs (zVe K)
   replace K := zVw K;have c := zVx K;refine zW 4 ?_;go_wp2_with fail;clear c;generalize hs : World.setCell _ _ _ = ws;replace K := zVp2 hs K;clear hs;refine zY ?_ fun _ => zEs (zVe K)
   refine zW 5 ?_;go_wp2_with fail;refine zY ?_ fun _ => zEs (zVe K)
   refine zQe ?_;go_wp2_with fail;refine bodyPost_ret ?_ rfl ⟨_, _, rfl, (show BkAt _ _ _ by unfold gateB; rw [zz62 HC.out, show newB b e = b from by unfold newB; simp [hk]]; exact (zVb K).out.count (b.n + 1)), zVK K _, zVt K, zEb (zVe K)⟩
   exact zt32
end
section
open Go Go.RowKit Mon
def bZ : Bk := ⟨[], [], [], [], 0⟩
theorem RowAt.zero (w : World) (k : Nat) : RowAt w (.slice none 0 0) k [] := ⟨none, 0, rfl, by simp, .inl rfl⟩
theorem BkAt.zero (w : World) : BkAt w (.agg BZ) bZ := ⟨_, _, _, _, rfl, RowAt.zero w 4, RowAt.zero w 3, RowAt.zero w 6, RowAt.zero w 2⟩
theorem zz21 {w w' : World} (h : Below w.heap.size w w') (row : Option Nat) : w.grownBy w' row := ⟨h.os, h.tape, h.output, h.size, fun k hk _ => h.block k hk⟩
theorem zz4n {g : Nat} : ∀ (us : List Value) (o : Nat) (w : World), w.grownBy (putC w g o us) (some g)
 | [], _, w => ⟨rfl, rfl, rfl, Nat.le_refl _, fun _ _ _ => rfl⟩
 | u :: us, o, w => by
  have h1 := zz4n (g := g) us (o + 1) (w.setCell ⟨g, o, none⟩ u);have h0 : w.grownBy (w.setCell ⟨g, o, none⟩ u) (some g) := ⟨rfl, rfl, rfl, (KeepsWalks.setCell w _ u).size, fun k _ hk => Below.heap_setCell _ _ _ k (fun e => hk (by rw [e]))⟩
  exact ⟨h1.os.trans h0.os, h1.tape.trans h0.tape, h1.output.trans h0.output, Nat.le_trans h0.size h1.size, fun k hk hne => (h1.block k (Nat.lt_of_lt_of_le hk h0.size) hne).trans (h0.block k hk hne)⟩
def KpF (n0 Bs : Nat) (M : Nat) (A B : World) : Prop := Below n0 A B ∧ ∀ k cs t fr, A.heap[k]? = some (.cells cs t fr) → (M ≤ k ∨ (Bs ≤ k ∧ k ≤ Bs + 2)) → B.heap[k]? = some (.cells cs t fr)
theorem KpF.trans {n0 Bs M : Nat} {A B C : World} (h : KpF n0 Bs M A B) (k : KpF n0 Bs M B C) : KpF n0 Bs M A C := ⟨h.1.trans k.1, fun i cs t fr hi hk => k.2 i cs t fr (h.2 i cs t fr hi hk) hk⟩
theorem KpF.put {n0 Bs M : Nat} {W : World} {l : Nat} {o : Obj} (o' : Obj) (hn : n0 ≤ l) (hl : W.heap[l]? = some o) (ho : o.isCells = false) : KpF n0 Bs M W (W.putObj l o') := by
 refine ⟨(Below.refl n0 W).grown (grownBy_putObj' W l o') (by have := (zL hl); omega) (fun k e => by cases e; omega), fun k cs t fr hk _ => ?_⟩
 rw [World.putObj_heap_other (fun e => ?_)]
 ·exact hk
 ·subst e
  rw [hl] at hk;cases hk;cases ho
theorem KpF.of {n0 Bs M : Nat} {W W' : World} (h : Below W.heap.size W W') (hn : n0 ≤ W.heap.size) : KpF n0 Bs M W W' :=
 ⟨h.mono hn, fun k cs t fr hk _ => (h.block k (zL hk)).trans hk⟩
theorem RowOwn.still {A B : World} {b0 : Nat} {e : TypeId} {v : Value} {k : Nat} {l : List (List Int)} (h : RowOwn A b0 e v k l) (hs : A.heap.size ≤ B.heap.size) (hk : ∀ q cs t fr, A.heap[q]? = some (.cells cs t fr) → v.ownBlock = some q → B.heap[q]? = some (.cells cs t fr)) : RowOwn B b0 e v k l := by
 obtain ⟨⟨hl, ho⟩, h2⟩ := h;refine ⟨⟨hl, ?_⟩, h2⟩;rcases ho with h | ⟨g, cap, cur, rfl, h1, h3, h4⟩
 ·exact .inl h
 ·exact .inr ⟨g, cap, cur, rfl, h1, hk _ _ _ _ h3 rfl, h4⟩
theorem RowOwn.block {A : World} {b0 : Nat} {e : TypeId} {v : Value} {k : Nat} {l : List (List Int)} (h : RowOwn A b0 e v k l) {q : Nat} (hq : v.ownBlock = some q) : b0 ≤ q ∧ q < A.heap.size := by
 rcases h.1.2 with ⟨rfl, _⟩ | ⟨g, cap, cur, rfl, h1, h3, _⟩
 ·cases hq
 ·obtain rfl : g = q := by simpa [Value.ownBlock] using hq
  exact ⟨h1, (zL h3)⟩
theorem BkOwn.still {A B : World} {b0 : Nat} {v : Value} {b : Bk} (h : BkOwn A b0 v b) (hs : A.heap.size ≤ B.heap.size) (hk : ∀ q cs t fr, A.heap[q]? = some (.cells cs t fr) → b0 ≤ q → B.heap[q]? = some (.cells cs t fr)) : BkOwn B b0 v b := by
 obtain ⟨vh, vs, vo, vr, rfl, h1, h2, h3, h4⟩ := h;exact ⟨vh, vs, vo, vr, rfl, h1.still hs fun q cs t fr hq hv => hk q cs t fr hq (h1.block hv).1, h2.still hs fun q cs t fr hq hv => hk q cs t fr hq (h2.block hv).1, h3.still hs fun q cs t fr hq hv => hk q cs t fr hq (h3.block hv).1, h4.still hs fun q cs t fr hq hv => hk q cs t fr hq (h4.block hv).1⟩
def EvsAt (w : World) (v : Value) (L : List Ev) : Prop := RowAt w v 7 (L.map Ev.cells)
theorem EvsAt.call {w w' : World} {v : Value} {L : List Ev} (h : EvsAt w v L) (hb : Below w.heap.size w w') : EvsAt w' v L := RowAt.call h hb
theorem EvsAt.form {w : World} {v : Value} {L : List Ev} (h : EvsAt w v L) : ∃ A c, v = .slice A L.length c := by
 obtain ⟨A, c, rfl, _⟩ := h;exact ⟨A, c, by rw [List.length_map]⟩
theorem EvsAt.get {w : World} {A : Option Addr} {n c : Nat} {L : List Ev} (h : EvsAt w (.slice A n c) L) {i : Nat} {e : Ev} (hi : L[i]? = some e) : ∃ b o, A = some ⟨b, o, none⟩ ∧ b < w.heap.size ∧
  w.cell? ⟨b, o + i * 7, none⟩ = some (.int .i64 e.kind) ∧ w.cell? ⟨b, o + i * 7 + 1, none⟩ = some (.int .i64 e.acc) ∧ w.cell? ⟨b, o + i * 7 + 2, none⟩ = some (.int .i64 e.ord) ∧ w.cell? ⟨b, o + i * 7 + 3, none⟩ = some (.int .i64 e.sym) ∧ w.cell? ⟨b, o + i * 7 + 4, none⟩ = some (.int .i64 e.side) ∧ w.cell? ⟨b, o + i * 7 + 5, none⟩ = some (.int .i64 e.qty) ∧ w.cell? ⟨b, o + i * 7 + 6, none⟩ = some (.int .i64 e.px) := by
 obtain ⟨A', c', hA, hi'⟩ := RowAt.rec' h;injection hA with hA1 _ _
 subst hA1;obtain ⟨_, b, o, hA2, hb, hc⟩ := hi' i e.cells (by rw [List.getElem?_map, hi]; rfl)
 exact ⟨b, o, hA2, hb, hc 0 _ rfl, hc 1 _ rfl, hc 2 _ rfl, hc 3 _ rfl, hc 4 _ rfl, hc 5 _ rfl, hc 6 _ rfl⟩
def EnF (b : Bk) (rate : Int) (pre : List Ev) (e : Ev) (args : Array Value) (M : Nat) (W : World) : Prop :=
 ∃ A1 c1 A2 c2 A3 c3 A4 c4, args = #[.int .i64 (pre.length : Nat), .agg #[.int .i64 (gateV (foldB b rate pre) e rate).1, .int .i64 (gateV (foldB b rate pre) e rate).2, .slice A1 (foldB b rate (pre ++ [e])).h.length c1, .slice A2 (foldB b rate (pre ++ [e])).s.length c2, .slice A3 (foldB b rate (pre ++ [e])).o.length c3, .slice A4 (foldB b rate (pre ++ [e])).r.length c4, .int .i64 (foldB b rate (pre ++ [e])).n]] ∧
  BkOwn W M (.agg #[.slice A1 (foldB b rate (pre ++ [e])).h.length c1, .slice A2 (foldB b rate (pre ++ [e])).s.length c2, .slice A3 (foldB b rate (pre ++ [e])).o.length c3, .slice A4 (foldB b rate (pre ++ [e])).r.length c4, .int .i64 (foldB b rate (pre ++ [e])).n]) (foldB b rate (pre ++ [e]))
theorem zz7a (b : Bk) (rate : Int) (pre : List Ev) (e : Ev) : foldB b rate (pre ++ [e]) = gateB (foldB b rate pre) e rate := zz8z rate pre [e] b
end
section
open Go Go.RowKit Go.Shelf Mon
attribute [local go_sem] Oper.semAt_some
theorem zz6r (Ah As Ao Ar AL : Option Addr) (ch cs co cr n cL : Nat) (b : Bk) (rate : Int) (w : World) :
  Calls Tryz.prog 49 #[.agg (BF Ah ch As cs Ao co Ar cr b b.n), .slice AL n cL, .int .i64 rate] w fun r w' => r = .returned (.func (.func 114) #[] #[.pointer (some ⟨w.heap.size + 1, 0, none⟩), .pointer (some ⟨w.heap.size, 0, none⟩), .pointer (some ⟨w.heap.size + 2, 0, none⟩)]) ∧
   w' = ((w.alloc (.cells (BF Ah ch As cs Ao co Ar cr b b.n) 27)).alloc (.cells #[.slice AL n cL] 44)).alloc (.cells #[rate] 3) := by
 go_in;go_wp2_with fail;go_ret;exact ⟨rfl, rfl⟩
structure StX (X : World → Prop) (Bs : Nat) (v : Value) (L : List Ev) : Prop where
 law : ∀ W, X W → Law16 W
 evs : ∀ W, X W → EvsAt W v L
 call : ∀ A B, X A → Below A.heap.size A B → X B
 put : ∀ A cs us, X A → A.heap[Bs]? = some (.cells cs 27 (0, 0)) → X (putC A Bs 0 us)
def KpX (X : World → Prop) (Bs M : Nat) (A B : World) : Prop := A.heap.size ≤ B.heap.size ∧ (X A → X B) ∧ ∀ k cs t fr, A.heap[k]? = some (.cells cs t fr) → (M ≤ k ∨ (Bs ≤ k ∧ k ≤ Bs + 2)) → B.heap[k]? = some (.cells cs t fr)
theorem states1_x (b : Bk) (L : List Ev) (rate : Int) (X : World → Prop) (Kp : Nat → World → World → Prop) (w : World) (Bs : Nat) (Ah As Ao Ar AL : Option Addr) (ch cs co cr cL : Nat) (hSt : Hid (StX X Bs (.slice AL L.length cL) L)) (hx0 : Hid (X w)) (hKp : Hid (∀ M A B, Kp M A B → KpX X Bs M A B)) (B0 : Hid (BkAt w (.agg (BF Ah ch As cs Ao co Ar cr b b.n)) b)) (hgd : Hid b.Good) (hE : Hid (∀ e ∈ L, e.I64s)) (hr0 : Hid (0 ≤ rate ∧ rate ≤ 1000))
  (hcount : Hid (b.n + L.length ≤ 1099511627776)) (hst : Hid (b.s.length + L.length ≤ 900000)) (hln : L.length ≤ 1000000)
  (k0 : ZB w Bs (BF Ah ch As cs Ao co Ar cr b b.n) 27) (k1 : ZB w (Bs + 1) #[.slice AL L.length cL] 44) (k2 : ZB w (Bs + 2) #[rate] 3) :
  IterS Fence.wide 2 Tryz.prog 114 #[.pointer (some ⟨Bs + 1, 0, none⟩), .pointer (some ⟨Bs, 0, none⟩), .pointer (some ⟨Bs + 2, 0, none⟩)] Bs w (EnF b rate) Kp L := by
 intro l J Jx W hW hJ hJx hY h0;have K0 := zK k0 hW;have K1 := zK k1 hW;have K2 := zK k2 hW;have HB := zH (hSt.out.call _ _ hx0.out hW);have H0 := zH h0;have hJh := zH hJ;have hJxh := zH hJx;have hYh := zH hY;have hg1 : Hid (∀ i : Nat, i < L.length → ∃ e, L[i]? = some e) := fun i hi => ⟨_, List.getElem?_eq_getElem hi⟩
 have hlast : Hid (L.take L.length = L) := List.take_length;have BK : Hid (BkAt W (.agg (BF Ah ch As cs Ao co Ar cr b b.n)) (foldB b rate (L.take 0))) := B0.out.call hW;clear k0 k1 k2 hW hx0 h0 hJ hJx hY B0;refine callsIn_of_wp Tryz.func114 rfl trivial ?_ rfl;simp only [Tryz.ntmps114, List.size_toArray, List.length_cons, List.length_nil, Nat.reduceAdd, Nat.reduceSub, Array.replicate_succ, Array.replicate_zero, List.push_toArray, List.append_toArray, List.nil_append, List.cons_append];have c1 := zz00 K1.out 0 _ rfl
 gi_wp2
 clear c1
 gi_loopw [13] (fun s13 wr => ∃ (i : Nat) (V1 V2 V3 V4 : Option Addr) (Vc1 Vc2 Vc3 Vc4 : Nat), s13 = .int .i64 i ∧ Hid (i ≤ L.length) ∧ Hid (J (L.take i) wr) ∧ Hid (X wr) ∧
   ZB wr Bs #[.slice V1 (foldB b rate (L.take i)).h.length Vc1, .slice V2 (foldB b rate (L.take i)).s.length Vc2, .slice V3 (foldB b rate (L.take i)).o.length Vc3, .slice V4 (foldB b rate (L.take i)).r.length Vc4, .int .i64 (foldB b rate (L.take i)).n] 27 ∧ ZB wr (Bs + 1) #[.slice AL L.length cL] 44 ∧ ZB wr (Bs + 2) #[rate] 3 ∧ Hid (BkAt wr (.agg #[.slice V1 (foldB b rate (L.take i)).h.length Vc1, .slice V2 (foldB b rate (L.take i)).s.length Vc2, .slice V3 (foldB b rate (L.take i)).o.length Vc3, .slice V4 (foldB b rate (L.take i)).r.length Vc4, .int .i64 (foldB b rate (L.take i)).n]) (foldB b rate (L.take i))))
  (fun s13 _ => L.length - (intOf s13).toNat)
 case atStart => exact ⟨0, Ah, As, Ao, Ar, ch, cs, co, cr, rfl, Nat.zero_le _, H0.out, HB.out, K0.out, K1.out, K2.out, BK.out⟩
 case round =>
  clear K0 K1 K2 HB H0 BK;obtain ⟨i, V1, V2, V3, V4, Vc1, Vc2, Vc3, Vc4, rfl, hi, HJ, HB, K0, K1, K2, BK⟩ := hrel;have hi2 := hi.out;by_cases hlt : i < L.length
  ·obtain ⟨e, he⟩ := hg1.out i hlt
   have htk := zz5k he;have hkn : i + 1 ≤ L.length := hlt;have htl : (L.take i).length = i := by rw [List.length_take]; omega
   have hbg := zz38 rate (L.take i) b hgd.out (by rw [htl]; have := hcount.out; omega) (fun x hx => hE.out x (List.mem_of_mem_take hx))
   have hbn := zzbj rate (L.take i) b;have hbs := zz22 rate (L.take i) b;rw [htl] at hbn hbs;have hsn := zz7a b rate (L.take i) e;obtain ⟨bi, hbi⟩ : ∃ bi, foldB b rate (L.take i) = bi := ⟨_, rfl⟩;rw [hbi] at K0 BK hbg hbn hbs hsn;have hEe : Hid e.I64s := hE.out e (List.mem_of_getElem? he);have hsS : Hid (bi.s.length ≤ 900000) := (show bi.s.length ≤ 900000 by have := hst.out; omega)
   have hsm : Hid bi.Small := hbg.small hsS.out;have hin : Hid bi.I64s := hbg.ints;have hmb : Hid (bi.mayB = true) := hbg.may;have q1 := zH (fun wz hz hv => gStep_ok (.slice V1 bi.h.length Vc1) (.slice V2 bi.s.length Vc2) (.slice V3 bi.o.length Vc3) (.slice V4 bi.r.length Vc4) bi e rate wz hz hv hsm hin hmb hEe hsS hr0.out (by have := hcount.out; rw [hbn]; omega))
   unfold Ev.val at q1;obtain ⟨nb, hnb⟩ : ∃ nb, gateB bi e rate = nb := ⟨_, rfl⟩;obtain ⟨⟨X1, X2⟩, hX⟩ : ∃ X, gateV bi e rate = X := ⟨_, rfl⟩;rw [hnb, hX] at q1;rw [hnb] at hsn;have hen : Hid (∀ (Y1 Y2 Y3 Y4 : Option Addr) (d1 d2 d3 d4 M : Nat) (Wz : World), BkOwn Wz M (.agg (BF Y1 d1 Y2 d2 Y3 d3 Y4 d4 nb nb.n)) nb → EnF b rate (L.take i) e #[.int .i64 i, .agg #[X1, X2, .slice Y1 nb.h.length d1, .slice Y2 nb.s.length d2, .slice Y3 nb.o.length d3, .slice Y4 nb.r.length d4, nb.n]] M Wz) := (by
    intro Y1 Y2 Y3 Y4 d1 d2 d3 d4 M Wz hO;refine ⟨Y1, d1, Y2, d2, Y3, d3, Y4, d4, ?_, ?_⟩
    ·rw [htl, hsn, hbi, hX]
    ·rw [hsn]; exact hO)
   have hpre : Hid (L.take i ++ [e] <+: L) := (show L.take i ++ [e] <+: L from htk ▸ List.take_prefix _ _)
   have HTK := zH htk;have HSN := zH hsn;obtain ⟨bb, oo, rfl, hbl, l0, l1, l2, l3, l4, l5, l6⟩ := (hSt.out.evs _ HB.out).get he;clear htk hkn htl hbg hbn hbs hsn hbi hnb hX he hi hsm hin hmb hEe hsS;have hAt : ∀ x, Below wr.heap.size wr (wr.alloc (.cells x 29)) := fun x => zBa
   have hbA := zH (hAt #[.int .i64 e.kind, .int .i64 e.acc, .int .i64 e.ord, .int .i64 e.sym, .int .i64 e.side, .int .i64 e.qty, .int .i64 e.px]);clear hAt;have hzA := zH (hSt.out.law _ (hSt.out.call _ _ HB.out hbA.out));have BKA := zH (BK.out.call hbA.out);have b0 := zC K0.out;have r0 := zz00 K2.out 0 _ rfl;have lt0 := zL K0.out;have lt2 := zL K2.out
   gi_wp2_with (fail)
   refine ⟨trivial, callsIn_wide.2 ((q1.out _ hzA BKA).mono ?_)⟩;rintro r w1 ⟨v5, vS, rfl, hO, hS, hb⟩;clear b0 r0 lt0 lt2 l0 l1 l2 l3 l4 l5 l6 hbl q1 hzA BKA hS BK;obtain ⟨Y1, d1, Y2, d2, Y3, d3, Y4, d4, hv5⟩ := hO.at.forms;subst hv5;have hb1 : Below wr.heap.size wr w1 := hbA.out.trans (hb.mono hbA.out.size);have hO1 := hO.mono hbA.out.size;clear hO hb hbA;obtain ⟨wY, hwY⟩ : ∃ wY : World, (w1.alloc (.cells (BF Y1 d1 Y2 d2 Y3 d3 Y4 d4 nb nb.n) 27)).alloc (.cells #[X1, X2] 33) = wY := ⟨_, rfl⟩;have hY2 : Below w1.heap.size w1 wY := by rw [← hwY]; exact zz01 zBa (by simp) _
   have KN : ZB wY w1.heap.size (BF Y1 d1 Y2 d2 Y3 d3 Y4 d4 nb nb.n) 27 := by rw [← hwY]; exact zz05 (zz02 _ _) _
   have hbY := zH (hb1.trans (hY2.mono hb1.size));have HO := zH (hO1.kept hY2);have HM := zH hb1.size;clear hb1 hO1 hY2;obtain ⟨fn, tmps, assign, body, hy, hR⟩ := hYh.out (L.take i) e #[.int .i64 i, .agg #[X1, X2, .slice Y1 nb.h.length d1, .slice Y2 nb.s.length d2, .slice Y3 nb.o.length d3, .slice Y4 nb.r.length d4, nb.n]] wr wY HJ.out (zz21 hbY.out _) (hen.out _ _ _ _ _ _ _ _ _ _ HO.out) hpre.out;have HR := zH hR;clear hR hen;rw [← hwY] at hy;have HWY := zH hwY;clear hwY
   gi_wp2_with (fail)
   rw [HWY.out];refine HR.out.mono ?_;clear HR hy HWY HJ;rintro r w2 (⟨rfl, hJ2, hk2⟩ | ⟨rfl, hJx2⟩)
   ·have HJ2 := zH hJ2
    obtain ⟨hks, hkx, hkk⟩ := hKp.out _ _ _ hk2;have K0' := zH (hkk _ _ _ _ (zz06 K0.out hbY.out) (.inr ⟨Nat.le_refl _, Nat.le_add_right _ _⟩));have K1' := zH (hkk _ _ _ _ (zz06 K1.out hbY.out) (.inr ⟨by omega, by omega⟩))
    have K2' := zH (hkk _ _ _ _ (zz06 K2.out hbY.out) (.inr ⟨by omega, by omega⟩))
    have KN' := zH (hkk _ _ _ _ KN.out (.inl HM.out));have HO' := zH (HO.out.still hks fun q cs t fr hq hM => hkk q cs t fr hq (.inl hM))
    have HB' := zH (hkx (hSt.out.call _ _ HB.out hbY.out));have hlt : Hid (Bs < wr.heap.size) := zL K0.out;have hne : w1.heap.size ≠ Bs := by have h1 := hlt.out; have h2 := HM.out; omega
    clear hJ2 hk2 hks hkx hkk K0 K1 K2 KN HO HB hbY;have b0 := zC K0'.out;have hne2 := hne.symm;have f0 := zz04 K0'.out 0;have f1 := zz04 K0'.out 1;have f2 := zz04 K0'.out 2;have f3 := zz04 K0'.out 3;have f4 := zz04 K0'.out 4;have n0 := zC KN'.out
    gi_wp2_with (fail)
    generalize hws : World.setCell _ _ _ = ws;clear b0 f0 f1 f2 f3 f4 n0 hne hne2;have EE : putC w2 Bs 0 [(.slice Y1 nb.h.length d1 : Value), .slice Y2 nb.s.length d2, .slice Y3 nb.o.length d3, .slice Y4 nb.r.length d4, .int .i64 nb.n] = ws := hws;clear hws;have J3 := hJh.out _ _ _ HJ2.out (zz4n [(.slice Y1 nb.h.length d1 : Value), .slice Y2 nb.s.length d2, .slice Y3 nb.o.length d3, .slice Y4 nb.r.length d4, .int .i64 nb.n] 0 w2 (g := Bs));have B3 := hSt.out.put _ _ [(.slice Y1 nb.h.length d1 : Value), .slice Y2 nb.s.length d2, .slice Y3 nb.o.length d3, .slice Y4 nb.r.length d4, .int .i64 nb.n] HB'.out K0'.out;have K03 : (putC w2 Bs 0 [(.slice Y1 nb.h.length d1 : Value), .slice Y2 nb.s.length d2, .slice Y3 nb.o.length d3, .slice Y4 nb.r.length d4, .int .i64 nb.n]).heap[Bs]? = some (.cells (BF Y1 d1 Y2 d2 Y3 d3 Y4 d4 nb nb.n) 27 (0, 0)) := zz0v K0'.out;have K13 := zz03 (g := Bs) (p := Bs + 1) zw (o := 0) (vs := [(.slice Y1 nb.h.length d1 : Value), .slice Y2 nb.s.length d2, .slice Y3 nb.o.length d3, .slice Y4 nb.r.length d4, nb.n]) K1'.out;have K23 := zz03 (g := Bs) (p := Bs + 2) zw (o := 0) (vs := [(.slice Y1 nb.h.length d1 : Value), .slice Y2 nb.s.length d2, .slice Y3 nb.o.length d3, .slice Y4 nb.r.length d4, nb.n]) K2'.out;have O3 := BkOwn.low hlt.out HO'.out 0 [(.slice Y1 nb.h.length d1 : Value), .slice Y2 nb.s.length d2, .slice Y3 nb.o.length d3, .slice Y4 nb.r.length d4, .int .i64 nb.n];rw [EE] at J3 B3 K03 K13 K23 O3;go_roundw
    case rel =>
     refine ⟨i + 1, Y1, Y2, Y3, Y4, d1, d2, d3, d4, by go_num, by show _ ≤ _; omega, ?_, B3, ?_, K13, K23, ?_⟩
     ·rw [HTK.out]; exact J3
     ·rw [HTK.out, HSN.out]; exact K03
     ·rw [HTK.out, HSN.out]; exact O3.at
    case measure => simp [intOf]; omega
   ·have HJX := zH hJx2
    clear hJx2
    gi_wp2_with (fail)
    refine bodyPost_ret (results_none rfl _ _ _) rfl ?_;exact ⟨⟨_, rfl⟩, .inr ⟨_, hpre.out, HJX.out⟩⟩
  ·obtain rfl : i = L.length := by omega
   gi_wp2_with (fail)
   go_end0;have h := HJ.out;rw [hlast.out] at h;exact ⟨⟨_, rfl⟩, .inl h⟩
theorem StX.of {n0 : World} {Bs : Nat} {AL : Option Addr} {n cL : Nat} {L : List Ev} (hT : Hid (Law16 n0)) (HL : Hid (EvsAt n0 (.slice AL n cL) L)) (hB : Hid (n0.heap.size ≤ Bs)) : StX (Below n0.heap.size n0) Bs (.slice AL n cL) L :=
 ⟨fun W h => hT.out.call h, fun W h => HL.out.call h, fun A B h hb => h.trans (hb.mono h.size), fun A cs us h _ => zz0y hB.out h⟩
theorem KpF.x {w0 : World} {Bs M : Nat} {A B : World} (h : KpF w0.heap.size Bs M A B) : KpX (Below w0.heap.size w0) Bs M A B := ⟨h.1.size, fun k => k.trans h.1, h.2⟩
theorem zz6s (b : Bk) (L : List Ev) (rate : Int) (w0 w : World) (Bs : Nat) (Ah As Ao Ar AL : Option Addr) (ch cs co cr cL : Nat) (hT : Hid (Law16 w0)) (B0 : Hid (BkAt w0 (.agg (BF Ah ch As cs Ao co Ar cr b b.n)) b)) (HL : Hid (EvsAt w0 (.slice AL L.length cL) L)) (hgd : Hid b.Good) (hE : Hid (∀ e ∈ L, e.I64s)) (hr0 : Hid (0 ≤ rate ∧ rate ≤ 1000))
  (hcount : Hid (b.n + L.length ≤ 1099511627776)) (hst : Hid (b.s.length + L.length ≤ 900000)) (hln : L.length ≤ 1000000) (hbw : Hid (Below w0.heap.size w0 w)) (hB0 : Hid (w0.heap.size ≤ Bs))
  (k0 : ZB w Bs (BF Ah ch As cs Ao co Ar cr b b.n) 27) (k1 : ZB w (Bs + 1) #[.slice AL L.length cL] 44) (k2 : ZB w (Bs + 2) #[rate] 3) :
  IterS Fence.wide 2 Tryz.prog 114 #[.pointer (some ⟨Bs + 1, 0, none⟩), .pointer (some ⟨Bs, 0, none⟩), .pointer (some ⟨Bs + 2, 0, none⟩)] Bs w (EnF b rate) (KpF w0.heap.size Bs) L :=
 states1_x b L rate _ _ w Bs Ah As Ao Ar AL ch cs co cr cL (zH (StX.of hT HL hB0)) hbw (zH fun _ _ _ h => h.x) (zH (B0.out.call hbw.out)) hgd hE hr0 hcount hst hln k0 k1 k2
end
section
open Go Go.RowKit
section
variable {P : Program} {ops : Array Oper} {md : Region.Mode} {Q : Exit → Act → World → Prop}
theorem wpOpIn_of {l n i : Nat} {K : Act → World → Prop} {a : Act} {w : World} (hd : ∀ o c, ops[i]? = some o → o.op ≠ .defer c) (hQ : ¬ LetsOut Q) (h : wpOp P ops Q i K a w) : wpOpIn (Fence.wide.inRound l) n P ops Q i K a w := by
 unfold wpOp at h;unfold wpOpIn;cases ho : ops[i]? with
 | none => rw [ho] at h; exact h
 | some o =>
  rw [ho] at h;simp only [] at h ⊢
  split at h
  ·rename_i hw
   rw [if_pos hw];rcases h with h | ⟨_, h⟩
   ·refine ⟨fun _ _ => trivial, ?_⟩
    rw [Oper.semAt_eq _ _ _ (fun c => hd o c ho)]
    unfold Oper.wp at h;generalize (execOp a.eval o).run P w = r at h ⊢;cases r with
    | ok x w' =>
     cases x with
     | value u => exact h
     | skip => exact h
     | defer d => exact h
     | enter f args =>
      refine ⟨(fun h => by cases h), CallsIn.inRound l (callsIn_wide.2 (Calls.mono h fun e w'' he => ?_))⟩
      cases e <;> exact he
     | row row args => exact ⟨(fun h => by cases h), fun c cs _ => let ⟨v, w', r, s⟩ := h c cs; ⟨v, w', r, stepsIn_wide.2 s⟩⟩
     | _ => exact h.elim
    | halt x w' =>
     cases x with
     | panic u => exact h
     | _ => exact h.elim
   ·exact (hQ h).elim
  ·rename_i hw
   rw [if_neg hw];exact ⟨fun _ _ => trivial, h⟩
theorem zz6l {l n : Nat} (hd : ∀ (i : Nat) (o : Oper) (c : Call), ops[i]? = some o → o.op ≠ .defer c) (hQ : ¬ LetsOut Q) : ∀ (f : Nat) (L : Array Bool) (a : Act) (w : World), wpAny P md ops Q f L a w → wpAnyIn (Fence.wide.inRound l) n P md ops Q f L a w
 | 0, _, _, _, h => h
 | f + 1, _, _, _, h => ⟨h.1, fun i hi => wpOpIn_of (hd i) hQ (wpOp_mono (fun a' w' h' => zz6l hd hQ f _ a' w' h') (h.2 i hi))⟩
def noDefer (ops : Array Oper) : Bool := ops.all fun (o : Oper) => match o.op with | .defer _ => false | _ => true
theorem zz4j (h : noDefer ops = true) : ∀ (i : Nat) (o : Oper) (c : Call), ops[i]? = some o → o.op ≠ .defer c := by
 intro i o c ho hc;have h1 := Array.all_eq_true.1 h i (zL ho);rw [(Array.getElem?_eq_some_iff.1 ho).2, hc] at h1;cases h1
def OnlyX (Q : Exit → Act → World → Prop) : Exit → Act → World → Prop
 | .normal, a, w => Q .normal a w
 | _, _, _ => False
theorem zz8d (a : Act) (w : World) : OnlyN (OnlyX Q) .normal a w = Q .normal a w := rfl
theorem OnlyX.to : ∀ (x : Exit) (a : Act) (w : World), OnlyN (OnlyX Q) x a w → Q x a w
 | .normal, _, _, h => h
 | .outgrown, _, _, h => h.elim
 | .exit _, _, _, h => h.elim
 | .goto _, _, _, h => h.elim
 | .ret, _, _, h => h.elim
 | .panic _, _, _, h => h.elim
theorem zz6i {l n id : Nat} {C : World → Prop} {a : Act} {w : World} {os : List Oper} (ex : List Nat) (f : Nat) (L : Array Bool) (hm : P.follows .mixedOrders = true) (hf : os.length = f) (hL : Array.replicate os.toArray.size false = L) (hd : noDefer os.toArray = true)
  (h : wpAnyD P .any os.toArray C ex (OnlyN (OnlyX Q)) f L a { w with drawn := w.drawn + 1 }) : (Code.region id os.toArray true).wpIn (Fence.wide.inRound l) n P Q a w := by
 subst hL hf;refine wpIn_mono (Q := OnlyN (OnlyX Q)) (wpIn_region_any hm (zz6l (zz4j hd) (by rintro ⟨a, w, h⟩; exact h) _ _ _ _ (zz43 (C := C) (ex := ex) _ _ _ _ ?_))) OnlyX.to
 simpa using h
end
end
section
open Go Go.RowKit Mon
theorem RowOwn.neB {w : World} {B : Nat} {e : TypeId} {v : Value} {k : Nat} {l : List (List Int)} (h : RowOwn w B e v k l) {g : Nat} {cs : Array Value} {t : TypeId} {fr : Nat × Nat} (hg : w.heap[g]? = some (.cells cs t fr)) (hne : e ≠ t) : v.ownBlock ≠ some g := by
 obtain ⟨⟨hl, ho⟩, hk⟩ := h;rcases ho with h | ⟨g', cap, cur, h1, h2, h3, h4⟩
 ·rw [h.1]; intro e'; cases e'
 ·rw [h1]
  intro e';have e2 : g' = g := by simpa [Value.ownBlock] using e'
  subst e2;rw [hg] at h3;injection h3 with h3
  injection h3 with _ h3 _
  exact hne h3.symm
theorem RowOwn.cellsB {w : World} {B : Nat} {e : TypeId} {v : Value} {k : Nat} {l : List (List Int)} (h : RowOwn w B e v k l) {q : Nat} (hq : v.ownBlock = some q) : ∃ o : Obj, w.heap[q]? = some o ∧ o.isCells = true := by
 rcases h.1.2 with ⟨rfl, _⟩ | ⟨g, cap, cur, rfl, _, h3, _⟩
 ·cases hq
 ·obtain rfl : g = q := by simpa [Value.ownBlock] using hq
  exact ⟨_, h3, rfl⟩
theorem RowOwn.grow {A B : World} {b0 : Nat} {e : TypeId} {v : Value} {k : Nat} {l : List (List Int)} {row : Option Nat} (h : RowOwn A b0 e v k l) (hg : A.grownBy B row) (hr : ∀ q, v.ownBlock = some q → row ≠ some q) : RowOwn B b0 e v k l :=
 h.still hg.size fun q cs t fr hq hv => (hg.block q (zL hq) (fun e => hr q hv e.symm)).trans hq
theorem zz4p {W w1 : World} {B : Nat} {e : TypeId} {v : Value} {k : Nat} {l : List (List Int)} {tmp : Obj} (h : RowOwn W B e v k l) (hn : B ≤ W.heap.size) (hg : (W.alloc tmp).grownBy w1 v.ownBlock) : KeepsOthers W w1 ∧ Below B W w1 ∧ ∀ j, j < W.heap.size → v.ownBlock ≠ some j → w1.heap[j]? = W.heap[j]? := by
 refine ⟨(KeepsOthers.alloc W tmp).trans (KeepsOthers.of_grownBy hg fun j o ej hj => ?_), ((Below.refl B W).alloc hn tmp).grown hg (by simp; omega) (fun j ej => (h.block ej).1), fun j hj hne => ?_⟩
 ·obtain ⟨o', ho', hc⟩ := h.cellsB ej
  have := Below.heap_alloc W tmp j (Array.getElem?_eq_some_iff.1 ho').1;rw [this, ho'] at hj;cases hj;exact hc
 ·have h1 := hg.block j (by simp; omega) (fun e => hne e.symm)
  rw [h1, Below.heap_alloc W tmp j hj]
section
variable {P : Program} {ops : Array Oper} {rest : List Oper} {o : Oper} {a : Act} {Q : Exit → Act → World → Prop}
theorem zz19 {wr : World} {B : Nat} (s x : Operand) (t e : TypeId) (z : Value) (k bytes : Nat) (he : Elt P t e z k bytes) (r : List Int) (v : Value) (l : List (List Int))
  (hown : Hid (RowOwn wr B e v k l)) (hB : B ≤ wr.heap.size) (hgd : o.guard = none) (ho : o.op = .call { callee := .builtin .append, args := #[s, x], argTypes := #[t, t] })
  (hs : a.eval s = v) (hx : a.eval x = .slice (some ⟨wr.heap.size, 0, none⟩) 1 1) (hr : r.length = k) (hn : l.length + 1 ≤ 4000000) (hby : bytes ≤ 256)
  (h : ∀ v' w', Hid (RowOwn w' B e v' k (l ++ [r])) → Hid ((wr.alloc (.cells (r.map (Value.int .i64)).toArray e)).grownBy w' v.ownBlock) → wpList P ops Q rest (a.put o.dst v') w') :
  wpList P ops Q (o :: rest) a (wr.alloc (.cells (r.map (Value.int .i64)).toArray e)) := by
 obtain ⟨i, hi, hz, hsz, hbs⟩ := he.info;obtain ⟨ho', hk⟩ := hown.out;refine wpList_append_own _ hgd s x t ho B e i z k bytes he.und hi hz hsz hbs he.zs he.pos v l.length (flatC l) hs (ho'.alloc _) ⟨wr.heap.size, 0, none⟩ 1 1 (r.map (Value.int .i64)) hx (by rw [List.length_map, hr, Nat.one_mul]) ?_ ?_ ?_ ?_ ?_ ?_
 ·exact zt70
 ·intro u hu; obtain ⟨y, _, rfl⟩ := List.mem_map.1 hu; rfl
 ·unfold maxLen; omega
 ·have h1 := Nat.mul_le_mul hn hby; omega
 ·simp; omega
 ·intro v' w' h1 h2 _
  refine h v' w' ⟨?_, ?_⟩ h2
  ·exact zt83
  ·exact zt68
end
theorem el_Pair : Elt Tryz.prog 45 98 (.agg #[.int .i64 0, .int .i64 0, .int .i64 0, .int .i64 0, .int .i64 0, .int .i64 0, .int .i64 0, .int .i64 0, .int .i64 0]) 9 72 := Elt.mk' Tryz.underlying45 zk rfl zx
theorem zz79 (b : Bk) (rate : Int) (pre : List Ev) (e : Ev) : foldP b rate (pre ++ [e]) = foldP b rate pre ++ [pairC e (gateV (foldB b rate pre) e rate)] := by rw [zz8y]; rfl
theorem EvsAt.got {w : World} {bb oo n c : Nat} {L : List Ev} (h : EvsAt w (.slice (some ⟨bb, oo, none⟩) n c) L) {i : Nat} {e : Ev} (hi : L[i]? = some e) : bb < w.heap.size ∧
  w.cell? ⟨bb, oo + i * 7, none⟩ = some (.int .i64 e.kind) ∧ w.cell? ⟨bb, oo + i * 7 + 1, none⟩ = some (.int .i64 e.acc) ∧ w.cell? ⟨bb, oo + i * 7 + 2, none⟩ = some (.int .i64 e.ord) ∧ w.cell? ⟨bb, oo + i * 7 + 3, none⟩ = some (.int .i64 e.sym) ∧ w.cell? ⟨bb, oo + i * 7 + 4, none⟩ = some (.int .i64 e.side) ∧ w.cell? ⟨bb, oo + i * 7 + 5, none⟩ = some (.int .i64 e.qty) ∧ w.cell? ⟨bb, oo + i * 7 + 6, none⟩ = some (.int .i64 e.px) := by
 obtain ⟨b, o, hA, h1⟩ := h.get hi;injection hA with hA
 injection hA with hb ho _
 subst hb ho;exact h1
def NotIn (Bs : Nat) (v : Value) : Prop := ∀ a1 a2 a3 a4 n, v = .agg #[a1, a2, a3, a4, n] → a1.ownBlock ≠ some Bs ∧ a2.ownBlock ≠ some Bs ∧ a3.ownBlock ≠ some Bs ∧ a4.ownBlock ≠ some Bs
theorem BkOwn.notIn {A : World} {b0 : Nat} {v : Value} {b : Bk} {Bs : Nat} (h : BkOwn A b0 v b) (hB : Bs < b0 ∨ A.heap.size ≤ Bs) : NotIn Bs v := by
 obtain ⟨vh, vs, vo, vr, rfl, h1, h2, h3, h4⟩ := h;intro a1 a2 a3 a4 n hv;injection hv with hv
 simp only [Array.mk.injEq, List.cons.injEq, and_true] at hv;obtain ⟨rfl, rfl, rfl, rfl, _⟩ := hv;refine ⟨fun e => ?_, fun e => ?_, fun e => ?_, fun e => ?_⟩
 ·have := h1.block e; omega
 ·have := h2.block e; omega
 ·have := h3.block e; omega
 ·have := h4.block e; omega
theorem BkOwn.grow {A B : World} {b0 Bs N : Nat} {v : Value} {b : Bk} {row : Option Nat} (h : BkOwn A b0 v b) (hn : NotIn Bs v) (hg : A.grownBy B row) (hr : ∀ r, row = some r → r = Bs ∨ (N ≤ r ∧ ∃ o : Obj, A.heap[r]? = some o ∧ o.isCells = false)) : BkOwn B b0 v b := by
 obtain ⟨vh, vs, vo, vr, rfl, h1, h2, h3, h4⟩ := h;obtain ⟨n1, n2, n3, n4⟩ := hn _ _ _ _ _ rfl;have key : ∀ {e : TypeId} {u : Value} {k : Nat} {l : List (List Int)}, RowOwn A b0 e u k l → u.ownBlock ≠ some Bs → RowOwn B b0 e u k l := fun hx hne => hx.grow hg fun q hq e => by
  rcases hr q e with rfl | ⟨_, o, ho, hc⟩
  ·exact hne hq
  ·obtain ⟨o', ho', hc'⟩ := hx.cellsB hq
   rw [ho] at ho';cases ho';rw [hc] at hc';cases hc'
 exact ⟨vh, vs, vo, vr, rfl, key h1 n1, key h2 n2, key h3 n3, key h4 n4⟩
theorem BkOwn.grown {A B : World} {b0 : Nat} {v : Value} {b : Bk} (h : BkOwn A b0 v b) {e : TypeId} {u : Value} {k c0 : Nat} {l : List (List Int)} (hu : RowOwn A c0 e u k l) (he : e ≠ 78 ∧ e ≠ 80 ∧ e ≠ 82 ∧ e ≠ 84) (hs : A.heap.size ≤ B.heap.size) (hk : ∀ j, j < A.heap.size → u.ownBlock ≠ some j → B.heap[j]? = A.heap[j]?) : BkOwn B b0 v b := by
 obtain ⟨vh, vs, vo, vr, rfl, h1, h2, h3, h4⟩ := h;have key : ∀ {e' : TypeId} {x : Value} {k' : Nat} {l' : List (List Int)}, RowOwn A b0 e' x k' l' → e ≠ e' → RowOwn B b0 e' x k' l' := fun {e' x k' l'} hx hne => by
  obtain ⟨⟨hl, ho⟩, h2⟩ := hx;refine ⟨⟨hl, ?_⟩, h2⟩;rcases ho with h | ⟨g, cap, cur, rfl, h1, h3, h4⟩
  ·exact .inl h
  ·exact .inr ⟨g, cap, cur, rfl, h1, (hk g (zL h3) (hu.neB h3 hne)).trans h3, h4⟩
 exact ⟨vh, vs, vo, vr, rfl, key h1 he.1, key h2 he.2.1, key h3 he.2.2.1, key h4 he.2.2.2⟩
theorem RowOwn.putT {g B : Nat} {e t : TypeId} {v : Value} {k : Nat} {l : List (List Int)} {fr : Nat × Nat} (hne : e ≠ t) : ∀ {us : List Value} {o : Nat} {w : World} {cs : Array Value}, RowOwn w B e v k l → w.heap[g]? = some (.cells cs t fr) → RowOwn (putC w g o us) B e v k l
 | [], _, _, _, h, _ => h
 | u :: us, o, w, cs, h, hg => by
  show RowOwn (putC (w.setCell ⟨g, o, none⟩ u) g (o + 1) us) B e v k l;exact RowOwn.putT hne (h.setO hg hne o u) (zz0b hg o u)
theorem BkOwn.putT {g B : Nat} {t : TypeId} {v : Value} {b : Bk} {fr : Nat × Nat} (ht : t ≠ 78 ∧ t ≠ 80 ∧ t ≠ 82 ∧ t ≠ 84) {us : List Value} {o : Nat} {w : World} {cs : Array Value} (h : BkOwn w B v b) (hg : w.heap[g]? = some (.cells cs t fr)) : BkOwn (putC w g o us) B v b := by
 obtain ⟨vh, vs, vo, vr, rfl, h1, h2, h3, h4⟩ := h;exact ⟨vh, vs, vo, vr, rfl, h1.putT ht.1.symm hg, h2.putT ht.2.1.symm hg, h3.putT ht.2.2.1.symm hg, h4.putT ht.2.2.2.symm hg⟩
theorem zz37 {g : Nat} : ∀ (us : List Value) (o : Nat) (w : World), KeepsOthers w (putC w g o us)
 | [], _, w => KeepsOthers.refl w
 | u :: us, o, w => (KeepsOthers.setCell w _ u).trans (zz37 (g := g) us (o + 1) _)
theorem KpF.putC {n0 Bs M g : Nat} {W : World} (hn : n0 ≤ g) (hM : g < M) (hB : g < Bs) (o : Nat) (us : List Value) : KpF n0 Bs M W (putC W g o us) :=
 ⟨zz0y hn (Below.refl _ _), fun k cs t fr hk hr => zz03 zw hk⟩
theorem zza1 {A B : World} (hb : Below A.heap.size A B) : KeepsOthers A B := KeepsOthers.of_grownBy (zz21 hb none) (fun j o e => by cases e)
end
end Go.Proofs.YtajogedbacpohaaGreatDoor
