/- Part 22 of what the claim rests on. -/
import Derived.Test.YtajogedbacpohaaGreatDoorE00
import Derived.Test.YtajogedbacpohaaGreatDoorE14
import Derived.Test.YtajogedbacpohaaGreatDoorE15
import Derived.Test.YtajogedbacpohaaGreatDoorE16
import Derived.Test.YtajogedbacpohaaGreatDoorE19
import Derived.Test.YtajogedbacpohaaGreatDoorE20
import Derived.IntWalk
import Derived.Laws.Cover1
import Derived.Shelf.LaysM
import Derived.Shelf.Strconv.Itoa4
import Derived.Shelf.Strings.OnBuilder
import Derived.Test.YtajogedbacpohaaGreatDoorProg
set_option linter.unusedVariables false
set_option linter.unusedSimpArgs false
set_option maxRecDepth 1000000
set_option maxHeartbeats 32000000
namespace Go.Proofs.YtajogedbacpohaaGreatDoor
section
open Go Go.RowKit
def Vb (a w : World) (l : Bl) (V : Value) (L : List Stp) (u0 u : Value) (b0 nb : Bk) : Prop :=
 En a w l ∧ (∃ B, StepsOwn w B V L) ∧ BkAt a u0 b0 ∧ BkAt w u nb ∧ ∃ B, (a.heap.size ≤ B ∧ Kin B u0 u) ∧ (∀ x ∈ l, x.1 < B) ∧ B ≤ w.heap.size
theorem Kin.refl {B : Nat} {a : World} {u : Value} {b : Bk} (h : BkAt a u b) : Kin B u u := by
 obtain ⟨_, _, _, _, rfl, _⟩ := h;exact ⟨_, _, _, _, _, _, _, _, _, _, rfl, rfl, .inl rfl, .inl rfl, .inl rfl, .inl rfl⟩
theorem Kin1.mono {B B' : Nat} {a b : Value} (h : Kin1 B a b) (hB : B' ≤ B) : Kin1 B' a b := h.imp id fun h q hq => Nat.le_trans hB (h q hq)
theorem Kin.count {B B' : Nat} {u x1 x2 x3 x4 m : Value} (h : Kin B u (.agg #[x1, x2, x3, x4, m])) (hB : B' ≤ B) (m' : Value) : Kin B' u (.agg #[x1, x2, x3, x4, m']) := by
 obtain ⟨a0, a1, a2, a3, n, b0, b1, b2, b3, y, rfl, e, k0, k1, k2, k3⟩ := h;injection e with e
 simp only [Array.mk.injEq, List.cons.injEq, and_true] at e;obtain ⟨rfl, rfl, rfl, rfl, rfl⟩ := e;exact ⟨a0, a1, a2, a3, n, _, _, _, _, m', rfl, rfl, k0.mono hB, k1.mono hB, k2.mono hB, k3.mono hB⟩
section
variable {a w w' : World} {l m : Bl} {V u0 u u' : Value} {L : List Stp} {b0 nb nb' : Bk}
theorem zV0 {B : Nat} (K : Hid (En a w l)) (h : StepsOwn w B V L) (hB : Hid (BkAt a u0 b0)) : Hid (Vb a w l V L u0 u0 b0 b0) :=
 ⟨K.out, ⟨_, h⟩, hB.out, hB.out.call K.out.1, _, ⟨K.out.1.size, Kin.refl hB.out⟩, K.out.2.1.lt, Nat.le_refl _⟩
theorem zVk (K : Hid (Vb a w l V L u0 u b0 nb)) (hb : Below w.heap.size w w') : Hid (Vb a w' l V L u0 u b0 nb) := by
 obtain ⟨h1, ⟨B, h2⟩, h3, h4, B', h5, h6, h7⟩ := K.out;exact ⟨zEk h1 hb, ⟨B, h2.kept hb⟩, h3, h4.call hb, B', h5, h6, Nat.le_trans h7 hb.size⟩
theorem zVa {c : Array Value} {t : TypeId} (h : w.alloc (.cells c t) = w') (K : Hid (Vb a w l V L u0 u0 b0 b0)) : Hid (Vb a w' ((w.heap.size, c, t) :: l) V L u0 u0 b0 b0) := by
 obtain ⟨h1, ⟨B, h2⟩, h3, h4, B', h5, h6, h7⟩ := K.out;have hb : Below w.heap.size w w' := h ▸ zBa;exact zV0 (zEa h h1) (h2.kept hb) h3
theorem zVa2 {c c2 : Array Value} {t t2 : TypeId} (h : (w.alloc (.cells c t)).alloc (.cells c2 t2) = w') (K : Hid (Vb a w l V L u0 u0 b0 b0)) : Hid (Vb a w' ((w.heap.size + 1, c2, t2) :: (w.heap.size, c, t) :: l) V L u0 u0 b0 b0) := by
 have := zVa h (zVa rfl K);simpa using this
theorem zVs (K : Hid (Vb a w l V L u0 u b0 nb)) (hb : Below w.heap.size w w') (hO : BkAt w' u' nb') (hK : Kin w.heap.size u u') : Hid (Vb a w' l V L u0 u' b0 nb') := by
 obtain ⟨h1, ⟨B, h2⟩, h3, h4, B', h5, h6, h7⟩ := K.out;exact ⟨zEk h1 hb, ⟨B, h2.kept hb⟩, h3, hO, B', ⟨h5.1, h5.2.trans hK h7⟩, h6, Nat.le_trans h7 hb.size⟩
theorem zVp {g o : Nat} {c : Array Value} {t : TypeId} {vs : List Value} (E : putC w g o vs = w') (K : Hid (Vb a w ((g, c, t) :: l) V L u0 u b0 nb)) (ht : t ≠ 65 := by decide) : Hid (Vb a w' ((g, putA c o vs, t) :: l) V L u0 u b0 nb) := by
 obtain ⟨h1, ⟨B, h2⟩, h3, h4, B', h5, h6, h7⟩ := K.out;refine ⟨zEp E h1, ⟨B, E ▸ zz0t ht h1.2.1.1.2 h2⟩, h3, E ▸ BkAt.putKin h5.2 h4 h3 h1.2.1.1.1 (h6 _ (.head _)) o vs, B', h5, ?_, by rw [← E, zz5s]; exact h7⟩
 intro x hx;rcases List.mem_cons.1 hx with e | hx
 ·rw [e]; exact h6 (g, c, t) (.head _)
 ·exact h6 _ (.tail _ hx)
theorem zVe (K : Hid (Vb a w l V L u0 u b0 nb)) : Hid (En a w l) := K.out.1
theorem zVc (K : Hid (Vb a w l V L u0 u b0 nb)) : Oz w l := zEc K.out.1
theorem zVx {g : Nat} {c : Array Value} {t : TypeId} (K : Hid (Vb a w ((g, c, t) :: l) V L u0 u b0 nb)) : Oz w ((g, c, t) :: l) ∧ Nz g l := zEx K.out.1
theorem zVb (K : Hid (Vb a w l V L u0 u b0 nb)) : Hid (BkAt w u0 b0) := K.out.2.2.1.call K.out.1.1
theorem zVu (K : Hid (Vb a w l V L u0 u b0 nb)) : Hid (BkAt w u nb) := K.out.2.2.2.1
theorem zVt (K : Hid (Vb a w l V L u0 u b0 nb)) : StepsAt w V L := by
 obtain ⟨h1, ⟨B, h2⟩, h3⟩ := K.out;exact h2.at
theorem zVm (K : Hid (Vb a w l V L u0 u b0 nb)) (h : l.Perm m) : Hid (Vb a w m V L u0 u b0 nb) := by
 obtain ⟨h1, h2, h3, h4, B', h5, h6, h7⟩ := K.out;exact ⟨zEm h1 h, h2, h3, h4, B', h5, fun x hx => h6 x (h.mem_iff.2 hx), h7⟩
variable {x y z s t : Nat × Array Value × TypeId}
theorem zVq (K : Hid (Vb a w (x :: y :: l) V L u0 u b0 nb)) : Hid (Vb a w (y :: x :: l) V L u0 u b0 nb) := zVm K (List.Perm.swap _ _ _)
theorem zVw (K : Hid (Vb a w (x :: y :: z :: s :: l) V L u0 u b0 nb)) : Hid (Vb a w (s :: x :: y :: z :: l) V L u0 u b0 nb) := zVm K (List.perm_middle (l₁ := [x, y, z]))
theorem zVd (K : Hid (Vb a w (x :: l) V L u0 u b0 nb)) : Hid (Vb a w l V L u0 u b0 nb) := by
 obtain ⟨h1, h2, h3, h4, B', h5, h6, h7⟩ := K.out;exact ⟨⟨h1.1, h1.2.1.2, (List.pairwise_cons.1 h1.2.2).2⟩, h2, h3, h4, B', h5, fun x hx => h6 x (.tail _ hx), h7⟩
theorem zVp5 {g : Nat} {a0 a1 a2 a3 a4 b1 b2 b3 b4 b5 : Value} {t : TypeId} (h : ((((w.setCell ⟨g, 0, none⟩ b1).setCell ⟨g, 1, none⟩ b2).setCell ⟨g, 2, none⟩ b3).setCell ⟨g, 3, none⟩ b4).setCell ⟨g, 4, none⟩ b5 = w') (K : Hid (Vb a w ((g, #[a0, a1, a2, a3, a4], t) :: l) V L u0 u b0 nb)) (ht : t ≠ 65 := by decide) : Hid (Vb a w' ((g, #[b1, b2, b3, b4, b5], t) :: l) V L u0 u b0 nb) := by
 have E : putC w g 0 [b1, b2, b3, b4, b5] = w' := h;have J : putA #[a0, a1, a2, a3, a4] 0 [b1, b2, b3, b4, b5] = #[b1, b2, b3, b4, b5] := rfl;exact J ▸ zVp E K ht
theorem zVp2 {g : Nat} {a0 a1 b1 b2 : Value} {t : TypeId} (h : (w.setCell ⟨g, 0, none⟩ b1).setCell ⟨g, 1, none⟩ b2 = w') (K : Hid (Vb a w ((g, #[a0, a1], t) :: l) V L u0 u b0 nb)) (ht : t ≠ 65 := by decide) : Hid (Vb a w' ((g, #[b1, b2], t) :: l) V L u0 u b0 nb) := by
 have E : putC w g 0 [b1, b2] = w' := h;have J : putA #[a0, a1] 0 [b1, b2] = #[b1, b2] := rfl;exact J ▸ zVp E K ht
theorem zVn {g : Nat} {a0 a1 a2 a3 a4 b5 : Value} {t : TypeId} (h : w.setCell ⟨g, 4, none⟩ b5 = w') (K : Hid (Vb a w ((g, #[a0, a1, a2, a3, a4], t) :: l) V L u0 u b0 nb)) (ht : t ≠ 65 := by decide) : Hid (Vb a w' ((g, #[a0, a1, a2, a3, b5], t) :: l) V L u0 u b0 nb) := by
 have E : putC w g 4 [b5] = w' := h;have J : putA #[a0, a1, a2, a3, a4] 4 [b5] = #[a0, a1, a2, a3, b5] := rfl;exact J ▸ zVp E K ht
theorem zVo {g : Nat} {a0 a1 a2 a3 a4 a5 b5 : Value} {t : TypeId} (h : w.setCell ⟨g, 4, none⟩ b5 = w') (K : Hid (Vb a w ((g, #[a0, a1, a2, a3, a4, a5], t) :: l) V L u0 u b0 nb)) (ht : t ≠ 65 := by decide) : Hid (Vb a w' ((g, #[a0, a1, a2, a3, b5, a5], t) :: l) V L u0 u b0 nb) := by
 have E : putC w g 4 [b5] = w' := h;have J : putA #[a0, a1, a2, a3, a4, a5] 4 [b5] = #[a0, a1, a2, a3, b5, a5] := rfl;exact J ▸ zVp E K ht
theorem zVh {g : Nat} {a0 a1 a2 a3 b2 b3 : Value} {t : TypeId} (h : (w.setCell ⟨g, 2, none⟩ b2).setCell ⟨g, 3, none⟩ b3 = w') (K : Hid (Vb a w ((g, #[a0, a1, a2, a3], t) :: l) V L u0 u b0 nb)) (ht : t ≠ 65 := by decide) : Hid (Vb a w' ((g, #[a0, a1, b2, b3], t) :: l) V L u0 u b0 nb) := by
 have E : putC w g 2 [b2, b3] = w' := h;have J : putA #[a0, a1, a2, a3] 2 [b2, b3] = #[a0, a1, b2, b3] := rfl;exact J ▸ zVp E K ht
theorem zVp51 {g p : Nat} {a0 a1 a2 a3 a4 b1 b2 b3 b4 b5 c0 c1 c2 c3 c4 c5 d : Value} {t t2 : TypeId} (h : (((((w.setCell ⟨g, 0, none⟩ b1).setCell ⟨g, 1, none⟩ b2).setCell ⟨g, 2, none⟩ b3).setCell ⟨g, 3, none⟩ b4).setCell ⟨g, 4, none⟩ b5).setCell ⟨p, 4, none⟩ d = w') (K : Hid (Vb a w ((g, #[a0, a1, a2, a3, a4], t) :: (p, #[c0, c1, c2, c3, c4, c5], t2) :: l) V L u0 u b0 nb)) (ht : t ≠ 65 := by decide) (ht2 : t2 ≠ 65 := by decide) : Hid (Vb a w' ((g, #[b1, b2, b3, b4, b5], t) :: (p, #[c0, c1, c2, c3, d, c5], t2) :: l) V L u0 u b0 nb) := zVq (zVo h (zVq (zVp5 rfl K ht)) ht2)
theorem zVf {g : Nat} {c : Array Value} {t : TypeId} (K : Hid (Vb a w ((g, c, t) :: l) V L u0 u b0 nb)) : (∀ i, w.cell? ⟨g, i, none⟩ = c[i]?) ∧ (∀ i, w.frozen? ⟨g, i, none⟩ = false) := ⟨(zVc K).1, (zVc K).2.1⟩
theorem zVg {g p : Nat} {c d : Array Value} {t r : TypeId} (K : Hid (Vb a w ((g, c, t) :: (p, d, r) :: l) V L u0 u b0 nb)) : w.heap[g]? = some (.cells c t (0, 0)) ∧ w.heap[p]? = some (.cells d r (0, 0)) := ⟨K.out.1.2.1.1.2, K.out.1.2.1.2.1.2⟩
theorem zVp6 {g : Nat} {a0 a1 a2 a3 a4 b1 b2 b3 b4 b5 b6 : Value} {t : TypeId} (h : (((((w.setCell ⟨g, 0, none⟩ b1).setCell ⟨g, 1, none⟩ b2).setCell ⟨g, 2, none⟩ b3).setCell ⟨g, 3, none⟩ b4).setCell ⟨g, 4, none⟩ b5).setCell ⟨g, 4, none⟩ b6 = w') (K : Hid (Vb a w ((g, #[a0, a1, a2, a3, a4], t) :: l) V L u0 u b0 nb)) (ht : t ≠ 65 := by decide) : Hid (Vb a w' ((g, #[b1, b2, b3, b4, b6], t) :: l) V L u0 u b0 nb) := zVn h (zVp5 rfl K ht) ht
theorem zVK {x1 x2 x3 x4 y1 : Value} (K : Hid (Vb a w l V L u0 (.agg #[x1, x2, x3, x4, y1]) b0 nb)) (m' : Value) : Kin a.heap.size u0 (.agg #[x1, x2, x3, x4, m']) := by
 obtain ⟨_, _, _, _, B, h, _⟩ := K.out;exact h.2.count h.1 _
theorem zVy (K : Hid (Vb a w (x :: y :: l) V L u0 u b0 nb)) : Hid (Bz a.heap.size w [x, y]) := ⟨K.out.1.2.1.1, K.out.1.2.1.2.1, trivial⟩
theorem zVz {g p : Nat} {c d : Array Value} {t r : TypeId} (K : Hid (Vb a w ((g, c, t) :: (p, d, r) :: l) V L u0 u b0 nb)) : Oz w ((g, c, t) :: (p, d, r) :: l) ∧ Nz g ((p, d, r) :: l) ∧ Nz p l := ⟨zVc K, (zVx K).2, (zVx (zVd K)).2⟩
end
theorem doneB_no {b : Bk} {e : Ev} {rate : Int} (h : (allS b e rate).all (·.holds) = false) : doneB b e rate = b := by
 unfold doneB;rw [h]
 rfl
theorem zz61 {b : Bk} {e : Ev} {rate : Int} (h : (allS b e rate).all (·.holds) = true) : doneB b e rate = newB b e := by
 unfold doneB;rw [h]
 rfl
theorem BkAt.count {w : World} {a1 a2 a3 a4 x : Value} {b : Bk} (h : BkAt w (.agg #[a1, a2, a3, a4, x]) b) (m : Int) : BkAt w (.agg #[a1, a2, a3, a4, m]) { b with n := m } := by
 exact zt82
theorem BkAt.forms {w : World} {v : Value} {b : Bk} (h : BkAt w v b) : ∃ A1 c1 A2 c2 A3 c3 A4 c4, v = .agg (BF A1 c1 A2 c2 A3 c3 A4 c4 b b.n) := by
 obtain ⟨_, _, _, _, rfl, ⟨A1, c1, rfl, _⟩, ⟨A2, c2, rfl, _⟩, ⟨A3, c3, rfl, _⟩, ⟨A4, c4, rfl, _⟩⟩ := h;exact ⟨A1, c1, A2, c2, A3, c3, A4, c4, rfl⟩
theorem canB_ref {b : Bk} {e : Ev} {o0 o1 o2 o3 o5 : Int} (h : o0 = e.ord) : canB b e = { b with o := setH o0 [o0, o1, o2, o3, 0, o5] ((0 : Int) == 0) b.o } := by
 subst h;unfold canB;rw [show ((0 : Int) == 0) = true from rfl]
 unfold setH;rw [zz43, zz43]
theorem zzap {P : Program} {fn : Func} {p p2 : Tmp} {ty ty2 : TypeId} {s1 : Tmp} (h : fn.results = #[.cell p ty, .cell p2 ty2, .tmp s1]) (tmps : Array Value) (w : World) (g g2 : Nat) (t t2 : TypeId) (cs cs2 : Array Value) (d d2 : TypeDesc)
  (hp : tmps.getD p undef = .pointer (some ⟨g, 0, none⟩)) (hg : w.heap[g]? = some (.cells cs t (0, 0)))
  (hu : P.underlying ty = some d) (hd : (match d with | .struct _ | .array _ _ => true | _ => false) = true) (hi : (P.info? ty).map (·.size) = some cs.size)
  (hp2 : tmps.getD p2 undef = .pointer (some ⟨g2, 0, none⟩)) (hg2 : w.heap[g2]? = some (.cells cs2 t2 (0, 0)))
  (hu2 : P.underlying ty2 = some d2) (hd2 : (match d2 with | .struct _ | .array _ _ => true | _ => false) = true) (hi2 : (P.info? ty2).map (·.size) = some cs2.size)
  (x : Value) (hx : tmps.getD s1 undef = x) : (results fn tmps).run P w = .ok (.tuple #[.agg cs, .agg cs2, x]) w := by
 subst hx;exact zt67
theorem zt5 {p : Prop} (h : p := by
 generalize hw : World.alloc _ _ = wa;replace K := zVa hw K;clear hw;(with_reducible refine (q5.out _ (zVb K)).mono ?_);rintro r wc ⟨v5, rfl, hO, hK, hb⟩;obtain ⟨U1, u1, U2, u2, U3, u3, U4, u4, hv5⟩ := hO.forms;rw [hnnb.out] at hv5;subst hv5;replace K := zVs K hb hO hK;clear hb hO hK;replace K := zVd (zVd K);have c := zVf K;go_wp2_with fail;clear c;generalize hs : World.setCell _ _ _ = ws;replace K := zVp6 hs K;clear hs;refine zSE [] 6 (zVy K) ?_;intro wd hb;replace K := zVk K hb;clear hb;refine zM [0, 1, 2] 3 (zVy K) ?_;simp only [opsAt, zA];refine zv ?_;refine zv ?_;refine zp ?_;unfold wpPure;go_simp;replace K := zVw K;have c := zVx K;refine zW 3 ?_;go_wp2_with fail;clear c;generalize hs : World.setCell _ _ _ = ws;replace K := zVp5 hs K;clear hs;refine zY ?_ fun _ => zEs (zVe K)
 replace K := zVw K;have c := zVx K;refine zW 4 ?_;go_wp2_with fail;clear c;generalize hs : World.setCell _ _ _ = ws;replace K := zVp2 hs K;clear hs;refine zY ?_ fun _ => zEs (zVe K)
 refine zW 5 ?_;go_wp2_with fail;refine zY ?_ fun _ => zEs (zVe K)
 refine zQe ?_;go_wp2_with fail;refine bodyPost_ret ?_ rfl ⟨_, _, rfl, (show BkAt _ _ _ by unfold gateB; rw [zz61 HC.out, hnb.out]; exact (zVu K).out.count (b.n + 1)), zVK K _, zVt K, zEb (zVe K)⟩
 exact zzap rfl _ _ _ _ _ _ _ _ _ _ rfl (zVg K).2 Tryz.underlying27 rfl zk rfl (zVg K).1 Tryz.underlying33 rfl zk _ rfl) : p := h
theorem zt31 {p : Prop} (h : p := by
 exact zzap rfl _ _ _ _ _ _ _ _ _ _ rfl (zVg K).2 Tryz.underlying27 rfl zk rfl (zVg K).1 Tryz.underlying33 rfl zk _ rfl) : p := h
theorem rStep_kin (vh vs vo vr : Value) (b : Bk) (e : Ev) (rate : Int) (w0 : World) (B0 : Hid (BkAt w0 (.agg #[vh, vs, vo, vr, b.n]) b)) (hs : Hid b.Small) (hi : Hid b.I64s) (hm : Hid (b.mayB = true)) (hE : Hid e.I64s) (hrt : Hid (I64 rate)) (hpr : Hid (∀ sym, 0 ≤ priceOf b sym)) (hN : Hid (0 ≤ b.n ∧ b.n ≤ 1099511627776)) :
  Calls Tryz.prog 13 #[.agg #[vh, vs, vo, vr, b.n], e.val, .int .i64 rate] w0 fun r w' => ∃ v vS, r = .returned (.tuple #[v, .agg #[.int .i64 (gateV b e rate).1, .int .i64 (gateV b e rate).2], vS]) ∧ BkAt w' v (gateB b e rate) ∧ Kin w0.heap.size (.agg #[vh, vs, vo, vr, b.n]) v ∧ StepsAt w' vS (gateL b e rate) ∧ Below w0.heap.size w0 w' := by
 unfold Ev.val;obtain ⟨_, _, _, _, hv, r1, r2, r3, r4⟩ := B0.out;injection hv with hv
 simp only [Array.mk.injEq, List.cons.injEq, and_true] at hv;obtain ⟨rfl, rfl, rfl, rfl, _⟩ := hv;have LH : Hid (∀ r ∈ b.h, r.length = 4) := (by obtain ⟨_, _, _, h, _⟩ := r1; exact h)
 have LO : Hid (∀ r ∈ b.o, r.length = 6) := (by obtain ⟨_, _, _, h, _⟩ := r3; exact h)
 have F1 : b.h.length ≤ 1000000 ∧ b.o.length ≤ 1000000 ∧ b.r.length ≤ 1000000 := by have := hs.out; unfold Bk.Small at this; omega
 have HL1 := zH F1;clear F1;obtain ⟨Ah, ch, rfl, _⟩ := r1;obtain ⟨As, cs, rfl, _⟩ := r2;obtain ⟨Ao, co, rfl, _⟩ := r3;obtain ⟨Ar, cr, rfl, _⟩ := r4;have hwr : IntKind.i64.wrap (b.n + 1) = b.n + 1 := by rw [IntKind.wrap_i64]; have := hN.out; omega
 obtain ⟨C, hC⟩ : ∃ C, ((gateV b e rate).1 == 0) = C := ⟨_, rfl⟩;have hC2 : ((goW (gateL b e rate) 0).1 == 0) = C := hC;have HC := zH ((zzbg b e rate).symm.trans hC);clear hC;have K := zEa4 (c := (BF Ah ch As cs Ao co Ar cr b b.n)) (t := 27) (c2 := #[e.kind, e.acc, e.ord, e.sym, e.side, e.qty, e.px]) (t2 := 29) (c3 := BZ) (t3 := 27) (c4 := #[.int .i64 0, .int .i64 0]) (t4 := 33) rfl (zE0 w0);have q1 := zH (fun wz hv => zzav (.slice Ah b.h.length ch) (.slice As b.s.length cs) (.slice Ao b.o.length co) (.slice Ar b.r.length cr) b e rate wz hv hs hi hm hE hrt hpr)
 unfold Ev.val at q1;have c := zEc K;go_in;go_wp2_with fail;generalize hw : World.alloc _ _ = wb;rw [hw] at K;clear c hw;(with_reducible refine (q1.out _ (zH (B0.out.call (zEb K)))).mono ?_);rintro r wc ⟨v5, rfl, hS, hb⟩;obtain ⟨AS, cS, rfl⟩ := hS.form;replace K := zV0 (zEk K hb) hS B0;clear hb hS q1;go_wp2_with fail;(with_reducible refine (zzat _ _ _ (zH (zVt K)) (Nat.le_trans (zz2w b e rate) zx)).mono ?_);rintro r wc ⟨rfl, hb⟩;replace K := zVk K hb;clear hb;cases C with
 | false =>
  have c := zVc K;go_wp2_with fail;clear c;generalize hw : World.alloc _ _ = wa;replace K := zVa2 hw K;clear hw;refine zSE [] 6 (zVy K) ?_;intro wd hb;replace K := zVk K hb;clear hb;refine zM [0, 1, 2] 3 (zVy K) ?_;simp only [opsAt, zA];refine zv ?_;refine zv ?_;refine zp ?_;unfold wpPure;go_simp;replace K := zVw K;have c := zVx K;refine zW 3 ?_;go_wp2_with fail;clear c;generalize hs : World.setCell _ _ _ = ws;replace K := zVp5 hs K;clear hs;refine zY ?_ fun _ => zEs (zVe K)
  replace K := zVw K;have c := zVx K;refine zW 4 ?_;go_wp2_with fail;clear c;generalize hs : World.setCell _ _ _ = ws;replace K := zVp2 hs K;clear hs;refine zY ?_ fun _ => zEs (zVe K)
  refine zW 5 ?_;go_wp2_with fail;refine zY ?_ fun _ => zEs (zVe K)
  refine zQe ?_;go_wp2_with fail;refine bodyPost_ret ?_ rfl ⟨_, _, rfl, (show BkAt _ _ _ by unfold gateB; rw [doneB_no HC.out]; exact (zVb K).out.count (b.n + 1)), zVK K _, zVt K, zEb (zVe K)⟩
  exact zt31
 | true =>
  obtain ⟨rh, FH, hl1, hx1⟩ := zz16 LH.out (isId e.acc)
  match rh, hl1, hx1 with
  | [h0, h1, h2, h3], _, hx1 =>
  have hF : FH = hasH b e.acc := zz0q hx1;subst hF;have HX1 := zH hx1;clear hx1;obtain ⟨ro, FO, hl2, hx2⟩ := zz16 LO.out (isId e.ord)
  match ro, hl2, hx2 with
  | [o0, o1, o2, o3, o4, o5], _, hx2 =>
  have hFo : FO = hasO b e.ord := zz0q hx2;subst hFo;have HX2 := zH hx2;clear hx2;have c := zVc K;go_wp2_with fail;clear c;generalize hw : World.alloc _ _ = wa;replace K := zVa2 hw K;clear hw;(with_reducible refine (zz1j _ b e.acc h0 h1 h2 h3 _ _ (zVb K) HL1.out.1 HX1).mono ?_);rintro r wc ⟨rfl, hb⟩;replace K := zVk K hb;clear hb;have c := zVc K;go_wp2_with fail;clear c;generalize hw : World.alloc _ _ = wa;replace K := zVa hw K;clear hw;(with_reducible refine (zz8i _ b e.ord o0 o1 o2 o3 o4 o5 _ _ (zVb K) HL1.out.2.1 HX2).mono ?_);rintro r wc ⟨rfl, hb⟩;replace K := zVk K hb;clear hb;have hk : 1 ≤ e.kind ∧ e.kind ≤ 7 := (zz8t e).1 (by have h := HC.out; unfold allS at h; rw [List.all_append, Bool.and_eq_true] at h; exact h.1)
  have hk7 : e.kind = 1 ∨ e.kind = 2 ∨ e.kind = 3 ∨ e.kind = 4 ∨ e.kind = 5 ∨ e.kind = 6 ∨ e.kind = 7 := by omega
  clear hk;rcases hk7 with hk | hk | hk | hk | hk | hk | hk
  ·skip
   have tk1 : (e.kind == 1) = true := by rw [hk]; rfl
   have hkS : (kindS b e rate).all (·.holds) = true := by have h := HC.out; unfold allS at h; rw [List.all_append, Bool.and_eq_true] at h; exact h.2
   obtain ⟨nb, hnb⟩ : ∃ nb : Bk, newB b e = nb := ⟨_, rfl⟩;have hnnb : Hid (nb.n = b.n) := (by rw [← hnb]; exact zz9w b e : nb.n = b.n)
   replace hnb := zH hnb;have q5 : Hid (∀ wz : World, Hid (BkAt wz (.agg (BF Ah ch As cs Ao co Ar cr b b.n)) b) → Calls Tryz.prog 43 #[.agg (BF Ah ch As cs Ao co Ar cr b b.n), .agg #[e.acc, e.qty, .int .i64 9223372036854775807, .int .i64 9223372036854775807]] wz fun r w' => ∃ v', r = .returned v' ∧ BkAt w' v' nb ∧ Kin wz.heap.size (.agg (BF Ah ch As cs Ao co Ar cr b b.n)) v' ∧ Below wz.heap.size wz w') := (show _ from fun wz hv => by rw [← hnb.out, show newB b e = accB b e from by unfold newB; simp [hk]]; exact zz20 _ b e.acc e.qty 9223372036854775807 9223372036854775807 wz hv HL1.out.1)
   have c := zVc K;go_wp2_with fail;clear c;exact zt5
  ·skip
   have tk1 : (e.kind == 1) = false := by rw [hk]; rfl
   have tk2 : (e.kind == 2) = true := by rw [hk]; rfl
   have hkS : (kindS b e rate).all (·.holds) = true := by have h := HC.out; unfold allS at h; rw [List.all_append, Bool.and_eq_true] at h; exact h.2
   have hrec : recH b e.acc = [h0, h1, h2, h3] := by unfold recH; rw [HX1.out]
   obtain ⟨nb, hnb⟩ : ∃ nb : Bk, newB b e = nb := ⟨_, rfl⟩;have hnnb : Hid (nb.n = b.n) := (by rw [← hnb]; exact zz9w b e : nb.n = b.n)
   replace hnb := zH hnb;have q5 : Hid (∀ wz : World, Hid (BkAt wz (.agg (BF Ah ch As cs Ao co Ar cr b b.n)) b) → Calls Tryz.prog 43 #[.agg (BF Ah ch As cs Ao co Ar cr b b.n), .agg #[h0, h1, e.qty, e.px]] wz fun r w' => ∃ v', r = .returned v' ∧ BkAt w' v' nb ∧ Kin wz.heap.size (.agg (BF Ah ch As cs Ao co Ar cr b b.n)) v' ∧ Below wz.heap.size wz w') := (show _ from fun wz hv => by rw [← hnb.out, show newB b e = limB b e from by unfold newB; simp [hk], show limB b e = { b with h := setH h0 [h0, h1, e.qty, e.px] false b.h } from by unfold limB; rw [hrec]; rfl]; exact zz20 _ b h0 h1 e.qty e.px wz hv HL1.out.1)
   clear hrec;have c := zVx K;go_wp2_with fail;clear c;generalize hs : World.setCell _ _ _ = ws;replace K := zVh hs K;clear hs;exact zt5
  ·skip
   have tk1 : (e.kind == 1) = false := by rw [hk]; rfl
   have tk2 : (e.kind == 2) = false := by rw [hk]; rfl
   have tk3 : (e.kind == 3) = true := by rw [hk]; rfl
   have hkS : (kindS b e rate).all (·.holds) = true := by have h := HC.out; unfold allS at h; rw [List.all_append, Bool.and_eq_true] at h; exact h.2
   obtain ⟨nb, hnb⟩ : ∃ nb : Bk, newB b e = nb := ⟨_, rfl⟩;have hnnb : Hid (nb.n = b.n) := (by rw [← hnb]; exact zz9w b e : nb.n = b.n)
   replace hnb := zH hnb;have q5 : Hid (∀ wz : World, Hid (BkAt wz (.agg (BF Ah ch As cs Ao co Ar cr b b.n)) b) → Calls Tryz.prog 44 #[.agg (BF Ah ch As cs Ao co Ar cr b b.n), .agg #[e.sym, e.px]] wz fun r w' => ∃ v', r = .returned v' ∧ BkAt w' v' nb ∧ Kin wz.heap.size (.agg (BF Ah ch As cs Ao co Ar cr b b.n)) v' ∧ Below wz.heap.size wz w') := (show _ from fun wz hv => by rw [← hnb.out, show newB b e = quoB b e from by unfold newB; simp [hk]]; exact zz7p _ b e.sym e.px wz hv HL1.out.2.2)
   have c := zVc K;go_wp2_with fail;clear c;exact zt5
  ·skip
   have tk1 : (e.kind == 1) = false := by rw [hk]; rfl
   have tk2 : (e.kind == 2) = false := by rw [hk]; rfl
   have tk3 : (e.kind == 3) = false := by rw [hk]; rfl
   have tk4 : (e.kind == 4) = true := by rw [hk]; rfl
   have hkS : (kindS b e rate).all (·.holds) = true := by have h := HC.out; unfold allS at h; rw [List.all_append, Bool.and_eq_true] at h; exact h.2
   obtain ⟨nb, hnb⟩ : ∃ nb : Bk, newB b e = nb := ⟨_, rfl⟩;have hnnb : Hid (nb.n = b.n) := (by rw [← hnb]; exact zz9w b e : nb.n = b.n)
   replace hnb := zH hnb;have q5 : Hid (∀ wz : World, Hid (BkAt wz (.agg (BF Ah ch As cs Ao co Ar cr b b.n)) b) → Calls Tryz.prog 45 #[.agg (BF Ah ch As cs Ao co Ar cr b b.n), .agg #[e.ord, e.acc, e.sym, e.side, e.qty, e.px]] wz fun r w' => ∃ v', r = .returned v' ∧ BkAt w' v' nb ∧ Kin wz.heap.size (.agg (BF Ah ch As cs Ao co Ar cr b b.n)) v' ∧ Below wz.heap.size wz w') := (show _ from fun wz hv => by rw [← hnb.out, show newB b e = ordB b e from by unfold newB; simp [hk]]; exact zz2q _ b e.ord e.acc e.sym e.side e.qty e.px wz hv HL1.out.2.1)
   have c := zVc K;go_wp2_with fail;clear c;exact zt5
  ·skip
   have tk1 : (e.kind == 1) = false := by rw [hk]; rfl
   have tk2 : (e.kind == 2) = false := by rw [hk]; rfl
   have tk3 : (e.kind == 3) = false := by rw [hk]; rfl
   have tk4 : (e.kind == 4) = false := by rw [hk]; rfl
   have tk5 : (e.kind == 5) = true := by rw [hk]; rfl
   have hkS : (kindS b e rate).all (·.holds) = true := by have h := HC.out; unfold allS at h; rw [List.all_append, Bool.and_eq_true] at h; exact h.2
   have hcs : (fillS b e).all (·.holds) = true := by have h := hkS; unfold kindS at h; simpa [hk] using h
   obtain ⟨hfo, hfq, _, hfl⟩ := zz60 b e hcs;clear hcs;have hro : recO b e.ord = [o0, o1, o2, o3, o4, o5] := by unfold recO; rw [HX2.out]
   have hfl2 : e.qty ≤ o4 := by rw [hro] at hfl; exact hfl
   have hO4 : I64 o4 := by
    have h := (zz7o hfo).1;rw [hro] at h;exact hi.out.2.2.1 _ h _ (by simp)
   have hsub : IntKind.i64.wrap (o4 - e.qty) = o4 - e.qty := by rw [IntKind.wrap_i64]; unfold I64 at hO4; have := hE.out.qty; unfold I64 at this; omega
   clear hfl hfo hfq hO4;obtain ⟨rg, FG, hl3, hx3⟩ := zz16 LH.out (isId o1)
   match rg, hl3, hx3 with
   | [g0, g1, g2, g3], _, hx3 =>
   have HX3 := zH hx3;clear hx3;have hrg : recH b o1 = [g0, g1, g2, g3] := by unfold recH; rw [HX3.out]
   obtain ⟨AF, hAF⟩ : ∃ AF, afterR b o1 o2 o3 e.qty e.px = AF := ⟨_, rfl⟩;obtain ⟨⟨c, cf⟩, ⟨s, sf⟩⟩ := AF;have qA := zH (fun wz hv => zz6w (.agg (BF Ah ch As cs Ao co Ar cr b b.n)) b o0 o1 o2 o3 o4 o5 e.qty e.px wz hv hs hi hE.out.qty hE.out.px)
   rw [hAF] at qA;obtain ⟨nb1, hnb1⟩ : ∃ nb1 : Bk, ({ b with h := setH g0 [g0, c, g2, g3] false b.h } : Bk) = nb1 := ⟨_, rfl⟩
   obtain ⟨nb2, hnb2⟩ : ∃ nb2 : Bk, ({ nb1 with s := setS o1 o2 [o1, o2, s] (s == 0) nb1.s } : Bk) = nb2 := ⟨_, rfl⟩
   obtain ⟨nb, hnb3⟩ : ∃ nb : Bk, ({ nb2 with o := setH o0 [o0, o1, o2, o3, o4 - e.qty, o5] (o4 - e.qty == 0) nb2.o } : Bk) = nb := ⟨_, rfl⟩
   have hnb : Hid (newB b e = nb) := (by
    show newB b e = nb;rw [← hnb3, ← hnb2, ← hnb1, show newB b e = fillB b e from by unfold newB; simp [hk]]
    unfold fillB afterE;rw [hro];show fillX b [o0, o1, o2, o3, o4, o5] (recH b o1) (afterR b o1 o2 o3 e.qty e.px).1.1 (afterR b o1 o2 o3 e.qty e.px).2.1 e.qty = _;rw [hrg, hAF]
    rfl)
   have hnnb1 : Hid (nb1.n = b.n) := (show nb1.n = b.n by rw [← hnb1])
   have hnnb2 : Hid (nb2.n = b.n) := (show nb2.n = b.n by rw [← hnb2, ← hnb1])
   have hnnb : Hid (nb.n = b.n) := (show nb.n = b.n by rw [← hnb3, ← hnb2, ← hnb1])
   have hl1s : Hid (nb1.s.length ≤ 1000000) := (show nb1.s.length ≤ 1000000 by rw [← hnb1]; have := hs.out; unfold Bk.Small at this; show b.s.length ≤ 1000000; omega)
   have hl2o : Hid (nb2.o.length ≤ 1000000) := (show nb2.o.length ≤ 1000000 by rw [← hnb2, ← hnb1]; exact HL1.out.2.1)
   have qH : Hid (∀ wz : World, Hid (BkAt wz (.agg (BF Ah ch As cs Ao co Ar cr b b.n)) b) → Calls Tryz.prog 43 #[.agg (BF Ah ch As cs Ao co Ar cr b b.n), .agg #[g0, c, g2, g3]] wz fun r w' => ∃ v', r = .returned v' ∧ BkAt w' v' nb1 ∧ Kin wz.heap.size (.agg (BF Ah ch As cs Ao co Ar cr b b.n)) v' ∧ Below wz.heap.size wz w') := (show _ from fun wz hv => by rw [← hnb1]; exact zz20 _ b g0 c g2 g3 wz hv HL1.out.1)
   have qS : Hid (∀ (u : Value) (wz : World), Hid (BkAt wz u nb1) → Calls Tryz.prog 47 #[u, .agg #[o1, o2, s]] wz fun r w' => ∃ v', r = .returned v' ∧ BkAt w' v' nb2 ∧ Kin wz.heap.size u v' ∧ Below wz.heap.size wz w') := (show _ from fun u wz hv => by rw [← hnb2]; exact zz6u u nb1 o1 o2 s wz hv hl1s.out)
   have qO : Hid (∀ (u : Value) (wz : World), Hid (BkAt wz u nb2) → Calls Tryz.prog 45 #[u, .agg #[o0, o1, o2, o3, .int .i64 (o4 - e.qty), o5]] wz fun r w' => ∃ v', r = .returned v' ∧ BkAt w' v' nb ∧ Kin wz.heap.size u v' ∧ Below wz.heap.size wz w') := (show _ from fun u wz hv => by rw [← hnb3]; exact zz2q u nb2 o0 o1 o2 o3 (o4 - e.qty) o5 wz hv hl2o.out)
   clear hnb1 hnb2 hnb3 hro hrg hAF hfl2 hkS;have c := zVc K;go_wp2_with fail;clear c;generalize hw : World.alloc _ _ = wa;replace K := zVa hw K;clear hw;(with_reducible refine (qA.out _ (zVb K)).mono ?_);rintro r wc ⟨rfl, hb⟩;replace K := zVk K hb;clear hb;replace K := zVd (zVq K);have c := zVc K;go_wp2_with fail;clear c;(with_reducible refine (zz1j _ b o1 g0 g1 g2 g3 FG _ (zVb K) HL1.out.1 HX3).mono ?_);rintro r wc ⟨rfl, hb⟩;replace K := zVk K hb;clear hb;have c := zVc K;go_wp2_with fail;clear c;generalize hw : World.alloc _ _ = wa;replace K := zVa hw K;clear hw;(with_reducible refine (qH.out _ (zVb K)).mono ?_);rintro r wc ⟨v5, rfl, hO, hK, hb⟩;obtain ⟨U1, u1, U2, u2, U3, u3, U4, u4, hv5⟩ := hO.forms;rw [hnnb1.out] at hv5;subst hv5;replace K := zVs K hb hO hK;clear hb hO hK;replace K := zVq (zVd K);have c := zVz K;go_wp2_with fail;clear c;generalize hs : World.setCell _ _ _ = ws;replace K := zVp5 hs K;clear hs;(with_reducible refine (qS.out _ _ (zVu K)).mono ?_);rintro r wc ⟨v5, rfl, hO, hK, hb⟩;obtain ⟨U1, u1, U2, u2, U3, u3, U4, u4, hv5⟩ := hO.forms;rw [hnnb2.out] at hv5;subst hv5;replace K := zVs K hb hO hK;clear hb hO hK;have c := zVz K;go_wp2_with fail;clear c;generalize hs : World.setCell _ _ _ = ws;replace K := zVp51 hs K;clear hs;(with_reducible refine (qO.out _ _ (zVu K)).mono ?_);rintro r wc ⟨v5, rfl, hO, hK, hb⟩;obtain ⟨U1, u1, U2, u2, U3, u3, U4, u4, hv5⟩ := hO.forms;rw [hnnb.out] at hv5;subst hv5;replace K := zVs K hb hO hK;clear hb hO hK;replace K := zVd (zVq K);have c := zVf K;go_wp2_with fail;clear c;generalize hs : World.setCell _ _ _ = ws;replace K := zVp6 hs K;clear hs;refine zSE [] 6 (zVy K) ?_;intro wd hb;replace K := zVk K hb;clear hb;refine zM [0, 1, 2] 3 (zVy K) ?_;simp only [opsAt, zA];refine zv ?_;refine zv ?_;refine zp ?_;unfold wpPure;go_simp;replace K := zVw K;have c := zVx K;refine zW 3 ?_;go_wp2_with fail;clear c;generalize hs : World.setCell _ _ _ = ws;replace K := zVp5 hs K;clear hs;refine zY ?_ fun _ => zEs (zVe K)
   replace K := zVw K;have c := zVx K;refine zW 4 ?_;go_wp2_with fail;clear c;generalize hs : World.setCell _ _ _ = ws;replace K := zVp2 hs K;clear hs;refine zY ?_ fun _ => zEs (zVe K)
   refine zW 5 ?_;go_wp2_with fail;refine zY ?_ fun _ => zEs (zVe K)
   refine zQe ?_;go_wp2_with fail;refine bodyPost_ret ?_ rfl ⟨_, _, rfl, (show BkAt _ _ _ by unfold gateB; rw [zz61 HC.out, hnb.out]; exact (zVu K).out.count (b.n + 1)), zVK K _, zVt K, zEb (zVe K)⟩
   exact zt31
  ·skip
   have tk1 : (e.kind == 1) = false := by rw [hk]; rfl
   have tk2 : (e.kind == 2) = false := by rw [hk]; rfl
   have tk3 : (e.kind == 3) = false := by rw [hk]; rfl
   have tk4 : (e.kind == 4) = false := by rw [hk]; rfl
   have tk5 : (e.kind == 5) = false := by rw [hk]; rfl
   have tk6 : (e.kind == 6) = true := by rw [hk]; rfl
   have hkS : (kindS b e rate).all (·.holds) = true := by have h := HC.out; unfold allS at h; rw [List.all_append, Bool.and_eq_true] at h; exact h.2
   have hcs : (canS b e).all (·.holds) = true := by have h := hkS; unfold kindS at h; simpa [hk] using h
   have ho0 : o0 = e.ord := by have h := (zz7o ((zzbv b e).1 hcs)).2; unfold recO at h; rw [HX2.out] at h; exact h
   obtain ⟨nb, hnb⟩ : ∃ nb : Bk, newB b e = nb := ⟨_, rfl⟩;have hnnb : Hid (nb.n = b.n) := (by rw [← hnb]; exact zz9w b e : nb.n = b.n)
   replace hnb := zH hnb;have q5 : Hid (∀ wz : World, Hid (BkAt wz (.agg (BF Ah ch As cs Ao co Ar cr b b.n)) b) → Calls Tryz.prog 45 #[.agg (BF Ah ch As cs Ao co Ar cr b b.n), .agg #[o0, o1, o2, o3, .int .i64 0, o5]] wz fun r w' => ∃ v', r = .returned v' ∧ BkAt w' v' nb ∧ Kin wz.heap.size (.agg (BF Ah ch As cs Ao co Ar cr b b.n)) v' ∧ Below wz.heap.size wz w') := (show _ from fun wz hv => by rw [← hnb.out, show newB b e = canB b e from by unfold newB; simp [hk], canB_ref (o1 := o1) (o2 := o2) (o3 := o3) (o5 := o5) ho0]; exact zz2q _ b o0 o1 o2 o3 0 o5 wz hv HL1.out.2.1)
   clear hcs ho0;have c := zVc K;go_wp2_with fail;clear c;exact zt5
  ·skip
   have tk1 : (e.kind == 1) = false := by rw [hk]; rfl
   have tk2 : (e.kind == 2) = false := by rw [hk]; rfl
   have tk3 : (e.kind == 3) = false := by rw [hk]; rfl
   have tk4 : (e.kind == 4) = false := by rw [hk]; rfl
   have tk5 : (e.kind == 5) = false := by rw [hk]; rfl
   have tk6 : (e.kind == 6) = false := by rw [hk]; rfl
   replace K := zVd K;have c := zVx K;go_wp2_with fail;clear c;generalize hs : World.setCell _ _ _ = ws;replace K := zVn hs K;clear hs;generalize hw : World.alloc _ _ = wa;replace K := zVa hw K;clear hw;replace K := zVd K;refine zSE [] 6 (zVy K) ?_;intro wd hb;replace K := zVk K hb;clear hb;refine zM [0, 1, 2] 3 (zVy K) ?_;simp only [opsAt, zA];refine zv ?_;refine zv ?_;refine zp ?_;unfold wpPure;go_simp;replace K := zVw K;have c := zVx K;refine zW 3 ?_;go_wp2_with fail;clear c;generalize hs : World.setCell _ _ _ = ws;replace K := zVp5 hs K;clear hs;refine zY ?_ fun _ => zEs (zVe K)
   replace K := zVw K;have c := zVx K;refine zW 4 ?_;go_wp2_with fail;clear c;generalize hs : World.setCell _ _ _ = ws;replace K := zVp2 hs K;clear hs;refine zY ?_ fun _ => zEs (zVe K)
   refine zW 5 ?_;go_wp2_with fail;refine zY ?_ fun _ => zEs (zVe K)
   refine zQe ?_;go_wp2_with fail;refine bodyPost_ret ?_ rfl ⟨_, _, rfl, (show BkAt _ _ _ by unfold gateB; rw [zz61 HC.out, show newB b e = b from by unfold newB; simp [hk]]; exact (zVb K).out.count (b.n + 1)), zVK K _, zVt K, zEb (zVe K)⟩
   exact zt31
theorem rStep_any (vh vs vo vr : Value) (b : Bk) (e : Ev) (rate : Int) (w0 : World) (B0 : Hid (BkAt w0 (.agg #[vh, vs, vo, vr, b.n]) b)) (hs : Hid b.Small) (hi : Hid b.I64s) (hm : Hid (b.mayB = true)) (hE : Hid e.I64s) (hrt : Hid (I64 rate)) (hpr : Hid (∀ sym, 0 ≤ priceOf b sym)) (hN : Hid (0 ≤ b.n ∧ b.n ≤ 1099511627776)) :
  Calls Tryz.prog 13 #[.agg #[vh, vs, vo, vr, b.n], e.val, .int .i64 rate] w0 fun r w' => ∃ v vS, r = .returned (.tuple #[v, .agg #[.int .i64 (gateV b e rate).1, .int .i64 (gateV b e rate).2], vS]) ∧ BkAt w' v (gateB b e rate) ∧ StepsAt w' vS (gateL b e rate) ∧ Below w0.heap.size w0 w' :=
 (rStep_kin vh vs vo vr b e rate w0 B0 hs hi hm hE hrt hpr hN).mono fun r w' ⟨v, vS, h1, h2, _, h3, h4⟩ => ⟨v, vS, h1, h2, h3, h4⟩
def Stp.eqD (a b : Stp) : Decidable (a = b) :=
 if h : a.rule = b.rule ∧ a.left = b.left ∧ a.right = b.right ∧ a.over = b.over then .isTrue (by cases a; cases b; simp_all) else .isFalse (fun e => h (by subst e; simp))
instance : DecidableEq Stp := Stp.eqD
end
section
open Go Go.RowKit Mon
def bZ : Bk := ⟨[], [], [], [], 0⟩
theorem RowAt.zero (w : World) (k : Nat) : RowAt w (.slice none 0 0) k [] := ⟨none, 0, rfl, by simp, .inl rfl⟩
theorem BkAt.zero (w : World) : BkAt w (.agg BZ) bZ := ⟨_, _, _, _, rfl, RowAt.zero w 4, RowAt.zero w 3, RowAt.zero w 6, RowAt.zero w 2⟩
theorem StepsAt.formS {w : World} {v : Value} {l : List Stp} (h : StepsAt w v l) : ∃ A c, v = .slice A l.length c := by
 obtain ⟨A, c, rfl, _⟩ := h;exact ⟨A, c, rfl⟩
theorem may_bad {b : Bk} {rate : Int} (h : (b.mayB && (decide (0 ≤ rate) && decide (rate ≤ 1000))) = false) : b.mayB = false ∨ decide (rate < 0) = true ∨ decide (1000 < rate) = true ∧ (b.n == 1099511627776) = (b.n == 1099511627776) := by
 rw [Bool.and_eq_false_iff, Bool.and_eq_false_iff] at h;rcases h with h | h | h
 ·exact .inl h
 ·exact .inr (.inl (decide_eq_true (by have := of_decide_eq_false h; omega)))
 ·exact .inr (.inr ⟨decide_eq_true (by have := of_decide_eq_false h; omega), rfl⟩)
theorem may_good {b : Bk} {rate : Int} (h : (b.mayB && (decide (0 ≤ rate) && decide (rate ≤ 1000))) = true) : b.mayB = true ∧ 0 ≤ rate ∧ rate ≤ 1000 := by
 rw [Bool.and_eq_true, Bool.and_eq_true] at h;exact ⟨h.1, of_decide_eq_true h.2.1, of_decide_eq_true h.2.2⟩
def eE0 : Ev := ⟨4, 0, 0, 0, 0, 1, 1⟩
theorem gate_eg : gateV bZ eE0 20 = (3, 0) ∧ gateL bZ eE0 20 = [⟨1, 4, 1, false⟩, ⟨2, 4, 7, false⟩, ⟨3, 0, 0, false⟩, ⟨4, 0, 1, false⟩, ⟨5, 1, 1, false⟩, ⟨6, 1, 1, false⟩, ⟨10, 0, 1, false⟩] ∧ (gateB bZ eE0 20).n = 1 := by
 refine ⟨?_, ?_, ?_⟩ <;> decide +kernel
theorem alive17 (w : World) (hT : Hid (Law16 w)) : Calls Tryz.prog 8 #[] w fun e w' => e = .returned (.bool true) ∧ Below w.heap.size w w' := by
 obtain ⟨g1, g2, g3⟩ := gate_eg;have q1 := zzbi (.slice none 0 0) (.slice none 0 0) (.slice none 0 0) (.slice none 0 0) bZ eE0 20 w hT (zH (BkAt.zero w)) (zH (by unfold Bk.Small bZ; simp)) (zH (by unfold Bk.I64s bZ; simp)) (zH (show bZ.mayB = true by decide +kernel)) (zH (show eE0.I64s from ⟨zz0l zx, zz0l zx, zz0l zx, zz0l zx, zz0l zx, zz0l zx, zz0l zx⟩)) (zH zx) zx zx
 rw [g1, g2] at q1;obtain ⟨nb, hnb⟩ : ∃ nb, gateB bZ eE0 20 = nb := ⟨_, rfl⟩;rw [hnb] at q1 g3;clear hnb g1 g2;have q1 : Calls Tryz.prog 10 #[.agg BZ, .agg #[.int .i64 4, .int .i64 0, .int .i64 0, .int .i64 0, .int .i64 0, .int .i64 1, .int .i64 1], .int .i64 20] w _ := q1;have Q1 := zH q1;clear q1;go_in;go_wp2_with fail;(with_reducible refine Q1.out.mono ?_);rintro r w1 ⟨v5, vS, rfl, hO, hS, hb⟩;clear Q1;obtain ⟨U1, u1, U2, u2, U3, u3, U4, u4, hv5⟩ := hO.at.forms;rw [g3] at hv5;subst hv5;obtain ⟨A, c, hvS, hi⟩ := hS;subst hvS;obtain ⟨_, bb, o, rfl, hlt, c0, c1, c2, c3⟩ := hi 6 _ rfl;have HB := zH hb;clear hO hi g3 hb;have c0 : w1.cell? ⟨bb, o + 6 * 4, none⟩ = some (.int .i64 10) := c0;have c1 : w1.cell? ⟨bb, o + 6 * 4 + 1, none⟩ = some (.int .i64 0) := c1;have c2 : w1.cell? ⟨bb, o + 6 * 4 + 2, none⟩ = some (.int .i64 1) := c2;have c3 : w1.cell? ⟨bb, o + 6 * 4 + 3, none⟩ = some (.bool false) := c3;simp only [List.length_cons, List.length_nil] at *;go_wp2_with fail;go_ret;exact ⟨rfl, zz01 (zz01 HB.out HB.out.size _) (by have := HB.out.size; simp; omega) _⟩
theorem zt58 {p : Prop} (h : p := by
 go_in;go_wp2_with fail;(with_reducible refine (q.out _ _ (zH (hb.out.call HB.out))).mono ?_);rintro r w1 ⟨rfl, hb1⟩;have HB1 := zB HB hb1;clear hb1;cases M <;> (go_wp2_with fail; go_ret; exact ⟨rfl, HB1.out⟩)) : p := h
theorem may17_any (v : Value) (b : Bk) (rate : Int) (w : World) (hb : Hid (BkAt w v b)) (hs : Hid b.Small) :
  Calls Tryz.prog 11 #[v, .int .i64 rate] w fun e w' => e = .returned (.bool (b.mayB && (decide (0 ≤ rate) && decide (rate ≤ 1000)))) ∧ Below w.heap.size w w' := by
 obtain ⟨Ah, ch, As, cs, Ao, co, Ar, cr, rfl⟩ := hb.out.forms;have HB : Hid (Below w.heap.size w (w.alloc (.cells (BF Ah ch As cs Ao co Ar cr b b.n) 27))) := zBa;have q := zH (fun u wz h => zzax u b wz h hs)
 obtain ⟨M, hM⟩ : ∃ M, b.mayB = M := ⟨_, rfl⟩;rw [hM] at q ⊢;clear hM;by_cases h1 : 0 ≤ rate
 ·by_cases h2 : rate ≤ 1000
  ·have t1 : decide (0 ≤ rate) = true := decide_eq_true h1
   have t2 : decide (rate ≤ 1000) = true := decide_eq_true h2;rw [t1, t2];exact zt58
  ·have t1 : decide (0 ≤ rate) = true := decide_eq_true h1
   have t2 : decide (rate ≤ 1000) = false := decide_eq_false h2;rw [t1, t2];exact zt58
 ·have t1 : decide (0 ≤ rate) = false := decide_eq_false h1
  rw [t1];exact zt58
end
section
open Go Go.Lib Shelf
theorem zz5f {n : Nat} (h : n ≤ 9223372036854775808) : (decDigits n).length ≤ 19 := by
 rw [decDigits_length];have key : ∀ k n, n < 10 ^ (k + 1) → nDigits n ≤ k + 1 := by
  intro k;induction k with
  | zero => intro n hn; rw [nDigits_small zw]; omega
  | succ k ih =>
   intro n hn;by_cases h1 : n < 10
   ·rw [nDigits_small h1]; omega
   ·rw [nDigits_big h1]
    have := ih (n / 10) (by rw [Nat.pow_succ] at hn; omega)
    omega
 exact key 18 n (by have : (10 : Nat) ^ 19 = 10000000000000000000 := by decide
                    omega)
theorem zz0o {x : Int} (h0 : -9223372036854775808 ≤ x) (h1 : x ≤ 9223372036854775807) : (itoa x).length ≤ 20 := by
 unfold itoa
 split
 ·have := zz5f (n := x.natAbs) zw
  simp; omega
 ·have := zz5f (n := x.toNat) zw
  omega
theorem itoa_neg {x : Int} (h : x < 0) : itoa x = 45 :: decDigits x.natAbs := if_pos h
theorem itoa_of (n : Nat) : itoa (n : Int) = decDigits n := by
 unfold itoa; rw [if_neg zw]; rfl
def restD (m : Nat) (s : List UInt8) : List UInt8 := if m = 0 then s else decDigits m ++ s
theorem zz9g {n : Nat} (h : 0 < n) : restD n [] = decDigits n := by
 unfold restD; rw [if_neg zw]; simp
theorem zzaq {m : Nat} (h : 0 < m) (s : List UInt8) : restD (m / 10) (UInt8.ofNat (48 + m % 10) :: s) = restD m s := by
 unfold restD;rw [if_neg (show ¬ m = 0 by omega)]
 by_cases h1 : m < 10
 ·rw [if_pos (show m / 10 = 0 by omega), decDigits_one h1, show m % 10 = m by omega]; rfl
 ·rw [if_neg (show ¬ m / 10 = 0 by omega), decDigits.eq_def m, dif_neg h1]
  simp
theorem restD_len {m n : Nat} {s : List UInt8} (h : restD m s = decDigits n) (hn : n ≤ 9223372036854775808) : s.length ≤ 19 := by
 have := zz5f hn;rw [← h] at this;unfold restD at this
 split at this
 ·exact this
 ·rw [List.length_append] at this; omega
end
end Go.Proofs.YtajogedbacpohaaGreatDoor
namespace Go.Proofs
section
open Go.Shelf
def Tryz.lays156_ren : Go.Shelf.Ren := ⟨fun | 156 => 56 | 165 => 119 | 166 => 120 | 169 => 121 | 240 => 165 | 241 => 166 | 276 => 196 | 277 => 197 | n => n, fun | 31 => 107 | 9 => 9 | 3 => 3 | 4 => 4 | 0 => 0 | 20 => 20 | 72 => 162 | 76 => 166 | 70 => 159 | 37 => 160 | 75 => 165 | 127 => 225 | 164 => 257 | 5 => 5 | 80 => 168 | n => n, fun | n => n⟩
theorem Tryz.lays156 : Go.Proofs.Lays.n156 Tryz.prog Tryz.lays156_ren := {
 mixed := by kernel_rfl
 f156 := Tryz.func56.trans (congrArg some (by kernel_rfl))
 f165 := Tryz.func119.trans (congrArg some (by kernel_rfl))
 f166 := Tryz.func120.trans (congrArg some (by kernel_rfl))
 f169 := Tryz.func121.trans (congrArg some (by kernel_rfl))
 f240 := Tryz.func165.trans (congrArg some (by kernel_rfl))
 f241 := Tryz.func166.trans (congrArg some (by kernel_rfl))
 f276 := Tryz.func196.trans (congrArg some (by kernel_rfl))
 f277 := Tryz.func197.trans (congrArg some (by kernel_rfl))
 t0 := Tryz.underlying0
 a0 := Tryz.isAgg0
 z0 := Tryz.sizeOf0
 v0 := Tryz.zeroValue0
 t3 := Tryz.underlying3
 a3 := Tryz.isAgg3
 z3 := Tryz.sizeOf3
 v3 := Tryz.zeroValue3
 t4 := Tryz.underlying4
 a4 := Tryz.isAgg4
 z4 := Tryz.sizeOf4
 v4 := Tryz.zeroValue4
 t9 := Tryz.underlying9
 a9 := Tryz.isAgg9
 z9 := Tryz.sizeOf9
 v9 := Tryz.zeroValue9
 t20 := Tryz.underlying20
 a20 := Tryz.isAgg20
 z20 := Tryz.sizeOf20
 v20 := Tryz.zeroValue20
 t31 := Tryz.underlying107
 a31 := Tryz.isAgg107
 z31 := Tryz.sizeOf107
 v31 := Tryz.zeroValue107
 t37 := Tryz.underlying160
 a37 := Tryz.isAgg160
 z37 := Tryz.sizeOf160
 v37 := Tryz.zeroValue160
 t70 := Tryz.underlying159
 a70 := Tryz.isAgg159
 z70 := Tryz.sizeOf159
 v70 := Tryz.zeroValue159
 t72 := Tryz.underlying162
 a72 := Tryz.isAgg162
 z72 := Tryz.sizeOf162
 v72 := Tryz.zeroValue162
 t75 := Tryz.underlying165
 a75 := Tryz.isAgg165
 z75 := Tryz.sizeOf165
 v75 := Tryz.zeroValue165
 t76 := Tryz.underlying166
 a76 := Tryz.isAgg166
 z76 := Tryz.sizeOf166
 v76 := Tryz.zeroValue166
 t127 := Tryz.underlying225
 a127 := Tryz.isAgg225
 z127 := Tryz.sizeOf225
 v127 := Tryz.zeroValue225
 t164 := Tryz.underlying257
 a164 := Tryz.isAgg257
 z164 := Tryz.sizeOf257
 v164 := Tryz.zeroValue257 }
theorem Tryz.Builder_Extra_156 : Builder.Extra Tryz.prog Tryz.lays156_ren := {
 sizeBuilder := by kernel_rfl
 liesBuilder := by kernel_rfl
 t5 := Tryz.underlying5
 a5 := Tryz.isAgg5
 z5 := Tryz.sizeOf5
 v5 := Tryz.zeroValue5
 infoByte := by kernel_rfl
 cellsByte := by kernel_rfl
 sizeByte := by kernel_rfl
 neB5 := by decide }
open Go.RowKit in
theorem Tryz.strings_Join (bk o c : Nat) (xs : List ByteArray) (sep : ByteArray) (w : World) (hcells : ∀ (j : Nat) x, xs[j]? = some x → w.cell? ⟨bk, o + j, none⟩ = some (.string x)) (hbk : bk < w.heap.size) (hN : xs.length ≤ 140737488355328) (hcap : xs.length ≤ c) (hlen : (Lib.join (xs.map (·.data.toList)) sep.data.toList).length ≤ 140737488355328) :
  Calls Tryz.prog 56 #[.slice (some ⟨bk, o, none⟩) xs.length c, .string sep] w fun e w' => e = .returned (.string ⟨(Lib.join (xs.map (·.data.toList)) sep.data.toList).toArray⟩) ∧ Below w.heap.size w w' := Any.strings_Join Tryz.lays156 Tryz.Builder_Extra_156 bk o c xs sep w hcells hbk hN hcap hlen
def Tryz.laysM173_ren : Go.Shelf.Ren := ⟨fun | 173 => 55 | 246 => 118 | 283 => 161 | 284 => 162 | 285 => 163 | 286 => 164 | 129 => 192 | 317 => 191 | 318 => 193 | 319 => 194 | 320 => 195 | 337 => 208 | 338 => 209 | n => n, fun | 2 => 2 | 3 => 3 | 9 => 9 | 4 => 4 | 171 => 220 | 0 => 0 | 53 => 193 | 37 => 160 | 5 => 5 | 173 => 223 | 212 => 252 | 51 => 253 | 20 => 20 | 213 => 254 | 46 => 255 | 232 => 270 | 233 => 271 | n => n, fun | 17 => 4 | 18 => 8 | 19 => 9 | n => n⟩
theorem Tryz.laysM173 : Go.Proofs.LaysM.n173 Tryz.prog Tryz.laysM173_ren := {
 mixed := by kernel_rfl
 f129 := Tryz.func192.trans (congrArg some (by kernel_rfl))
 f173 := Tryz.func55.trans (congrArg some (by kernel_rfl))
 f246 := Tryz.func118.trans (congrArg some (by kernel_rfl))
 f283 := Tryz.func161.trans (congrArg some (by kernel_rfl))
 f284 := Tryz.func162.trans (congrArg some (by kernel_rfl))
 f285 := Tryz.func163.trans (congrArg some (by kernel_rfl))
 f286 := Tryz.func164.trans (congrArg some (by kernel_rfl))
 f317 := Tryz.func191.trans (congrArg some (by kernel_rfl))
 f318 := Tryz.func193.trans (congrArg some (by kernel_rfl))
 f319 := Tryz.func194.trans (congrArg some (by kernel_rfl))
 f320 := Tryz.func195.trans (congrArg some (by kernel_rfl))
 f337 := Tryz.func208.trans (congrArg some (by kernel_rfl))
 f338 := Tryz.func209.trans (congrArg some (by kernel_rfl))
 t0 := Tryz.underlying0
 a0 := Tryz.isAgg0
 z0 := Tryz.sizeOf0
 v0 := Tryz.zeroValue0
 t2 := Tryz.underlying2
 a2 := Tryz.isAgg2
 z2 := Tryz.sizeOf2
 v2 := Tryz.zeroValue2
 t3 := Tryz.underlying3
 a3 := Tryz.isAgg3
 z3 := Tryz.sizeOf3
 v3 := Tryz.zeroValue3
 t4 := Tryz.underlying4
 a4 := Tryz.isAgg4
 z4 := Tryz.sizeOf4
 v4 := Tryz.zeroValue4
 t5 := Tryz.underlying5
 a5 := Tryz.isAgg5
 z5 := Tryz.sizeOf5
 v5 := Tryz.zeroValue5
 t9 := Tryz.underlying9
 a9 := Tryz.isAgg9
 z9 := Tryz.sizeOf9
 v9 := Tryz.zeroValue9
 t20 := Tryz.underlying20
 a20 := Tryz.isAgg20
 z20 := Tryz.sizeOf20
 v20 := Tryz.zeroValue20
 t37 := Tryz.underlying160
 a37 := Tryz.isAgg160
 z37 := Tryz.sizeOf160
 v37 := Tryz.zeroValue160
 t46 := Tryz.underlying255
 a46 := Tryz.isAgg255
 z46 := Tryz.sizeOf255
 v46 := Tryz.zeroValue255
 t51 := Tryz.underlying253
 a51 := Tryz.isAgg253
 z51 := Tryz.sizeOf253
 v51 := Tryz.zeroValue253
 t53 := Tryz.underlying193
 a53 := Tryz.isAgg193
 z53 := Tryz.sizeOf193
 v53 := Tryz.zeroValue193
 t171 := Tryz.underlying220
 a171 := Tryz.isAgg220
 z171 := Tryz.sizeOf220
 v171 := Tryz.zeroValue220
 t173 := Tryz.underlying223
 a173 := Tryz.isAgg223
 z173 := Tryz.sizeOf223
 v173 := Tryz.zeroValue223
 t212 := Tryz.underlying252
 a212 := Tryz.isAgg252
 z212 := Tryz.sizeOf252
 v212 := Tryz.zeroValue252
 t213 := Tryz.underlying254
 a213 := Tryz.isAgg254
 z213 := Tryz.sizeOf254
 t232 := Tryz.underlying270
 a232 := Tryz.isAgg270
 z232 := Tryz.sizeOf270
 v232 := Tryz.zeroValue270
 t233 := Tryz.underlying271
 a233 := Tryz.isAgg271
 z233 := Tryz.sizeOf271
 v233 := Tryz.zeroValue271
 g17 := by kernel_rfl
 g18 := by kernel_rfl
 g19 := by kernel_rfl
 i0 := by kernel_rfl
 i2 := by kernel_rfl
 i3 := by kernel_rfl
 i4 := by kernel_rfl
 i5 := by kernel_rfl
 i9 := by kernel_rfl
 i20 := by kernel_rfl
 i37 := by kernel_rfl
 i46 := by kernel_rfl
 i51 := by kernel_rfl
 i53 := by kernel_rfl
 i171 := by kernel_rfl
 i173 := by kernel_rfl
 i212 := by kernel_rfl
 i232 := by kernel_rfl
 i233 := by kernel_rfl
 m17 := by kernel_rfl
 m18 := by kernel_rfl
 m19 := by kernel_rfl }
open Go.RowKit Go.Sort Go.Lib in
theorem Tryz.strconv_FormatInt_10 (n : Int) (h0 : -9223372036854775808 ≤ n) (h1 : n ≤ 9223372036854775807) (w : World) (htab : Lib.TabIs Tryz.prog w "internal/strconv.uint64pow10" .u64 Lib.pow10Tab) :
  Calls Tryz.prog 55 #[.int .i64 n, .int .i64 10] w fun e w' => e = .returned (.string ⟨(Lib.itoa n).toArray⟩) ∧ ∃ k os, w' = grow (w.drewN k) os := Any.strconv_FormatInt_10 Tryz.laysM173 n h0 h1 w htab
end
end Go.Proofs
namespace Go.Proofs.YtajogedbacpohaaGreatDoor
section
open Go Go.RowKit Mon
def textS (s : Stp) : List UInt8 := if s.over then nameS s.rule ++ [32, 111, 118, 101, 114] else nameS s.rule ++ ([32] ++ (Lib.itoa s.left ++ ([32] ++ (signS (relS s.rule) ++ ([32] ++ Lib.itoa s.right)))))
theorem Num_any (x : Int) (hx : I64 x) (w : World) (hT : Hid (TabW w)) : Calls Tryz.prog 116 #[.int .i64 x] w fun e w' => e = .returned (.string ⟨(Lib.itoa x).toArray⟩) ∧ Below w.heap.size w w' := by
 unfold I64 at hx;have q : Hid (Calls Tryz.prog 55 #[.int .i64 x, .int .i64 10] w fun e w' => e = .returned (.string ⟨(Lib.itoa x).toArray⟩) ∧ Below w.heap.size w w') :=
  (Tryz.strconv_FormatInt_10 x zw zw w hT.out).mono fun e w' ⟨he, k, os, hw⟩ => ⟨he, by rw [hw]; exact Lib.below_grow _ w (Nat.le_refl _) k os⟩
 have hl := zz0o (x := x) zw zw;exact zt74
theorem Text_over (r a b : Int) (hr : I64 r) (w : World) (hT : Hid (Law16T w)) : Calls Tryz.prog 53 #[.agg #[r, a, b, .bool true]] w fun e w' => e = .returned (.string ⟨(nameS r ++ [32, 111, 118, 101, 114]).toArray⟩) ∧ Below w.heap.size w w' := by
 have hb := (Below.refl w.heap.size w).alloc (Nat.le_refl _) (.cells #[r, a, b, .bool true] 65);have HB := zH hb;have q := zH (zzc0 r hr _ (zH (hT.out.call hb).law.rules));have hl := zz3u r;clear hb;go_in;go_wp2_with fail;refine q.out.mono ?_;rintro e w' ⟨rfl, hb⟩;have HB2 := zB HB hb;clear hb;go_wp2_with fail;go_ret;exact ⟨by rw [← zz0c]; rfl, HB2.out⟩
theorem rel_cell {w : World} (h : RelsT w) : ∀ k, k < 4 → w.cell? ⟨1, k * 2, none⟩ = some (.string ⟨(signS k).toArray⟩)
 | 0, _ => h.c0.1
 | 1, _ => h.c1.1
 | 2, _ => h.c2.1
 | 3, _ => h.c3.1
 | k + 4, h => absurd h zw
theorem zz8d : ∀ k, (signS k).length ≤ 2
 | 0 | 1 | 2 | 3 => by decide
 | k + 4 => by show [63].length ≤ 2; decide
theorem Text_rel (r a b : Int) (hr : I64 r) (ha : I64 a) (hb' : I64 b) (w : World) (hT : Hid (Law16T w)) : Calls Tryz.prog 53 #[.agg #[r, a, b, .bool false]] w fun e w' => e = .returned (.string ⟨(nameS r ++ ([32] ++ (Lib.itoa a ++ ([32] ++ (signS (relS r) ++ ([32] ++ Lib.itoa b)))))).toArray⟩) ∧ Below w.heap.size w w' := by
 have K := zEa (c := #[.int .i64 r, .int .i64 a, .int .i64 b, .bool false]) (t := 65) rfl (zE0 w);have qn := zH (fun w h => zzc0 r hr w h)
 have qa := zH (fun w h => Num_any a ha w h)
 have qb := zH (fun w h => Num_any b hb' w h)
 have ql := zH (fun w h => zz4s r hr w h)
 have l1 := zz3u r;have l2 := zz0o (x := a) (by unfold I64 at ha; omega) (by unfold I64 at ha; omega)
 have l3 := zz0o (x := b) (by unfold I64 at hb'; omega) (by unfold I64 at hb'; omega)
 have hk4 := zz8h r;have l4 := zz8d (relS r);clear hr ha hb';generalize relS r = k at *;generalize nameS r = nm at *;generalize Lib.itoa a = ia at *;generalize Lib.itoa b = ib at *;have hki : (k : Int) < 4 := by omega
 have hRC := zH (fun wz (h : Hid (Law16T wz)) => rel_cell h.out.law.rels k hk4)
 have LL := zH (And.intro l1 (And.intro l2 (And.intro l3 l4)));clear l1 l2 l3 l4 hk4;go_in;go_wp2_with fail;generalize hw : World.alloc _ _ = w1;rw [hw] at K;clear hw;have K1 := zH (zEg K);have hT1 := zH (hT.out.call (zEb K));refine zS [] (fun wz => Hid (Below w1.heap.size w1 wz)) 20 zk zk ?_
 intro wd hbd;have HC : Hid (Below w1.heap.size w1 wd) := hbd;clear hbd;refine zM [0, 1, 3, 4, 5, 7, 8, 13, 14, 15] 10 HC ?_;simp only [opsAt, zA];refine zp ?_;refine zq (fun wz hC => zC (zK K1 hC.out).out) ?_
 iterate 2 refine zp ?_
 refine zq (fun wz hC => zC (zK K1 hC.out).out) ?_
 refine zp ?_;refine zq (fun wz hC => zC (zK K1 hC.out).out) ?_
 iterate 2 refine zp ?_
 refine zq (fun wz hC => zC (zK K1 hC.out).out) ?_
 unfold wpPure;go_simp;refine zW 2 ?_;go_wp2_with fail;(with_reducible refine (qn.out _ (zH (hT1.out.call HC.out).law.rules)).mono ?_);rintro e wx ⟨rfl, hb⟩;replace HC := zB HC hb;clear hb;go_wp2_with fail;refine zY ?_ (fun _ => HC)
 refine zW 6 ?_;go_wp2_with fail;(with_reducible refine (qa.out _ (zH (hT1.out.call HC.out).tab)).mono ?_);rintro e wx ⟨rfl, hb⟩;replace HC := zB HC hb;clear hb;go_wp2_with fail;refine zY ?_ (fun _ => HC)
 refine zW 9 ?_;go_wp2_with fail;(with_reducible refine (ql.out _ (zH (hT1.out.call HC.out).law.rules)).mono ?_);rintro e wx ⟨rfl, hb⟩;replace HC := zB HC hb;clear hb;go_wp2_with fail;refine zY ?_ (fun _ => HC)
 refine zM [10, 11, 12] 4 HC ?_;simp only [opsAt, zA]
 iterate 2 refine zp ?_
 refine zq (fun wz hC => hRC.out wz (zH (hT1.out.call hC.out))) ?_
 unfold wpPure;go_simp;refine zW 16 ?_;go_wp2_with fail;(with_reducible refine (qb.out _ (zH (hT1.out.call HC.out).tab)).mono ?_);rintro e wx ⟨rfl, hb⟩;replace HC := zB HC hb;clear hb;go_wp2_with fail;refine zY ?_ (fun _ => HC)
 refine zW 17 ?_;go_wp2_with fail;generalize hw : World.alloc _ _ = w5;have k5 := (zM1 hw).out;replace HC := zB HC (zM0 hw);have qj := zH (Tryz.strings_Join wx.heap.size 0 4 [⟨nm.toArray⟩, ⟨ia.toArray⟩, ⟨(signS k).toArray⟩, ⟨ib.toArray⟩] ⟨#[32]⟩ w5 (fun j x hj => by
  rw [Nat.zero_add]
  match j, hj with
  | 0, hj => cases hj; exact zC k5 0
  | 1, hj => cases hj; exact zC k5 1
  | 2, hj => cases hj; exact zC k5 2
  | 3, hj => cases hj; exact zC k5 3
  | j + 4, hj => simp at hj) (zL k5) (by simp) (by simp) (by
   have := LL.out;simp [Lib.join];omega))
 clear k5 hw;refine zY ?_ (fun _ => HC)
 refine zW 18 ?_;go_wp2_with fail;refine qj.out.mono ?_;rintro e w6 ⟨rfl, hb⟩;replace HC := zB HC hb;clear hb;go_wp2_with fail;refine zY ?_ (fun _ => HC)
 refine zM [19] 0 HC ?_;simp only [opsAt, zA];refine zp ?_;unfold wpPure;go_simp;refine zQe ?_;go_wp2_with fail;go_ret;exact ⟨by simp [Lib.join], zEb (zEk K HC.out)⟩
theorem Text_any (s : Stp) (hs : s.fit) (w : World) (hT : Hid (Law16T w)) : Calls Tryz.prog 53 #[s.val] w fun e w' => e = .returned (.string ⟨(textS s).toArray⟩) ∧ Below w.heap.size w w' := by
 obtain ⟨r, a, b, o⟩ := s;cases o with
 | true => exact Text_over r a b hs.1 w hT
 | false => exact Text_rel r a b hs.1 hs.2.1 hs.2.2 w hT
end
end Go.Proofs.YtajogedbacpohaaGreatDoor
