/- Part 23 of what the claim rests on. -/
import Derived.Test.YtajogedbacpohaaGreatDoorB00
import Derived.Test.YtajogedbacpohaaGreatDoorB13
import Derived.Test.YtajogedbacpohaaGreatDoorB18
import Derived.Test.YtajogedbacpohaaGreatDoorB20
import Derived.Test.YtajogedbacpohaaGreatDoorB21
set_option linter.unusedVariables false
set_option linter.unusedSimpArgs false
set_option maxRecDepth 1000000
set_option maxHeartbeats 32000000
namespace Go.Proofs.YtajogedbacpohaaGreatDoor
section
open Go Go.RowKit Mon
def tupG (u : Value) (k : Nat) : Value := match u with | .tuple xs => xs.getD k undef | _ => undef
theorem RRun.start {w : World} {b : Bk} {a0 a1 a2 a3 : Value} {t : TypeId} {cs : Array Value} (B0 : BkAt w (.agg #[a0, a1, a2, a3, b.n]) b) {wb : World} (h : (w.alloc (.cells cs t)).alloc (.cells #[a0, a1, a2, a3, b.n] 27) = wb) : RRun w (.agg #[a0, a1, a2, a3, b.n]) [] [b] wb (.slice none 0 0) (.slice (some ⟨w.heap.size + 1, 0, none⟩) 1 1) := by
 have hb : Below w.heap.size w wb := h ▸ zz01 zBa (by simp) _
 refine ⟨hb, ⟨World.ownsRow_nil _ _ _ _, fun r hr => by simp at hr⟩, [.agg #[a0, a1, a2, a3, b.n]], ⟨rfl, .inr ⟨w.heap.size + 1, 1, _, rfl, Nat.le_succ _, h ▸ zz0c _ _ _ (by simp), Nat.le_refl _, by unfold maxLen; omega, rfl, rfl⟩⟩, rfl, fun u hu => by simp at hu; rw [hu]; rfl, fun i u c hi hj => ?_⟩
 match i with
 | 0 =>
  simp at hi hj;subst hi hj;exact (BkF.of B0).call hb
 | i + 1 => simp at hi
theorem rRun_some (v : Value) (b : Bk) (bb oo : Nat) (cL : Nat) (L : List Ev) (rate : Int) (w : World) (B0 : Hid (BkAt w v b)) (HL : Hid (EvsAt w (.slice (some ⟨bb, oo, none⟩) L.length cL) L)) (hgd : Hid b.Good) (hE : Hid (∀ e ∈ L, e.I64s)) (hr0 : Hid (0 ≤ rate ∧ rate ≤ 1000))
  (hcount : Hid (b.n + L.length ≤ 1099511627776)) (hst : Hid (b.s.length + L.length ≤ 900000)) (hln : L.length ≤ 60000) :
  Calls Tryz.prog 18 #[v, .slice (some ⟨bb, oo, none⟩) L.length cL, .int .i64 rate] w fun r w' => ∃ vp vb, r = .returned (.tuple #[vp, vb]) ∧ RRun w v (foldP b rate L) (foldK b rate L) w' vp vb := by
 obtain ⟨Ah, ch, As, cs, Ao, co, Ar, cr, rfl⟩ := B0.out.forms;have k0 := zM1 (w := w) (cs := BF Ah ch As cs Ao co Ar cr b b.n) (t := 27) rfl;have c := zC k0.out;go_in;go_wp2_with fail;generalize hw : World.alloc _ _ = wb;have H0 := zH (RRun.start B0.out hw);clear c k0 hw;go_loopw [8, 9, 10] (fun s8 s9 s10 wr => ∃ i : Nat, s10 = .int .i64 (i : Int) ∧ Hid (i ≤ L.length) ∧ Hid (RRun w (.agg (BF Ah ch As cs Ao co Ar cr b b.n)) (foldP b rate (L.take i)) (foldK b rate (L.take i)) wr s8 s9)) (fun _ _ s10 _ => L.length - (intOf s10).toNat)
 case atStart => exact ⟨0, rfl, Nat.zero_le _, H0.out⟩
 case round =>
  obtain ⟨i, rfl, hil, HR⟩ := hrel;replace hil := hil.out;by_cases hin : i < L.length
  ·have tn : decide ((i : Int) < (L.length : Int)) = true := decide_eq_true zw
   obtain ⟨e, he⟩ : ∃ e, L[i]? = some e := ⟨_, List.getElem?_eq_getElem hin⟩;have hEe : Hid e.I64s := hE.out e (List.mem_of_getElem? he);have hlt : (L.take i).length = i := by rw [List.length_take]; omega
   have hsn : L.take (i + 1) = L.take i ++ [e] := by rw [List.take_add_one, he]; rfl
   obtain ⟨pb, hpb⟩ : ∃ pb, foldB b rate (L.take i) = pb := ⟨_, rfl⟩;have hkl : (foldK b rate (L.take i)).length = i + 1 := by rw [zz1l, hlt]
   have hg := zz38 rate (L.take i) b hgd.out (by rw [hlt]; have := hcount.out; omega) (fun e he => hE.out e (List.mem_of_mem_take he))
   have hnn := zzbj rate (L.take i) b;have hss := zz22 rate (L.take i) b;rw [hpb] at hg hnn hss;rw [hlt] at hnn hss;have HG := zH hg;have Hs : Hid pb.Small := hg.small (by have := hst.out; omega)
   have HP1 : Hid (foldP b rate (L.take (i + 1)) = foldP b rate (L.take i) ++ [pairC e (gateV pb e rate)]) := (show _ = _ by rw [hsn, zz79, hpb])
   have HP2 : Hid (foldK b rate (L.take (i + 1)) = foldK b rate (L.take i) ++ [gateB pb e rate]) := (show _ = _ by rw [hsn, zz60, hpb])
   obtain ⟨g, c, A1, c1, A2, c2, A3, c3, A4, c4, hvb, hgl, hF, m0, m1, m2, m3, m4⟩ := HR.out.get (i := i) (b := pb) (by rw [zz5z rate _ b _ (by rw [hlt]; exact Nat.le_refl _), List.take_take, Nat.min_self, hpb])
   rw [hkl] at hvb;subst hvb;have HF := zH hF;have hm : Hid (∀ wz : World, Hid (Below wr.heap.size wr wz) → wz.cell? ⟨g, i * 5, none⟩ = some (.slice A1 pb.h.length c1) ∧ wz.cell? ⟨g, i * 5 + 1, none⟩ = some (.slice A2 pb.s.length c2) ∧ wz.cell? ⟨g, i * 5 + 2, none⟩ = some (.slice A3 pb.o.length c3) ∧ wz.cell? ⟨g, i * 5 + 3, none⟩ = some (.slice A4 pb.r.length c4) ∧ wz.cell? ⟨g, i * 5 + 4, none⟩ = some (.int .i64 pb.n)) := (show ∀ _ _, _ from fun wz h => ⟨(h.out.cell (p := ⟨_, _, _⟩) hgl).trans m0, (h.out.cell (p := ⟨_, _, _⟩) hgl).trans m1, (h.out.cell (p := ⟨_, _, _⟩) hgl).trans m2, (h.out.cell (p := ⟨_, _, _⟩) hgl).trans m3, (h.out.cell (p := ⟨_, _, _⟩) hgl).trans m4⟩)
   have hz : Hid (∀ wz : World, Hid (Below wr.heap.size wr wz) → bb < wz.heap.size ∧ wz.cell? ⟨bb, oo + i * 7, none⟩ = some (.int .i64 e.kind) ∧ wz.cell? ⟨bb, oo + i * 7 + 1, none⟩ = some (.int .i64 e.acc) ∧ wz.cell? ⟨bb, oo + i * 7 + 2, none⟩ = some (.int .i64 e.ord) ∧ wz.cell? ⟨bb, oo + i * 7 + 3, none⟩ = some (.int .i64 e.sym) ∧ wz.cell? ⟨bb, oo + i * 7 + 4, none⟩ = some (.int .i64 e.side) ∧ wz.cell? ⟨bb, oo + i * 7 + 5, none⟩ = some (.int .i64 e.qty) ∧ wz.cell? ⟨bb, oo + i * 7 + 6, none⟩ = some (.int .i64 e.px)) := (show ∀ _ _, _ from fun wz h => (HL.out.call (HR.out.below.trans (h.out.mono HR.out.below.size))).got he)
   have hq := zH (fun wz hv => rStep_kin (.slice A1 pb.h.length c1) (.slice A2 pb.s.length c2) (.slice A3 pb.o.length c3) (.slice A4 pb.r.length c4) pb e rate wz hv Hs HG.out.ints HG.out.may hEe (zH (by unfold I64; have := hr0.out; omega)) (zH HG.out.price) HG.out.n)
   unfold Ev.val at hq;obtain ⟨nb, hnb⟩ : ∃ nb, gateB pb e rate = nb := ⟨_, rfl⟩;obtain ⟨V1, hV1⟩ : ∃ V1, (gateV pb e rate).1 = V1 := ⟨_, rfl⟩;obtain ⟨V2, hV2⟩ : ∃ V2, (gateV pb e rate).2 = V2 := ⟨_, rfl⟩;rw [hnb] at HP2;rw [hnb, hV1, hV2] at hq;have hpc : Hid (pairC e (gateV pb e rate) = [e.kind, e.acc, e.ord, e.sym, e.side, e.qty, e.px, V1, V2]) := (show _ = _ by rw [← hV1, ← hV2]; rfl)
   rw [hpc.out] at HP1;clear hnb hV1 hV2 hpc;have hi1 : (i : Int) < (i : Int) + 1 := by omega
   have hi2 : (i : Int) < (L.length : Int) := by omega
   have Hhe := zH he;clear hg hnn hss hF m0 m1 m2 m3 m4 hpb hsn hlt hkl he;go_wp2_with fail;refine zS [] (fun wz => Hid (Below wr.heap.size wr wz)) 19 zk zk ?_
   intro wd hbd;refine zM [0, 1, 2, 3, 4, 5, 6, 7, 8] 10 hbd ?_;simp only [opsAt, zA]
   iterate 3 refine zp ?_
   refine zq hm.out ?_
   iterate 3 refine zp ?_
   refine zq hz.out ?_;refine zp ?_;unfold wpPure;go_simp;refine zz78 (W0 := wd) 9 [10, 11, 12, 13] 32 (fun lo hi u wz => ∃ X1 x1 X2 x2 X3 x3 X4 x4 S, u = .tuple #[.agg (BF X1 x1 X2 x2 X3 x3 X4 x4 nb nb.n), .agg #[V1, V2], S] ∧ BkAt wz (.agg (BF X1 x1 X2 x2 X3 x3 X4 x4 nb nb.n)) nb ∧ Kin lo (.agg (BF A1 c1 A2 c2 A3 c3 A4 c4 pb pb.n)) (.agg (BF X1 x1 X2 x2 X3 x3 X4 x4 nb nb.n)) ∧ ∃ wc : World, wc.heap.size = hi ∧ BkAt wc (.agg (BF X1 x1 X2 x2 X3 x3 X4 x4 nb nb.n)) nb)
    (fun u => [(22, u), (33, tupG u 0), (34, tupG u 1), (35, tupG u 2)]) 3 (setAll [10, 11, 12, 13] ((((setAll [0, 1, 2, 3, 4, 5, 6, 7, 8] (Array.replicate 19 false)).setIfInBounds 14 true).setIfInBounds 15 true).setIfInBounds 9 true)) [32, 22, 33, 34, 35, 11, 12] 51 (fun wz hz => zH (hbd.trans (hz.mono hbd.size))) (by simp) (fun v p hp => by simp at hp; rcases hp with rfl | rfl | rfl | rfl <;> simp) ?_ ?_ 2
    [⟨14, 11, fun lo hi v wz => v = .pointer (some ⟨lo, 0, none⟩) ∧ lo < hi ∧ wz.heap[lo]? = some (.cells BZ 27 (0, 0))⟩, ⟨15, 12, fun lo hi v wz => v = .pointer (some ⟨lo, 0, none⟩) ∧ lo < hi ∧ wz.heap[lo]? = some (.cells #[.int .i64 0, .int .i64 0] 33 (0, 0))⟩] _ _ _ rfl (Below.refl _ _)
    (zz2b (S1 := [([14, 15], setAll [0, 1, 2, 3, 4, 5, 6, 7, 8] (Array.replicate 19 false)), ([15], (setAll [0, 1, 2, 3, 4, 5, 6, 7, 8] (Array.replicate 19 false)).setIfInBounds 14 true), ([14], (setAll [0, 1, 2, 3, 4, 5, 6, 7, 8] (Array.replicate 19 false)).setIfInBounds 15 true), ([], ((setAll [0, 1, 2, 3, 4, 5, 6, 7, 8] (Array.replicate 19 false)).setIfInBounds 14 true).setIfInBounds 15 true)])
     (S2 := [([14, 15], setAll [10, 11, 12, 13] ((setAll [0, 1, 2, 3, 4, 5, 6, 7, 8] (Array.replicate 19 false)).setIfInBounds 9 true)), ([15], setAll [10, 11, 12, 13] (((setAll [0, 1, 2, 3, 4, 5, 6, 7, 8] (Array.replicate 19 false)).setIfInBounds 14 true).setIfInBounds 9 true)), ([14], setAll [10, 11, 12, 13] (((setAll [0, 1, 2, 3, 4, 5, 6, 7, 8] (Array.replicate 19 false)).setIfInBounds 15 true).setIfInBounds 9 true)), ([], setAll [10, 11, 12, 13] ((((setAll [0, 1, 2, 3, 4, 5, 6, 7, 8] (Array.replicate 19 false)).setIfInBounds 14 true).setIfInBounds 15 true).setIfInBounds 9 true))])
     zk zk 2 _ _ (List.mem_cons_self ..) rfl) (by simp) (by simp) (by simp) ?_ ?_ rfl ?_ ?_
   ·intro lo hi u wz hR a' K hN hK
    obtain ⟨X1, x1, X2, x2, X3, x3, X4, x4, S, rfl, _⟩ := hR;generalize hU : Value.agg (BF X1 x1 X2 x2 X3 x3 X4 x4 nb nb.n) = U at *;generalize hV : Value.agg #[V1, V2] = V at *;have n0 : (a'.put (some 32) (.tuple #[U, V, S])).tmps.size = 51 := by rw [zz4d]; exact hN
    have e0 : (a'.put (some 32) (.tuple #[U, V, S])).eval (.tmp 32) = .tuple #[U, V, S] := zz2n _ _ _ (by rw [hN]; decide)
    refine zz08 (.tuple #[U, V, S]) rfl (fun wz _ => by unfold execOp; simp only [e0]; go_simp) ?_
    have e1 : ((a'.put (some 32) (.tuple #[U, V, S])).put (some 22) (.tuple #[U, V, S])).eval (.tmp 22) = .tuple #[U, V, S] := zz2n _ _ _ (by rw [n0]; decide)
    refine zz08 U rfl (fun wz _ => by unfold execOp; simp only [e1]; go_simp) ?_
    have e2 : (((a'.put (some 32) (.tuple #[U, V, S])).put (some 22) (.tuple #[U, V, S])).put (some 33) U).eval (.tmp 22) = .tuple #[U, V, S] := (zz0f _ _ _ _ (by simp)).trans e1
    refine zz08 V rfl (fun wz _ => by unfold execOp; simp only [e2]; go_simp) ?_
    have e3 : ((((a'.put (some 32) (.tuple #[U, V, S])).put (some 22) (.tuple #[U, V, S])).put (some 33) U).put (some 34) V).eval (.tmp 22) = .tuple #[U, V, S] := (zz0f _ _ _ _ (by simp)).trans e2
    refine zz08 S rfl (fun wz _ => by unfold execOp; simp only [e3]; go_simp) ?_
    unfold wpPure;exact hK
   ·rintro lo hi v w1 w2 ⟨X1, x1, X2, x2, X3, x3, X4, x4, S, rfl, h1, h2, h3⟩ hb
    exact ⟨X1, x1, X2, x2, X3, x3, X4, x4, S, rfl, h1.call hb, h2, h3⟩
   ·intro e he
    simp only [List.mem_cons, List.not_mem_nil, or_false] at he;rcases he with rfl | rfl
    ·exact ⟨zz24 _ rfl rfl rfl #[.slice none 0 0, .slice none 0 0, .slice none 0 0, .slice none 0 0, .int .i64 0] 27 (fun ev wz => by unfold execOp; go_simp) (fun wz hz => ⟨rfl, by simp, zz02 wz _⟩), by simp⟩
    ·exact ⟨zz24 _ rfl rfl rfl #[.int .i64 0, .int .i64 0] 33 (fun ev wz => by unfold execOp; go_simp) (fun wz hz => ⟨rfl, by simp, zz02 wz _⟩), by simp⟩
   ·exact zz30 13 #[.agg (BF A1 c1 A2 c2 A3 c3 A4 c4 pb pb.n), .agg #[e.kind, e.acc, e.ord, e.sym, e.side, e.qty, e.px], .int .i64 rate] ⟨_, _, _, rfl, rfl, rfl, rfl, by simp [Act.eval, Act.put], by simp⟩ (fun w => enters_of Tryz.func13 zk rfl _ w) (fun wz hz => (hq.out wz (zH (HF.out.at.call (hbd.trans (hz.mono hbd.size))))).mono fun r w' ⟨x, S, hr, h1, h2, _, h4⟩ => by
     obtain ⟨X1, x1, X2, x2, X3, x3, X4, x4, rfl⟩ := h1.forms;exact ⟨_, hr, ⟨X1, x1, X2, x2, X3, x3, X4, x4, S, rfl, h1, h2, w', rfl, h1⟩, h4⟩)
   ·intro e he lo hi v w1 w2 hv hb
    simp only [List.mem_cons, List.not_mem_nil, or_false] at he;rcases he with rfl | rfl <;> exact ⟨hv.1, hv.2.1, zz06 hv.2.2 hb⟩
   intro lo hi u us wf hlo hrs hR hus hap hb;obtain ⟨X1, x1, X2, x2, X3, x3, X4, x4, S, rfl, hO, hK, wc, hwc, hOc⟩ := hR
   match us, hus, hrs with
   | [t1, t2], ⟨⟨⟨e1, n1, g1⟩, m1⟩, ⟨⟨e2, n2, g2⟩, m2⟩, _⟩, hrs =>
   obtain ⟨q1, i1, v1⟩ := t1;obtain ⟨q2, i2, v2⟩ := t2;have ra := hrs _ (.head _);have rb := hrs _ (.tail _ (.head _));simp only at e1 n1 g1 m1 e2 n2 g2 m2 ra rb ⊢;subst e1 e2;simp only [putsE, putsV, tupG];go_simp;have Kx : ZB wf q1 BZ 27 := g1;have Kv : ZB wf q2 #[.int .i64 0, .int .i64 0] 33 := g2;obtain ⟨T, hT⟩ : ∃ T : Nat → Prop, (fun q => Sx u8 (.slice (some ⟨g, 0, none⟩) (i + 1) c) q ∨ q = q1 ∨ q = q2) = T := ⟨_, rfl⟩
   have hN : Hid (BkF wf T (.agg (BF Ah ch As cs Ao co Ar cr b b.n)) (.agg (BF X1 x1 X2 x2 X3 x3 X4 x4 nb nb.n)) nb) := HF.out.step2 hK hOc hwc hO (fun q hq => by
    subst hT;have s1 := hbd.size;rcases hq with hq | hq | hq
    ·have := (HR.out.blk hq).2
     exact .inl ⟨hq, by omega⟩
    ·subst hq; exact .inr ⟨by omega, by omega⟩
    ·subst hq; exact .inr ⟨by omega, by omega⟩)
   have HT1 : Hid (∀ q, T q → w.heap.size ≤ q) := (show ∀ _ _, _ from fun q hq => by
    subst hT;have s1 := hbd.size;have s2 := HR.out.below.size;rcases hq with hq | hq | hq
    ·exact (HR.out.blk hq).1
    ·omega
    ·omega)
   have HTx : Hid (T q1 ∧ T q2 ∧ ∀ q, Sx u8 (.slice (some ⟨g, 0, none⟩) (i + 1) c) q → T q) := (show _ ∧ _ ∧ _ by subst hT; exact ⟨.inr (.inl rfl), .inr (.inr rfl), fun q hq => .inl hq⟩)
   have M1 : Hid (wd.heap.size ≤ q1) := m1;have M2 : Hid (wd.heap.size ≤ q2) := m2;have HBd : Hid (Below wd.heap.size wd wf) := hb;have hBd := zH hbd;clear hT g1 g2 m1 m2 ra rb n1 n2 hb hbd hK hOc hwc hO hrs hap hus hlo hm hq HF;have k1 := zC Kx.out;have k2 := zF Kx.out;have k3 := zC Kv.out;have k4 := zz0a Kx.out Kv.out zx;have k5 := k4.symm;refine zW 16 ?_;go_wp2_with fail;generalize hs : World.setCell _ _ _ = ws1;clear k1 k2 k3 k4 k5;obtain ⟨vs, zE, hvs⟩ := zV5 hs;replace hN := zH (hN.out.put B0.out HT1.out HTx.out.1 zE);replace HBd := zQ zE M1 HBd;replace Kv := zO zE Kx Kv;replace Kx := zP zE Kx;subst hvs;replace Kx : ZB ws1 q1 (BF X1 x1 X2 x2 X3 x3 X4 x4 nb nb.n) 27 := Kx.out;clear zE hs;refine zY ?_ (fun _ => zH (hBd.out.trans (HBd.out.mono hBd.out.size)))
   have k1 := zC Kv.out;have k2 := zF Kv.out;refine zW 17 ?_;go_wp2_with fail;generalize hs : World.setCell _ _ _ = ws2;clear k1 k2;obtain ⟨vs, zE, hvs⟩ := zV2 hs;replace hN := zH (hN.out.put B0.out HT1.out HTx.out.2.1 zE);replace HBd := zQ zE M2 HBd;replace Kx := zO zE Kv Kx;replace Kv := zP zE Kv;subst hvs;replace Kv : ZB ws2 q2 #[V1, V2] 33 := Kv.out;clear zE hs;refine zY ?_ (fun _ => zH (hBd.out.trans (HBd.out.mono hBd.out.size)))
   refine zW 18 ?_;go_wp2_with fail;refine zY ?_ (fun _ => zH (hBd.out.trans (HBd.out.mono hBd.out.size)))
   refine zQe ?_;replace HR := zH (HR.out.call (hBd.out.trans (HBd.out.mono hBd.out.size)));replace hN := zH (hN.out.to fun q hq => .inl (HTx.out.2.2 q hq))
   have HEv := zH (HL.out.call HR.out.below);clear HBd hBd HTx HT1 M1 M2 hz;go_wp2_with fail;refine zS [] (fun wz => Hid (EvsAt wz (.slice (some ⟨bb, oo, none⟩) L.length cL) L) ∧ ZB wz q2 #[V1, V2] 33) 10 zk zk ?_
   intro we hbe;replace HR := zH (HR.out.call hbe);replace hN := zH (hN.out.call hbe);replace HEv := zH (HEv.out.call hbe);replace Kx := zK Kx hbe;replace Kv := zK Kv hbe;clear hbe;refine zM [0, 1, 2, 3, 4, 5, 6] 3 ⟨HEv, Kv⟩ ?_;simp only [opsAt, zA]
   iterate 4 refine zp ?_
   refine zq (fun wz hC => hC.1.out.got Hhe.out) ?_
   refine zq (fun wz hC => zC hC.2.out) ?_
   refine zp ?_;unfold wpPure;go_simp;refine zW 7 ?_;go_wp2_with fail;refine zY ?_ (fun _ => ⟨zH (HEv.out.call zBa), zH (zz05 Kv.out _)⟩)
   refine zW 8 ?_;have hPl := zH (show (foldP b rate (L.take i)).length + 1 ≤ 4000000 by rw [zz2z, List.length_take]; omega)
   refine zz17 (wr := we) (B := w.heap.size) _ _ 45 98 _ 9 72 el_Pair (([e.kind, e.acc, e.ord, e.sym, e.side, e.qty, e.px, V1, V2] : List Int).map (Value.int .i64)) u8 (foldP b rate (L.take i)).length (flatC (foldP b rate (L.take i))) HR.out.pairs.1 HR.out.below.size rfl rfl rfl rfl rfl (by intro u hu; obtain ⟨y, _, rfl⟩ := List.mem_map.1 hu; rfl) hPl.out zx ?_
   intro vp' w9 hown hg hat;have n1 := own_ne HR.out.pairs.1 Kx.out zx;have n2 := own_ne HR.out.pairs.1 Kv.out zx;replace hN := zH (hN.out.app (T := Sx vp' (.slice (some ⟨g, 0, none⟩) (i + 1) c)) B0.out (fun q hq => (HR.out.blk hq).1) (fun q hq => by
    rcases hq with hq | hq
    ·rcases hat.out with e | e
     ·exact .inl (.inl (e ▸ hq))
     ·rw [e] at hq; injection hq with hq; exact .inr hq.symm
    ·exact .inl (.inr hq)) HR.out.below.size (fun q hq => .inl hq) hg.out)
   replace HR := zH (HR.out.pair B0.out rfl hown.out hg.out hat.out);replace HEv := zH (HL.out.call HR.out.below);replace Kx := zH (blk_app Kx.out hg.out n1);replace Kv := zH (blk_app Kv.out hg.out n2);obtain ⟨A9, c9, hv9⟩ := HR.out.pairs.form;obtain ⟨nP, hnP⟩ : ∃ nP, (foldP b rate (L.take i) ++ [[e.kind, e.acc, e.ord, e.sym, e.side, e.qty, e.px, V1, V2]]).length = nP := ⟨_, rfl⟩;rw [hnP] at hv9;subst hv9;clear hown hg hat n1 n2 hnP hPl;go_wp2_with fail;refine zY ?_ (fun _ => ⟨HEv, Kv⟩)
   refine zW 9 ?_;go_wp2_with fail;refine zY ?_ (fun _ => ⟨HEv, Kv⟩)
   refine zQe ?_;obtain ⟨us, hro, hl, h5, hk⟩ := HR.out.row;have Hro := zH hro;have Hk := zH hk;have H5 := zH h5;have Hl := zH hl;have hKl := zH (show (foldK b rate (L.take i)).length + 1 ≤ 4000000 by rw [zz1l, List.length_take]; omega)
   clear hro hk h5 hl HEv Kv;have k1 := zC Kx.out;go_wp2_with (at_builtin; refine zz17 (wr := w9) (B := w.heap.size) _ _ 48 27 _ 5 104 zzbm (BF X1 x1 X2 x2 X3 x3 X4 x4 nb nb.n) _ (foldK b rate (L.take i)).length (flatU us) Hro.out HR.out.below.size rfl rfl rfl rfl rfl (by intro u hu; simp at hu; rcases hu with rfl | rfl | rfl | rfl | rfl <;> rfl) hKl.out zx ?_)
   intro vb' w10 hown hg hat;replace HR := zH (HR.out.book B0.out Hl.out H5.out Hk.out hN.out hown.out hg.out hat.out);clear hown hg hat hN Kx k1 Hro Hk H5 Hl hKl;rw [← HP2.out] at HR;go_wp2_with fail;go_roundw
   case rel => exact ⟨i + 1, by go_num, by show _ ≤ _; omega, by have h := HR.out; rw [← HP1.out] at h; exact h⟩
   case measure => simp [intOf]; omega
  ·obtain rfl : i = L.length := by omega
   rw [List.take_length] at HR;have tn : decide ((L.length : Int) < (L.length : Int)) = false := decide_eq_false zw;go_wp2_with fail;go_ret2;exact ⟨_, _, rfl, HR.out⟩
theorem rRun_nil (v : Value) (b : Bk) (A : Option Addr) (cL : Nat) (rate : Int) (w : World) (B0 : Hid (BkAt w v b)) :
  Calls Tryz.prog 18 #[v, .slice A 0 cL, .int .i64 rate] w fun r w' => ∃ vp vb, r = .returned (.tuple #[vp, vb]) ∧ RRun w v [] [b] w' vp vb := by
 obtain ⟨Ah, ch, As, cs, Ao, co, Ar, cr, rfl⟩ := B0.out.forms;have k0 := zM1 (w := w) (cs := BF Ah ch As cs Ao co Ar cr b b.n) (t := 27) rfl;have c := zC k0.out;go_in;go_wp2_with fail;generalize hw : World.alloc _ _ = wb;have H0 := zH (RRun.start B0.out hw);clear c k0 hw;go_loopw [8, 9, 10] (fun s8 s9 s10 wr => s10 = .int .i64 0 ∧ Hid (RRun w (.agg (BF Ah ch As cs Ao co Ar cr b b.n)) [] [b] wr s8 s9)) (fun _ _ _ _ => 0)
 case atStart => exact ⟨rfl, H0.out⟩
 case round =>
  obtain ⟨rfl, HR⟩ := hrel;go_wp2_with fail;go_ret2;exact ⟨_, _, rfl, HR.out⟩
theorem rRun_any (v : Value) (b : Bk) (A : Option Addr) (cL : Nat) (L : List Ev) (rate : Int) (w : World) (B0 : Hid (BkAt w v b)) (HL : Hid (EvsAt w (.slice A L.length cL) L)) (hgd : Hid b.Good) (hE : Hid (∀ e ∈ L, e.I64s)) (hr0 : Hid (0 ≤ rate ∧ rate ≤ 1000))
  (hcount : Hid (b.n + L.length ≤ 1099511627776)) (hst : Hid (b.s.length + L.length ≤ 900000)) (hln : L.length ≤ 60000) :
  Calls Tryz.prog 18 #[v, .slice A L.length cL, .int .i64 rate] w fun r w' => ∃ vp vb, r = .returned (.tuple #[vp, vb]) ∧ RRun w v (foldP b rate L) (foldK b rate L) w' vp vb := by
 obtain ⟨A', c', hA, _, h⟩ := HL.out;rcases h with h | ⟨bb, oo, rfl, _⟩
 ·obtain rfl : L = [] := List.map_eq_nil_iff.1 h
  exact rRun_nil v b A cL rate w B0
 ·injection hA with hA _ _
  subst hA;exact rRun_some v b bb oo cL L rate w B0 HL hgd hE hr0 hcount hst hln
end
section
open Go Go.RowKit Go.Shelf
theorem Books_bad (A : Option Addr) (c : Nat) (n : Nat) (rate : Int) (k : Int) (w : World) (hn : n ≤ 9223372036854775807) (hk : rightC bZ n rate = k) (h0 : (k != 0) = true) :
  Calls Tryz.prog 20 #[.slice A n c, .int .i64 rate] w fun r w' => r = .returned (.tuple #[.slice none 0 0, .int .i64 k]) ∧ Below w.heap.size w w' := by
 have q1 := zH (fun v wz hv => zz5r v bZ n rate wz hv (zH (by unfold Bk.Small bZ; simp)) hn)
 rw [hk] at q1;clear hk;go_in;go_wp2_with fail;(with_reducible refine (q1.out _ _ (zH (BkAt.zero _))).mono ?_);rintro r wc ⟨rfl, hb⟩;clear q1;go_wp2_with fail;go_ret2;exact ⟨rfl, hb⟩
end
section
open Go Go.RowKit Go.Shelf Mon
attribute [local go_sem] Oper.semAt_some
theorem zz80 {w : World} {B : Nat} {e : TypeId} {k n : Nat} {v : Value} {xs : List Value} (h : w.ownsRow B e k v n xs) : ∃ A m c, v = .slice A m c := by
 rcases h.2 with ⟨rfl, _⟩ | ⟨g, cap, cur, rfl, _⟩ <;> exact ⟨_, _, _, rfl⟩
def NotB (A : World) (r : Nat) : Prop := ∀ cs t fr, A.heap[r]? = some (.cells cs t fr) → 78 ≠ t ∧ 80 ≠ t ∧ 82 ≠ t ∧ 84 ≠ t
theorem BkOwn.gr {A C : World} {b0 : Nat} {v : Value} {b : Bk} {row : Option Nat} (h : BkOwn A b0 v b) (hg : A.grownBy C row) (hr : ∀ r, row = some r → r < b0 ∨ NotB A r) : BkOwn C b0 v b := by
 obtain ⟨vh, vs, vo, vr, rfl, h1, h2, h3, h4⟩ := h;have key : ∀ {e : TypeId} {u : Value} {k : Nat} {l : List (List Int)}, RowOwn A b0 e u k l → (∀ r, NotB A r → ∀ cs fr, A.heap[r]? ≠ some (.cells cs e fr)) → RowOwn C b0 e u k l := fun {e u k l} hx hne => hx.grow hg fun q hq e => by
  obtain ⟨h1, _, cs, hc⟩ := zz0n hx.1 hq;rcases hr q e with h | h
  ·omega
  ·exact hne q h cs _ hc
 exact ⟨vh, vs, vo, vr, rfl, key h1 (fun r hr cs fr hc => (hr _ _ _ hc).1 rfl), key h2 (fun r hr cs fr hc => (hr _ _ _ hc).2.1 rfl), key h3 (fun r hr cs fr hc => (hr _ _ _ hc).2.2.1 rfl), key h4 (fun r hr cs fr hc => (hr _ _ _ hc).2.2.2 rfl)⟩
def BRun (B Bs : Nat) (KL : List Bk) (W : World) (v : Value) : Prop :=
 (∀ q, v.ownBlock = some q → q < Bs ∨ Bs + 3 ≤ q) ∧ ∃ us : List Value, W.ownsRow B 27 5 v KL.length (flatU us) ∧ us.length = KL.length ∧ (∀ u ∈ us, u.cells.size = 5) ∧ ∀ (i : Nat) (u : Value) (b : Bk), us[i]? = some u → KL[i]? = some b → BkOwn W (Bs + 3) u b
section
variable {A C : World} {B Bs N : Nat} {KL : List Bk} {v : Value} {row : Option Nat}
theorem BRun.gr (h : BRun B Bs KL A v) (hg : A.grownBy C row) (hr : ∀ r, row = some r → v.ownBlock ≠ some r ∧ (r < Bs + 3 ∨ NotB A r)) : BRun B Bs KL C v := by
 obtain ⟨hn, us, ho, hl, h5, hk⟩ := h;exact ⟨hn, us, zz29 ho hg fun q hq e => (hr q e).1 hq, hl, h5, fun i u b hi hj => (hk i u b hi hj).gr hg fun r e => (hr r e).2⟩
theorem BRun.call (h : BRun B Bs KL A v) (hb : Below A.heap.size A C) : BRun B Bs KL C v := h.gr (zz21 hb none) fun r e => by cases e
theorem BRun.gs (h : BRun B Bs KL A v) (hg : A.grownBy C row) (hr : RowS Bs N A row) : BRun B Bs KL C v :=
 h.gr hg fun r e => by
  rcases hr r e with rfl | ⟨_, o, ho, hc⟩
  ·exact ⟨fun e => by have := h.1 _ e; omega, .inl zw⟩
  ·refine ⟨fun e2 => ?_, .inr fun cs t fr h2 => ?_⟩
   ·obtain ⟨_, us, h3, _⟩ := h
    obtain ⟨_, _, cs, h4⟩ := zz0n h3 e2;rw [ho] at h4; cases h4; cases hc
   ·rw [ho] at h2; cases h2; cases hc
theorem BRun.lt (h : BRun B Bs KL A v) : ∀ q, v.ownBlock = some q → q < A.heap.size := fun q e => by
 obtain ⟨_, us, h3, _⟩ := h;exact (zz0n h3 e).2.1
theorem BRun.one {g : Nat} (hB : B ≤ g) (hs : g < Bs) (hg : A.heap[g]? = some (.cells BZ 27 (0, 0))) : BRun B Bs [bZ] A (.slice (some ⟨g, 0, none⟩) 1 1) := by
 refine ⟨fun q e => .inl (by have : g = q := (by simpa [Value.ownBlock] using e); omega), [.agg BZ], ⟨rfl, .inr ⟨g, 1, _, rfl, hB, hg, Nat.le_refl _, by unfold maxLen; omega, rfl, rfl⟩⟩, rfl, fun u hu => by simp at hu; rw [hu]; rfl, fun i u b hi hj => ?_⟩
 match i with
 | 0 =>
  simp at hi hj;subst hi hj;exact ⟨_, _, _, _, rfl, ⟨World.ownsRow_nil _ _ _ _, fun r hr => by simp [bZ] at hr⟩, ⟨World.ownsRow_nil _ _ _ _, fun r hr => by simp [bZ] at hr⟩, ⟨World.ownsRow_nil _ _ _ _, fun r hr => by simp [bZ] at hr⟩, ⟨World.ownsRow_nil _ _ _ _, fun r hr => by simp [bZ] at hr⟩⟩
 | i + 1 => simp at hi
theorem BRun.app {us : List Value} {tmp : Obj} {v' a0 a1 a2 a3 a4 : Value} {nb : Bk} (h : BRun B Bs KL A v) (ho : A.ownsRow B 27 5 v KL.length (flatU us)) (hl : us.length = KL.length) (h5 : ∀ u ∈ us, u.cells.size = 5) (hk : ∀ (i : Nat) (u : Value) (b : Bk), us[i]? = some u → KL[i]? = some b → BkOwn A (Bs + 3) u b)
  (hu : BkOwn A (Bs + 3) (.agg #[a0, a1, a2, a3, a4]) nb) (ho' : C.ownsRow B 27 5 v' (KL.length + 1) (flatU us ++ [a0, a1, a2, a3, a4])) (hg : (A.alloc tmp).grownBy C v.ownBlock) (hat : v'.ownBlock = v.ownBlock ∨ v'.ownBlock = some (A.heap.size + 1)) (hS : Bs + 2 < A.heap.size) : BRun B Bs (KL ++ [nb]) C v' := by
 have key : ∀ {u : Value} {b : Bk}, BkOwn A (Bs + 3) u b → BkOwn C (Bs + 3) u b := fun h => (h.kept (zz01 (Below.refl _ _) (Nat.le_refl _) tmp)).gr hg fun r e => .inr fun cs t fr h2 => by
  obtain ⟨_, _, cs', h3⟩ := zz0n ho e;have h3 := zz05 h3 tmp;rw [h2] at h3;injection h3 with h3
  injection h3 with _ h3 _
  subst h3
  decide
 refine ⟨fun q e => ?_, us ++ [.agg #[a0, a1, a2, a3, a4]], ?_, by simp [hl], ?_, ?_⟩
 ·rcases hat with h2 | h2
  ·exact h.1 q (h2 ▸ e)
  ·rw [h2] at e; injection e with e; omega
 ·rw [List.length_append, zz4q]
  exact ho'
 ·intro u hu
  rcases List.mem_append.1 hu with hu | hu
  ·exact h5 u hu
  ·simp at hu; rw [hu]; rfl
 ·intro i u b hi hj
  by_cases hlt : i < us.length
  ·rw [List.getElem?_append_left hlt] at hi
   rw [List.getElem?_append_left zw] at hj;exact key (hk i u b hi hj)
  ·rw [List.getElem?_append_right zw] at hi
   rw [List.getElem?_append_right zw] at hj;have h1 := (List.getElem?_eq_some_iff.1 hi).1;simp at h1;rw [h1] at hi;rw [show i - KL.length = 0 by omega] at hj
   simp at hi hj;subst hi hj;exact key hu
theorem BRun.rrun {w0 : World} (h : BRun w0.heap.size Bs KL A v) (hb : Below w0.heap.size w0 A) : RRun w0 (.agg BZ) [] KL A (.slice none 0 0) v := by
 obtain ⟨hn, us, ho, hl, h5, hk⟩ := h;refine ⟨hb, ⟨World.ownsRow_nil _ _ _ _, fun r hr => by simp at hr⟩, us, ho, hl, h5, fun i u b hi hj => ?_⟩
 obtain ⟨vh, vs, vo, vr, rfl, h1, h2, h3, h4⟩ := hk i u b hi hj;have key : ∀ {e : TypeId} {x y : Value} {k : Nat} {l : List (List Int)}, RowOwn A (Bs + 3) e y k l → e ≠ 27 → FarR A (Sx (.slice none 0 0) v) x y k l := fun {e x y k l} hx hne => ⟨hx.row, .inr (.inr fun q hq hS => by
  rcases hS with hS | hS
  ·cases hS
  ·exact zz4g hx.1 ho hne hq hS)⟩
 exact ⟨_, _, _, _, _, _, _, _, _, rfl, rfl, key h1 zx, key h2 zx, key h3 zx, key h4 zx⟩
end
theorem Books_ok (A : Option Addr) (c : Nat) (L : List Ev) (rate : Int) (w : World) (hT : Hid (Law16 w)) (HL : Hid (EvsAt w (.slice A L.length c) L)) (hE : Hid (∀ e ∈ L, e.I64s)) (hr0 : Hid (0 ≤ rate ∧ rate ≤ 1000)) (hln : L.length ≤ 60000) :
  Calls Tryz.prog 20 #[.slice A L.length c, .int .i64 rate] w fun r w' => ∃ vb, r = .returned (.tuple #[vb, .int .i64 0]) ∧ RRun w (.agg BZ) [] (foldK bZ rate L) w' (.slice none 0 0) vb := by
 have q1 : Hid (∀ (v : Value) (wz : World), Hid (BkAt wz v bZ) → Calls Tryz.prog 48 #[v, .int .i64 L.length, .int .i64 rate] wz fun e w' => e = .returned (.int .i64 0) ∧ Below wz.heap.size wz w') := (show _ from fun v wz hv => by
  have h := zz5r v bZ L.length rate wz hv (zH (by unfold Bk.Small bZ; simp)) zw
  rw [show rightC bZ L.length rate = 0 from by unfold rightC; rw [if_neg zw, bZ_good.may, decide_eq_true hr0.out.1, decide_eq_true hr0.out.2, if_pos (by rfl), if_neg (by show ¬ _ < (0 : Int) + _; omega)]] at h
  exact h)
 refine (callsIn_wide (n := 3)).1 ?_;have h1 : 1 ≤ 3 := by omega
 have hro : Fence.wide.round = none := rfl;refine callsIn_of_wp_marks Tryz.func20 rfl trivial ?_ hro;simp only [Tryz.ntmps20, List.size_toArray, List.length_cons, List.length_nil, Nat.reduceAdd, Nat.reduceSub, Array.replicate_succ, Array.replicate_zero, List.push_toArray, List.append_toArray, List.nil_append, List.cons_append]
 gi_wp2_with (fail)
 refine ⟨trivial, callsIn_wide.2 ((q1.out _ _ (zH (BkAt.zero _))).mono ?_)⟩;rintro r w1 ⟨rfl, hb⟩;have K := zEk (zE0 w) hb;clear hb q1
 gi_wp2_with (fail)
 generalize hw : World.alloc _ _ = wo;replace K := zEa2 hw K;clear hw;refine ⟨trivial, callsIn_wide.2 ((zz6r none none none none A 0 0 0 0 L.length c bZ rate wo).mono ?_)⟩;rintro r w3 ⟨rfl, hw3⟩;have hb3 : Below wo.heap.size wo w3 := by rw [hw3]; exact zz01 (zz01 zBa (by simp) _) (by simp; omega) _
 have S0 : ZB w3 wo.heap.size BZ 27 := by rw [hw3]; exact zz05 (zz05 (zz02 _ _) _) _
 have S1 : ZB w3 (wo.heap.size + 1) #[.slice A L.length c] 44 := by rw [hw3]; exact zz05 (zz0c _ _ _ (by simp)) _
 have S2 : ZB w3 (wo.heap.size + 2) #[rate] 3 := by rw [hw3]; exact zz0c _ _ _ (by simp)
 have n3 : wo.heap.size + 2 < w3.heap.size := zL S2.out;have n1 : w1.heap.size + 1 < wo.heap.size := zL (zEg K);have n0 : w.heap.size ≤ w1.heap.size := (by have := K.out.2.1.2.1.1; exact this)
 replace K := zEk K hb3;have H0 : Hid (BRun w.heap.size wo.heap.size [bZ] w3 (.slice (some ⟨w1.heap.size, 0, none⟩) 1 1)) := zH (BRun.one n0 zw K.out.2.1.2.1.2);replace K : Hid (En w w3 [(w1.heap.size + 1, #[.slice (some ⟨w1.heap.size, 0, none⟩) 1 1], 48)]) := zH ⟨K.out.1, ⟨K.out.2.1.1, trivial⟩, List.pairwise_singleton _ _⟩;clear hw3 hb3
 gi_wp2_with (fail)
 refine zz4c hro h1 (gf := 114) (lb := #[.pointer (some ⟨wo.heap.size + 1, 0, none⟩), .pointer (some ⟨wo.heap.size, 0, none⟩), .pointer (some ⟨wo.heap.size + 2, 0, none⟩)]) rfl trivial (enters_of Tryz.func114 zk rfl)
  (EnF bZ rate) (KpF w.heap.size wo.heap.size) L wo.heap.size
  (fun pre x args M W h => by obtain ⟨_, _, _, _, _, _, _, _, rfl, _⟩ := h; rfl) (fun h k => h.trans k) (fun M W l o o' hl ho hc => KpF.put o' zw ho hc)
  (zz6s bZ L rate w w3 wo.heap.size none none none none A 0 0 0 0 c hT (zH (BkAt.zero _)) HL (zH bZ_good) hE hr0 (zH (by show (0 : Int) + _ ≤ _; omega)) (zH (by show 0 + _ ≤ _; omega)) zw (zH (zEb K)) (zH (by show _ ≤ _; omega)) S0 S1 S2) zw
  (fun pre M W => ∃ vo, Hid (En w W [(w1.heap.size + 1, #[vo], 48)]) ∧ Hid (BRun w.heap.size wo.heap.size (foldK bZ rate pre) W vo) ∧ Hid (∀ q, vo.ownBlock = some q → q < M)) (fun _ _ _ => False)
  (fun M pre A B row ⟨vo, hk, hb, hq⟩ hg hr => ⟨vo, zEgs hk hg hr ⟨by omega, by omega⟩ (by simp; omega), zH (hb.out.gs hg hr), hq⟩)
  (fun pre M W ⟨vo, hk, hb, hq⟩ => ⟨vo, hk, hb, zH hb.out.lt⟩)
  (fun cd pre A B row h _ _ => h)
  ⟨_, K, H0, zH H0.out.lt⟩
  (fun pre x M a' W => ∃ (g : Nat) (Y1 : Option Addr) (e1 : Nat) (Y2 : Option Addr) (e2 : Nat) (Y3 : Option Addr) (e3 : Nat) (Y4 : Option Addr) (e4 : Nat), a' = { tmps := #[.slice A L.length c, .int .i64 rate, undef, undef, .slice none 0 0, .int .i64 0, .int .i64 0, .pointer (some ⟨w1.heap.size + 1, 0, none⟩), undef, .pointer (some ⟨g, 0, none⟩), .agg BZ, .slice A L.length c, .int .i64 L.length, .int .i64 rate, .int .i64 0, .int .i64 0, .bool false, undef, .agg BZ, .slice (some ⟨w1.heap.size, 0, none⟩) 1 1, .agg BZ, .slice A L.length c, .int .i64 rate, .func (.func 114) #[] #[.pointer (some ⟨wo.heap.size + 1, 0, none⟩), .pointer (some ⟨wo.heap.size, 0, none⟩), .pointer (some ⟨wo.heap.size + 2, 0, none⟩)], .int .i64 (pre.length : Nat), .agg #[.int .i64 (gateV (foldB bZ rate pre) x rate).1, .int .i64 (gateV (foldB bZ rate pre) x rate).2, .slice Y1 (foldB bZ rate (pre ++ [x])).h.length e1, .slice Y2 (foldB bZ rate (pre ++ [x])).s.length e2, .slice Y3 (foldB bZ rate (pre ++ [x])).o.length e3, .slice Y4 (foldB bZ rate (pre ++ [x])).r.length e4, .int .i64 (foldB bZ rate (pre ++ [x])).n], undef, undef, undef, undef, undef, undef], defers := [] } ∧ M ≤ g ∧ ZB W g #[.int .i64 (gateV (foldB bZ rate pre) x rate).1, .int .i64 (gateV (foldB bZ rate pre) x rate).2, .slice Y1 (foldB bZ rate (pre ++ [x])).h.length e1, .slice Y2 (foldB bZ rate (pre ++ [x])).s.length e2, .slice Y3 (foldB bZ rate (pre ++ [x])).o.length e3, .slice Y4 (foldB bZ rate (pre ++ [x])).r.length e4, .int .i64 (foldB bZ rate (pre ++ [x])).n] 104 ∧ Hid (BkOwn W M (.agg #[.slice Y1 (foldB bZ rate (pre ++ [x])).h.length e1, .slice Y2 (foldB bZ rate (pre ++ [x])).s.length e2, .slice Y3 (foldB bZ rate (pre ++ [x])).o.length e3, .slice Y4 (foldB bZ rate (pre ++ [x])).r.length e4, .int .i64 (foldB bZ rate (pre ++ [x])).n]) (foldB bZ rate (pre ++ [x]))))
  ?hAx ?assign ?body ?done ?stop
 case hAx =>
  exact zt48
 case assign =>
  rintro l pre x args M W K' hwM hMW ⟨vo, hk, hB, hq⟩ ⟨Y1, e1, Y2, e2, Y3, e3, Y4, e4, rfl, hO⟩ hpre hK;have hbW : ∀ ob, Below W.heap.size W (W.alloc ob) := fun ob => zBa
  have hK2 := zH (hK _ (W.alloc (.cells #[.int .i64 (gateV (foldB bZ rate pre) x rate).1, .int .i64 (gateV (foldB bZ rate pre) x rate).2, .slice Y1 (foldB bZ rate (pre ++ [x])).h.length e1, .slice Y2 (foldB bZ rate (pre ++ [x])).s.length e2, .slice Y3 (foldB bZ rate (pre ++ [x])).o.length e3, .slice Y4 (foldB bZ rate (pre ++ [x])).r.length e4, .int .i64 (foldB bZ rate (pre ++ [x])).n] 104)) ((KeepsOthers.alloc _ _).from _) (KpF.of (hbW _) zw) ⟨vo, zEk hk (hbW _), zH (hB.out.call (hbW _)), hq⟩ ⟨W.heap.size, Y1, e1, Y2, e2, Y3, e3, Y4, e4, rfl, hMW, zH (zz02 _ _), zH (hO.kept (hbW _))⟩)
  clear hK hO hbW hB hk
  gi_wp2
  exact hK2.out
 case body =>
  rintro l pre x M a' W hwM hMW ⟨vo, K, HB, HM⟩ ⟨g, Y1, e1, Y2, e2, Y3, e3, Y4, e4, rfl, hMg, hS, hO⟩ hpre;have hPL : pre.length ≤ 60000 := by
   obtain ⟨t, ht⟩ := hpre;have : (pre ++ [x] ++ t).length = L.length := by rw [ht]
   simp at this;omega
  obtain ⟨X1, hX1⟩ : ∃ X1, (gateV (foldB bZ rate pre) x rate).1 = X1 := ⟨_, rfl⟩;obtain ⟨X2, hX2⟩ : ∃ X2, (gateV (foldB bZ rate pre) x rate).2 = X2 := ⟨_, rfl⟩;obtain ⟨nb, hnb⟩ : ∃ nb, foldB bZ rate (pre ++ [x]) = nb := ⟨_, rfl⟩;rw [hX1, hX2, hnb] at hS;rw [hnb] at hO;simp only [hX1, hX2, hnb];have HF : Hid (foldK bZ rate (pre ++ [x]) = foldK bZ rate pre ++ [nb]) := zH (by rw [zz60, ← zz7a, hnb])
  obtain ⟨hn, us, hro, hl5, h5, hk5⟩ := HB.out;have HN := zH hn;have HRO := zH hro;have HKl := zH (show (foldK bZ rate pre).length + 1 ≤ 4000000 by rw [zz1l]; omega)
  have HAll := zH (show us.length = (foldK bZ rate pre).length ∧ (∀ u ∈ us, u.cells.size = 5) ∧ ∀ (i : Nat) (u : Value) (b : Bk), us[i]? = some u → (foldK bZ rate pre)[i]? = some b → BkOwn W (wo.heap.size + 3) u b from ⟨hl5, h5, hk5⟩)
  have HBle := zH (show w.heap.size ≤ W.heap.size from (zEb K).size)
  have HO := zH (hO.out.mono (show wo.heap.size + 3 ≤ M by omega))
  clear hX1 hX2 hnb hpre hn hro hl5 h5 hk5 hO;have c := zEc K;have cS := zC hS.out;have lS := zL hS.out;refine wpIn_block ?_;refine zz6h ?_;go_wp2_with (at_builtin; refine zz17 (wr := W) (B := w.heap.size) _ _ 48 27 _ 5 104 zzbm (BF Y1 e1 Y2 e2 Y3 e3 Y4 e4 nb nb.n) _ (foldK bZ rate pre).length (flatU us) HRO HBle.out rfl rfl rfl rfl rfl (by intro u hu; simp at hu; rcases hu with rfl | rfl | rfl | rfl | rfl <;> rfl) HKl.out zx ?_)
  intro vo' W2 hown hg hat;obtain ⟨ao, no, co, rfl⟩ := zz80 hown.out;have hrow : ∀ q, vo.ownBlock = some q → w.heap.size ≤ q ∧ q < W.heap.size ∧ ∃ cs, W.heap[q]? = some (.cells cs 27 (0, 0)) := fun q hq => zz0n HRO.out hq
  have hbA : ∀ ob, Below W.heap.size W (W.alloc ob) := fun ob => zBa
  have HB2 := zH (HB.out.app HRO.out HAll.out.1 HAll.out.2.1 HAll.out.2.2 HO.out hown.out hg.out hat.out zw);have K2 := zEgr (zEk K (hbA _)) hg.out (fun r e => ⟨(hrow r e).1, fun y hy => by
   obtain rfl := List.mem_singleton.1 hy;exact fun h => own_ne HRO.out K.out.2.1.1.2 zx (e.trans (congrArg some h.symm))⟩)
  have kk : Hid (KeepsOthers W W2 ∧ KpF w.heap.size wo.heap.size M W W2) := zH ⟨(KeepsOthers.alloc W _).trans (KeepsOthers.of_grownBy hg.out fun j o ej hj => by
   obtain ⟨_, _, cs, h3⟩ := hrow j ej;have h3 := zz05 h3 (.cells (BF Y1 e1 Y2 e2 Y3 e3 Y4 e4 nb nb.n) 27);rw [hj] at h3;cases h3
   rfl), (zz01 (Below.refl w.heap.size W) HBle.out _).grown hg.out (by simp; have := HBle.out; omega) (fun q hq => (hrow q hq).1), fun k cs t fr hk hr => (hg.out.block k (by have := zL hk; simp; omega) (fun e => by
    have h1 := HN.out k e.symm;have h2 := HM.out k e.symm;omega)).trans (zz05 hk _)⟩
  clear hown hg hat hrow hbA c cS lS HO HAll HKl HRO HB HN HM hS;have c := zEx K2;go_wp2_with fail;generalize hs : World.setCell _ _ _ = ws;have E : putC W2 (w1.heap.size + 1) 0 [.slice ao no co] = ws := hs;have h4 := HB2.out.gr (E ▸ zz4n [.slice ao no co] 0 W2) (fun r e => by cases e; exact ⟨fun e2 => by obtain ⟨_, us, h3, _⟩ := HB2.out; exact own_ne h3 K2.out.2.1.1.2 zx e2, .inl zw⟩)
  refine ⟨(kk.out.1.trans (E ▸ zz37 _ 0 W2)).from _, kk.out.2.trans (E ▸ KpF.putC zw zw zw 0 [.slice ao no co]), _, zEp E K2, zH (HF.out ▸ h4), zH h4.lt⟩
 case done =>
  rintro D M W hD ⟨vo, K, HB, _⟩ hK;have HK := zH hK;clear hK;have c := zEc K
  gi_wp2_with (fail)
  refine ⟨by simp, .inl ⟨_, _, rfl, run_takeDeferred HK.out, ?_⟩⟩
  exact ⟨_, results_tmp2 rfl _ _ _, _, rfl, (HB.out.gs (N := w3.heap.size) (grownBy_putObj' W D _) (fun r e => by cases e; exact .inr ⟨hD, _, HK.out, rfl⟩)).rrun ((zEb K).trans (belowK_b (w := w) (Nat.le_refl _) W D _ _ zw HK.out rfl rfl))⟩
 case stop =>
  rintro D cd pre W _ _ h _;exact h.elim
end
section
open Go Go.RowKit Go.Shelf
def prC (p : Ev × Int × Int) : List Int := pairC p.1 p.2
def PrsAt (w : World) (v : Value) (L : List (Ev × Int × Int)) : Prop := RowAt w v 9 (L.map prC)
theorem PrsAt.call {w w' : World} {v : Value} {L : List (Ev × Int × Int)} (h : PrsAt w v L) (hb : Below w.heap.size w w') : PrsAt w' v L := RowAt.call h hb
theorem PrsAt.get {w : World} {A : Option Addr} {n c : Nat} {L : List (Ev × Int × Int)} (h : PrsAt w (.slice A n c) L) {i : Nat} {e : Ev} {x y : Int} (hi : L[i]? = some (e, x, y)) : ∃ b o, A = some ⟨b, o, none⟩ ∧ b < w.heap.size ∧
  w.cell? ⟨b, o + i * 9, none⟩ = some (.int .i64 e.kind) ∧ w.cell? ⟨b, o + i * 9 + 1, none⟩ = some (.int .i64 e.acc) ∧ w.cell? ⟨b, o + i * 9 + 2, none⟩ = some (.int .i64 e.ord) ∧ w.cell? ⟨b, o + i * 9 + 3, none⟩ = some (.int .i64 e.sym) ∧ w.cell? ⟨b, o + i * 9 + 4, none⟩ = some (.int .i64 e.side) ∧ w.cell? ⟨b, o + i * 9 + 5, none⟩ = some (.int .i64 e.qty) ∧ w.cell? ⟨b, o + i * 9 + 6, none⟩ = some (.int .i64 e.px) ∧ w.cell? ⟨b, o + i * 9 + 7, none⟩ = some (.int .i64 x) ∧ w.cell? ⟨b, o + i * 9 + 8, none⟩ = some (.int .i64 y) := by
 obtain ⟨A', c', hA, hi'⟩ := RowAt.rec' h;injection hA with hA1 _ _
 subst hA1;obtain ⟨_, b, o, hA2, hb, hc⟩ := hi' i (prC (e, x, y)) (by rw [List.getElem?_map, hi]; rfl)
 exact ⟨b, o, hA2, hb, hc 0 _ rfl, hc 1 _ rfl, hc 2 _ rfl, hc 3 _ rfl, hc 4 _ rfl, hc 5 _ rfl, hc 6 _ rfl, hc 7 _ rfl, hc 8 _ rfl⟩
def evsC (L : List (Ev × Int × Int)) : List (List Int) := (L.map (·.1)).map Ev.cells
theorem zt76 {p : Prop} (h : p := by
 obtain rfl : i = L.length := by have := hi.out; omega
 have tn : decide ((L.length : Int) < (L.length : Int)) = false := decide_eq_false zw;go_wp2_with fail;go_ret;exact ⟨_, rfl, by have := HO.out; rw [List.take_length] at this; exact this, HB.out⟩) : p := h
theorem rEvents_any (A : Option Addr) (c : Nat) (L : List (Ev × Int × Int)) (w : World) (h : Hid (PrsAt w (.slice A L.length c) L)) (hl : L.length ≤ 100000) :
  Calls Tryz.prog 23 #[.slice A L.length c] w fun r w' => ∃ v, r = .returned v ∧ RowOwn w' w.heap.size 29 v 7 (evsC L) ∧ Below w.heap.size w w' := by
 go_in;go_wp2_with fail;go_loopw [3, 4] (fun s3 s4 wr => ∃ (i : Nat), s4 = .int .i64 i ∧ Hid (i ≤ L.length) ∧ Hid (RowOwn wr w.heap.size 29 s3 7 (evsC (L.take i))) ∧ Hid (Below w.heap.size w wr)) (fun _ s4 _ => L.length - (intOf s4).toNat)
 case atStart => exact ⟨0, rfl, Nat.zero_le _, ⟨World.ownsRow_nil _ _ _ _, fun r hr => by simp [evsC] at hr⟩, Below.refl _ _⟩
 case round =>
  obtain ⟨i, rfl, hi, HO, HB⟩ := hrel;by_cases hin : i < L.length
  ·have tn : decide ((i : Int) < (L.length : Int)) = true := decide_eq_true zw
   obtain ⟨⟨e, x, y⟩, he⟩ : ∃ p, L[i]? = some p := ⟨_, List.getElem?_eq_getElem hin⟩;have HT : Hid (evsC (L.take (i + 1)) = evsC (L.take i) ++ [e.cells]) := (show _ = _ from by unfold evsC; rw [zz5k he]; simp)
   have HN : (evsC (L.take i)).length + 1 ≤ 4000000 := by unfold evsC; simp; omega
   obtain ⟨b, o, rfl, hbl, c0, c1, c2, c3, c4, c5, c6, _, _⟩ := (h.out.call HB.out).get he;have HS : w.heap.size ≤ wr.heap.size := HB.out.size;clear he;go_wp2_with (at_builtin; refine zz19 _ _ 44 29 (.agg #[.int .i64 0, .int .i64 0, .int .i64 0, .int .i64 0, .int .i64 0, .int .i64 0, .int .i64 0]) 7 56 zz88 [e.kind, e.acc, e.ord, e.sym, e.side, e.qty, e.px] _ (evsC (L.take i)) HO HS rfl rfl rfl rfl rfl HN zx ?_);intro v' w' hO' hg';obtain ⟨_, hb', _⟩ := zz4p HO.out HS hg'.out;have HB' := zH (HB.out.trans hb');have HO2 : Hid (RowOwn w' w.heap.size 29 v' 7 (evsC (L.take (i + 1)))) := (show RowOwn _ _ _ _ _ _ by rw [HT.out]; exact hO'.out)
   clear hO' hg' hb' c0 c1 c2 c3 c4 c5 c6 hbl HN HT HO HB HS;go_wp2_with fail;go_roundw
   case rel => exact ⟨i + 1, by go_num, hin, HO2.out, HB'.out⟩
   case measure => simp [intOf]; omega
  ·exact zt76
theorem zzc8 (A : Option Addr) (c : Nat) (L : List (Ev × Int × Int)) (w : World) (h : Hid (PrsAt w (.slice A L.length c) L)) (hl : L.length ≤ 100000) :
  Calls Tryz.prog 21 #[.slice A L.length c] w fun r w' => ∃ v, r = .returned v ∧ RowOwn w' w.heap.size 29 v 7 (evsC L) ∧ Below w.heap.size w w' := by
 go_in;go_wp2_with fail;go_loopw [3, 8] (fun s3 s4 wr => ∃ (i : Nat), s4 = .int .i64 i ∧ Hid (i ≤ L.length) ∧ Hid (RowOwn wr w.heap.size 29 s3 7 (evsC (L.take i))) ∧ Hid (Below w.heap.size w wr)) (fun _ s4 _ => L.length - (intOf s4).toNat)
 case atStart => exact ⟨0, rfl, Nat.zero_le _, ⟨World.ownsRow_nil _ _ _ _, fun r hr => by simp [evsC] at hr⟩, Below.refl _ _⟩
 case round =>
  obtain ⟨i, rfl, hi, HO, HB⟩ := hrel;by_cases hin : i < L.length
  ·have tn : decide ((i : Int) < (L.length : Int)) = true := decide_eq_true zw
   obtain ⟨⟨e, x, y⟩, he⟩ : ∃ p, L[i]? = some p := ⟨_, List.getElem?_eq_getElem hin⟩;have HT : Hid (evsC (L.take (i + 1)) = evsC (L.take i) ++ [e.cells]) := (show _ = _ from by unfold evsC; rw [zz5k he]; simp)
   have HN : (evsC (L.take i)).length + 1 ≤ 4000000 := by unfold evsC; simp; omega
   obtain ⟨b, o, rfl, hbl, c0, c1, c2, c3, c4, c5, c6, c7, c8⟩ := (h.out.call HB.out).get he;obtain ⟨wa, hwa⟩ : ∃ wa, wr.alloc (.cells #[e.kind, e.acc, e.ord, e.sym, e.side, e.qty, e.px, x, y] 98) = wa := ⟨_, rfl⟩;have hba : Below wr.heap.size wr wa := hwa ▸ zBa;have K : ZB wa wr.heap.size #[e.kind, e.acc, e.ord, e.sym, e.side, e.qty, e.px, x, y] 98 := hwa ▸ zz02 _ _;have HOa : Hid (RowOwn wa w.heap.size 29 _ 7 (evsC (L.take i))) := HO.out.kept hba;have HBa := zB HB hba;have HS : w.heap.size ≤ wa.heap.size := HBa.out.size;clear he hba HO;have k0 := zC K.out;go_wp2_with (at_builtin; refine zz19 _ _ 44 29 (.agg #[.int .i64 0, .int .i64 0, .int .i64 0, .int .i64 0, .int .i64 0, .int .i64 0, .int .i64 0]) 7 56 zz88 [e.kind, e.acc, e.ord, e.sym, e.side, e.qty, e.px] _ (evsC (L.take i)) HOa HS rfl rfl rfl rfl rfl HN zx ?_);intro v' w' hO' hg';obtain ⟨_, hb', _⟩ := zz4p HOa.out HS hg'.out;have HB' := zH (HBa.out.trans hb');have HO2 : Hid (RowOwn w' w.heap.size 29 v' 7 (evsC (L.take (i + 1)))) := (show RowOwn _ _ _ _ _ _ by rw [HT.out]; exact hO'.out)
   clear hO' hg' hb' c0 c1 c2 c3 c4 c5 c6 c7 c8 k0 K hbl HN HT HOa HBa HB HS;go_wp2_with fail;go_roundw
   case rel => exact ⟨i + 1, by go_num, hin, HO2.out, HB'.out⟩
   case measure => simp [intOf]; omega
  ·exact zt76
def foldQ (b : Bk) (rate : Int) : List Ev → List (Ev × Int × Int)
 | [] => []
 | e :: l => (e, gateV b e rate) :: foldQ (gateB b e rate) rate l
theorem zz5e (rate : Int) : ∀ (l : List Ev) (b : Bk), (foldQ b rate l).map prC = foldP b rate l
 | [], _ => rfl
 | e :: l, b => by rw [foldQ, List.map_cons, zz5e rate l, foldP]; rfl
end
section
open Go Go.RowKit Go.Shelf Mon

end
section
open Go Go.RowKit Mon
theorem zz9k {b : Bk} {n : Nat} {rate : Int} (h : rightC b n rate = 0) : b.mayB = true ∧ 0 ≤ rate ∧ rate ≤ 1000 ∧ b.n + n ≤ 1099511627776 ∧ n ≤ 65536 := by
 unfold rightC at h;by_cases h1 : 65536 < n
 ·rw [if_pos h1] at h; cases h
 rw [if_neg h1] at h;by_cases h2 : (b.mayB && (decide (0 ≤ rate) && decide (rate ≤ 1000))) = true
 ·rw [if_pos h2] at h
  by_cases h3 : 1099511627776 < b.n + n
  ·rw [if_pos h3] at h; cases h
  ·simp only [Bool.and_eq_true, decide_eq_true_eq] at h2
   exact ⟨h2.1, h2.2.1, h2.2.2, by omega, by omega⟩
 ·rw [if_neg h2] at h; cases h
theorem zz7s {b : Bk} {n : Nat} {rate k : Int} (h : rightC b n rate = k) (hk : k ≠ 0) (hn : ¬ 65536 < n) : (b.mayB = false ∧ k = 1) ∨ (b.mayB = true ∧ decide (rate < 0) = true ∧ k = 1) ∨ (b.mayB = true ∧ decide (rate < 0) = false ∧ decide (1000 < rate) = true ∧ k = 1) ∨ (b.mayB = true ∧ decide (rate < 0) = false ∧ decide (1000 < rate) = false ∧ decide (1099511627776 < b.n + (n : Int)) = true ∧ IntKind.i64.wrap (b.n + (n : Int)) = b.n + (n : Int) ∧ k = 11) := by
 unfold rightC at h;rw [if_neg hn] at h;cases hm : b.mayB with
 | false =>
  rw [hm, if_neg (by simp)] at h
  exact .inl ⟨rfl, h.symm⟩
 | true =>
 rw [hm] at h;by_cases h1 : rate < 0
 ·rw [if_neg (by simp; omega)] at h
  exact .inr (.inl ⟨rfl, decide_eq_true h1, h.symm⟩)
 by_cases h2 : 1000 < rate
 ·rw [if_neg (by simp; omega)] at h
  exact .inr (.inr (.inl ⟨rfl, decide_eq_false h1, decide_eq_true h2, h.symm⟩))
 rw [if_pos (by simp; omega)] at h
 by_cases h3 : 1099511627776 < b.n + (n : Int)
 ·rw [if_pos h3] at h
  have hf := (Bk.mayB_iff b).1 hm;have hn0 := hf.n0;have hn1 := hf.n1;exact .inr (.inr (.inr ⟨rfl, decide_eq_false h1, decide_eq_false h2, decide_eq_true h3, by rw [IntKind.wrap_i64]; omega, h.symm⟩))
 ·rw [if_neg h3] at h
  exact absurd h.symm hk
end
section
open Go Go.RowKit Go.Shelf Mon
theorem zzbi (rate : Int) : ∀ (l : List Ev) (b : Bk), (foldQ b rate l).map (·.1) = l
 | [], _ => rfl
 | e :: l, b => by rw [foldQ, List.map_cons, zzbi rate l]
section
variable {P : Program} {ops : Array Oper} {C : World → Prop}
theorem zkp {K : Act → Prop} {o : Oper} {l : List Oper} {a : Act} (h : wpPure P ops C K l (a.put o.dst undef)) (hg : Region.wanted o (yielded ops a.tmps) = false := by kernel_rfl) : wpPure P ops C K (o :: l) a := ⟨undef, .inr ⟨hg, rfl⟩, h⟩
end
def BkGot (w : World) (g k : Nat) (b : Bk) (A1 A2 A3 A4 : Option Addr) (c1 c2 c3 c4 : Nat) (wz : World) : Prop :=
 Below w.heap.size w wz → wz.cell? ⟨g, k * 5, none⟩ = some (.slice A1 b.h.length c1) ∧ wz.cell? ⟨g, k * 5 + 1, none⟩ = some (.slice A2 b.s.length c2) ∧ wz.cell? ⟨g, k * 5 + 2, none⟩ = some (.slice A3 b.o.length c3) ∧ wz.cell? ⟨g, k * 5 + 3, none⟩ = some (.slice A4 b.r.length c4) ∧ wz.cell? ⟨g, k * 5 + 4, none⟩ = some (.int .i64 b.n)
theorem RRun.got {w0 w : World} {u0 vp : Value} {PL : List (List Int)} {KL : List Bk} {g n c : Nat} (h : RRun w0 u0 PL KL w vp (.slice (some ⟨g, 0, none⟩) n c)) {i : Nat} {b : Bk} (hi : KL[i]? = some b) : ∃ A1 c1 A2 c2 A3 c3 A4 c4, BkAt w (.agg (BF A1 c1 A2 c2 A3 c3 A4 c4 b b.n)) b ∧ ∀ wz, BkGot w g i b A1 A2 A3 A4 c1 c2 c3 c4 wz := by
 obtain ⟨g', c', A1, c1, A2, c2, A3, c3, A4, c4, hv, hgl, hF, m0, m1, m2, m3, m4⟩ := h.get hi;injection hv with h1 h2 h3
 injection h1 with h1
 injection h1 with h1 _ _
 subst h1;exact ⟨A1, c1, A2, c2, A3, c3, A4, c4, hF.at, fun wz hb => ⟨(hb.cell (p := ⟨_, _, _⟩) hgl).trans m0, (hb.cell (p := ⟨_, _, _⟩) hgl).trans m1, (hb.cell (p := ⟨_, _, _⟩) hgl).trans m2, (hb.cell (p := ⟨_, _, _⟩) hgl).trans m3, (hb.cell (p := ⟨_, _, _⟩) hgl).trans m4⟩⟩
theorem RRun.rowf {w0 w : World} {u0 vp vb : Value} {PL : List (List Int)} {KL : List Bk} (h : RRun w0 u0 PL KL w vp vb) {i : Nat} {b : Bk} (hi : KL[i]? = some b) : ∃ g c, vb = .slice (some ⟨g, 0, none⟩) KL.length c := by
 obtain ⟨g, c, _, _, _, _, _, _, _, _, hv, _⟩ := h.get hi;exact ⟨g, c, hv⟩
theorem zt63 {p : Prop} (h : p := by
 go_wp2_with fail;(with_reducible refine (q1.out _).mono ?_);rintro r wc2 ⟨rfl, hb⟩;replace K := zEk K hb;clear hb;go_wp2_with fail;go_ret;exact ⟨rfl, zEb K⟩) : p := h
theorem zt90 {p : Prop} (h : p := by
 unfold wpPure;go_simp;refine zQe ?_;go_wp2_with fail;go_roundw
 case rel => exact ⟨i + 1, by go_num, hin, hbd.out⟩
 case measure => simp [intOf]; omega) : p := h
theorem zz6c (A : Option Addr) (cA : Nat) (L : List Ev) (rate : Int) (w : World) (hT : Hid (Law16 w)) (HL : Hid (EvsAt w (.slice A L.length cA) L)) (hE : Hid (∀ e ∈ L, e.I64s)) (hl : L.length ≤ 4611686018427387903) :
  Calls Tryz.prog 5 #[.slice A L.length cA, .int .i64 rate] w fun r w' => r = .returned (.bool true) ∧ Below w.heap.size w w' := by
 have t0 : ∀ x : Int, (x == x) = true := fun x => by simp
 go_in;go_wp2_with fail;(with_reducible refine (alive18 _ hT).mono ?_);rintro r wc1 ⟨rfl, hb⟩;have K := zEk (zE0 w) hb;clear hb;by_cases h1 : 60 < L.length ∧ L.length ≤ 65536
 ·have t1 : decide (60 < (L.length : Int)) = true := decide_eq_true zw
  have t2 : decide ((L.length : Int) ≤ 65536) = true := decide_eq_true zw;go_wp2_with fail;go_ret;exact ⟨rfl, zEb K⟩
 obtain ⟨k, hk⟩ : ∃ k, rightC bZ L.length rate = k := ⟨_, rfl⟩;by_cases hk0 : k = 0
 ·obtain ⟨_, hr0, hr1, _, h2⟩ := zz9k (hk.trans hk0)
  have hln : L.length ≤ 60 := by omega
  have t1 : decide (60 < (L.length : Int)) = false := decide_eq_false zw;have t3 : decide (65536 < (L.length : Int)) = false := decide_eq_false zw;have t4 : decide (rate < 0) = false := decide_eq_false zw;have t5 : decide (1000 < rate) = false := decide_eq_false zw;have HR0 : Hid (0 ≤ rate ∧ rate ≤ 1000) := ⟨hr0, hr1⟩;have q1 := zH (fun wz h1 h2 => Books_ok A cA L rate wz h1 h2 hE HR0 zw)
  have q2 := zH (fun wz h2 => rRun_any _ bZ A cA L rate wz (zH (BkAt.zero wz)) h2 (zH bZ_good) hE HR0 (zH (by show (0 : Int) + _ ≤ _; omega)) (zH (by show 0 + _ ≤ _; omega)) zw)
  obtain ⟨KL, hKL⟩ : ∃ KL, foldK bZ rate L = KL := ⟨_, rfl⟩;have hKl : KL.length = L.length + 1 := by rw [← hKL, zz1l]
  have hKs : Hid (∀ (i : Nat) (nb : Bk), KL[i]? = some nb → nb.Small) := (show _ from fun i nb hi => by
   have hlt := (List.getElem?_eq_some_iff.1 hi).1;rw [← hKL, zz5z rate L bZ i zw] at hi;obtain rfl := Option.some.inj hi;have hli : (L.take i).length ≤ L.length := by rw [List.length_take]; omega
   have h := zz38 rate (L.take i) bZ bZ_good (by show (0 : Int) + _ ≤ _; omega) (fun e he => hE.out e (List.mem_of_mem_take he))
   have h3 := zz22 rate (L.take i) bZ;exact h.small (by have : bZ.s.length = 0 := rfl; omega))
  obtain ⟨LQ, hLQ⟩ : ∃ LQ, foldQ bZ rate L = LQ := ⟨_, rfl⟩;have hq1 : LQ.map prC = foldP bZ rate L := by rw [← hLQ, zz5e]
  have hq2 : LQ.map (·.1) = L := by rw [← hLQ, zzbi]
  have hq3 : LQ.length = L.length := by rw [← hq2, List.length_map]
  have q3 := zH (fun A' c' wz h2 => zzc8 A' c' LQ wz h2 zw)
  rw [hq3] at q3;rw [hKL] at q1 q2;rw [← hq1] at q2;have HQ := zH (show LQ.length = L.length ∧ evsC LQ = L.map Ev.cells ∧ KL.length = L.length + 1 from ⟨hq3, by unfold evsC; rw [hq2], hKl⟩)
  have hg1 : Hid (∀ i : Nat, i < L.length + 1 → ∃ r, KL[i]? = some r) := zH fun i hi => ⟨_, List.getElem?_eq_getElem zw⟩
  have hg2 : Hid (∀ i : Nat, i < L.length → ∃ r, L[i]? = some r) := zH fun i hi => ⟨_, List.getElem?_eq_getElem hi⟩
  have qs : Hid (∀ (v v' : Value) (i : Nat) (nb : Bk) (wz : World), KL[i]? = some nb → Hid (BkAt wz v nb) → Hid (BkAt wz v' nb) → Calls Tryz.prog 12 #[v, v'] wz fun r w' => r = .returned (.bool true) ∧ Below wz.heap.size wz w') := (show _ from fun v v' i nb wz hi h1 h2 => by
   have h := rSame_any v v' nb nb wz h1 h2 (zH (hKs.out i nb hi));rw [(zz5o nb nb).2 rfl] at h;exact h)
  clear hk hk0 hr0 hr1 h2 h1 hLQ hq1 hq2 hq3 hKL hKl hKs;go_wp2_with fail;(with_reducible refine (q1.out _ (zH (hT.out.call (zEb K))) (zH (HL.out.call (zEb K)))).mono ?_);rintro r wc2 ⟨vb, rfl, hR⟩;obtain ⟨_, hk0⟩ := hg1.out 0 zw;obtain ⟨g1, d1, hv⟩ := hR.rowf hk0;rw [HQ.out.2.2] at hv;subst hv;replace K := zEk K hR.below;have HR1 := zH hR;clear hR q1;go_wp2_with fail;(with_reducible refine (q2.out _ (zH (HL.out.call (zEb K)))).mono ?_);rintro r wc3 ⟨vp, vb2, rfl, hR⟩;obtain ⟨g2, d2, hv⟩ := hR.rowf hk0;rw [HQ.out.2.2] at hv;subst hv;replace K := zEk K hR.below;replace HR1 := zH (HR1.out.call hR.below);have HR2 := zH hR;obtain ⟨A3, c3, hv⟩ := hR.pairs.form;rw [List.length_map, HQ.out.1] at hv;subst hv;have HP : Hid (PrsAt wc3 (.slice A3 L.length c3) LQ) := zH hR.pairs.row;clear hR q2 hk0;go_wp2_with fail;(with_reducible refine (q3.out _ _ _ HP).mono ?_);rintro r wx ⟨v, rfl, hO, hb⟩;replace K := zEk K hb;replace HR1 := zH (HR1.out.call hb);replace HR2 := zH (HR2.out.call hb);have HE : Hid (EvsAt wx v L) := zH (by have := hO.row; rw [HQ.out.2.1] at this; exact this)
  have HL := zH (HL.out.call (zEb K));obtain ⟨A4, c4, rfl⟩ := HE.out.form;clear hO hb q3 HP HQ;go_wp2_with fail;go_loopw [10] (fun s10 wr => ∃ i : Nat, s10 = .int .i64 i ∧ Hid (i ≤ L.length + 1) ∧ Hid (Below wx.heap.size wx wr)) (fun s10 _ => L.length + 1 - (intOf s10).toNat)
  case atStart => exact ⟨0, rfl, Nat.zero_le _, Below.refl _ _⟩
  case round =>
   obtain ⟨i, rfl, hi, HB⟩ := hrel;by_cases hin : i < L.length + 1
   ·have tn : decide ((i : Int) < (L.length : Int) + 1) = true := decide_eq_true zw
    have hi9 : (i : Int) < (L.length : Int) + 1 := by omega
    obtain ⟨nb, hnb⟩ := hg1.out i hin;have HNB := zH hnb;obtain ⟨X1, x1, X2, x2, X3, x3, X4, x4, hF1, G1⟩ := HR1.out.got hnb;obtain ⟨Y1, y1, Y2, y2, Y3, y3, Y4, y4, hF2, G2⟩ := HR2.out.got hnb;have HF1 := zH hF1;have HF2 := zH hF2;have M1 : Hid (∀ wz : World, Hid (Below wx.heap.size wx wz) → _) := zH (fun wz h => G1 wz h.out)
    have M2 : Hid (∀ wz : World, Hid (Below wx.heap.size wx wz) → _) := zH (fun wz h => G2 wz h.out)
    clear hF1 hF2 G1 G2 hnb;go_wp2_with fail;refine zS [] (fun wz => Hid (Below wx.heap.size wx wz)) 27 zk zk ?_
    intro wd hb;have hbd : Hid (Below wx.heap.size wx wd) := zB HB hb;clear hb;refine zM [0, 1, 2, 3, 4, 5, 6, 7] 19 hbd ?_;simp only [opsAt, zA]
    iterate 3 refine zp ?_
    refine zq M1.out ?_
    iterate 3 refine zp ?_
    refine zq M2.out ?_;unfold wpPure;go_simp;refine zW 8 ?_;go_wp2_with fail;(with_reducible refine (qs.out _ _ i nb _ HNB.out (zH (HF1.out.call hbd.out)) (zH (HF2.out.call hbd.out))).mono ?_);rintro r we ⟨rfl, hb⟩;replace hbd := zB hbd hb;clear hb;go_wp2_with fail;refine zY ?_ (fun _ => hbd)
    by_cases hil : i < L.length
    ·have tl : decide ((i : Int) < (L.length : Int)) = true := decide_eq_true zw
     have hi8 : (i : Int) < (L.length : Int) := by omega
     obtain ⟨e, he⟩ := hg2.out i hil;obtain ⟨b1, o1, rfl, e1⟩ := HE.out.get he;obtain ⟨b2, o2, rfl, e2⟩ := HL.out.get he;have E1 : Hid (∀ wz : World, Hid (Below wx.heap.size wx wz) → _) := zH (fun wz h => (HE.out.call h.out).got he)
     have E2 : Hid (∀ wz : World, Hid (Below wx.heap.size wx wz) → _) := zH (fun wz h => (HL.out.call h.out).got he)
     clear e1 e2 he;refine zM [9, 10, 11, 12, 13, 14, 15, 16, 17, 18, 19, 20, 21, 22, 23, 24, 25, 26] 0 hbd ?_;simp only [opsAt, zA]
     iterate 2 refine zp ?_
     iterate 5 refine zp ?_ zk
     iterate 3 refine zp ?_ zk
     refine zq E1.out ?_ zk
     iterate 3 refine zp ?_ zk
     refine zq E2.out ?_ zk
     iterate 3 refine zp ?_ zk
     exact zt90
    ·have tl : decide ((i : Int) < (L.length : Int)) = false := decide_eq_false zw
     refine zM [9, 10, 11, 12, 13, 14, 15, 16, 17, 18, 19, 20, 21, 22, 23, 24, 25, 26] 0 hbd ?_;simp only [opsAt, zA]
     iterate 2 refine zp ?_
     iterate 5 refine zp ?_ zk
     iterate 9 refine zkp ?_
     refine zp ?_ zk;refine zp ?_ zk;exact zt90
   ·obtain rfl : i = L.length + 1 := by have := hi.out; omega
    have tn : decide (((L.length + 1 : Nat) : Int) < (L.length : Int) + 1) = false := decide_eq_false zw;go_wp2_with fail;go_ret;exact ⟨rfl, zEb (zEk K HB.out)⟩
 have q1 := zH (fun wz => Books_bad A cA L.length rate k wz zw hk (by simpa using hk0))
 by_cases h2 : 65536 < L.length
 ·have t1 : decide (60 < (L.length : Int)) = true := decide_eq_true zw
  have t2 : decide ((L.length : Int) ≤ 65536) = false := decide_eq_false zw;have t3 : decide (65536 < (L.length : Int)) = true := decide_eq_true zw;obtain rfl : k = 4 := by rw [← hk]; unfold rightC; rw [if_pos h2]
  clear hk hk0 h1 h2;exact zt63
 have t1 : decide (60 < (L.length : Int)) = false := decide_eq_false zw;have t3 : decide (65536 < (L.length : Int)) = false := decide_eq_false zw;have hcase := zz7s hk hk0 h2;have hz := bZ_good.may;have hn0 : bZ.n = 0 := rfl;clear hk hk0 h1;rcases hcase with ⟨m, rfl⟩ | ⟨m, t4, rfl⟩ | ⟨m, t4, t5, rfl⟩ | ⟨m, t4, t5, t6, t7, rfl⟩
 ·rw [hz] at m; cases m
 ·clear m h2 hz hn0
  exact zt63
 ·clear m h2 hz hn0
  exact zt63
 ·have := of_decide_eq_true t6
  rw [hn0] at this;omega
end
end Go.Proofs.YtajogedbacpohaaGreatDoor
