/- Part 19 of what the claim rests on. -/
import Derived.Test.YtajogedbacpohaaGreatDoorE00
import Derived.Test.YtajogedbacpohaaGreatDoorE14
import Derived.Test.YtajogedbacpohaaGreatDoorE15
import Derived.Test.YtajogedbacpohaaGreatDoorE16
import Derived.Test.YtajogedbacpohaaGreatDoorE17
set_option linter.unusedVariables false
set_option linter.unusedSimpArgs false
set_option maxRecDepth 1000000
set_option maxHeartbeats 32000000
namespace Go.Proofs.YtajogedbacpohaaGreatDoor
section
open Go Go.RowKit Mon Bg
theorem zt96 {p : Prop} (h : p := by
 exact ⟨zz2z _ rfl rfl rfl #[.int .i64 0] 2 (fun ev wz => by unfold execOp; go_simp) (fun wz hz => ⟨rfl, by simp, zz02 wz _⟩), by simp⟩) : p := h
theorem zt97 {p : Prop} (h : p := by
 exact ⟨zz2z _ rfl rfl rfl #[.bool false] 4 (fun ev wz => by unfold execOp; go_simp) (fun wz hz => ⟨rfl, by simp, zz02 wz _⟩), by simp⟩) : p := h
theorem fill_any (w0 : World) (g : Nat) (vh vs vo vr : Value) (b : Bk) (e : Ev) (rate : Int) (hT : Hid (Law16 w0)) (B0 : Hid (BkAt w0 (.agg #[vh, vs, vo, vr, b.n]) b)) (hs : Hid b.Small) (hR : Hid b.Rise) (hE : Hid e.I64s) (l0 : List Stp) (hl0 : Hid (l0.length ≤ 50)) (w : World) (HI : Hid (Gt w0 g vh vs vo vr b e rate l0 w)) (hi : Hid b.I64s) (hm : Hid (b.mayB = true)) (hsS : Hid (b.s.length ≤ 900000)) :
  Calls Tryz.prog 32 #[.pointer (some ⟨g, 0, none⟩)] w fun r w' => ∃ v, r = .returned v ∧ BkEi w' (.agg #[vh, vs, vo, vr, b.n]) v b (if (fillS b e).all (·.holds) then fillB b e else b) ∧ Gt w0 g vh vs vo vr b e rate (l0 ++ cutL (fillS b e)) w' ∧ Off w w' := by
 obtain ⟨_, _, _, _, hv, r1, r2, r3, r4⟩ := B0.out;injection hv with hv
 simp only [Array.mk.injEq, List.cons.injEq, and_true] at hv;obtain ⟨rfl, rfl, rfl, rfl, _⟩ := hv;have LH : Hid (∀ r ∈ b.h, r.length = 4) := (by obtain ⟨_, _, _, h, _⟩ := r1; exact h)
 have LO : Hid (∀ r ∈ b.o, r.length = 6) := (by obtain ⟨_, _, _, h, _⟩ := r3; exact h)
 have LR : Hid (∀ r ∈ b.r, r.length = 2) := (by obtain ⟨_, _, _, h, _⟩ := r4; exact h)
 obtain ⟨Ah, ch, rfl, _⟩ := r1;obtain ⟨As, cs, rfl, _⟩ := r2;obtain ⟨Ao, co, rfl, _⟩ := r3;obtain ⟨Ar, cr, rfl, _⟩ := r4;have F1 : b.h.length ≤ 1000000 ∧ b.o.length ≤ 1000000 ∧ b.r.length ≤ 1000000 := by have := hs.out; unfold Bk.Small at this; omega
 have HL1 := zH F1;clear F1;have KG := zH (HI.out.blk.imp fun _ h => h.1)
 have HOF : Hid (Off w w) := Off.refl _;obtain ⟨ro, FO, hl2, hx2⟩ := zz16 LO.out (isId e.ord)
 match ro, hl2, hx2 with
 | [o0, o1, o2, o3, o4, o5], _, hx2 =>
 have hFo : FO = hasO b e.ord := zz0q hx2;subst hFo;have HX2 := zH hx2;clear hx2;obtain ⟨rh, FH, hl1, hx1⟩ := zz16 LH.out (isId o1)
 match rh, hl1, hx1 with
 | [h0, h1, h2, h3], _, hx1 =>
 have hF : FH = hasH b o1 := zz0q hx1;subst hF;have HX1 := zH hx1;clear hx1;have hrO : recO b e.ord = [o0, o1, o2, o3, o4, o5] := by unfold recO; rw [HX2.out]
 have hrH : recH b o1 = [h0, h1, h2, h3] := by unfold recH; rw [HX1.out]
 have I4 : Hid (I64 o4) := zz1m hi.out.2.2.1 HX2.out o4 (by simp)
 obtain ⟨⟨⟨C, X⟩, ⟨S, Y⟩⟩, hA⟩ : ∃ A, afterR b o1 o2 o3 e.qty e.px = A := ⟨_, rfl⟩;have IC : Hid (I64 C) := (show I64 C from by have := (zz31 b o1 o2 o3 e.qty e.px).1; rw [hA] at this; exact this)
 have IS : Hid (I64 S) := (show I64 S from by have := (zz31 b o1 o2 o3 e.qty e.px).2; rw [hA] at this; exact this)
 have hAE : afterE b e = ((C, X), (S, Y)) := by unfold afterE; rw [hrO]; exact hA
 have hAP : afterP b o1 o2 o3 e.qty e.px = ((C, X), (S, Y)) := by unfold afterP; rw [hm.out, ← hA]; rfl
 have qA := zH (fun u wz hv => After_any u b o0 o1 o2 o3 o4 o5 e.qty e.px wz hv hs hi (zH hE.out.qty) (zH hE.out.px))
 rw [hAP] at qA;have hst : fillS b e = [sS 13 (bitI (hasO b e.ord)) (1), sS 5 (e.qty) (1), sS 6 (e.px) (1), sS 21 (e.qty) (o4), oS 22 (C) (C) (X), oS 23 (S) (S) (Y)] := by unfold fillS; rw [hAE, hrO]; rfl
 have hFB : fillB b e = ({ ({ ({ b with h := setH h0 [h0, C, h2, h3] false b.h } : Bk) with s := setS o1 o2 [o1, o2, S] (S == 0) b.s } : Bk) with o := setH o0 [o0, o1, o2, o3, o4 - e.qty, o5] (o4 - e.qty == 0) b.o } : Bk) := by
  unfold fillB;rw [hAE, hrO];show fillX b _ (recH b o1) C S e.qty = _;rw [hrH]
  rfl
 have hFI : Hid ((fillS b e).all (·.holds) = true → 1 ≤ e.qty ∧ e.qty ≤ o4) := (show _ → _ from fun h => by obtain ⟨_, k2, _, k4⟩ := zz60 b e h; rw [hrO] at k4; exact ⟨k2, k4⟩)
 rw [hst] at hFI;rw [hst, hFB];clear hst hFB hAE hAP hA hrO hrH;have hmh : b.h.length ≤ 32 ∧ b.o.length ≤ 64 ∧ b.r.length ≤ 32 := by have := (Bk.mayB_iff b).1 hm.out; exact ⟨this.lh, this.lo, this.lr⟩
 obtain ⟨b1, hb1⟩ : ∃ b1 : Bk, ({ b with h := setH h0 [h0, C, h2, h3] false b.h } : Bk) = b1 := ⟨_, rfl⟩
 have b1s : b1.s = b.s := by rw [← hb1]
 have b1o : b1.o = b.o := by rw [← hb1]
 have S1 : Hid b1.Small := (show b1.Small from by rw [← hb1]; have := zzah (ge := fun r => !decide (r.headD 0 < h0)) (ne := fun r => !isId h0 r) (x := [h0, C, h2, h3]) false b.h; have := hsS.out; unfold Bk.Small; refine ⟨?_, ?_, ?_, ?_⟩; (show (setK _ _ _ _ _).length ≤ _; omega); (show b.s.length ≤ _; omega); (show b.o.length ≤ _; omega); (show b.r.length ≤ _; omega))
 obtain ⟨b2, hb2⟩ : ∃ b2 : Bk, ({ b1 with s := setS o1 o2 [o1, o2, S] (S == 0) b1.s } : Bk) = b2 := ⟨_, rfl⟩
 have b2o : b2.o = b.o := by rw [← hb2]; exact b1o
 have S2 : Hid b2.Small := (show b2.Small from by rw [← hb2]; have := zzah (ge := fun r => !decide (r.headD 0 < o1 ∨ r.headD 0 = o1 ∧ r.tail.headD 0 < o2)) (ne := fun r => !isKey o1 o2 r) (x := [o1, o2, S]) (S == 0) b1.s; have h1 := S1.out; have hs9 := hsS.out; rw [b1s] at this; unfold Bk.Small at h1 ⊢; refine ⟨h1.1, ?_, h1.2.2⟩; show (setS o1 o2 [o1, o2, S] (S == 0) b1.s).length ≤ _; rw [b1s]; unfold setS; omega)
 obtain ⟨nb, hnb⟩ : ∃ nb : Bk, ({ b2 with o := setH o0 [o0, o1, o2, o3, o4 - e.qty, o5] (o4 - e.qty == 0) b2.o } : Bk) = nb := ⟨_, rfl⟩
 have hnb' : ({ ({ ({ b with h := setH h0 [h0, C, h2, h3] false b.h } : Bk) with s := setS o1 o2 [o1, o2, S] (S == 0) b.s } : Bk) with o := setH o0 [o0, o1, o2, o3, o4 - e.qty, o5] (o4 - e.qty == 0) b.o } : Bk) = nb := by rw [← hnb, ← hb2, ← hb1]
 rw [hnb'];have R1s : Hid (riseS b1.s) := (show riseS b1.s from by rw [b1s]; exact hR.out.2.2.2)
 have R2o : Hid (riseH b2.o) := (show riseH b2.o from by rw [b2o]; exact hR.out.2.1)
 have RH := zH hR.out.1;have q1 : Hid (∀ (u : Value) (wz : World), Hid (BkAt wz u b) → Calls Tryz.prog 74 #[u, .agg #[h0, C, h2, h3]] wz fun r w' => ∃ v', r = .returned v' ∧ BkOwn w' wz.heap.size v' b1 ∧ Below wz.heap.size wz w') := (show _ from fun u wz hv => by rw [← hb1]; exact zz2d u b h0 C h2 h3 wz hv hs RH)
 have q2 : Hid (∀ (u : Value) (wz : World), Hid (BkAt wz u b1) → Calls Tryz.prog 89 #[u, .agg #[o1, o2, S]] wz fun r w' => ∃ v', r = .returned v' ∧ BkOwn w' wz.heap.size v' b2 ∧ Below wz.heap.size wz w') := (show _ from fun u wz hv => by rw [← hb2]; exact zz89 u b1 o1 o2 S wz hv S1 R1s)
 have q3 : Hid (∀ (u : Value) (wz : World), Hid (BkAt wz u b2) → Calls Tryz.prog 85 #[u, .agg #[o0, o1, o2, o3, .int .i64 (o4 - e.qty), o5]] wz fun r w' => ∃ v', r = .returned v' ∧ BkOwn w' wz.heap.size v' nb ∧ Below wz.heap.size wz w') := (show _ from fun u wz hv => by rw [← hnb]; exact zz3h u b2 o0 o1 o2 o3 (o4 - e.qty) o5 wz hv S2 R2o)
 clear hnb hnb' hb1 hb2 b1s b1o b2o hmh;obtain ⟨FA, hFA⟩ : ∃ FA, ([sS 13 (bitI (hasO b e.ord)) (1), sS 5 (e.qty) (1), sS 6 (e.px) (1), sS 21 (e.qty) (o4), oS 22 (C) (C) (X), oS 23 (S) (S) (Y)]).all (·.holds) = FA := ⟨_, rfl⟩;rw [hFA];replace hFA := zH hFA;replace hFI : Hid (FA = true → 1 ≤ e.qty ∧ e.qty ≤ o4) := (show _ → _ from fun h => hFI.out (hFA.out.trans h))
 obtain ⟨wb, hwb⟩ : ∃ wb : World, w.alloc (.cells BZ 27) = wb := ⟨_, rfl⟩;have hb := zM0 hwb;have KT : ZB wb w.heap.size BZ 27 := by rw [← hwb]; exact zz02 _ _
 have LT : Hid (w0.heap.size ≤ w.heap.size) := HI.out.below.size;have MT : Hid (w.heap.size ≤ w.heap.size) := Nat.le_refl _;replace KG := zKx KG hb;replace HI := zH (HI.out.kept hb);replace HOF := zX HOF hb;replace hwb := zH hwb;clear hb;go_in;go_wp2_with fail;rw [hwb.out];clear hwb;refine zz07 [] (fun wz : World => zG wz g Ah ch As cs Ao co Ar cr b e rate) 16 (zb 16 0) zk zk zk ?_
 obtain ⟨wd1, hwd1⟩ : ∃ wd1 : World, { wb with drawn := wb.drawn + 1 } = wd1 := ⟨_, rfl⟩
 rw [hwd1];have hbwd1 : Below wb.heap.size wb wd1 := by rw [← hwd1]; exact (Below.refl _ _).drew
 replace KG := zKx KG hbwd1;replace KT := zK KT hbwd1;replace HI := zH (HI.out.kept hbwd1);replace HOF := zX HOF hbwd1;clear hwd1 hbwd1;refine zM [0, 1, 2, 3, 4, 5, 6, 7, 8] 7 KG ?_;simp only [opsAt, zA]
 iterate 3 refine zp ?_
 refine zr (fun wz hC => hC.out) ?_
 iterate 4 refine zp ?_
 refine zr (fun wz hC => hC.out) ?_
 unfold wpPure;go_simp;have hzd := zH HI.out.below.size;have hzo := zH HOF.out.size;refine zz1x 9 13 [10, 11, 12] 23 3 2 (.tuple #[.agg #[o0, o1, o2, o3, o4, o5], .bool (hasO b e.ord)]) #[.int .i64 0, .int .i64 0, .int .i64 0, .int .i64 0, .int .i64 0, .int .i64 0] 82 [(13, .tuple #[.agg #[o0, o1, o2, o3, o4, o5], .bool (hasO b e.ord)]), (24, .agg #[o0, o1, o2, o3, o4, o5]), (25, .bool (hasO b e.ord))] [23, 3, 13, 24, 25] zk zk zk zk zk (L2 := (zb 16 16383)) zk zk zk ?_ ?_ ?_ ?_ ?_
 ·exact zt35
 ·exact zt61
 ·exact fun wz hz => (KG.out.imp fun _ h => zz06 h hz)
 ·exact zt20
 intro qwf2 wf2 m2 g2 hb;have Ko := zH g2;have Lo := zH (Nat.le_trans hzd.out m2);have Mo := zH (Nat.le_trans hzo.out m2);clear g2 m2 hzd hzo;simp only [putsV];go_simp;replace KG := zKx KG hb;replace KT := zK KT hb;replace HI := zH (HI.out.kept hb);replace HOF := zX HOF hb;clear hb;have c_o_0 := zC Ko.out;have fc_o_0 := zF Ko.out;refine zW 14 ?_;go_wp2_with fail;generalize hws3 : World.setCell _ _ _ = ws3;clear c_o_0 fc_o_0;obtain ⟨vs, zE, hvs⟩ := zV6 hws3;replace HI := zH (HI.out.put Ko.out zx zx Lo.out 0 vs);replace HOF := zH (Off.freshC Mo.out HOF.out 0 vs);replace KG := zH ((KG.out.imp fun _ h => zz03 (zz0a h Ko.out zx) (o := 0) (vs := vs) h ))
 replace KT := zH (zz03 (zz0a KT.out Ko.out zx) (o := 0) (vs := vs) KT.out );subst hvs;rw [zE] at HI HOF KG KT;replace Ko := zP zE Ko;clear zE;replace Ko : ZB ws3 qwf2 #[o0, o1, o2, o3, o4, o5] 82 := Ko.out;clear hws3;refine zQs (fun _ => KG) ?_
 refine zM [15] 0 KG ?_;simp only [opsAt, zA];refine zp ?_;unfold wpPure;go_simp;refine zQe ?_;go_wp2_with fail;refine zz07 [] (fun wz : World => zG wz g Ah ch As cs Ao co Ar cr b e rate ∧ ZB wz qwf2 #[o0, o1, o2, o3, o4, o5] 82) 29 (zb 29 0) zk zk zk ?_
 obtain ⟨wd4, hwd4⟩ : ∃ wd4 : World, { ws3 with drawn := ws3.drawn + 1 } = wd4 := ⟨_, rfl⟩
 rw [hwd4];have hbwd4 : Below ws3.heap.size ws3 wd4 := by rw [← hwd4]; exact (Below.refl _ _).drew
 replace KG := zKx KG hbwd4;replace KT := zK KT hbwd4;replace Ko := zK Ko hbwd4;replace HI := zH (HI.out.kept hbwd4);replace HOF := zX HOF hbwd4;clear hwd4 hbwd4;refine zM [0, 1, 2, 3, 4, 5, 6, 7, 8, 9, 10, 11, 12, 13, 14] 14 ⟨KG, Ko⟩ ?_;simp only [opsAt, zA]
 iterate 3 refine zp ?_
 refine zr (fun wz hC => hC.1.out) ?_
 refine zq (fun wz hC => zC hC.2.out) ?_
 iterate 4 refine zp ?_
 refine zr (fun wz hC => hC.1.out) ?_
 iterate 4 refine zp ?_
 refine zr (fun wz hC => hC.1.out) ?_
 unfold wpPure;go_simp;have hzd := zH HI.out.below.size;have hzo := zH HOF.out.size;refine zz8w (W0 := wd4) 15 [16, 17, 18, 19, 20] 42 (.tuple #[.int .i64 C, .int .i64 S, .bool X, .bool Y]) [(26, .tuple #[.int .i64 C, .int .i64 S, .bool X, .bool Y]), (43, .int .i64 C), (44, .int .i64 S), (45, .bool X), (46, .bool Y)] 4 (zb 29 33554431) [42, 5, 6, 7, 8, 26, 43, 44, 45, 46] 125 (fun wz hz => ⟨(KG.out.imp fun _ h => zz06 h hz), zz06 Ko.out hz⟩) (by simp) (by simp) ?_ 4
  [⟨21, 5, fun lo hi v wz => v = .pointer (some ⟨lo, 0, none⟩) ∧ lo < hi ∧ wz.heap[lo]? = some (.cells #[.int .i64 0] 2 (0, 0))⟩, ⟨22, 6, fun lo hi v wz => v = .pointer (some ⟨lo, 0, none⟩) ∧ lo < hi ∧ wz.heap[lo]? = some (.cells #[.int .i64 0] 2 (0, 0))⟩, ⟨23, 7, fun lo hi v wz => v = .pointer (some ⟨lo, 0, none⟩) ∧ lo < hi ∧ wz.heap[lo]? = some (.cells #[.bool false] 4 (0, 0))⟩, ⟨24, 8, fun lo hi v wz => v = .pointer (some ⟨lo, 0, none⟩) ∧ lo < hi ∧ wz.heap[lo]? = some (.cells #[.bool false] 4 (0, 0))⟩] _ _ _ rfl (Below.refl _ _) (zz3l (S1 := [([21, 22, 23, 24], (zb 29 32767)), ([21, 22, 23], (zb 29 16809983)), ([21, 22, 24], (zb 29 8421375)), ([21, 23, 24], (zb 29 4227071)), ([22, 23, 24], (zb 29 2129919)), ([21, 22], (zb 29 25198591)), ([21, 23], (zb 29 21004287)), ([21, 24], (zb 29 12615679)), ([22, 23], (zb 29 18907135)), ([22, 24], (zb 29 10518527)), ([23, 24], (zb 29 6324223)), ([21], (zb 29 29392895)), ([22], (zb 29 27295743)), ([23], (zb 29 23101439)), ([24], (zb 29 14712831)), ([], (zb 29 31490047))]) (S2 := [([21, 22, 23, 24], (zb 29 2097151)), ([21, 22, 23], (zb 29 18874367)), ([21, 22, 24], (zb 29 10485759)), ([21, 23, 24], (zb 29 6291455)), ([22, 23, 24], (zb 29 4194303)), ([21, 22], (zb 29 27262975)), ([21, 23], (zb 29 23068671)), ([21, 24], (zb 29 14680063)), ([22, 23], (zb 29 20971519)), ([22, 24], (zb 29 12582911)), ([23, 24], (zb 29 8388607)), ([21], (zb 29 31457279)), ([22], (zb 29 29360127)), ([23], (zb 29 25165823)), ([24], (zb 29 16777215)), ([], (zb 29 33554431))]) zk zk 4 _ _ (List.mem_cons_self ..) rfl) (by simp) (by simp) (by simp) ?_ ?_ rfl ?_ ?_
 ·intro a' K hN hk
  have n0 : (a'.put (some 42) (.tuple #[.int .i64 C, .int .i64 S, .bool X, .bool Y])).tmps.size = 125 := by rw [zz7r]; exact hN
  have e0 : (a'.put (some 42) (.tuple #[.int .i64 C, .int .i64 S, .bool X, .bool Y])).eval (.tmp 42) = .tuple #[.int .i64 C, .int .i64 S, .bool X, .bool Y] := zz5d _ _ _ (by rw [hN]; decide)
  refine zz08 (.tuple #[.int .i64 C, .int .i64 S, .bool X, .bool Y]) rfl (fun wz _ => by unfold execOp; simp only [e0]; go_simp) ?_
  have n1 : ((a'.put (some 42) (.tuple #[.int .i64 C, .int .i64 S, .bool X, .bool Y])).put (some 26) (.tuple #[.int .i64 C, .int .i64 S, .bool X, .bool Y])).tmps.size = 125 := by rw [zz7r]; exact n0
  have e1 : ((a'.put (some 42) (.tuple #[.int .i64 C, .int .i64 S, .bool X, .bool Y])).put (some 26) (.tuple #[.int .i64 C, .int .i64 S, .bool X, .bool Y])).eval (.tmp 26) = .tuple #[.int .i64 C, .int .i64 S, .bool X, .bool Y] := zz5d _ _ _ (by rw [n0]; decide)
  refine zz08 (.int .i64 C) rfl (fun wz _ => by unfold execOp; simp only [e1]; go_simp) ?_
  have e2 : (((a'.put (some 42) (.tuple #[.int .i64 C, .int .i64 S, .bool X, .bool Y])).put (some 26) (.tuple #[.int .i64 C, .int .i64 S, .bool X, .bool Y])).put (some 43) (.int .i64 C)).eval (.tmp 26) = .tuple #[.int .i64 C, .int .i64 S, .bool X, .bool Y] := (zz0m _ _ _ _ (by simp)).trans e1
  refine zz08 (.int .i64 S) rfl (fun wz _ => by unfold execOp; simp only [e2]; go_simp) ?_
  have e3 : ((((a'.put (some 42) (.tuple #[.int .i64 C, .int .i64 S, .bool X, .bool Y])).put (some 26) (.tuple #[.int .i64 C, .int .i64 S, .bool X, .bool Y])).put (some 43) (.int .i64 C)).put (some 44) (.int .i64 S)).eval (.tmp 26) = .tuple #[.int .i64 C, .int .i64 S, .bool X, .bool Y] := (zz0m _ _ _ _ (by simp)).trans e2
  refine zz08 (.bool X) rfl (fun wz _ => by unfold execOp; simp only [e3]; go_simp) ?_
  have e4 : (((((a'.put (some 42) (.tuple #[.int .i64 C, .int .i64 S, .bool X, .bool Y])).put (some 26) (.tuple #[.int .i64 C, .int .i64 S, .bool X, .bool Y])).put (some 43) (.int .i64 C)).put (some 44) (.int .i64 S)).put (some 45) (.bool X)).eval (.tmp 26) = .tuple #[.int .i64 C, .int .i64 S, .bool X, .bool Y] := (zz0m _ _ _ _ (by simp)).trans e3
  refine zz08 (.bool Y) rfl (fun wz _ => by unfold execOp; simp only [e4]; go_simp) ?_
  have e5 : ((((((a'.put (some 42) (.tuple #[.int .i64 C, .int .i64 S, .bool X, .bool Y])).put (some 26) (.tuple #[.int .i64 C, .int .i64 S, .bool X, .bool Y])).put (some 43) (.int .i64 C)).put (some 44) (.int .i64 S)).put (some 45) (.bool X)).put (some 46) (.bool Y)).eval (.tmp 26) = .tuple #[.int .i64 C, .int .i64 S, .bool X, .bool Y] := (zz0m _ _ _ _ (by simp)).trans e4
  unfold wpPure;exact hk
 ·intro e he
  simp only [List.mem_cons, List.not_mem_nil, or_false] at he;rcases he with rfl | rfl | rfl | rfl
  ·exact zt96
  ·exact zt96
  ·exact zt97
  ·exact zt97
 ·exact zz3g 86 #[.agg (BF Ah ch As cs Ao co Ar cr b b.n), .agg #[o0, o1, o2, o3, o4, o5], .int .i64 e.qty, .int .i64 e.px] ⟨_, _, _, rfl, rfl, rfl, rfl, by simp [Act.eval, Act.put], by simp⟩ (fun w => enters_of Tryz.func86 zk rfl _ w) (fun wz hz => (qA.out _ wz (zH (B0.out.call (HI.out.below.trans (hz.mono HI.out.below.size))))).mono fun x w' ⟨h1, h2⟩ => ⟨_, h1, rfl, h2⟩)
 ·intro e he lo hi v w1 w2 hv hb
  simp only [List.mem_cons, List.not_mem_nil, or_false] at he;rcases he with rfl | rfl | rfl | rfl <;> exact ⟨hv.1, hv.2.1, zz06 hv.2.2 hb⟩
 intro us wf5 hus hap hb
 match us, hus, hap with
 | [t1, t2, t3, t4], ⟨⟨⟨e1, n1, g1⟩, m1⟩, ⟨⟨e2, n2, g2⟩, m2⟩, ⟨⟨e3, n3, g3⟩, m3⟩, ⟨⟨e4, n4, g4⟩, m4⟩, _⟩, ⟨ap1, ap2, ap3, _⟩ =>
 simp only [putsE];obtain ⟨qwf5c, hi1, v1⟩ := t1;obtain ⟨qwf5s, hi2, v2⟩ := t2;obtain ⟨qwf5x, hi3, v3⟩ := t3;obtain ⟨qwf5y, hi4, v4⟩ := t4;simp only at e1 n1 g1 m1 e2 n2 g2 m2 e3 n3 g3 m3 e4 n4 g4 m4 ⊢;subst e1 e2 e3 e4;have ne_c_s : qwf5c ≠ qwf5s := by have := (ap1 0 _ _ rfl rfl).1; simp only at this; omega
 have ne_x_y : qwf5x ≠ qwf5y := by have := (ap3 0 _ _ rfl rfl).1; simp only at this; omega
 have Kc := zH g1;have Lc := zH (Nat.le_trans hzd.out m1);have Mc := zH (Nat.le_trans hzo.out m1);have Ks := zH g2;have Ls := zH (Nat.le_trans hzd.out m2);have Ms := zH (Nat.le_trans hzo.out m2);have Kx := zH g3;have Lx := zH (Nat.le_trans hzd.out m3);have Mx := zH (Nat.le_trans hzo.out m3);have Ky := zH g4;have Ly := zH (Nat.le_trans hzd.out m4);have My := zH (Nat.le_trans hzo.out m4);clear hzd hzo hap hus g1 m1 n1 g2 m2 n2 g3 m3 n3 g4 m4 n4;simp only [putsV];go_simp;replace KG := zKx KG hb;replace KT := zK KT hb;replace Ko := zK Ko hb;replace HI := zH (HI.out.kept hb);replace HOF := zX HOF hb;clear hb;have c_c_0 := zC Kc.out;have fc_c_0 := zF Kc.out;refine zW 25 ?_;go_wp2_with fail;generalize hws6 : World.setCell _ _ _ = ws6;clear c_c_0 fc_c_0;obtain ⟨vs, zE, hvs⟩ := zV1 hws6;replace HI := zH (HI.out.put Kc.out zx zx Lc.out 0 vs);replace HOF := zH (Off.freshC Mc.out HOF.out 0 vs);replace KG := zH ((KG.out.imp fun _ h => zz03 (zz0a h Kc.out zx) (o := 0) (vs := vs) h ))
 replace KT := zH (zz03 (zz0a KT.out Kc.out zx) (o := 0) (vs := vs) KT.out );replace Ko := zH (zz03 (zz0a Ko.out Kc.out zx) (o := 0) (vs := vs) Ko.out );replace Kx := zH (zz03 (zz0a Kx.out Kc.out zx) (o := 0) (vs := vs) Kx.out );replace Ky := zH (zz03 (zz0a Ky.out Kc.out zx) (o := 0) (vs := vs) Ky.out );subst hvs;rw [zE] at HI HOF KG KT Ko Kx Ky;replace Ks := zN zE Ks ne_c_s.symm;replace Kc := zP zE Kc;clear zE;replace Kc : ZB ws6 qwf5c #[C] 2 := Kc.out;clear hws6;refine zQs (fun _ => ⟨KG, Ko⟩) ?_
 have c_s_0 := zC Ks.out;have fc_s_0 := zF Ks.out;refine zW 26 ?_;go_wp2_with fail;generalize hws7 : World.setCell _ _ _ = ws7;clear c_s_0 fc_s_0;obtain ⟨vs, zE, hvs⟩ := zV1 hws7;replace HI := zH (HI.out.put Ks.out zx zx Ls.out 0 vs);replace HOF := zH (Off.freshC Ms.out HOF.out 0 vs);replace KG := zH ((KG.out.imp fun _ h => zz03 (zz0a h Ks.out zx) (o := 0) (vs := vs) h ))
 replace KT := zH (zz03 (zz0a KT.out Ks.out zx) (o := 0) (vs := vs) KT.out );replace Ko := zH (zz03 (zz0a Ko.out Ks.out zx) (o := 0) (vs := vs) Ko.out );replace Kx := zH (zz03 (zz0a Kx.out Ks.out zx) (o := 0) (vs := vs) Kx.out );replace Ky := zH (zz03 (zz0a Ky.out Ks.out zx) (o := 0) (vs := vs) Ky.out );subst hvs;rw [zE] at HI HOF KG KT Ko Kx Ky;replace Kc := zN zE Kc ne_c_s;replace Ks := zP zE Ks;clear zE;replace Ks : ZB ws7 qwf5s #[S] 2 := Ks.out;clear hws7;refine zQs (fun _ => ⟨KG, Ko⟩) ?_
 have c_x_0 := zC Kx.out;have fc_x_0 := zF Kx.out;refine zW 27 ?_;go_wp2_with fail;generalize hws8 : World.setCell _ _ _ = ws8;clear c_x_0 fc_x_0;obtain ⟨vs, zE, hvs⟩ := zV1 hws8;replace HI := zH (HI.out.put Kx.out zx zx Lx.out 0 vs);replace HOF := zH (Off.freshC Mx.out HOF.out 0 vs);replace KG := zH ((KG.out.imp fun _ h => zz03 (zz0a h Kx.out zx) (o := 0) (vs := vs) h ))
 replace KT := zH (zz03 (zz0a KT.out Kx.out zx) (o := 0) (vs := vs) KT.out );replace Ko := zH (zz03 (zz0a Ko.out Kx.out zx) (o := 0) (vs := vs) Ko.out );replace Kc := zH (zz03 (zz0a Kc.out Kx.out zx) (o := 0) (vs := vs) Kc.out );replace Ks := zH (zz03 (zz0a Ks.out Kx.out zx) (o := 0) (vs := vs) Ks.out );subst hvs;rw [zE] at HI HOF KG KT Ko Kc Ks;replace Ky := zN zE Ky ne_x_y.symm;replace Kx := zP zE Kx;clear zE;replace Kx : ZB ws8 qwf5x #[.bool X] 4 := Kx.out;clear hws8;refine zQs (fun _ => ⟨KG, Ko⟩) ?_
 have c_y_0 := zC Ky.out;have fc_y_0 := zF Ky.out;refine zW 28 ?_;go_wp2_with fail;generalize hws9 : World.setCell _ _ _ = ws9;clear c_y_0 fc_y_0;obtain ⟨vs, zE, hvs⟩ := zV1 hws9;replace HI := zH (HI.out.put Ky.out zx zx Ly.out 0 vs);replace HOF := zH (Off.freshC My.out HOF.out 0 vs);replace KG := zH ((KG.out.imp fun _ h => zz03 (zz0a h Ky.out zx) (o := 0) (vs := vs) h ))
 replace KT := zH (zz03 (zz0a KT.out Ky.out zx) (o := 0) (vs := vs) KT.out );replace Ko := zH (zz03 (zz0a Ko.out Ky.out zx) (o := 0) (vs := vs) Ko.out );replace Kc := zH (zz03 (zz0a Kc.out Ky.out zx) (o := 0) (vs := vs) Kc.out );replace Ks := zH (zz03 (zz0a Ks.out Ky.out zx) (o := 0) (vs := vs) Ks.out );subst hvs;rw [zE] at HI HOF KG KT Ko Kc Ks;replace Kx := zN zE Kx ne_x_y;replace Ky := zP zE Ky;clear zE;replace Ky : ZB ws9 qwf5y #[.bool Y] 4 := Ky.out;clear hws9;refine zQs (fun _ => ⟨KG, Ko⟩) ?_
 refine zQe ?_;go_wp2_with fail;refine zz07 [] (fun wz : World => zG wz g Ah ch As cs Ao co Ar cr b e rate ∧ ZB wz qwf2 #[o0, o1, o2, o3, o4, o5] 82) 36 (zb 36 0) zk zk zk ?_
 obtain ⟨wd10, hwd10⟩ : ∃ wd10 : World, { ws9 with drawn := ws9.drawn + 1 } = wd10 := ⟨_, rfl⟩
 rw [hwd10];have hbwd10 : Below ws9.heap.size ws9 wd10 := by rw [← hwd10]; exact (Below.refl _ _).drew
 replace KG := zKx KG hbwd10;replace KT := zK KT hbwd10;replace Ko := zK Ko hbwd10;replace Kc := zK Kc hbwd10;replace Ks := zK Ks hbwd10;replace Kx := zK Kx hbwd10;replace Ky := zK Ky hbwd10;replace HI := zH (HI.out.kept hbwd10);replace HOF := zX HOF hbwd10;clear hwd10 hbwd10;refine zM [0, 1, 4, 5, 6, 7, 8, 9, 11, 12, 13, 14, 15, 16, 18, 19, 20, 21, 22, 23, 24, 25, 27, 28, 30, 31] 10 ⟨KG, Ko⟩ ?_;simp only [opsAt, zA]
 iterate 7 refine zp ?_
 refine zr (fun wz hC => hC.1.out) ?_
 iterate 5 refine zp ?_
 refine zr (fun wz hC => hC.1.out) ?_
 iterate 5 refine zp ?_
 refine zr (fun wz hC => hC.1.out) ?_
 refine zp ?_;refine zq (fun wz hC => zC hC.2.out) ?_
 iterate 4 refine zp ?_
 unfold wpPure;go_simp;refine zW 2 ?_;go_wp2_with fail;(with_reducible refine (zz2r _ _).mono ?_);rintro r _ ⟨rfl, rfl⟩;go_wp2_with fail;refine zQs (fun _ => ⟨KG, Ko⟩) ?_
 refine zW 3 ?_;go_wp2_with fail;(with_reducible refine (zz0i w0 g (.slice Ah b.h.length ch) (.slice As b.s.length cs) (.slice Ao b.o.length co) (.slice Ar b.r.length cr) b e rate hT 13 (bitI (hasO b e.ord)) (1) (gfit _ _ _ zw (zz1o _) (zz0l zw)) _).mono ?_);rintro e wc11 ⟨f1, rfl, hl1, hb⟩;replace KG := zKx KG hb;replace KT := zK KT hb;replace Ko := zK Ko hb;replace Kc := zK Kc hb;replace Ks := zK Ks hb;replace Kx := zK Kx hb;replace Ky := zK Ky hb;replace HI := zH (HI.out.kept hb);replace HOF := zX HOF hb;clear hb;obtain ⟨J1, j1, rfl⟩ := hl1.form;have HK1 := zH hl1;clear hl1;go_wp2_with fail;refine zQs (fun _ => ⟨KG, Ko⟩) ?_
 refine zW 10 ?_;go_wp2_with fail;(with_reducible refine (zz0i w0 g (.slice Ah b.h.length ch) (.slice As b.s.length cs) (.slice Ao b.o.length co) (.slice Ar b.r.length cr) b e rate hT 5 (e.qty) (1) (gfit _ _ _ zw hE.out.qty (zz0l zw)) _).mono ?_);rintro e wc12 ⟨f2, rfl, hl2, hb⟩;replace KG := zKx KG hb;replace KT := zK KT hb;replace Ko := zK Ko hb;replace Kc := zK Kc hb;replace Ks := zK Ks hb;replace Kx := zK Kx hb;replace Ky := zK Ky hb;replace HI := zH (HI.out.kept hb);replace HOF := zX HOF hb;replace HK1 := zH (HK1.out.off (Off.of hb));clear hb;obtain ⟨J2, j2, rfl⟩ := hl2.form;have HK2 := zH hl2;clear hl2;go_wp2_with fail;refine zQs (fun _ => ⟨KG, Ko⟩) ?_
 refine zW 17 ?_;go_wp2_with fail;(with_reducible refine (zz0i w0 g (.slice Ah b.h.length ch) (.slice As b.s.length cs) (.slice Ao b.o.length co) (.slice Ar b.r.length cr) b e rate hT 6 (e.px) (1) (gfit _ _ _ zw hE.out.px (zz0l zw)) _).mono ?_);rintro e wc13 ⟨f3, rfl, hl3, hb⟩;replace KG := zKx KG hb;replace KT := zK KT hb;replace Ko := zK Ko hb;replace Kc := zK Kc hb;replace Ks := zK Ks hb;replace Kx := zK Kx hb;replace Ky := zK Ky hb;replace HI := zH (HI.out.kept hb);replace HOF := zX HOF hb;replace HK1 := zH (HK1.out.off (Off.of hb));replace HK2 := zH (HK2.out.off (Off.of hb));clear hb;obtain ⟨J3, j3, rfl⟩ := hl3.form;have HK3 := zH hl3;clear hl3;go_wp2_with fail;refine zQs (fun _ => ⟨KG, Ko⟩) ?_
 refine zW 26 ?_;go_wp2_with fail;(with_reducible refine (zz0i w0 g (.slice Ah b.h.length ch) (.slice As b.s.length cs) (.slice Ao b.o.length co) (.slice Ar b.r.length cr) b e rate hT 21 (e.qty) (o4) (gfit _ _ _ zw hE.out.qty I4.out) _).mono ?_);rintro e wc14 ⟨f4, rfl, hl4, hb⟩;replace KG := zKx KG hb;replace KT := zK KT hb;replace Ko := zK Ko hb;replace Kc := zK Kc hb;replace Ks := zK Ks hb;replace Kx := zK Kx hb;replace Ky := zK Ky hb;replace HI := zH (HI.out.kept hb);replace HOF := zX HOF hb;replace HK1 := zH (HK1.out.off (Off.of hb));replace HK2 := zH (HK2.out.off (Off.of hb));replace HK3 := zH (HK3.out.off (Off.of hb));clear hb;obtain ⟨J4, j4, rfl⟩ := hl4.form;have HK4 := zH hl4;clear hl4;go_wp2_with fail;refine zQs (fun _ => ⟨KG, Ko⟩) ?_
 have hSd5 := zH (fill1_on w0 g (.slice Ah b.h.length ch) (.slice As b.s.length cs) (.slice Ao b.o.length co) (.slice Ar b.r.length cr) b e rate C X _ _ _ Kc Kx);have qe5 := zH (zz2y w0 g (.slice Ah b.h.length ch) (.slice As b.s.length cs) (.slice Ao b.o.length co) (.slice Ar b.r.length cr) b e rate hT 22 (C) (C) (X) (.func (.func 87) #[] #[.pointer (some ⟨qwf5c, 0, none⟩), .pointer (some ⟨qwf5x, 0, none⟩)]) (show I64 22 from zz0l zw) (gfit _ _ _ zw IC.out IC.out) _ hSd5)
 clear hSd5;refine zW 29 ?_;go_wp2_with fail;(with_reducible refine (qe5.out).mono ?_);rintro e wc15 ⟨f5, rfl, hl5, hb⟩;replace KG := zKx KG hb;replace KT := zK KT hb;replace Ko := zK Ko hb;replace Kc := zK Kc hb;replace Ks := zK Ks hb;replace Kx := zK Kx hb;replace Ky := zK Ky hb;replace HI := zH (HI.out.kept hb);replace HOF := zX HOF hb;replace HK1 := zH (HK1.out.off (Off.of hb));replace HK2 := zH (HK2.out.off (Off.of hb));replace HK3 := zH (HK3.out.off (Off.of hb));replace HK4 := zH (HK4.out.off (Off.of hb));clear hb;clear qe5;obtain ⟨J5, j5, rfl⟩ := hl5.form;have HK5 := zH hl5;clear hl5;go_wp2_with fail;refine zQs (fun _ => ⟨KG, Ko⟩) ?_
 have hSd6 := zH (fill2_on w0 g (.slice Ah b.h.length ch) (.slice As b.s.length cs) (.slice Ao b.o.length co) (.slice Ar b.r.length cr) b e rate S Y _ _ _ Ks Ky);have qe6 := zH (zz2y w0 g (.slice Ah b.h.length ch) (.slice As b.s.length cs) (.slice Ao b.o.length co) (.slice Ar b.r.length cr) b e rate hT 23 (S) (S) (Y) (.func (.func 88) #[] #[.pointer (some ⟨qwf5s, 0, none⟩), .pointer (some ⟨qwf5y, 0, none⟩)]) (show I64 23 from zz0l zw) (gfit _ _ _ zw IS.out IS.out) _ hSd6)
 clear hSd6;refine zW 32 ?_;go_wp2_with fail;(with_reducible refine (qe6.out).mono ?_);rintro e wc16 ⟨f6, rfl, hl6, hb⟩;replace KG := zKx KG hb;replace KT := zK KT hb;replace Ko := zK Ko hb;replace Kc := zK Kc hb;replace Ks := zK Ks hb;replace Kx := zK Kx hb;replace Ky := zK Ky hb;replace HI := zH (HI.out.kept hb);replace HOF := zX HOF hb;replace HK1 := zH (HK1.out.off (Off.of hb));replace HK2 := zH (HK2.out.off (Off.of hb));replace HK3 := zH (HK3.out.off (Off.of hb));replace HK4 := zH (HK4.out.off (Off.of hb));replace HK5 := zH (HK5.out.off (Off.of hb));clear hb;clear qe6;obtain ⟨J6, j6, rfl⟩ := hl6.form;have HK6 := zH hl6;clear hl6;go_wp2_with fail;refine zQs (fun _ => ⟨KG, Ko⟩) ?_
 refine zW 33 ?_;go_wp2_with fail;generalize hwa17 : World.alloc _ _ = wa17;have hbwa17 := zM0 hwa17;replace KG := zKx KG hbwa17;replace KT := zK KT hbwa17;replace Ko := zK Ko hbwa17;replace Kc := zK Kc hbwa17;replace Ks := zK Ks hbwa17;replace Kx := zK Kx hbwa17;replace Ky := zK Ky hbwa17;replace HI := zH (HI.out.kept hbwa17);replace HOF := zX HOF hbwa17;replace HK1 := zH (HK1.out.off (Off.of hbwa17));replace HK2 := zH (HK2.out.off (Off.of hbwa17));replace HK3 := zH (HK3.out.off (Off.of hbwa17));replace HK4 := zH (HK4.out.off (Off.of hbwa17));replace HK5 := zH (HK5.out.off (Off.of hbwa17));replace HK6 := zH (HK6.out.off (Off.of hbwa17));have Kfs : ZB wa17 wc16.heap.size #[.func (.func J1) #[] j1, .func (.func J2) #[] j2, .func (.func J3) #[] j3, .func (.func J4) #[] j4, .func (.func J5) #[] j5, .func (.func J6) #[] j6] 72 := by rw [← hwa17]; exact zz02 _ _
 clear hwa17 hbwa17;refine zQs (fun _ => ⟨KG, Ko⟩) ?_
 refine zW 34 ?_;go_wp2_with fail;have qall := zH (zz5h (Gt w0 g (.slice Ah b.h.length ch) (.slice As b.s.length cs) (.slice Ao b.o.length co) (.slice Ar b.r.length cr) b e rate) (wc16.heap.size) 6 [(.func (.func J1) #[] j1, sS 13 (bitI (hasO b e.ord)) (1)), (.func (.func J2) #[] j2, sS 5 (e.qty) (1)), (.func (.func J3) #[] j3, sS 6 (e.px) (1)), (.func (.func J4) #[] j4, sS 21 (e.qty) (o4)), (.func (.func J5) #[] j5, oS 22 (C) (C) (X)), (.func (.func J6) #[] j6, oS 23 (S) (S) (Y))] #[.func (.func J1) #[] j1, .func (.func J2) #[] j2, .func (.func J3) #[] j3, .func (.func J4) #[] j4, .func (.func J5) #[] j5, .func (.func J6) #[] j6] l0 _ rfl rfl Kfs (zH (by intro x hx; simp only [List.mem_cons, List.not_mem_nil, or_false] at hx; rcases hx with rfl | rfl | rfl | rfl | rfl | rfl <;> first | exact HK1.out | exact HK2.out | exact HK3.out | exact HK4.out | exact HK5.out | exact HK6.out)) HI (by have := hl0.out; show _ ≤ _; omega))
 have qall2 : Hid (Calls Tryz.prog 35 #[.slice (some ⟨wc16.heap.size, 0, none⟩) 6 6] wa17 fun r w' => r = .returned (.bool FA) ∧ Gt w0 g (.slice Ah b.h.length ch) (.slice As b.s.length cs) (.slice Ao b.o.length co) (.slice Ar b.r.length cr) b e rate (l0 ++ cutL ([sS 13 (bitI (hasO b e.ord)) (1), sS 5 (e.qty) (1), sS 6 (e.px) (1), sS 21 (e.qty) (o4), oS 22 (C) (C) (X), oS 23 (S) (S) (Y)])) w' ∧ Off wa17 w') := by rw [← hFA.out]; exact qall.out
 clear qall;(with_reducible refine qall2.out.mono ?_);rintro r wl18 ⟨rfl, hI2, ho⟩;clear qall2 HI HK1 HK2 HK3 HK4 HK5 HK6;replace KT := zD ho KT;replace Ko := zD ho Ko;replace Kc := zD ho Kc;replace Ks := zD ho Ks;replace Kx := zD ho Kx;replace Ky := zD ho Ky;replace HOF := zH (HOF.out.trans ho);clear Kfs KG ho;have HI := zH hI2;clear hI2;have KG := zH (HI.out.blk.imp fun _ h => h.1)
 go_wp2_with fail;refine zQs (fun _ => ⟨KG, Ko⟩) ?_
 refine zM [35] 0 ⟨KG, Ko⟩ ?_;simp only [opsAt, zA];refine zp ?_;unfold wpPure;go_simp;refine zQe ?_;cases FA with
 | false =>
  obtain ⟨vX_g, hX_g⟩ := KG.out;have c_g_0 := zC hX_g;replace hX_g := zH hX_g;have c_t_0 := zC KT.out;have fc_t_0 := zF KT.out;go_wp2_with fail;generalize hws19 : World.setCell _ _ _ = ws19;clear hX_g c_g_0 c_t_0 fc_t_0;obtain ⟨vs, zE, hvs⟩ := zV5 hws19;replace HI := zH (HI.out.put KT.out zx zx LT.out 0 vs);replace HOF := zH (Off.freshC MT.out HOF.out 0 vs);replace Ko := zH (zz03 (zz0a Ko.out KT.out zx) (o := 0) (vs := vs) Ko.out );replace Kc := zH (zz03 (zz0a Kc.out KT.out zx) (o := 0) (vs := vs) Kc.out );replace Ks := zH (zz03 (zz0a Ks.out KT.out zx) (o := 0) (vs := vs) Ks.out );replace Kx := zH (zz03 (zz0a Kx.out KT.out zx) (o := 0) (vs := vs) Kx.out );replace Ky := zH (zz03 (zz0a Ky.out KT.out zx) (o := 0) (vs := vs) Ky.out );replace KG := zH ((KG.out.imp fun _ h => zz03 (zz0a h KT.out zx) (o := 0) (vs := vs) h ))
  subst hvs;rw [zE] at HI HOF Ko Kc Ks Kx Ky KG;replace KT := zP zE KT;clear zE;replace KT : ZB ws19 w.heap.size (BF Ah ch As cs Ao co Ar cr b b.n) 27 := KT.out;clear hws19;exact zt13
 | true =>
  obtain ⟨f1, f2⟩ := hFI.out rfl;have hw : IntKind.i64.wrap (o4 - e.qty) = o4 - e.qty := by rw [IntKind.wrap_i64]; have := I4.out; have := hE.out.qty; unfold I64 at *; omega
  have HWR := zH hw;clear f1 f2 hw;go_wp2_with fail;refine zz07 [] (fun wz : World => zG wz g Ah ch As cs Ao co Ar cr b e rate ∧ ZB wz qwf2 #[o0, o1, o2, o3, o4, o5] 82) 13 (zb 13 0) zk zk zk ?_
  obtain ⟨wd20, hwd20⟩ : ∃ wd20 : World, { wl18 with drawn := wl18.drawn + 1 } = wd20 := ⟨_, rfl⟩
  rw [hwd20];have hbwd20 : Below wl18.heap.size wl18 wd20 := by rw [← hwd20]; exact (Below.refl _ _).drew
  replace KT := zK KT hbwd20;replace Ko := zK Ko hbwd20;replace Kc := zK Kc hbwd20;replace Ks := zK Ks hbwd20;replace Kx := zK Kx hbwd20;replace Ky := zK Ky hbwd20;replace KG := zKx KG hbwd20;replace HOF := zX HOF hbwd20;replace HI := zH (HI.out.kept hbwd20);clear hwd20 hbwd20;refine zM [0, 1, 2, 3, 4, 5] 7 ⟨KG, Ko⟩ ?_;simp only [opsAt, zA]
  iterate 3 refine zp ?_
  refine zr (fun wz hC => hC.1.out) ?_
  refine zp ?_;refine zq (fun wz hC => zC hC.2.out) ?_
  unfold wpPure;go_simp;have hzd := zH HI.out.below.size;have hzo := zH HOF.out.size;refine zz1x 6 10 [7, 8, 9] 95 10 2 (.tuple #[.agg #[h0, h1, h2, h3], .bool (hasH b o1)]) #[.int .i64 0, .int .i64 0, .int .i64 0, .int .i64 0] 78 [(88, .tuple #[.agg #[h0, h1, h2, h3], .bool (hasH b o1)]), (96, .agg #[h0, h1, h2, h3]), (97, .bool (hasH b o1))] [95, 10, 88, 96, 97] zk zk zk zk zk (L2 := (zb 13 2047)) zk zk zk ?_ ?_ ?_ ?_ ?_
  ·exact zz3g 63 #[.agg (BF Ah ch As cs Ao co Ar cr b b.n), .int .i64 o1] ⟨_, _, _, rfl, rfl, rfl, rfl, by simp [Act.eval, Act.put], by simp⟩ (fun w => enters_of Tryz.func63 zk rfl _ w) (fun wz hz => (zz2e _ b o1 h0 h1 h2 h3 (hasH b o1) wz (zH (B0.out.call (HI.out.below.trans (hz.mono HI.out.below.size)))) HL1.out.1 hR.out.1 HX1).mono fun x w' ⟨h1, h2⟩ => ⟨_, h1, rfl, h2⟩)
  ·exact zt53
  ·exact fun wz hz => ⟨(KG.out.imp fun _ h => zz06 h hz), zz06 Ko.out hz⟩
  ·exact zt20
  intro qwf21 wf21 m2 g2 hb;have Kh := zH g2;have Lh := zH (Nat.le_trans hzd.out m2);have Mh := zH (Nat.le_trans hzo.out m2);clear g2 m2 hzd hzo;simp only [putsV];go_simp;replace KT := zK KT hb;replace Ko := zK Ko hb;replace Kc := zK Kc hb;replace Ks := zK Ks hb;replace Kx := zK Kx hb;replace Ky := zK Ky hb;replace KG := zKx KG hb;replace HOF := zX HOF hb;replace HI := zH (HI.out.kept hb);clear hb;have c_h_0 := zC Kh.out;have fc_h_0 := zF Kh.out;refine zW 11 ?_;go_wp2_with fail;generalize hws22 : World.setCell _ _ _ = ws22;clear c_h_0 fc_h_0;obtain ⟨vs, zE, hvs⟩ := zV4 hws22;replace HI := zH (HI.out.put Kh.out zx zx Lh.out 0 vs);replace HOF := zH (Off.freshC Mh.out HOF.out 0 vs);replace KT := zH (zz03 (zz0a KT.out Kh.out zx) (o := 0) (vs := vs) KT.out );replace Ko := zH (zz03 (zz0a Ko.out Kh.out zx) (o := 0) (vs := vs) Ko.out );replace Kc := zH (zz03 (zz0a Kc.out Kh.out zx) (o := 0) (vs := vs) Kc.out );replace Ks := zH (zz03 (zz0a Ks.out Kh.out zx) (o := 0) (vs := vs) Ks.out );replace Kx := zH (zz03 (zz0a Kx.out Kh.out zx) (o := 0) (vs := vs) Kx.out );replace Ky := zH (zz03 (zz0a Ky.out Kh.out zx) (o := 0) (vs := vs) Ky.out );replace KG := zH ((KG.out.imp fun _ h => zz03 (zz0a h Kh.out zx) (o := 0) (vs := vs) h ))
  subst hvs;rw [zE] at HI HOF KT Ko Kc Ks Kx Ky KG;replace Kh := zP zE Kh;clear zE;replace Kh : ZB ws22 qwf21 #[h0, h1, h2, h3] 78 := Kh.out;clear hws22;refine zQs (fun _ => ⟨KG, Ko⟩) ?_
  refine zM [12] 0 ⟨KG, Ko⟩ ?_;simp only [opsAt, zA];refine zp ?_;unfold wpPure;go_simp;refine zQe ?_;have c_c_0 := zz00 Kc.out 0 _ rfl;have c_h_0 := zC Kh.out;have fc_h_0 := zF Kh.out;go_wp2_with fail;generalize hws23 : World.setCell _ _ _ = ws23;clear c_c_0 c_h_0 fc_h_0;have zE : putC ws22 (qwf21) 1 [.int .i64 C] = ws23 := hws23;replace HI := zH (HI.out.put Kh.out zx zx Lh.out 1 [.int .i64 C]);replace HOF := zH (Off.freshC Mh.out HOF.out 1 [.int .i64 C]);replace KT := zH (zz03 (zz0a KT.out Kh.out zx) (o := 1) (vs := [C]) KT.out );replace Ko := zH (zz03 (zz0a Ko.out Kh.out zx) (o := 1) (vs := [C]) Ko.out );replace Kc := zH (zz03 (zz0a Kc.out Kh.out zx) (o := 1) (vs := [C]) Kc.out );replace Ks := zH (zz03 (zz0a Ks.out Kh.out zx) (o := 1) (vs := [C]) Ks.out );replace Kx := zH (zz03 (zz0a Kx.out Kh.out zx) (o := 1) (vs := [C]) Kx.out );replace Ky := zH (zz03 (zz0a Ky.out Kh.out zx) (o := 1) (vs := [C]) Ky.out );replace KG := zH ((KG.out.imp fun _ h => zz03 (zz0a h Kh.out zx) (o := 1) (vs := [C]) h ))
  rw [zE] at HI HOF KT Ko Kc Ks Kx Ky KG;replace Kh := zP zE Kh;clear zE;replace Kh : ZB ws23 qwf21 #[h0, C, h2, h3] 78 := Kh.out;clear hws23;go_wp2_with fail;refine zz07 [] (fun wz : World => zG wz g Ah ch As cs Ao co Ar cr b e rate ∧ ZB wz qwf21 #[h0, C, h2, h3] 78 ∧ ZB wz qwf2 #[o0, o1, o2, o3, o4, o5] 82 ∧ ZB wz qwf5s #[S] 2) 15 (zb 15 0) zk zk zk ?_
  obtain ⟨wd24, hwd24⟩ : ∃ wd24 : World, { ws23 with drawn := ws23.drawn + 1 } = wd24 := ⟨_, rfl⟩
  rw [hwd24];have hbwd24 : Below ws23.heap.size ws23 wd24 := by rw [← hwd24]; exact (Below.refl _ _).drew
  replace KT := zK KT hbwd24;replace Ko := zK Ko hbwd24;replace Kc := zK Kc hbwd24;replace Ks := zK Ks hbwd24;replace Kx := zK Kx hbwd24;replace Ky := zK Ky hbwd24;replace KG := zKx KG hbwd24;replace Kh := zK Kh hbwd24;replace HOF := zX HOF hbwd24;replace HI := zH (HI.out.kept hbwd24);clear hwd24 hbwd24;refine zM [0, 1, 2, 3, 4, 6, 7, 8, 9, 10, 11] 4 ⟨KG, Kh, Ko, Ks⟩ ?_;simp only [opsAt, zA]
  iterate 3 refine zp ?_
  refine zr (fun wz hC => hC.1.out) ?_
  refine zq (fun wz hC => zC hC.2.1.out) ?_
  refine zp ?_;refine zq (fun wz hC => zC hC.2.2.1.out) ?_
  refine zp ?_;refine zq (fun wz hC => zC hC.2.2.1.out) ?_
  refine zq (fun wz hC => zC hC.2.2.2.out) ?_
  refine zp ?_;unfold wpPure;go_simp;have hzd := zH HI.out.below.size;have hzo := zH HOF.out.size;have hoz := zL Ko.out;refine zzac 5 12 13 105 112 12 1 (L3 := (zb 15 16383)) (fun u wz => BkAt wz u b1) (fun u wz => ∃ B, wd24.heap.size ≤ B ∧ BkOwn wz B u b2) #[.slice none 0 0, .slice none 0 0, .slice none 0 0, .slice none 0 0, .int .i64 0] 27 zk zk zk zk zk zk zk zk zk zk ?_ ?_ ?_ ?_ ?_ ?_ ?_
  ·exact zz3g 74 #[.agg (BF Ah ch As cs Ao co Ar cr b b.n), .agg #[h0, C, h2, h3]] ⟨_, _, _, rfl, rfl, rfl, rfl, by simp [Act.eval, Act.put], by simp⟩ (fun w => enters_of Tryz.func74 zk rfl _ w) (fun wz hz => (q1.out _ wz (zH (B0.out.call (HI.out.below.trans (hz.mono HI.out.below.size))))).mono fun x w' ⟨v, h1, h2, h3⟩ => ⟨v, h1, h2.at, h3⟩)
  ·intro v1 wy hby hv1
   exact zz3g 89 #[v1, .agg #[o1, o2, S]] ⟨_, _, _, rfl, rfl, rfl, rfl, by simp [Act.eval, Act.put], by simp⟩ (fun w => enters_of Tryz.func89 zk rfl _ w) (fun wz hz => (q2.out _ wz (zH (hv1.call hz))).mono fun x w' ⟨v, h1, h2, h3⟩ => ⟨v, h1, ⟨_, Nat.le_trans hby.size hz.size, h2⟩, h3⟩)
  ·exact zz2z _ rfl rfl rfl #[.slice none 0 0, .slice none 0 0, .slice none 0 0, .slice none 0 0, .int .i64 0] 27 (fun ev wz => by unfold execOp; go_simp) (fun wz hz => ⟨rfl, zz02 wz _⟩)
  ·exact fun u wa wb h hb => h.call hb
  ·exact fun u wa wb ⟨B, hB, h⟩ hb => ⟨B, hB, h.kept hb⟩
  ·exact fun wz hz => ⟨(KG.out.imp fun _ h => zz06 h hz), zz06 Kh.out hz, zz06 Ko.out hz, zz06 Ks.out hz⟩
  intro v1 v2 qwf25 wf25 m2 g2 ⟨B2, hB2, hO2⟩ hb;have Kn := zH g2;have Ln := zH (Nat.le_trans hzd.out m2);have Mn := zH (Nat.le_trans hzo.out m2);have lt2 : qwf2 < B2 := by omega
  obtain ⟨Y1, y1, Y2, y2, Y3, y3, Y4, y4, rfl⟩ := hO2.form;have HO2 := zH hO2;have LT2 := zH lt2;have ntn : w.heap.size ≠ qwf25 := by have := (zL KT.out); omega
  clear g2 m2 hzd hzo hoz hO2 lt2 hB2;go_simp;replace KT := zK KT hb;replace Ko := zK Ko hb;replace Kc := zK Kc hb;replace Ks := zK Ks hb;replace Kx := zK Kx hb;replace Ky := zK Ky hb;replace KG := zKx KG hb;replace Kh := zK Kh hb;replace HOF := zX HOF hb;replace HI := zH (HI.out.kept hb);clear hb;have c_n_0 := zC Kn.out;have fc_n_0 := zF Kn.out;refine zW 14 ?_;go_wp2_with fail;generalize hws26 : World.setCell _ _ _ = ws26;clear c_n_0 fc_n_0;replace HO2 : Hid _ := zH (HO2.out.put Kn.out 0 (BF Y1 y1 Y2 y2 Y3 y3 Y4 y4 b2 b2.n));replace HI := zH (HI.out.put Kn.out zx zx Ln.out 0 (BF Y1 y1 Y2 y2 Y3 y3 Y4 y4 b2 b2.n));replace HOF := zH (Off.freshC Mn.out HOF.out 0 (BF Y1 y1 Y2 y2 Y3 y3 Y4 y4 b2 b2.n));replace KT := zH (zz03 ntn (o := 0) (vs := (BF Y1 y1 Y2 y2 Y3 y3 Y4 y4 b2 b2.n)) KT.out);replace Ko := zH (zz03 (zz0a Ko.out Kn.out zx) (o := 0) (vs := (BF Y1 y1 Y2 y2 Y3 y3 Y4 y4 b2 b2.n)) Ko.out );replace Kc := zH (zz03 (zz0a Kc.out Kn.out zx) (o := 0) (vs := (BF Y1 y1 Y2 y2 Y3 y3 Y4 y4 b2 b2.n)) Kc.out );replace Ks := zH (zz03 (zz0a Ks.out Kn.out zx) (o := 0) (vs := (BF Y1 y1 Y2 y2 Y3 y3 Y4 y4 b2 b2.n)) Ks.out );replace Kx := zH (zz03 (zz0a Kx.out Kn.out zx) (o := 0) (vs := (BF Y1 y1 Y2 y2 Y3 y3 Y4 y4 b2 b2.n)) Kx.out );replace Ky := zH (zz03 (zz0a Ky.out Kn.out zx) (o := 0) (vs := (BF Y1 y1 Y2 y2 Y3 y3 Y4 y4 b2 b2.n)) Ky.out );replace KG := zH ((KG.out.imp fun _ h => zz03 (zz0a h Kn.out zx) (o := 0) (vs := (BF Y1 y1 Y2 y2 Y3 y3 Y4 y4 b2 b2.n)) h ))
  replace Kh := zH (zz03 (zz0a Kh.out Kn.out zx) (o := 0) (vs := (BF Y1 y1 Y2 y2 Y3 y3 Y4 y4 b2 b2.n)) Kh.out );replace Kn := zH (zz17 (o := 0) (vs := (BF Y1 y1 Y2 y2 Y3 y3 Y4 y4 b2 b2.n)) Kn.out);rw [show putC wf25 (qwf25) 0 (BF Y1 y1 Y2 y2 Y3 y3 Y4 y4 b2 b2.n) = ws26 from hws26] at HO2
  rw [show putC wf25 (qwf25) 0 (BF Y1 y1 Y2 y2 Y3 y3 Y4 y4 b2 b2.n) = ws26 from hws26] at HI HOF KT Ko Kc Ks Kx Ky KG Kh Kn
  replace Kn : ZB ws26 qwf25 (BF Y1 y1 Y2 y2 Y3 y3 Y4 y4 b2 b2.n) 27 := Kn.out;clear hws26;refine zQs (fun _ => ⟨KG, Kh, Ko, Ks⟩) ?_
  refine zQe ?_;go_wp2_with fail;refine zz07 [9] (fun wz : World => zG wz g Ah ch As cs Ao co Ar cr b e rate ∧ ZB wz qwf2 #[o0, o1, o2, o3, o4, o5] 82) 10 (zb 10 0) zk zk zk ?_
  obtain ⟨wd27, hwd27⟩ : ∃ wd27 : World, { ws26 with drawn := ws26.drawn + 1 } = wd27 := ⟨_, rfl⟩
  rw [hwd27];have hbwd27 : Below ws26.heap.size ws26 wd27 := by rw [← hwd27]; exact (Below.refl _ _).drew
  replace KT := zK KT hbwd27;replace Ko := zK Ko hbwd27;replace Kc := zK Kc hbwd27;replace Ks := zK Ks hbwd27;replace Kx := zK Kx hbwd27;replace Ky := zK Ky hbwd27;replace KG := zKx KG hbwd27;replace Kh := zK Kh hbwd27;replace Kn := zK Kn hbwd27;replace HOF := zX HOF hbwd27;replace HI := zH (HI.out.kept hbwd27);replace HO2 := zH (HO2.out.kept hbwd27);clear hwd27 hbwd27;have hw := HWR.out;refine zM [0, 1, 2, 3, 4, 5, 6, 7, 8] 1 ⟨KG, Ko⟩ ?_;simp only [opsAt, zA];refine zp ?_;refine zq (fun wz hC => zC hC.2.out) ?_
  iterate 4 refine zp ?_
  refine zr (fun wz hC => hC.1.out) ?_
  iterate 2 refine zp ?_
  unfold wpPure;go_simp;clear hw;have c_o_0 := zC Ko.out;have fc_o_0 := zF Ko.out;refine zW 9 ?_;go_wp2_with fail;generalize hws28 : World.setCell _ _ _ = ws28;clear c_o_0 fc_o_0;replace HO2 : Hid _ := zH (BkOwn.low (g := qwf2) LT2.out HO2.out 4 [.int .i64 (o4 - e.qty)]);replace HI := zH (HI.out.put Ko.out zx zx Lo.out 4 [.int .i64 (o4 - e.qty)]);replace HOF := zH (Off.freshC Mo.out HOF.out 4 [.int .i64 (o4 - e.qty)]);replace KT := zH (zz03 (zz0a KT.out Ko.out zx) (o := 4) (vs := [.int .i64 (o4 - e.qty)]) KT.out );replace Kc := zH (zz03 (zz0a Kc.out Ko.out zx) (o := 4) (vs := [.int .i64 (o4 - e.qty)]) Kc.out );replace Ks := zH (zz03 (zz0a Ks.out Ko.out zx) (o := 4) (vs := [.int .i64 (o4 - e.qty)]) Ks.out );replace Kx := zH (zz03 (zz0a Kx.out Ko.out zx) (o := 4) (vs := [.int .i64 (o4 - e.qty)]) Kx.out );replace Ky := zH (zz03 (zz0a Ky.out Ko.out zx) (o := 4) (vs := [.int .i64 (o4 - e.qty)]) Ky.out );replace KG := zH ((KG.out.imp fun _ h => zz03 (zz0a h Ko.out zx) (o := 4) (vs := [.int .i64 (o4 - e.qty)]) h ))
  replace Kh := zH (zz03 (zz0a Kh.out Ko.out zx) (o := 4) (vs := [.int .i64 (o4 - e.qty)]) Kh.out );replace Kn := zH (zz03 (zz0a Kn.out Ko.out zx) (o := 4) (vs := [.int .i64 (o4 - e.qty)]) Kn.out );replace Ko := zH (zz17 (o := 4) (vs := [.int .i64 (o4 - e.qty)]) Ko.out);rw [show putC wd27 (qwf2) 4 [.int .i64 (o4 - e.qty)] = ws28 from hws28] at HO2
  rw [show putC wd27 (qwf2) 4 [.int .i64 (o4 - e.qty)] = ws28 from hws28] at HI HOF KT Ko Kc Ks Kx Ky KG Kh Kn
  replace Ko : ZB ws28 qwf2 #[o0, o1, o2, o3, .int .i64 (o4 - e.qty), o5] 82 := Ko.out;clear hws28;refine zQs (fun h => absurd h zx) ?_
  refine zQe ?_;have c_n_0 := zC Kn.out;have c_o_0 := zC Ko.out;go_wp2_with fail;(with_reducible refine (q3.out _ _ (zH HO2.out.at)).mono ?_);rintro r wc29 ⟨v5, rfl, hO, hb⟩;clear c_n_0 c_o_0;replace KT := zK KT hb;replace Ko := zK Ko hb;replace Kc := zK Kc hb;replace Ks := zK Ks hb;replace Kx := zK Kx hb;replace Ky := zK Ky hb;replace KG := zKx KG hb;replace Kh := zK Kh hb;replace Kn := zK Kn hb;replace HOF := zX HOF hb;replace HI := zH (HI.out.kept hb);clear hb;obtain ⟨U1, u1, U2, u2, U3, u3, U4, u4, rfl⟩ := hO.form;have HO := zH hO;clear hO HO2;have c_t_0 := zC KT.out;have fc_t_0 := zF KT.out;go_wp2_with fail;generalize hws30 : World.setCell _ _ _ = ws30;clear c_t_0 fc_t_0;replace HO : Hid _ := zH (HO.out.put KT.out 0 (BF U1 u1 U2 u2 U3 u3 U4 u4 nb nb.n));replace HI := zH (HI.out.put KT.out zx zx LT.out 0 (BF U1 u1 U2 u2 U3 u3 U4 u4 nb nb.n));replace HOF := zH (Off.freshC MT.out HOF.out 0 (BF U1 u1 U2 u2 U3 u3 U4 u4 nb nb.n));replace Ko := zH (zz03 (zz0a Ko.out KT.out zx) (o := 0) (vs := (BF U1 u1 U2 u2 U3 u3 U4 u4 nb nb.n)) Ko.out );replace Kc := zH (zz03 (zz0a Kc.out KT.out zx) (o := 0) (vs := (BF U1 u1 U2 u2 U3 u3 U4 u4 nb nb.n)) Kc.out );replace Ks := zH (zz03 (zz0a Ks.out KT.out zx) (o := 0) (vs := (BF U1 u1 U2 u2 U3 u3 U4 u4 nb nb.n)) Ks.out );replace Kx := zH (zz03 (zz0a Kx.out KT.out zx) (o := 0) (vs := (BF U1 u1 U2 u2 U3 u3 U4 u4 nb nb.n)) Kx.out );replace Ky := zH (zz03 (zz0a Ky.out KT.out zx) (o := 0) (vs := (BF U1 u1 U2 u2 U3 u3 U4 u4 nb nb.n)) Ky.out );replace KG := zH ((KG.out.imp fun _ h => zz03 (zz0a h KT.out zx) (o := 0) (vs := (BF U1 u1 U2 u2 U3 u3 U4 u4 nb nb.n)) h ))
  replace Kh := zH (zz03 (zz0a Kh.out KT.out zx) (o := 0) (vs := (BF U1 u1 U2 u2 U3 u3 U4 u4 nb nb.n)) Kh.out );replace Kn := zH (zz03 ntn.symm (o := 0) (vs := (BF U1 u1 U2 u2 U3 u3 U4 u4 nb nb.n)) Kn.out);replace KT := zH (zz17 (o := 0) (vs := (BF U1 u1 U2 u2 U3 u3 U4 u4 nb nb.n)) KT.out);rw [show putC wc29 (w.heap.size) 0 (BF U1 u1 U2 u2 U3 u3 U4 u4 nb nb.n) = ws30 from hws30] at HO
  rw [show putC wc29 (w.heap.size) 0 (BF U1 u1 U2 u2 U3 u3 U4 u4 nb nb.n) = ws30 from hws30] at HI HOF KT Ko Kc Ks Kx Ky KG Kh Kn
  replace KT : ZB ws30 w.heap.size (BF U1 u1 U2 u2 U3 u3 U4 u4 nb nb.n) 27 := KT.out;clear hws30;exact zt17
end
section
open Go Go.RowKit
theorem el_look : Elt Tryz.prog 124 72 Value.nilFunc 1 8 := Elt.mk' Tryz.underlying124 zk rfl zx
section
variable {P : Program} {ops : Array Oper} {rest : List Oper} {o : Oper} {a : Act} {Q : Exit → Act → World → Prop}
theorem zz3o {w : World} (hgd : o.guard = none) (s x : Operand) (t : TypeId) (ho : o.op = .call { callee := .builtin .append, args := #[s, x], argTypes := #[t, t] })
  {e : TypeId} {z : Value} {bytes : Nat} (hu : P.underlying t = some (.slice e)) (he : Elt P t e z 1 bytes) (b : Addr) (sLen sCap : Nat) (olds : List Value) (hlo : olds.length = sLen) (holds : ∀ (j : Nat) (v : Value), olds[j]? = some v → w.cell? (b.add j) = some v)
  (ad : Addr) (n c : Nat) (news : List Value) (hl : news.length = n) (hnews : ∀ (j : Nat) (v : Value), news[j]? = some v → w.cell? (ad.add j) = some v)
  (hs : a.eval s = .slice (some b) sLen sCap) (hx : a.eval x = .slice (some ad) n c) (hg : sCap < sLen + n) (h63 : ((sLen + n : Nat) : Int) ≤ 9223372036854775807) (hfit : Builtin.nextslicecap (sLen + n) sCap * bytes ≤ 281474976710656)
  (h : ∀ (w' : World) (g cap : Nat) (cur : Array Value), g = w.heap.size → w'.heap[g]? = some (.cells cur e (0, 0)) → (∀ (j : Nat) (v : Value), (olds ++ news)[j]? = some v → cur[j]? = some v) → Below w.heap.size w w' → wpList P ops Q rest (a.put o.dst (.slice (some ⟨g, 0, none⟩) (sLen + n) cap)) w') :
  wpList P ops Q (o :: rest) a w := by
 obtain ⟨i, hi, hz, hsz, hbs⟩ := he.info;refine wpList_plain hgd fun K hK => ?_
 have hrun := run_append_grow (P := P) (w := w) t o.type e i z hu hi hz b sLen sCap olds (by rw [hsz, hlo, Nat.mul_one]) holds ad n c news (by rw [hsz, hl, Nat.mul_one]) hnews hg h63 (by rw [hbs]; exact hfit)
 unfold Oper.wp;simp [execOp, ho, resolve, invoke, builtin, hs, hx, hrun, Result.andThen];refine hK _ _ (h _ w.heap.size _ _ rfl (zz02 w.drew _) (fun j v hj => ?_) ?_)
 ·have hlt := (List.getElem?_eq_some_iff.1 hj).1
  rw [Array.getElem?_append_left (by simpa using hlt)]
  simpa using hj
 ·exact (Below.refl _ _).drew.alloc (Nat.le_refl _) _
end
theorem quote_any (w0 : World) (g : Nat) (vh vs vo vr : Value) (b : Bk) (e : Ev) (rate : Int) (hT : Hid (Law16 w0)) (B0 : Hid (BkAt w0 (.agg #[vh, vs, vo, vr, b.n]) b)) (hs : Hid b.Small) (hR : Hid b.Rise) (hE : Hid e.I64s) (l0 : List Stp) (hl0 : Hid (l0.length ≤ 50)) (w : World) (HI : Hid (Gt w0 g vh vs vo vr b e rate l0 w)) :
  Calls Tryz.prog 30 #[.pointer (some ⟨g, 0, none⟩)] w fun r w' => ∃ v, r = .returned v ∧ BkEi w' (.agg #[vh, vs, vo, vr, b.n]) v b (if (quoS b e).all (·.holds) then quoB b e else b) ∧ Gt w0 g vh vs vo vr b e rate (l0 ++ cutL (quoS b e)) w' ∧ Off w w' := by
 obtain ⟨_, _, _, _, hv, r1, r2, r3, r4⟩ := B0.out;injection hv with hv
 simp only [Array.mk.injEq, List.cons.injEq, and_true] at hv;obtain ⟨rfl, rfl, rfl, rfl, _⟩ := hv;have LH : Hid (∀ r ∈ b.h, r.length = 4) := (by obtain ⟨_, _, _, h, _⟩ := r1; exact h)
 have LO : Hid (∀ r ∈ b.o, r.length = 6) := (by obtain ⟨_, _, _, h, _⟩ := r3; exact h)
 have LR : Hid (∀ r ∈ b.r, r.length = 2) := (by obtain ⟨_, _, _, h, _⟩ := r4; exact h)
 obtain ⟨Ah, ch, rfl, _⟩ := r1;obtain ⟨As, cs, rfl, _⟩ := r2;obtain ⟨Ao, co, rfl, _⟩ := r3;obtain ⟨Ar, cr, rfl, _⟩ := r4;have F1 : b.h.length ≤ 1000000 ∧ b.o.length ≤ 1000000 ∧ b.r.length ≤ 1000000 := by have := hs.out; unfold Bk.Small at this; omega
 have HL1 := zH F1;clear F1;have KG := zH (HI.out.blk.imp fun _ h => h.1)
 have HOF : Hid (Off w w) := Off.refl _;obtain ⟨rr, FR, hl3, hx3⟩ := zz16 LR.out (isId e.sym)
 match rr, hl3, hx3 with
 | [r0, r1], _, hx3 =>
 have hFr : FR = hasR b e.sym := zz0q hx3;have HFr := zH hFr;clear hFr;have HX3 := zH hx3;clear hx3;have HRr : Hid (riseH b.r) := hR.out.2.2.1;obtain ⟨nb, hnb⟩ : ∃ nb : Bk, quoB b e = nb := ⟨_, rfl⟩;have q5 : Hid (∀ wz : World, Hid (BkAt wz (.agg (BF Ah ch As cs Ao co Ar cr b b.n)) b) → Calls Tryz.prog 75 #[.agg (BF Ah ch As cs Ao co Ar cr b b.n), .agg #[e.sym, e.px]] wz fun r w' => ∃ v', r = .returned v' ∧ BkOwn w' wz.heap.size v' nb ∧ Below wz.heap.size wz w') := (show _ from fun wz hv => by rw [← hnb]; exact zza4 _ b e.sym e.px wz hv hs hR.out.2.2.1)
 rw [hnb];clear hnb;cases FR with
 | true =>
  have hst : quoS b e = [sS 6 e.px 1] := by unfold quoS; rw [← HFr.out]; rfl
  rw [hst];clear hst;obtain ⟨FA, hFA⟩ : ∃ FA, ([sS 6 e.px 1]).all (·.holds) = FA := ⟨_, rfl⟩;rw [hFA];replace hFA := zH hFA;obtain ⟨wb, hwb⟩ : ∃ wb : World, w.alloc (.cells BZ 27) = wb := ⟨_, rfl⟩;have hb := zM0 hwb;have KT : ZB wb w.heap.size BZ 27 := by rw [← hwb]; exact zz02 _ _
  have LT : Hid (w0.heap.size ≤ w.heap.size) := HI.out.below.size;have MT : Hid (w.heap.size ≤ w.heap.size) := Nat.le_refl _;replace KG := zKx KG hb;replace HI := zH (HI.out.kept hb);replace HOF := zX HOF hb;replace hwb := zH hwb;clear hb;go_in;go_wp2_with fail;rw [hwb.out];clear hwb;refine zz07 [] (fun wz : World => zG wz g Ah ch As cs Ao co Ar cr b e rate) 15 (zb 15 0) zk zk zk ?_
  obtain ⟨wd1, hwd1⟩ : ∃ wd1 : World, { wb with drawn := wb.drawn + 1 } = wd1 := ⟨_, rfl⟩
  rw [hwd1];have hbwd1 : Below wb.heap.size wb wd1 := by rw [← hwd1]; exact (Below.refl _ _).drew
  replace KG := zKx KG hbwd1;replace KT := zK KT hbwd1;replace HI := zH (HI.out.kept hbwd1);replace HOF := zX HOF hbwd1;clear hwd1 hbwd1;refine zM [0, 1, 2, 3, 4, 5, 6, 7, 8] 6 KG ?_;simp only [opsAt, zA]
  iterate 3 refine zp ?_
  refine zr (fun wz hC => hC.out) ?_
  iterate 4 refine zp ?_
  refine zr (fun wz hC => hC.out) ?_
  unfold wpPure;go_simp;refine zW 9 ?_;go_wp2_with fail;(with_reducible refine (zz4t _ b e.sym r0 r1 true _ (zH (B0.out.call HI.out.below)) HL1.out.2.2 HRr HX3).mono ?_);rintro e wc2 ⟨rfl, hb⟩;replace KG := zKx KG hb;replace KT := zK KT hb;replace HI := zH (HI.out.kept hb);replace HOF := zX HOF hb;clear hb;go_wp2_with fail;refine zQs (fun _ => KG) ?_
  refine zM [10, 11, 12, 13, 14] 0 KG ?_;simp only [opsAt, zA]
  iterate 5 refine zp ?_
  unfold wpPure;go_simp;refine zQe ?_;obtain ⟨vX_g, hX_g⟩ := KG.out;have c_g_0 := zC hX_g;replace hX_g := zH hX_g;go_wp2_with fail;(with_reducible refine (zz0i w0 g (.slice Ah b.h.length ch) (.slice As b.s.length cs) (.slice Ao b.o.length co) (.slice Ar b.r.length cr) b e rate hT 6 (e.px) (1) (gfit _ _ _ zw hE.out.px (zz0l zw)) _).mono ?_);rintro r wc3 ⟨f1, rfl, hl1, hb⟩;clear hX_g c_g_0;replace KG := zKx KG hb;replace KT := zK KT hb;replace HI := zH (HI.out.kept hb);replace HOF := zX HOF hb;clear hb;obtain ⟨J1, j1, rfl⟩ := hl1.form;have HK1 := zH hl1;clear hl1;obtain ⟨vX_g, hX_g⟩ := KG.out;have c_g_0 := zC hX_g;have lt_g := zL hX_g;replace hX_g := zH hX_g;go_wp2_with fail;generalize hwa4 : World.alloc _ _ = wa4;have hbwa4 := zM0 hwa4;replace KG := zKx KG hbwa4;replace KT := zK KT hbwa4;replace HI := zH (HI.out.kept hbwa4);replace HOF := zX HOF hbwa4;replace HK1 := zH (HK1.out.off (Off.of hbwa4));have Kfs : ZB wa4 wc3.heap.size #[.func (.func J1) #[] j1] 72 := by rw [← hwa4]; exact zz02 _ _
  clear hwa4 hbwa4;clear hX_g c_g_0 lt_g;have qall := zH (zzbx (Gt w0 g (.slice Ah b.h.length ch) (.slice As b.s.length cs) (.slice Ao b.o.length co) (.slice Ar b.r.length cr) b e rate) (wc3.heap.size) 1 (1) [(.func (.func J1) #[] j1, sS 6 e.px 1)] _ l0 _ rfl (show _ from fun i h => by have h1 : i < 1 := h; obtain rfl : i = 0 := zw; rfl) Kfs (zH (by intro x hx; simp only [List.mem_cons, List.not_mem_nil, or_false] at hx; subst hx; exact HK1.out)) HI (by have := hl0.out; show _ ≤ _; omega))
  have qall2 : Hid (Calls Tryz.prog 35 #[.slice (some ⟨wc3.heap.size, 0, none⟩) 1 (1)] wa4 fun r w' => r = .returned (.bool FA) ∧ Gt w0 g (.slice Ah b.h.length ch) (.slice As b.s.length cs) (.slice Ao b.o.length co) (.slice Ar b.r.length cr) b e rate (l0 ++ cutL ([sS 6 e.px 1])) w' ∧ Off wa4 w') := by rw [← hFA.out]; exact qall.out
  clear qall;(with_reducible refine qall2.out.mono ?_);rintro r wl5 ⟨rfl, hI2, ho⟩;clear qall2 HI HK1;replace KT := zD ho KT;replace HOF := zH (HOF.out.trans ho);clear KG ho;have HI := zH hI2;clear hI2;have KG := zH (HI.out.blk.imp fun _ h => h.1)
  cases FA with
  | false =>
   obtain ⟨vX_g, hX_g⟩ := KG.out;have c_g_0 := zC hX_g;replace hX_g := zH hX_g;have c_t_0 := zC KT.out;have fc_t_0 := zF KT.out;go_wp2_with fail;generalize hws6 : World.setCell _ _ _ = ws6;clear hX_g c_g_0 c_t_0 fc_t_0;obtain ⟨vs, zE, hvs⟩ := zV5 hws6;replace HI := zH (HI.out.put KT.out zx zx LT.out 0 vs);replace HOF := zH (Off.freshC MT.out HOF.out 0 vs);replace KG := zH ((KG.out.imp fun _ h => zz03 (zz0a h KT.out zx) (o := 0) (vs := vs) h ))
   subst hvs;rw [zE] at HI HOF KG;replace KT := zP zE KT;clear zE;replace KT : ZB ws6 w.heap.size (BF Ah ch As cs Ao co Ar cr b b.n) 27 := KT.out;clear hws6;exact zt13
  | true =>
   obtain ⟨vX_g, hX_g⟩ := KG.out;have c_g_0 := zC hX_g;replace hX_g := zH hX_g;go_wp2_with fail;clear hX_g c_g_0;refine zz07 [] (fun wz : World => zG wz g Ah ch As cs Ao co Ar cr b e rate) 17 (zb 17 0) zk zk zk ?_
   obtain ⟨wd7, hwd7⟩ : ∃ wd7 : World, { wl5 with drawn := wl5.drawn + 1 } = wd7 := ⟨_, rfl⟩
   rw [hwd7];have hbwd7 : Below wl5.heap.size wl5 wd7 := by rw [← hwd7]; exact (Below.refl _ _).drew
   replace KT := zK KT hbwd7;replace KG := zKx KG hbwd7;replace HOF := zX HOF hbwd7;replace HI := zH (HI.out.kept hbwd7);clear hwd7 hbwd7;refine zM [0, 1, 2, 3, 4, 5, 6, 7, 8, 9, 10, 11, 12, 13, 14] 2 KG ?_;simp only [opsAt, zA]
   iterate 3 refine zp ?_
   refine zr (fun wz hC => hC.out) ?_
   iterate 4 refine zp ?_
   refine zr (fun wz hC => hC.out) ?_
   iterate 4 refine zp ?_
   refine zr (fun wz hC => hC.out) ?_
   refine zp ?_;unfold wpPure;go_simp;refine zW 15 ?_;go_wp2_with fail;(with_reducible refine (q5.out _ (zH (B0.out.call HI.out.below))).mono ?_);rintro r wc8 ⟨v5, rfl, hO, hb⟩;replace KT := zK KT hb;replace KG := zKx KG hb;replace HOF := zX HOF hb;replace HI := zH (HI.out.kept hb);clear hb;obtain ⟨U1, u1, U2, u2, U3, u3, U4, u4, rfl⟩ := hO.form;have HO := zH hO;clear hO;go_wp2_with fail;refine zQs (fun _ => KG) ?_
   have c_t_0 := zC KT.out;have fc_t_0 := zF KT.out;refine zW 16 ?_;go_wp2_with fail;generalize hws9 : World.setCell _ _ _ = ws9;clear c_t_0 fc_t_0;replace HO : Hid _ := zH (HO.out.put KT.out 0 (BF U1 u1 U2 u2 U3 u3 U4 u4 nb nb.n));replace HI := zH (HI.out.put KT.out zx zx LT.out 0 (BF U1 u1 U2 u2 U3 u3 U4 u4 nb nb.n));replace HOF := zH (Off.freshC MT.out HOF.out 0 (BF U1 u1 U2 u2 U3 u3 U4 u4 nb nb.n));replace KG := zH ((KG.out.imp fun _ h => zz03 (zz0a h KT.out zx) (o := 0) (vs := (BF U1 u1 U2 u2 U3 u3 U4 u4 nb nb.n)) h ))
   replace KT := zH (zz17 (o := 0) (vs := (BF U1 u1 U2 u2 U3 u3 U4 u4 nb nb.n)) KT.out);rw [show putC wc8 (w.heap.size) 0 (BF U1 u1 U2 u2 U3 u3 U4 u4 nb nb.n) = ws9 from hws9] at HO
   rw [show putC wc8 (w.heap.size) 0 (BF U1 u1 U2 u2 U3 u3 U4 u4 nb nb.n) = ws9 from hws9] at HI HOF KT KG
   replace KT : ZB ws9 w.heap.size (BF U1 u1 U2 u2 U3 u3 U4 u4 nb nb.n) 27 := KT.out;clear hws9;refine zQs (fun _ => KG) ?_
   refine zQe ?_;exact zt17
 | false =>
  have hst : quoS b e = [sS 6 e.px 1, sS 17 b.r.length 31] := by unfold quoS; rw [← HFr.out]; rfl
  rw [hst];clear hst;obtain ⟨FA, hFA⟩ : ∃ FA, ([sS 6 e.px 1, sS 17 b.r.length 31]).all (·.holds) = FA := ⟨_, rfl⟩;rw [hFA];replace hFA := zH hFA;obtain ⟨wb, hwb⟩ : ∃ wb : World, w.alloc (.cells BZ 27) = wb := ⟨_, rfl⟩;have hb := zM0 hwb;have KT : ZB wb w.heap.size BZ 27 := by rw [← hwb]; exact zz02 _ _
  have LT : Hid (w0.heap.size ≤ w.heap.size) := HI.out.below.size;have MT : Hid (w.heap.size ≤ w.heap.size) := Nat.le_refl _;replace KG := zKx KG hb;replace HI := zH (HI.out.kept hb);replace HOF := zX HOF hb;replace hwb := zH hwb;clear hb;go_in;go_wp2_with fail;rw [hwb.out];clear hwb;refine zz07 [] (fun wz : World => zG wz g Ah ch As cs Ao co Ar cr b e rate) 15 (zb 15 0) zk zk zk ?_
  obtain ⟨wd10, hwd10⟩ : ∃ wd10 : World, { wb with drawn := wb.drawn + 1 } = wd10 := ⟨_, rfl⟩
  rw [hwd10];have hbwd10 : Below wb.heap.size wb wd10 := by rw [← hwd10]; exact (Below.refl _ _).drew
  replace KG := zKx KG hbwd10;replace KT := zK KT hbwd10;replace HI := zH (HI.out.kept hbwd10);replace HOF := zX HOF hbwd10;clear hwd10 hbwd10;refine zM [0, 1, 2, 3, 4, 5, 6, 7, 8] 6 KG ?_;simp only [opsAt, zA]
  iterate 3 refine zp ?_
  refine zr (fun wz hC => hC.out) ?_
  iterate 4 refine zp ?_
  refine zr (fun wz hC => hC.out) ?_
  unfold wpPure;go_simp;refine zW 9 ?_;go_wp2_with fail;(with_reducible refine (zz4t _ b e.sym r0 r1 false _ (zH (B0.out.call HI.out.below)) HL1.out.2.2 HRr HX3).mono ?_);rintro e wc11 ⟨rfl, hb⟩;replace KG := zKx KG hb;replace KT := zK KT hb;replace HI := zH (HI.out.kept hb);replace HOF := zX HOF hb;clear hb;go_wp2_with fail;refine zQs (fun _ => KG) ?_
  refine zM [10, 11, 12, 13, 14] 0 KG ?_;simp only [opsAt, zA]
  iterate 5 refine zp ?_
  unfold wpPure;go_simp;refine zQe ?_;obtain ⟨vX_g, hX_g⟩ := KG.out;have c_g_0 := zC hX_g;replace hX_g := zH hX_g;go_wp2_with fail;(with_reducible refine (zz0i w0 g (.slice Ah b.h.length ch) (.slice As b.s.length cs) (.slice Ao b.o.length co) (.slice Ar b.r.length cr) b e rate hT 6 (e.px) (1) (gfit _ _ _ zw hE.out.px (zz0l zw)) _).mono ?_);rintro r wc12 ⟨f1, rfl, hl1, hb⟩;clear hX_g c_g_0;replace KG := zKx KG hb;replace KT := zK KT hb;replace HI := zH (HI.out.kept hb);replace HOF := zX HOF hb;clear hb;obtain ⟨J1, j1, rfl⟩ := hl1.form;have HK1 := zH hl1;clear hl1;obtain ⟨vX_g, hX_g⟩ := KG.out;have c_g_0 := zC hX_g;have lt_g := zL hX_g;replace hX_g := zH hX_g;go_wp2_with fail;generalize hwa13 : World.alloc _ _ = wa13;have hbwa13 := zM0 hwa13;replace KG := zKx KG hbwa13;replace KT := zK KT hbwa13;replace HI := zH (HI.out.kept hbwa13);replace HOF := zX HOF hbwa13;replace HK1 := zH (HK1.out.off (Off.of hbwa13));have Kfs : ZB wa13 wc12.heap.size #[.func (.func J1) #[] j1] 72 := by rw [← hwa13]; exact zz02 _ _
  clear hwa13 hbwa13;clear hX_g c_g_0 lt_g;(with_reducible refine (zz0i w0 g (.slice Ah b.h.length ch) (.slice As b.s.length cs) (.slice Ao b.o.length co) (.slice Ar b.r.length cr) b e rate hT 17 (b.r.length) (31) (gfit _ _ _ zw (zz5c HL1.out.2.2) (zz0l zw)) _).mono ?_);rintro r wc14 ⟨f2, rfl, hl2, hb⟩;replace KG := zKx KG hb;replace KT := zK KT hb;replace Kfs := zK Kfs hb;replace HI := zH (HI.out.kept hb);replace HOF := zX HOF hb;replace HK1 := zH (HK1.out.off (Off.of hb));clear hb;obtain ⟨J2, j2, rfl⟩ := hl2.form;have HK2 := zH hl2;clear hl2;have c_fs_0 := zz00 Kfs.out 0 _ rfl;have lt_fs := zL Kfs.out;have hsz : wc14.heap.size = wc14.heap.size := rfl;go_wp2_with (at_builtin; go_loud (refine zz3o (w := wc14.alloc (.cells #[.func (.func J2) #[] j2] 72)) rfl _ _ _ rfl Tryz.underlying124 el_look ⟨wc12.heap.size, 0, none⟩ 1 1 [.func (.func J1) #[] j1] rfl ?_ ⟨wc14.heap.size, 0, none⟩ 1 1 [.func (.func J2) #[] j2] rfl ?_ rfl rfl zw zx zx ?_; (intro j v hj; rw [Addr.add_lit]; exact zz00 (zz04 Kfs.out _) (0 + j) v (by simpa using hj)); (intro j v hj; rw [Addr.add_lit]; exact zz00 (zz02 _ _) (0 + j) v (by simpa using hj)); intro wa15 gq cq cur hgq hKq hcur hb; clear hgq))
  clear c_fs_0 lt_fs;replace hb : Below wc14.heap.size wc14 wa15 := zBa.trans (hb.mono (by simp))
  replace KG := zKx KG hb;replace KT := zK KT hb;replace Kfs := zK Kfs hb;replace HI := zH (HI.out.kept hb);replace HOF := zX HOF hb;replace HK1 := zH (HK1.out.off (Off.of hb));replace HK2 := zH (HK2.out.off (Off.of hb));clear hb;have Kfn := zH hKq;have HCU := zH hcur;clear hKq hcur hsz;go_wp2_with fail;have qall := zH (zzbx (Gt w0 g (.slice Ah b.h.length ch) (.slice As b.s.length cs) (.slice Ao b.o.length co) (.slice Ar b.r.length cr) b e rate) (gq) 2 (cq) [(.func (.func J1) #[] j1, sS 6 e.px 1), (.func (.func J2) #[] j2, sS 17 b.r.length 31)] _ l0 _ rfl (show _ from fun i h => HCU.out i _ (by have h2 : i < 2 := h; rcases (show i = 0 ∨ i = 1 by omega) with rfl | rfl <;> rfl)) Kfn (zH (by intro x hx; simp only [List.mem_cons, List.not_mem_nil, or_false] at hx; rcases hx with rfl | rfl <;> first | exact HK1.out | exact HK2.out)) HI (by have := hl0.out; show _ ≤ _; omega))
  have qall2 : Hid (Calls Tryz.prog 35 #[.slice (some ⟨gq, 0, none⟩) 2 (cq)] wa15 fun r w' => r = .returned (.bool FA) ∧ Gt w0 g (.slice Ah b.h.length ch) (.slice As b.s.length cs) (.slice Ao b.o.length co) (.slice Ar b.r.length cr) b e rate (l0 ++ cutL ([sS 6 e.px 1, sS 17 b.r.length 31])) w' ∧ Off wa15 w') := by rw [← hFA.out]; exact qall.out
  clear qall;(with_reducible refine qall2.out.mono ?_);rintro r wl16 ⟨rfl, hI2, ho⟩;clear qall2 HI HK1 HK2;replace KT := zD ho KT;replace HOF := zH (HOF.out.trans ho);clear KG ho;have HI := zH hI2;clear hI2;have KG := zH (HI.out.blk.imp fun _ h => h.1)
  cases FA with
  | false =>
   obtain ⟨vX_g, hX_g⟩ := KG.out;have c_g_0 := zC hX_g;replace hX_g := zH hX_g;have c_t_0 := zC KT.out;have fc_t_0 := zF KT.out;go_wp2_with fail;generalize hws17 : World.setCell _ _ _ = ws17;clear hX_g c_g_0 c_t_0 fc_t_0;obtain ⟨vs, zE, hvs⟩ := zV5 hws17;replace HI := zH (HI.out.put KT.out zx zx LT.out 0 vs);replace HOF := zH (Off.freshC MT.out HOF.out 0 vs);replace KG := zH ((KG.out.imp fun _ h => zz03 (zz0a h KT.out zx) (o := 0) (vs := vs) h ))
   subst hvs;rw [zE] at HI HOF KG;replace KT := zP zE KT;clear zE;replace KT : ZB ws17 w.heap.size (BF Ah ch As cs Ao co Ar cr b b.n) 27 := KT.out;clear hws17;exact zt13
  | true =>
   obtain ⟨vX_g, hX_g⟩ := KG.out;have c_g_0 := zC hX_g;replace hX_g := zH hX_g;go_wp2_with fail;clear hX_g c_g_0;refine zz07 [] (fun wz : World => zG wz g Ah ch As cs Ao co Ar cr b e rate) 17 (zb 17 0) zk zk zk ?_
   obtain ⟨wd18, hwd18⟩ : ∃ wd18 : World, { wl16 with drawn := wl16.drawn + 1 } = wd18 := ⟨_, rfl⟩
   rw [hwd18];have hbwd18 : Below wl16.heap.size wl16 wd18 := by rw [← hwd18]; exact (Below.refl _ _).drew
   replace KT := zK KT hbwd18;replace KG := zKx KG hbwd18;replace HOF := zX HOF hbwd18;replace HI := zH (HI.out.kept hbwd18);clear hwd18 hbwd18;refine zM [0, 1, 2, 3, 4, 5, 6, 7, 8, 9, 10, 11, 12, 13, 14] 2 KG ?_;simp only [opsAt, zA]
   iterate 3 refine zp ?_
   refine zr (fun wz hC => hC.out) ?_
   iterate 4 refine zp ?_
   refine zr (fun wz hC => hC.out) ?_
   iterate 4 refine zp ?_
   refine zr (fun wz hC => hC.out) ?_
   refine zp ?_;unfold wpPure;go_simp;refine zW 15 ?_;go_wp2_with fail;(with_reducible refine (q5.out _ (zH (B0.out.call HI.out.below))).mono ?_);rintro r wc19 ⟨v5, rfl, hO, hb⟩;replace KT := zK KT hb;replace KG := zKx KG hb;replace HOF := zX HOF hb;replace HI := zH (HI.out.kept hb);clear hb;obtain ⟨U1, u1, U2, u2, U3, u3, U4, u4, rfl⟩ := hO.form;have HO := zH hO;clear hO;go_wp2_with fail;refine zQs (fun _ => KG) ?_
   have c_t_0 := zC KT.out;have fc_t_0 := zF KT.out;refine zW 16 ?_;go_wp2_with fail;generalize hws20 : World.setCell _ _ _ = ws20;clear c_t_0 fc_t_0;replace HO : Hid _ := zH (HO.out.put KT.out 0 (BF U1 u1 U2 u2 U3 u3 U4 u4 nb nb.n));replace HI := zH (HI.out.put KT.out zx zx LT.out 0 (BF U1 u1 U2 u2 U3 u3 U4 u4 nb nb.n));replace HOF := zH (Off.freshC MT.out HOF.out 0 (BF U1 u1 U2 u2 U3 u3 U4 u4 nb nb.n));replace KG := zH ((KG.out.imp fun _ h => zz03 (zz0a h KT.out zx) (o := 0) (vs := (BF U1 u1 U2 u2 U3 u3 U4 u4 nb nb.n)) h ))
   replace KT := zH (zz17 (o := 0) (vs := (BF U1 u1 U2 u2 U3 u3 U4 u4 nb nb.n)) KT.out);rw [show putC wc19 (w.heap.size) 0 (BF U1 u1 U2 u2 U3 u3 U4 u4 nb nb.n) = ws20 from hws20] at HO
   rw [show putC wc19 (w.heap.size) 0 (BF U1 u1 U2 u2 U3 u3 U4 u4 nb nb.n) = ws20 from hws20] at HI HOF KT KG
   replace KT : ZB ws20 w.heap.size (BF U1 u1 U2 u2 U3 u3 U4 u4 nb nb.n) 27 := KT.out;clear hws20;refine zQs (fun _ => KG) ?_
   refine zQe ?_;exact zt17
theorem snap_any (w0 : World) (g : Nat) (vh vs vo vr : Value) (b : Bk) (e : Ev) (rate : Int) (hT : Hid (Law16 w0)) (B0 : Hid (BkAt w0 (.agg #[vh, vs, vo, vr, b.n]) b)) (hs : Hid b.Small) (hR : Hid b.Rise) (hE : Hid e.I64s) (l0 : List Stp) (hl0 : Hid (l0.length ≤ 50)) (w : World) (HI : Hid (Gt w0 g vh vs vo vr b e rate l0 w)) :
  Calls Tryz.prog 34 #[.pointer (some ⟨g, 0, none⟩)] w fun r w' => ∃ v, r = .returned v ∧ BkEi w' (.agg #[vh, vs, vo, vr, b.n]) v b b ∧ Gt w0 g vh vs vo vr b e rate l0 w' ∧ Off w w' := by
 obtain ⟨_, _, _, _, hv, r1, r2, r3, r4⟩ := B0.out;injection hv with hv
 simp only [Array.mk.injEq, List.cons.injEq, and_true] at hv;obtain ⟨rfl, rfl, rfl, rfl, _⟩ := hv;have LH : Hid (∀ r ∈ b.h, r.length = 4) := (by obtain ⟨_, _, _, h, _⟩ := r1; exact h)
 have LO : Hid (∀ r ∈ b.o, r.length = 6) := (by obtain ⟨_, _, _, h, _⟩ := r3; exact h)
 have LR : Hid (∀ r ∈ b.r, r.length = 2) := (by obtain ⟨_, _, _, h, _⟩ := r4; exact h)
 obtain ⟨Ah, ch, rfl, _⟩ := r1;obtain ⟨As, cs, rfl, _⟩ := r2;obtain ⟨Ao, co, rfl, _⟩ := r3;obtain ⟨Ar, cr, rfl, _⟩ := r4;have F1 : b.h.length ≤ 1000000 ∧ b.o.length ≤ 1000000 ∧ b.r.length ≤ 1000000 := by have := hs.out; unfold Bk.Small at this; omega
 have HL1 := zH F1;clear F1;have KG := zH (HI.out.blk.imp fun _ h => h.1)
 have HOF : Hid (Off w w) := Off.refl _;obtain ⟨vX_g, hX_g⟩ := KG.out;have c_g_0 := zC hX_g;have lt_g := zL hX_g;replace hX_g := zH hX_g;go_in;go_wp2_with fail;clear hX_g c_g_0 lt_g;have hbe : Below w.heap.size w (w.alloc (.cells (BF Ah ch As cs Ao co Ar cr b b.n) 27)) := zBa;have hI2 := HI.out.kept hbe;refine bodyPost_ret (v := .agg (BF Ah ch As cs Ao co Ar cr b b.n)) ?_ rfl ⟨_, rfl, ?_, hI2, Off.of hbe⟩
 ·exact zz38 rfl _ _ w.heap.size _ _ _ rfl (zz02 _ _) Tryz.underlying27 rfl zk
 ·exact BkEi.same _ _ _
end
end Go.Proofs.YtajogedbacpohaaGreatDoor
