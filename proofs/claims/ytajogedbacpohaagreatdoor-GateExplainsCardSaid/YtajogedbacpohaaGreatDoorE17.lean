/- Part 18 of what the claim rests on. -/
import Derived.Test.YtajogedbacpohaaGreatDoorE00
import Derived.Test.YtajogedbacpohaaGreatDoorE14
import Derived.Test.YtajogedbacpohaaGreatDoorE15
import Derived.Test.YtajogedbacpohaaGreatDoorE16
set_option linter.unusedVariables false
set_option linter.unusedSimpArgs false
set_option maxRecDepth 1000000
set_option maxHeartbeats 32000000
namespace Go.Proofs.YtajogedbacpohaaGreatDoor
section
open Go Go.RowKit
theorem zt35 {p : Prop} (h : p := by
 exact zz3g 76 #[.agg (BF Ah ch As cs Ao co Ar cr b b.n), .int .i64 e.ord] ⟨_, _, _, rfl, rfl, rfl, rfl, by simp [Act.eval, Act.put], by simp⟩ (fun w => enters_of Tryz.func76 zk rfl _ w) (fun wz hz => (Open_any _ b e.ord o0 o1 o2 o3 o4 o5 (hasO b e.ord) wz (zH (B0.out.call (HI.out.below.trans (hz.mono HI.out.below.size)))) HL1.out.2.1 hR.out.2.1 HX2).mono fun x w' ⟨h1, h2⟩ => ⟨_, h1, rfl, h2⟩)) : p := h
theorem zt61 {p : Prop} (h : p := by
 exact zz2z _ rfl rfl rfl #[.int .i64 0, .int .i64 0, .int .i64 0, .int .i64 0, .int .i64 0, .int .i64 0] 82 (fun ev wz => by unfold execOp; go_simp) (fun wz hz => ⟨rfl, zz02 wz _⟩)) : p := h
theorem zzbu (w0 : World) (g : Nat) (vh vs vo vr : Value) (b : Bk) (e : Ev) (rate : Int) (hT : Hid (Law16 w0)) (B0 : Hid (BkAt w0 (.agg #[vh, vs, vo, vr, b.n]) b)) (hs : Hid b.Small) (hR : Hid b.Rise) (hE : Hid e.I64s) (l0 : List Stp) (hl0 : Hid (l0.length ≤ 50)) (w : World) (HI : Hid (Gt w0 g vh vs vo vr b e rate l0 w)) :
  Calls Tryz.prog 33 #[.pointer (some ⟨g, 0, none⟩)] w fun r w' => ∃ v, r = .returned v ∧ BkEi w' (.agg #[vh, vs, vo, vr, b.n]) v b (if (canS b e).all (·.holds) then canB b e else b) ∧ Gt w0 g vh vs vo vr b e rate (l0 ++ cutL (canS b e)) w' ∧ Off w w' := by
 obtain ⟨_, _, _, _, hv, r1, r2, r3, r4⟩ := B0.out;injection hv with hv
 simp only [Array.mk.injEq, List.cons.injEq, and_true] at hv;obtain ⟨rfl, rfl, rfl, rfl, _⟩ := hv;have LH : Hid (∀ r ∈ b.h, r.length = 4) := (by obtain ⟨_, _, _, h, _⟩ := r1; exact h)
 have LO : Hid (∀ r ∈ b.o, r.length = 6) := (by obtain ⟨_, _, _, h, _⟩ := r3; exact h)
 have LR : Hid (∀ r ∈ b.r, r.length = 2) := (by obtain ⟨_, _, _, h, _⟩ := r4; exact h)
 obtain ⟨Ah, ch, rfl, _⟩ := r1;obtain ⟨As, cs, rfl, _⟩ := r2;obtain ⟨Ao, co, rfl, _⟩ := r3;obtain ⟨Ar, cr, rfl, _⟩ := r4;have F1 : b.h.length ≤ 1000000 ∧ b.o.length ≤ 1000000 ∧ b.r.length ≤ 1000000 := by have := hs.out; unfold Bk.Small at this; omega
 have HL1 := zH F1;clear F1;have KG := zH (HI.out.blk.imp fun _ h => h.1)
 have HOF : Hid (Off w w) := Off.refl _;obtain ⟨ro, FO, hl2, hx2⟩ := zz16 LO.out (isId e.ord)
 match ro, hl2, hx2 with
 | [o0, o1, o2, o3, o4, o5], _, hx2 =>
 have hFo : FO = hasO b e.ord := zz0q hx2;subst hFo;have HX2 := zH hx2;clear hx2;obtain ⟨FA, hFA⟩ : ∃ FA, (canS b e).all (·.holds) = FA := ⟨_, rfl⟩;rw [hFA];replace hFA := zH hFA;obtain ⟨nb, hnb⟩ : ∃ nb : Bk, canB b e = nb := ⟨_, rfl⟩;have q5 : Hid (∀ wz : World, Hid (BkAt wz (.agg (BF Ah ch As cs Ao co Ar cr b b.n)) b) → Calls Tryz.prog 85 #[.agg (BF Ah ch As cs Ao co Ar cr b b.n), .agg #[e.ord, .int .i64 0, .int .i64 0, .int .i64 0, .int .i64 0, .int .i64 0]] wz fun r w' => ∃ v', r = .returned v' ∧ BkOwn w' wz.heap.size v' nb ∧ Below wz.heap.size wz w') := (show _ from fun wz hv => by rw [← hnb]; exact zz3h _ b e.ord 0 0 0 0 0 wz hv hs hR.out.2.1)
 rw [hnb];clear hnb;obtain ⟨wb, hwb⟩ : ∃ wb : World, w.alloc (.cells BZ 27) = wb := ⟨_, rfl⟩;have hb := zM0 hwb;have KT : ZB wb w.heap.size BZ 27 := by rw [← hwb]; exact zz02 _ _
 have LT : Hid (w0.heap.size ≤ w.heap.size) := HI.out.below.size;have MT : Hid (w.heap.size ≤ w.heap.size) := Nat.le_refl _;replace KG := zKx KG hb;replace HI := zH (HI.out.kept hb);replace HOF := zX HOF hb;replace hwb := zH hwb;clear hb;go_in;go_wp2_with fail;rw [hwb.out];clear hwb;refine zz07 [] (fun wz : World => zG wz g Ah ch As cs Ao co Ar cr b e rate) 16 (zb 16 0) zk zk zk ?_
 obtain ⟨wd1, hwd1⟩ : ∃ wd1 : World, { wb with drawn := wb.drawn + 1 } = wd1 := ⟨_, rfl⟩
 rw [hwd1];have hbwd1 : Below wb.heap.size wb wd1 := by rw [← hwd1]; exact (Below.refl _ _).drew
 replace KG := zKx KG hbwd1;replace KT := zK KT hbwd1;replace HI := zH (HI.out.kept hbwd1);replace HOF := zX HOF hbwd1;clear hwd1 hbwd1;refine zM [0, 1, 2, 3, 4, 5, 6, 7, 8] 7 KG ?_;simp only [opsAt, zA]
 iterate 3 refine zp ?_
 refine zr (fun wz hC => hC.out) ?_
 iterate 4 refine zp ?_
 refine zr (fun wz hC => hC.out) ?_
 unfold wpPure;go_simp;have hzd := zH HI.out.below.size;have hzo := zH HOF.out.size;refine zz1x 9 13 [10, 11, 12] 15 3 2 (.tuple #[.agg #[o0, o1, o2, o3, o4, o5], .bool (hasO b e.ord)]) #[.int .i64 0, .int .i64 0, .int .i64 0, .int .i64 0, .int .i64 0, .int .i64 0] 82 [(5, .tuple #[.agg #[o0, o1, o2, o3, o4, o5], .bool (hasO b e.ord)]), (16, .agg #[o0, o1, o2, o3, o4, o5]), (17, .bool (hasO b e.ord))] [15, 3, 5, 16, 17] zk zk zk zk zk (L2 := (zb 16 16383)) zk zk zk ?_ ?_ ?_ ?_ ?_
 ·exact zt35
 ·exact zt61
 ·exact fun wz hz => (KG.out.imp fun _ h => zz06 h hz)
 ·exact zt20
 intro qwf2 wf2 m2 g2 hb;have Ko := zH g2;have Lo := zH (Nat.le_trans hzd.out m2);have Mo := zH (Nat.le_trans hzo.out m2);clear g2 m2 hzd hzo;simp only [putsV];go_simp;replace KG := zKx KG hb;replace KT := zK KT hb;replace HI := zH (HI.out.kept hb);replace HOF := zX HOF hb;clear hb;have c_o_0 := zC Ko.out;have fc_o_0 := zF Ko.out;refine zW 14 ?_;go_wp2_with fail;generalize hws3 : World.setCell _ _ _ = ws3;clear c_o_0 fc_o_0;obtain ⟨vs, zE, hvs⟩ := zV6 hws3;replace HI := zH (HI.out.put Ko.out zx zx Lo.out 0 vs);replace HOF := zH (Off.freshC Mo.out HOF.out 0 vs);replace KG := zH ((KG.out.imp fun _ h => zz03 (zz0a h Ko.out zx) (o := 0) (vs := vs) h ))
 replace KT := zH (zz03 (zz0a KT.out Ko.out zx) (o := 0) (vs := vs) KT.out );subst hvs;rw [zE] at HI HOF KG KT;replace Ko := zP zE Ko;clear zE;replace Ko : ZB ws3 qwf2 #[o0, o1, o2, o3, o4, o5] 82 := Ko.out;clear hws3;refine zQs (fun _ => KG) ?_
 refine zM [15] 0 KG ?_;simp only [opsAt, zA];refine zp ?_;unfold wpPure;go_simp;refine zQe ?_;obtain ⟨vX_g, hX_g⟩ := KG.out;have c_g_0 := zC hX_g;replace hX_g := zH hX_g;have c_o_0 := zC Ko.out;go_wp2_with fail;(with_reducible refine (zz2r _ _).mono ?_);rintro r _ ⟨rfl, rfl⟩;go_wp2_with fail;(with_reducible refine (zz0i w0 g (.slice Ah b.h.length ch) (.slice As b.s.length cs) (.slice Ao b.o.length co) (.slice Ar b.r.length cr) b e rate hT 13 (bitI (hasO b e.ord)) 1 (gfit _ _ _ zw (zz1o _) (zz0l zw)) _).mono ?_);rintro r wc4 ⟨f1, rfl, hl1, hb⟩;clear hX_g c_g_0 c_o_0;replace KG := zKx KG hb;replace KT := zK KT hb;replace Ko := zK Ko hb;replace HI := zH (HI.out.kept hb);replace HOF := zX HOF hb;clear hb;obtain ⟨J1, j1, rfl⟩ := hl1.form;have HK1 := zH hl1;clear hl1;go_wp2_with fail;generalize hwa5 : World.alloc _ _ = wa5;have hbwa5 := zM0 hwa5;replace KG := zKx KG hbwa5;replace KT := zK KT hbwa5;replace Ko := zK Ko hbwa5;replace HI := zH (HI.out.kept hbwa5);replace HOF := zX HOF hbwa5;replace HK1 := zH (HK1.out.off (Off.of hbwa5));have Kfs : ZB wa5 wc4.heap.size #[.func (.func J1) #[] j1] 72 := by rw [← hwa5]; exact zz02 _ _
 clear hwa5 hbwa5;have qall := zH (zz5h (Gt w0 g (.slice Ah b.h.length ch) (.slice As b.s.length cs) (.slice Ao b.o.length co) (.slice Ar b.r.length cr) b e rate) (wc4.heap.size) 1 [(.func (.func J1) #[] j1, sS 13 (bitI (hasO b e.ord)) (1))] #[.func (.func J1) #[] j1] l0 _ rfl rfl Kfs (zH (by intro x hx; simp only [List.mem_cons, List.not_mem_nil, or_false] at hx; subst hx; exact HK1.out)) HI (by have := hl0.out; show _ ≤ _; omega))
 have qall2 : Hid (Calls Tryz.prog 35 #[.slice (some ⟨wc4.heap.size, 0, none⟩) 1 1] wa5 fun r w' => r = .returned (.bool FA) ∧ Gt w0 g (.slice Ah b.h.length ch) (.slice As b.s.length cs) (.slice Ao b.o.length co) (.slice Ar b.r.length cr) b e rate (l0 ++ cutL (canS b e)) w' ∧ Off wa5 w') := by rw [← hFA.out]; exact qall.out
 clear qall;(with_reducible refine qall2.out.mono ?_);rintro r wl6 ⟨rfl, hI2, ho⟩;clear qall2 HI HK1;replace KT := zD ho KT;replace Ko := zD ho Ko;replace HOF := zH (HOF.out.trans ho);clear Kfs KG ho;have HI := zH hI2;clear hI2;have KG := zH (HI.out.blk.imp fun _ h => h.1)
 cases FA with
 | false =>
  obtain ⟨vX_g, hX_g⟩ := KG.out;have c_g_0 := zC hX_g;replace hX_g := zH hX_g;have c_t_0 := zC KT.out;have fc_t_0 := zF KT.out;go_wp2_with fail;generalize hws7 : World.setCell _ _ _ = ws7;clear hX_g c_g_0 c_t_0 fc_t_0;obtain ⟨vs, zE, hvs⟩ := zV5 hws7;replace HI := zH (HI.out.put KT.out zx zx LT.out 0 vs);replace HOF := zH (Off.freshC MT.out HOF.out 0 vs);replace Ko := zH (zz03 (zz0a Ko.out KT.out zx) (o := 0) (vs := vs) Ko.out );replace KG := zH ((KG.out.imp fun _ h => zz03 (zz0a h KT.out zx) (o := 0) (vs := vs) h ))
  subst hvs;rw [zE] at HI HOF Ko KG;replace KT := zP zE KT;clear zE;replace KT : ZB ws7 w.heap.size (BF Ah ch As cs Ao co Ar cr b b.n) 27 := KT.out;clear hws7;exact zt13
 | true =>
  obtain ⟨vX_g, hX_g⟩ := KG.out;have c_g_0 := zC hX_g;replace hX_g := zH hX_g;go_wp2_with fail;clear hX_g c_g_0;refine zz07 [] (fun wz : World => zG wz g Ah ch As cs Ao co Ar cr b e rate) 12 (zb 12 0) zk zk zk ?_
  obtain ⟨wd8, hwd8⟩ : ∃ wd8 : World, { wl6 with drawn := wl6.drawn + 1 } = wd8 := ⟨_, rfl⟩
  rw [hwd8];have hbwd8 : Below wl6.heap.size wl6 wd8 := by rw [← hwd8]; exact (Below.refl _ _).drew
  replace KT := zK KT hbwd8;replace Ko := zK Ko hbwd8;replace KG := zKx KG hbwd8;replace HOF := zX HOF hbwd8;replace HI := zH (HI.out.kept hbwd8);clear hwd8 hbwd8;refine zM [0, 1, 2, 3, 4, 5, 6, 7, 8, 9] 2 KG ?_;simp only [opsAt, zA]
  iterate 3 refine zp ?_
  refine zr (fun wz hC => hC.out) ?_
  iterate 4 refine zp ?_
  refine zr (fun wz hC => hC.out) ?_
  refine zp ?_;unfold wpPure;go_simp;refine zW 10 ?_;go_wp2_with fail;(with_reducible refine (q5.out _ (zH (B0.out.call HI.out.below))).mono ?_);rintro r wc9 ⟨v5, rfl, hO, hb⟩;replace KT := zK KT hb;replace Ko := zK Ko hb;replace KG := zKx KG hb;replace HOF := zX HOF hb;replace HI := zH (HI.out.kept hb);clear hb;obtain ⟨U1, u1, U2, u2, U3, u3, U4, u4, rfl⟩ := hO.form;have HO := zH hO;clear hO;go_wp2_with fail;refine zQs (fun _ => KG) ?_
  have c_t_0 := zC KT.out;have fc_t_0 := zF KT.out;refine zW 11 ?_;go_wp2_with fail;generalize hws10 : World.setCell _ _ _ = ws10;clear c_t_0 fc_t_0;replace HO : Hid _ := zH (HO.out.put KT.out 0 (BF U1 u1 U2 u2 U3 u3 U4 u4 nb nb.n));replace HI := zH (HI.out.put KT.out zx zx LT.out 0 (BF U1 u1 U2 u2 U3 u3 U4 u4 nb nb.n));replace HOF := zH (Off.freshC MT.out HOF.out 0 (BF U1 u1 U2 u2 U3 u3 U4 u4 nb nb.n));replace Ko := zH (zz03 (zz0a Ko.out KT.out zx) (o := 0) (vs := (BF U1 u1 U2 u2 U3 u3 U4 u4 nb nb.n)) Ko.out );replace KG := zH ((KG.out.imp fun _ h => zz03 (zz0a h KT.out zx) (o := 0) (vs := (BF U1 u1 U2 u2 U3 u3 U4 u4 nb nb.n)) h ))
  replace KT := zH (zz17 (o := 0) (vs := (BF U1 u1 U2 u2 U3 u3 U4 u4 nb nb.n)) KT.out);rw [show putC wc9 (w.heap.size) 0 (BF U1 u1 U2 u2 U3 u3 U4 u4 nb nb.n) = ws10 from hws10] at HO
  rw [show putC wc9 (w.heap.size) 0 (BF U1 u1 U2 u2 U3 u3 U4 u4 nb nb.n) = ws10 from hws10] at HI HOF KT Ko KG
  replace KT : ZB ws10 w.heap.size (BF U1 u1 U2 u2 U3 u3 U4 u4 nb nb.n) 27 := KT.out;clear hws10;refine zQs (fun _ => KG) ?_
  refine zQe ?_;exact zt17
end
section
open Go Go.RowKit Mon Bg
theorem order_any (w0 : World) (g : Nat) (vh vs vo vr : Value) (b : Bk) (e : Ev) (rate : Int) (hT : Hid (Law16 w0)) (B0 : Hid (BkAt w0 (.agg #[vh, vs, vo, vr, b.n]) b)) (hs : Hid b.Small) (hR : Hid b.Rise) (hE : Hid e.I64s) (l0 : List Stp) (hl0 : Hid (l0.length ≤ 50)) (w : World) (HI : Hid (Gt w0 g vh vs vo vr b e rate l0 w)) (hi : Hid b.I64s) (hm : Hid (b.mayB = true)) :
  Calls Tryz.prog 31 #[.pointer (some ⟨g, 0, none⟩)] w fun r w' => ∃ v, r = .returned v ∧ BkEi w' (.agg #[vh, vs, vo, vr, b.n]) v b (if (ordS b e rate).all (·.holds) then ordB b e else b) ∧ Gt w0 g vh vs vo vr b e rate (l0 ++ cutL (ordS b e rate)) w' ∧ Off w w' := by
 obtain ⟨_, _, _, _, hv, r1, r2, r3, r4⟩ := B0.out;injection hv with hv
 simp only [Array.mk.injEq, List.cons.injEq, and_true] at hv;obtain ⟨rfl, rfl, rfl, rfl, _⟩ := hv;have LH : Hid (∀ r ∈ b.h, r.length = 4) := (by obtain ⟨_, _, _, h, _⟩ := r1; exact h)
 have LO : Hid (∀ r ∈ b.o, r.length = 6) := (by obtain ⟨_, _, _, h, _⟩ := r3; exact h)
 have LR : Hid (∀ r ∈ b.r, r.length = 2) := (by obtain ⟨_, _, _, h, _⟩ := r4; exact h)
 obtain ⟨Ah, ch, rfl, _⟩ := r1;obtain ⟨As, cs, rfl, _⟩ := r2;obtain ⟨Ao, co, rfl, _⟩ := r3;obtain ⟨Ar, cr, rfl, _⟩ := r4;have F1 : b.h.length ≤ 1000000 ∧ b.o.length ≤ 1000000 ∧ b.r.length ≤ 1000000 := by have := hs.out; unfold Bk.Small at this; omega
 have HL1 := zH F1;clear F1;have KG := zH (HI.out.blk.imp fun _ h => h.1)
 have HOF : Hid (Off w w) := Off.refl _;obtain ⟨rh, FH, hl1, hx1⟩ := zz16 LH.out (isId e.acc)
 match rh, hl1, hx1 with
 | [h0, h1, h2, h3], _, hx1 =>
 have hF : FH = hasH b e.acc := zz0q hx1;subst hF;have HX1 := zH hx1;clear hx1;obtain ⟨ro, FO, hl2, hx2⟩ := zz16 LO.out (isId e.ord)
 match ro, hl2, hx2 with
 | [o0, o1, o2, o3, o4, o5], _, hx2 =>
 have hFo : FO = hasO b e.ord := zz0q hx2;subst hFo;have HX2 := zH hx2;clear hx2;obtain ⟨rr, FR, hl3, hx3⟩ := zz16 LR.out (isId e.sym)
 match rr, hl3, hx3 with
 | [r0, r1], _, hx3 =>
 have hFr : FR = hasR b e.sym := zz0q hx3;subst hFr;have HX3 := zH hx3;clear hx3;have HRr : Hid (riseH b.r) := hR.out.2.2.1;have I3 : Hid (I64 h3) := zz1m hi.out.1 HX1.out h3 (by simp)
 have I2 : Hid (I64 h2) := zz1m hi.out.1 HX1.out h2 (by simp)
 have G3 : Hid (I64 (mulP e.qty e.px).1) := zz1p _;have G2 : Hid (I64 (reachR b e.acc e.sym e.side e.qty).1) := zz6s _ _ _ _ _;have G1 : Hid (I64 (needE b e rate).1) := zz8n _ _;have G0 : Hid (I64 (eqR b e.acc).1) := zz1p _;have hrec : recH b e.acc = [h0, h1, h2, h3] := by unfold recH; rw [HX1.out]
 have hst : ordS b e rate = [sS 3 (e.side) (0), sS 4 (e.side) (1), sS 5 (e.qty) (1), sS 6 (e.px) (1), sS 10 (bitI (hasH b e.acc)) (1), sS 12 (bitI (hasO b e.ord)) (0), sS 14 (bitI (hasR b e.sym)) (1), sS 16 (b.o.length) (63), oS 18 ((mulP e.qty e.px).1) (h3) ((mulP e.qty e.px).2), oS 19 ((reachR b e.acc e.sym e.side e.qty).1) (h2) ((reachR b e.acc e.sym e.side e.qty).2), oS 20 ((needE b e rate).1) ((eqR b e.acc).1) ((needE b e rate).2 && (eqR b e.acc).2)] := by unfold ordS; rw [hrec]; rfl
 rw [hst];clear hst hrec;obtain ⟨FA, hFA⟩ : ∃ FA, ([sS 3 (e.side) (0), sS 4 (e.side) (1), sS 5 (e.qty) (1), sS 6 (e.px) (1), sS 10 (bitI (hasH b e.acc)) (1), sS 12 (bitI (hasO b e.ord)) (0), sS 14 (bitI (hasR b e.sym)) (1), sS 16 (b.o.length) (63), oS 18 ((mulP e.qty e.px).1) (h3) ((mulP e.qty e.px).2), oS 19 ((reachR b e.acc e.sym e.side e.qty).1) (h2) ((reachR b e.acc e.sym e.side e.qty).2), oS 20 ((needE b e rate).1) ((eqR b e.acc).1) ((needE b e rate).2 && (eqR b e.acc).2)]).all (·.holds) = FA := ⟨_, rfl⟩;rw [hFA];replace hFA := zH hFA;obtain ⟨nb, hnb⟩ : ∃ nb : Bk, ordB b e = nb := ⟨_, rfl⟩;have q5 : Hid (∀ wz : World, Hid (BkAt wz (.agg (BF Ah ch As cs Ao co Ar cr b b.n)) b) → Calls Tryz.prog 85 #[.agg (BF Ah ch As cs Ao co Ar cr b b.n), .agg #[e.ord, e.acc, e.sym, e.side, e.qty, e.px]] wz fun r w' => ∃ v', r = .returned v' ∧ BkOwn w' wz.heap.size v' nb ∧ Below wz.heap.size wz w') := (show _ from fun wz hv => by rw [← hnb]; exact zz3h _ b e.ord e.acc e.sym e.side e.qty e.px wz hv hs hR.out.2.1)
 rw [hnb];clear hnb;obtain ⟨vX_g, hX_g⟩ := KG.out;have c_g_0 := zC hX_g;replace hX_g := zH hX_g;have lg := zL hX_g.out;obtain ⟨wb, hwb⟩ : ∃ wb : World, ((w.alloc (.cells #[.pointer (some ⟨g, 0, none⟩)] 66)).alloc (.cells BZ 27)).alloc (.cells #[e.kind, e.acc, e.ord, e.sym, e.side, e.qty, e.px] 29) = wb := ⟨_, rfl⟩;have hb : Below w.heap.size w wb := by rw [← hwb]; exact zz01 (zz01 zBa zo _) zo _
 have KP : ZB wb w.heap.size #[.pointer (some ⟨g, 0, none⟩)] 66 := by rw [← hwb]; exact zz04 (zz04 (zz02 _ _) _) _
 have KT : ZB wb (w.heap.size + 1) BZ 27 := by rw [← hwb]; exact zz04 (zz0e _ _ _ (by simp)) _
 have KE : ZB wb (w.heap.size + 2) #[e.kind, e.acc, e.ord, e.sym, e.side, e.qty, e.px] 29 := by rw [← hwb]; exact zz0e _ _ _ (by simp)
 have LT : Hid (w0.heap.size ≤ w.heap.size + 1) := Nat.le_succ_of_le HI.out.below.size;have MT : Hid (w.heap.size ≤ w.heap.size + 1) := Nat.le_succ _;replace KG := zKx KG hb;replace HI := zH (HI.out.kept hb);replace HOF := zX HOF hb;replace hwb := zH hwb;clear hb;go_in;go_wp2_with fail;rw [hwb.out];clear hwb lg;clear hX_g c_g_0;refine zz07 [] (fun wz : World => ZB wz w.heap.size #[.pointer (some ⟨g, 0, none⟩)] 66 ∧ ZB wz (w.heap.size + 2) #[e.kind, e.acc, e.ord, e.sym, e.side, e.qty, e.px] 29 ∧ zG wz g Ah ch As cs Ao co Ar cr b e rate) 13 (zb 13 0) zk zk zk ?_
 obtain ⟨wd1, hwd1⟩ : ∃ wd1 : World, { wb with drawn := wb.drawn + 1 } = wd1 := ⟨_, rfl⟩
 rw [hwd1];have hbwd1 : Below wb.heap.size wb wd1 := by rw [← hwd1]; exact (Below.refl _ _).drew
 replace KG := zKx KG hbwd1;replace KP := zK KP hbwd1;replace KT := zK KT hbwd1;replace KE := zK KE hbwd1;replace HI := zH (HI.out.kept hbwd1);replace HOF := zX HOF hbwd1;clear hwd1 hbwd1;refine zM [0, 1, 2, 3, 4, 5] 7 ⟨KP, KE, KG⟩ ?_;simp only [opsAt, zA];refine zq (fun wz hC => zC hC.1.out) ?_
 iterate 2 refine zp ?_
 refine zr (fun wz hC => hC.2.2.out) ?_
 refine zp ?_;refine zq (fun wz hC => zC hC.2.1.out) ?_
 unfold wpPure;go_simp;have hzd := zH HI.out.below.size;have hzo := zH HOF.out.size;refine zz1x 6 10 [7, 8, 9] 22 4 2 (.tuple #[.agg #[h0, h1, h2, h3], .bool (hasH b e.acc)]) #[.int .i64 0, .int .i64 0, .int .i64 0, .int .i64 0] 78 [(15, .tuple #[.agg #[h0, h1, h2, h3], .bool (hasH b e.acc)]), (23, .agg #[h0, h1, h2, h3]), (24, .bool (hasH b e.acc))] [22, 4, 15, 23, 24] zk zk zk zk zk (L2 := (zb 13 2047)) zk zk zk ?_ ?_ ?_ ?_ ?_
 ·exact zt36
 ·exact zt53
 ·exact fun wz hz => ⟨zz06 KP.out hz, zz06 KE.out hz, (KG.out.imp fun _ h => zz06 h hz)⟩
 ·exact zt20
 intro qwf2 wf2 m2 g2 hb;have Kh := zH g2;have Lh := zH (Nat.le_trans hzd.out m2);have Mh := zH (Nat.le_trans hzo.out m2);clear g2 m2 hzd hzo;simp only [putsV];go_simp;replace KG := zKx KG hb;replace KP := zK KP hb;replace KT := zK KT hb;replace KE := zK KE hb;replace HI := zH (HI.out.kept hb);replace HOF := zX HOF hb;clear hb;have c_h_0 := zC Kh.out;have fc_h_0 := zF Kh.out;refine zW 11 ?_;go_wp2_with fail;generalize hws3 : World.setCell _ _ _ = ws3;clear c_h_0 fc_h_0;obtain ⟨vs, zE, hvs⟩ := zV4 hws3;replace HI := zH (HI.out.put Kh.out zx zx Lh.out 0 vs);replace HOF := zH (Off.freshC Mh.out HOF.out 0 vs);replace KG := zH ((KG.out.imp fun _ h => zz03 (zz0a h Kh.out zx) (o := 0) (vs := vs) h ))
 replace KP := zH (zz03 (zz0a KP.out Kh.out zx) (o := 0) (vs := vs) KP.out );replace KT := zH (zz03 (zz0a KT.out Kh.out zx) (o := 0) (vs := vs) KT.out );replace KE := zH (zz03 (zz0a KE.out Kh.out zx) (o := 0) (vs := vs) KE.out );subst hvs;rw [zE] at HI HOF KG KP KT KE;replace Kh := zP zE Kh;clear zE;replace Kh : ZB ws3 qwf2 #[h0, h1, h2, h3] 78 := Kh.out;clear hws3;refine zQs (fun _ => ⟨KP, KE, KG⟩) ?_
 refine zM [12] 0 ⟨KP, KE, KG⟩ ?_;simp only [opsAt, zA];refine zp ?_;unfold wpPure;go_simp;refine zQe ?_;go_wp2_with fail;refine zz07 [] (fun wz : World => ZB wz w.heap.size #[.pointer (some ⟨g, 0, none⟩)] 66 ∧ ZB wz (w.heap.size + 2) #[e.kind, e.acc, e.ord, e.sym, e.side, e.qty, e.px] 29 ∧ zG wz g Ah ch As cs Ao co Ar cr b e rate) 13 (zb 13 0) zk zk zk ?_
 obtain ⟨wd4, hwd4⟩ : ∃ wd4 : World, { ws3 with drawn := ws3.drawn + 1 } = wd4 := ⟨_, rfl⟩
 rw [hwd4];have hbwd4 : Below ws3.heap.size ws3 wd4 := by rw [← hwd4]; exact (Below.refl _ _).drew
 replace KG := zKx KG hbwd4;replace KP := zK KP hbwd4;replace KT := zK KT hbwd4;replace KE := zK KE hbwd4;replace Kh := zK Kh hbwd4;replace HI := zH (HI.out.kept hbwd4);replace HOF := zX HOF hbwd4;clear hwd4 hbwd4;refine zM [0, 1, 2, 3, 4, 5] 7 ⟨KP, KE, KG⟩ ?_;simp only [opsAt, zA];refine zq (fun wz hC => zC hC.1.out) ?_
 iterate 2 refine zp ?_
 refine zr (fun wz hC => hC.2.2.out) ?_
 refine zp ?_;refine zq (fun wz hC => zC hC.2.1.out) ?_
 unfold wpPure;go_simp;have hzd := zH HI.out.below.size;have hzo := zH HOF.out.size;refine zz1x 6 10 [7, 8, 9] 32 6 2 (.tuple #[.agg #[o0, o1, o2, o3, o4, o5], .bool (hasO b e.ord)]) #[.int .i64 0, .int .i64 0, .int .i64 0, .int .i64 0, .int .i64 0, .int .i64 0] 82 [(25, .tuple #[.agg #[o0, o1, o2, o3, o4, o5], .bool (hasO b e.ord)]), (33, .agg #[o0, o1, o2, o3, o4, o5]), (34, .bool (hasO b e.ord))] [32, 6, 25, 33, 34] zk zk zk zk zk (L2 := (zb 13 2047)) zk zk zk ?_ ?_ ?_ ?_ ?_
 ·exact zt35
 ·exact zt61
 ·exact fun wz hz => ⟨zz06 KP.out hz, zz06 KE.out hz, (KG.out.imp fun _ h => zz06 h hz)⟩
 ·exact zt20
 intro qwf5 wf5 m2 g2 hb;have Ko := zH g2;have Lo := zH (Nat.le_trans hzd.out m2);have Mo := zH (Nat.le_trans hzo.out m2);clear g2 m2 hzd hzo;simp only [putsV];go_simp;replace KG := zKx KG hb;replace KP := zK KP hb;replace KT := zK KT hb;replace KE := zK KE hb;replace Kh := zK Kh hb;replace HI := zH (HI.out.kept hb);replace HOF := zX HOF hb;clear hb;have c_o_0 := zC Ko.out;have fc_o_0 := zF Ko.out;refine zW 11 ?_;go_wp2_with fail;generalize hws6 : World.setCell _ _ _ = ws6;clear c_o_0 fc_o_0;obtain ⟨vs, zE, hvs⟩ := zV6 hws6;replace HI := zH (HI.out.put Ko.out zx zx Lo.out 0 vs);replace HOF := zH (Off.freshC Mo.out HOF.out 0 vs);replace KG := zH ((KG.out.imp fun _ h => zz03 (zz0a h Ko.out zx) (o := 0) (vs := vs) h ))
 replace KP := zH (zz03 (zz0a KP.out Ko.out zx) (o := 0) (vs := vs) KP.out );replace KT := zH (zz03 (zz0a KT.out Ko.out zx) (o := 0) (vs := vs) KT.out );replace KE := zH (zz03 (zz0a KE.out Ko.out zx) (o := 0) (vs := vs) KE.out );replace Kh := zH (zz03 (zz0a Kh.out Ko.out zx) (o := 0) (vs := vs) Kh.out );subst hvs;rw [zE] at HI HOF KG KP KT KE Kh;replace Ko := zP zE Ko;clear zE;replace Ko : ZB ws6 qwf5 #[o0, o1, o2, o3, o4, o5] 82 := Ko.out;clear hws6;refine zQs (fun _ => ⟨KP, KE, KG⟩) ?_
 refine zM [12] 0 ⟨KP, KE, KG⟩ ?_;simp only [opsAt, zA];refine zp ?_;unfold wpPure;go_simp;refine zQe ?_;clear Ko Lo;go_wp2_with fail;refine zz07 [] (fun wz : World => ZB wz w.heap.size #[.pointer (some ⟨g, 0, none⟩)] 66 ∧ ZB wz (w.heap.size + 2) #[e.kind, e.acc, e.ord, e.sym, e.side, e.qty, e.px] 29 ∧ zG wz g Ah ch As cs Ao co Ar cr b e rate) 12 (zb 12 0) zk zk zk ?_
 obtain ⟨wd7, hwd7⟩ : ∃ wd7 : World, { ws6 with drawn := ws6.drawn + 1 } = wd7 := ⟨_, rfl⟩
 rw [hwd7];have hbwd7 : Below ws6.heap.size ws6 wd7 := by rw [← hwd7]; exact (Below.refl _ _).drew
 replace KG := zKx KG hbwd7;replace KP := zK KP hbwd7;replace KT := zK KT hbwd7;replace KE := zK KE hbwd7;replace Kh := zK Kh hbwd7;replace HI := zH (HI.out.kept hbwd7);replace HOF := zX HOF hbwd7;clear hwd7 hbwd7;refine zM [0, 1, 2, 3, 4, 5] 6 ⟨KP, KE, KG⟩ ?_;simp only [opsAt, zA];refine zq (fun wz hC => zC hC.1.out) ?_
 iterate 2 refine zp ?_
 refine zr (fun wz hC => hC.2.2.out) ?_
 refine zp ?_;refine zq (fun wz hC => zC hC.2.1.out) ?_
 unfold wpPure;go_simp;refine zW 6 ?_;go_wp2_with fail;(with_reducible refine (zz4t _ b e.sym r0 r1 (hasR b e.sym) _ (zH (B0.out.call HI.out.below)) HL1.out.2.2 HRr HX3).mono ?_);rintro e wc8 ⟨rfl, hb⟩;replace KG := zKx KG hb;replace KP := zK KP hb;replace KT := zK KT hb;replace KE := zK KE hb;replace Kh := zK Kh hb;replace HI := zH (HI.out.kept hb);replace HOF := zX HOF hb;clear hb;go_wp2_with fail;refine zQs (fun _ => ⟨KP, KE, KG⟩) ?_
 refine zM [7, 8, 9, 10, 11] 0 ⟨KP, KE, KG⟩ ?_;simp only [opsAt, zA]
 iterate 5 refine zp ?_
 unfold wpPure;go_simp;refine zQe ?_;go_wp2_with fail;refine zz07 [] (fun wz : World => ZB wz w.heap.size #[.pointer (some ⟨g, 0, none⟩)] 66 ∧ ZB wz (w.heap.size + 2) #[e.kind, e.acc, e.ord, e.sym, e.side, e.qty, e.px] 29 ∧ zG wz g Ah ch As cs Ao co Ar cr b e rate) 48 (zb 48 0) zk zk zk ?_
 obtain ⟨wd9, hwd9⟩ : ∃ wd9 : World, { wc8 with drawn := wc8.drawn + 1 } = wd9 := ⟨_, rfl⟩
 rw [hwd9];have hbwd9 : Below wc8.heap.size wc8 wd9 := by rw [← hwd9]; exact (Below.refl _ _).drew
 replace KG := zKx KG hbwd9;replace KP := zK KP hbwd9;replace KT := zK KT hbwd9;replace KE := zK KE hbwd9;replace Kh := zK Kh hbwd9;replace HI := zH (HI.out.kept hbwd9);replace HOF := zX HOF hbwd9;clear hwd9 hbwd9;refine zM [0, 1, 2, 4, 5, 6, 8, 9, 10, 12, 13, 14, 16, 17, 20, 21, 24, 25, 28, 29, 30, 31, 32, 33, 34, 36, 37, 39, 40, 42, 43] 17 ⟨KP, KE, KG⟩ ?_;simp only [opsAt, zA];refine zq (fun wz hC => zC hC.1.out) ?_
 refine zp ?_;refine zq (fun wz hC => zC hC.2.1.out) ?_
 refine zq (fun wz hC => zC hC.1.out) ?_
 refine zp ?_;refine zq (fun wz hC => zC hC.2.1.out) ?_
 refine zq (fun wz hC => zC hC.1.out) ?_
 refine zp ?_;refine zq (fun wz hC => zC hC.2.1.out) ?_
 refine zq (fun wz hC => zC hC.1.out) ?_
 refine zp ?_;refine zq (fun wz hC => zC hC.2.1.out) ?_
 refine zq (fun wz hC => zC hC.1.out) ?_
 refine zp ?_;refine zq (fun wz hC => zC hC.1.out) ?_
 refine zp ?_;refine zq (fun wz hC => zC hC.1.out) ?_
 refine zp ?_;refine zq (fun wz hC => zC hC.1.out) ?_
 refine zq (fun wz hC => zC hC.1.out) ?_
 iterate 3 refine zp ?_
 refine zr (fun wz hC => hC.2.2.out) ?_
 refine zp ?_;refine zq (fun wz hC => zC hC.1.out) ?_
 refine zp ?_;refine zq (fun wz hC => zC hC.1.out) ?_
 refine zp ?_;refine zq (fun wz hC => zC hC.1.out) ?_
 refine zp ?_;unfold wpPure;go_simp;refine zW 3 ?_;go_wp2_with fail;(with_reducible refine (zz0i w0 g (.slice Ah b.h.length ch) (.slice As b.s.length cs) (.slice Ao b.o.length co) (.slice Ar b.r.length cr) b e rate hT 3 (e.side) (0) (gfit _ _ _ zw hE.out.side (zz0l zw)) _).mono ?_);rintro e wc10 ⟨f1, rfl, hl1, hb⟩;replace KG := zKx KG hb;replace KP := zK KP hb;replace KT := zK KT hb;replace KE := zK KE hb;replace Kh := zK Kh hb;replace HI := zH (HI.out.kept hb);replace HOF := zX HOF hb;clear hb;obtain ⟨J1, j1, rfl⟩ := hl1.form;have HK1 := zH hl1;clear hl1;go_wp2_with fail;refine zQs (fun _ => ⟨KP, KE, KG⟩) ?_
 refine zW 7 ?_;go_wp2_with fail;(with_reducible refine (zz0i w0 g (.slice Ah b.h.length ch) (.slice As b.s.length cs) (.slice Ao b.o.length co) (.slice Ar b.r.length cr) b e rate hT 4 (e.side) (1) (gfit _ _ _ zw hE.out.side (zz0l zw)) _).mono ?_);rintro e wc11 ⟨f2, rfl, hl2, hb⟩;replace KG := zKx KG hb;replace KP := zK KP hb;replace KT := zK KT hb;replace KE := zK KE hb;replace Kh := zK Kh hb;replace HI := zH (HI.out.kept hb);replace HOF := zX HOF hb;replace HK1 := zH (HK1.out.off (Off.of hb));clear hb;obtain ⟨J2, j2, rfl⟩ := hl2.form;have HK2 := zH hl2;clear hl2;go_wp2_with fail;refine zQs (fun _ => ⟨KP, KE, KG⟩) ?_
 refine zW 11 ?_;go_wp2_with fail;(with_reducible refine (zz0i w0 g (.slice Ah b.h.length ch) (.slice As b.s.length cs) (.slice Ao b.o.length co) (.slice Ar b.r.length cr) b e rate hT 5 (e.qty) (1) (gfit _ _ _ zw hE.out.qty (zz0l zw)) _).mono ?_);rintro e wc12 ⟨f3, rfl, hl3, hb⟩;replace KG := zKx KG hb;replace KP := zK KP hb;replace KT := zK KT hb;replace KE := zK KE hb;replace Kh := zK Kh hb;replace HI := zH (HI.out.kept hb);replace HOF := zX HOF hb;replace HK1 := zH (HK1.out.off (Off.of hb));replace HK2 := zH (HK2.out.off (Off.of hb));clear hb;obtain ⟨J3, j3, rfl⟩ := hl3.form;have HK3 := zH hl3;clear hl3;go_wp2_with fail;refine zQs (fun _ => ⟨KP, KE, KG⟩) ?_
 refine zW 15 ?_;go_wp2_with fail;(with_reducible refine (zz0i w0 g (.slice Ah b.h.length ch) (.slice As b.s.length cs) (.slice Ao b.o.length co) (.slice Ar b.r.length cr) b e rate hT 6 (e.px) (1) (gfit _ _ _ zw hE.out.px (zz0l zw)) _).mono ?_);rintro e wc13 ⟨f4, rfl, hl4, hb⟩;replace KG := zKx KG hb;replace KP := zK KP hb;replace KT := zK KT hb;replace KE := zK KE hb;replace Kh := zK Kh hb;replace HI := zH (HI.out.kept hb);replace HOF := zX HOF hb;replace HK1 := zH (HK1.out.off (Off.of hb));replace HK2 := zH (HK2.out.off (Off.of hb));replace HK3 := zH (HK3.out.off (Off.of hb));clear hb;obtain ⟨J4, j4, rfl⟩ := hl4.form;have HK4 := zH hl4;clear hl4;go_wp2_with fail;refine zQs (fun _ => ⟨KP, KE, KG⟩) ?_
 refine zW 18 ?_;go_wp2_with fail;(with_reducible refine (zz2r _ _).mono ?_);rintro r _ ⟨rfl, rfl⟩;go_wp2_with fail;refine zQs (fun _ => ⟨KP, KE, KG⟩) ?_
 refine zW 19 ?_;go_wp2_with fail;(with_reducible refine (zz0i w0 g (.slice Ah b.h.length ch) (.slice As b.s.length cs) (.slice Ao b.o.length co) (.slice Ar b.r.length cr) b e rate hT 10 (bitI (hasH b e.acc)) (1) (gfit _ _ _ zw (zz1o _) (zz0l zw)) _).mono ?_);rintro e wc14 ⟨f5, rfl, hl5, hb⟩;replace KG := zKx KG hb;replace KP := zK KP hb;replace KT := zK KT hb;replace KE := zK KE hb;replace Kh := zK Kh hb;replace HI := zH (HI.out.kept hb);replace HOF := zX HOF hb;replace HK1 := zH (HK1.out.off (Off.of hb));replace HK2 := zH (HK2.out.off (Off.of hb));replace HK3 := zH (HK3.out.off (Off.of hb));replace HK4 := zH (HK4.out.off (Off.of hb));clear hb;obtain ⟨J5, j5, rfl⟩ := hl5.form;have HK5 := zH hl5;clear hl5;go_wp2_with fail;refine zQs (fun _ => ⟨KP, KE, KG⟩) ?_
 refine zW 22 ?_;go_wp2_with fail;(with_reducible refine (zz2r _ _).mono ?_);rintro r _ ⟨rfl, rfl⟩;go_wp2_with fail;refine zQs (fun _ => ⟨KP, KE, KG⟩) ?_
 refine zW 23 ?_;go_wp2_with fail;(with_reducible refine (zz0i w0 g (.slice Ah b.h.length ch) (.slice As b.s.length cs) (.slice Ao b.o.length co) (.slice Ar b.r.length cr) b e rate hT 12 (bitI (hasO b e.ord)) (0) (gfit _ _ _ zw (zz1o _) (zz0l zw)) _).mono ?_);rintro e wc15 ⟨f6, rfl, hl6, hb⟩;replace KG := zKx KG hb;replace KP := zK KP hb;replace KT := zK KT hb;replace KE := zK KE hb;replace Kh := zK Kh hb;replace HI := zH (HI.out.kept hb);replace HOF := zX HOF hb;replace HK1 := zH (HK1.out.off (Off.of hb));replace HK2 := zH (HK2.out.off (Off.of hb));replace HK3 := zH (HK3.out.off (Off.of hb));replace HK4 := zH (HK4.out.off (Off.of hb));replace HK5 := zH (HK5.out.off (Off.of hb));clear hb;obtain ⟨J6, j6, rfl⟩ := hl6.form;have HK6 := zH hl6;clear hl6;go_wp2_with fail;refine zQs (fun _ => ⟨KP, KE, KG⟩) ?_
 refine zW 26 ?_;go_wp2_with fail;(with_reducible refine (zz2r _ _).mono ?_);rintro r _ ⟨rfl, rfl⟩;go_wp2_with fail;refine zQs (fun _ => ⟨KP, KE, KG⟩) ?_
 refine zW 27 ?_;go_wp2_with fail;(with_reducible refine (zz0i w0 g (.slice Ah b.h.length ch) (.slice As b.s.length cs) (.slice Ao b.o.length co) (.slice Ar b.r.length cr) b e rate hT 14 (bitI (hasR b e.sym)) (1) (gfit _ _ _ zw (zz1o _) (zz0l zw)) _).mono ?_);rintro e wc16 ⟨f7, rfl, hl7, hb⟩;replace KG := zKx KG hb;replace KP := zK KP hb;replace KT := zK KT hb;replace KE := zK KE hb;replace Kh := zK Kh hb;replace HI := zH (HI.out.kept hb);replace HOF := zX HOF hb;replace HK1 := zH (HK1.out.off (Off.of hb));replace HK2 := zH (HK2.out.off (Off.of hb));replace HK3 := zH (HK3.out.off (Off.of hb));replace HK4 := zH (HK4.out.off (Off.of hb));replace HK5 := zH (HK5.out.off (Off.of hb));replace HK6 := zH (HK6.out.off (Off.of hb));clear hb;obtain ⟨J7, j7, rfl⟩ := hl7.form;have HK7 := zH hl7;clear hl7;go_wp2_with fail;refine zQs (fun _ => ⟨KP, KE, KG⟩) ?_
 refine zW 35 ?_;go_wp2_with fail;(with_reducible refine (zz0i w0 g (.slice Ah b.h.length ch) (.slice As b.s.length cs) (.slice Ao b.o.length co) (.slice Ar b.r.length cr) b e rate hT 16 (b.o.length) (63) (gfit _ _ _ zw (zz5c HL1.out.2.1) (zz0l zw)) _).mono ?_);rintro e wc17 ⟨f8, rfl, hl8, hb⟩;replace KG := zKx KG hb;replace KP := zK KP hb;replace KT := zK KT hb;replace KE := zK KE hb;replace Kh := zK Kh hb;replace HI := zH (HI.out.kept hb);replace HOF := zX HOF hb;replace HK1 := zH (HK1.out.off (Off.of hb));replace HK2 := zH (HK2.out.off (Off.of hb));replace HK3 := zH (HK3.out.off (Off.of hb));replace HK4 := zH (HK4.out.off (Off.of hb));replace HK5 := zH (HK5.out.off (Off.of hb));replace HK6 := zH (HK6.out.off (Off.of hb));replace HK7 := zH (HK7.out.off (Off.of hb));clear hb;obtain ⟨J8, j8, rfl⟩ := hl8.form;have HK8 := zH hl8;clear hl8;go_wp2_with fail;refine zQs (fun _ => ⟨KP, KE, KG⟩) ?_
 have hSd9 := zH (order1_on w0 g (.slice Ah b.h.length ch) (.slice As b.s.length cs) (.slice Ao b.o.length co) (.slice Ar b.r.length cr) b e rate hE h0 h1 h2 h3 _ _ _ KE Kh);have qe9 := zH (zz2y w0 g (.slice Ah b.h.length ch) (.slice As b.s.length cs) (.slice Ao b.o.length co) (.slice Ar b.r.length cr) b e rate hT 18 ((mulP e.qty e.px).1) (h3) ((mulP e.qty e.px).2) (.func (.func 78) #[] #[.pointer (some ⟨w.heap.size + 2, 0, none⟩), .pointer (some ⟨qwf2, 0, none⟩)]) (show I64 18 from zz0l zw) (gfit _ _ _ zw G3.out I3.out) _ hSd9)
 clear hSd9;refine zW 38 ?_;go_wp2_with fail;(with_reducible refine (qe9.out).mono ?_);rintro e wc18 ⟨f9, rfl, hl9, hb⟩;replace KG := zKx KG hb;replace KP := zK KP hb;replace KT := zK KT hb;replace KE := zK KE hb;replace Kh := zK Kh hb;replace HI := zH (HI.out.kept hb);replace HOF := zX HOF hb;replace HK1 := zH (HK1.out.off (Off.of hb));replace HK2 := zH (HK2.out.off (Off.of hb));replace HK3 := zH (HK3.out.off (Off.of hb));replace HK4 := zH (HK4.out.off (Off.of hb));replace HK5 := zH (HK5.out.off (Off.of hb));replace HK6 := zH (HK6.out.off (Off.of hb));replace HK7 := zH (HK7.out.off (Off.of hb));replace HK8 := zH (HK8.out.off (Off.of hb));clear hb;clear qe9;obtain ⟨J9, j9, rfl⟩ := hl9.form;have HK9 := zH hl9;clear hl9;go_wp2_with fail;refine zQs (fun _ => ⟨KP, KE, KG⟩) ?_
 have hSd10 := zH (order2_on w0 g (.slice Ah b.h.length ch) (.slice As b.s.length cs) (.slice Ao b.o.length co) (.slice Ar b.r.length cr) b e rate B0 hs hi hm hE h0 h1 h2 h3 _ _ _ _ KP KE Kh);have qe10 := zH (zz2y w0 g (.slice Ah b.h.length ch) (.slice As b.s.length cs) (.slice Ao b.o.length co) (.slice Ar b.r.length cr) b e rate hT 19 ((reachR b e.acc e.sym e.side e.qty).1) (h2) ((reachR b e.acc e.sym e.side e.qty).2) (.func (.func 80) #[] #[.pointer (some ⟨w.heap.size, 0, none⟩), .pointer (some ⟨w.heap.size + 2, 0, none⟩), .pointer (some ⟨qwf2, 0, none⟩)]) (show I64 19 from zz0l zw) (gfit _ _ _ zw G2.out I2.out) _ hSd10)
 clear hSd10;refine zW 41 ?_;go_wp2_with fail;(with_reducible refine (qe10.out).mono ?_);rintro e wc19 ⟨f10, rfl, hl10, hb⟩;replace KG := zKx KG hb;replace KP := zK KP hb;replace KT := zK KT hb;replace KE := zK KE hb;replace Kh := zK Kh hb;replace HI := zH (HI.out.kept hb);replace HOF := zX HOF hb;replace HK1 := zH (HK1.out.off (Off.of hb));replace HK2 := zH (HK2.out.off (Off.of hb));replace HK3 := zH (HK3.out.off (Off.of hb));replace HK4 := zH (HK4.out.off (Off.of hb));replace HK5 := zH (HK5.out.off (Off.of hb));replace HK6 := zH (HK6.out.off (Off.of hb));replace HK7 := zH (HK7.out.off (Off.of hb));replace HK8 := zH (HK8.out.off (Off.of hb));replace HK9 := zH (HK9.out.off (Off.of hb));clear hb;clear qe10;obtain ⟨J10, j10, rfl⟩ := hl10.form;have HK10 := zH hl10;clear hl10;go_wp2_with fail;refine zQs (fun _ => ⟨KP, KE, KG⟩) ?_
 have hSd11 := zH (order3_on w0 g (.slice Ah b.h.length ch) (.slice As b.s.length cs) (.slice Ao b.o.length co) (.slice Ar b.r.length cr) b e rate B0 hs hi hm hE _ _ _ KP KE);have qe11 := zH (zz2y w0 g (.slice Ah b.h.length ch) (.slice As b.s.length cs) (.slice Ao b.o.length co) (.slice Ar b.r.length cr) b e rate hT 20 ((needE b e rate).1) ((eqR b e.acc).1) ((needE b e rate).2 && (eqR b e.acc).2) (.func (.func 82) #[] #[.pointer (some ⟨w.heap.size, 0, none⟩), .pointer (some ⟨w.heap.size + 2, 0, none⟩)]) (show I64 20 from zz0l zw) (gfit _ _ _ zw G1.out G0.out) _ hSd11)
 clear hSd11;refine zW 44 ?_;go_wp2_with fail;(with_reducible refine (qe11.out).mono ?_);rintro e wc20 ⟨f11, rfl, hl11, hb⟩;replace KG := zKx KG hb;replace KP := zK KP hb;replace KT := zK KT hb;replace KE := zK KE hb;replace Kh := zK Kh hb;replace HI := zH (HI.out.kept hb);replace HOF := zX HOF hb;replace HK1 := zH (HK1.out.off (Off.of hb));replace HK2 := zH (HK2.out.off (Off.of hb));replace HK3 := zH (HK3.out.off (Off.of hb));replace HK4 := zH (HK4.out.off (Off.of hb));replace HK5 := zH (HK5.out.off (Off.of hb));replace HK6 := zH (HK6.out.off (Off.of hb));replace HK7 := zH (HK7.out.off (Off.of hb));replace HK8 := zH (HK8.out.off (Off.of hb));replace HK9 := zH (HK9.out.off (Off.of hb));replace HK10 := zH (HK10.out.off (Off.of hb));clear hb;clear qe11;obtain ⟨J11, j11, rfl⟩ := hl11.form;have HK11 := zH hl11;clear hl11;go_wp2_with fail;refine zQs (fun _ => ⟨KP, KE, KG⟩) ?_
 refine zW 45 ?_;go_wp2_with fail;generalize hwa21 : World.alloc _ _ = wa21;have hbwa21 := zM0 hwa21;replace KG := zKx KG hbwa21;replace KP := zK KP hbwa21;replace KT := zK KT hbwa21;replace KE := zK KE hbwa21;replace Kh := zK Kh hbwa21;replace HI := zH (HI.out.kept hbwa21);replace HOF := zX HOF hbwa21;replace HK1 := zH (HK1.out.off (Off.of hbwa21));replace HK2 := zH (HK2.out.off (Off.of hbwa21));replace HK3 := zH (HK3.out.off (Off.of hbwa21));replace HK4 := zH (HK4.out.off (Off.of hbwa21));replace HK5 := zH (HK5.out.off (Off.of hbwa21));replace HK6 := zH (HK6.out.off (Off.of hbwa21));replace HK7 := zH (HK7.out.off (Off.of hbwa21));replace HK8 := zH (HK8.out.off (Off.of hbwa21));replace HK9 := zH (HK9.out.off (Off.of hbwa21));replace HK10 := zH (HK10.out.off (Off.of hbwa21));replace HK11 := zH (HK11.out.off (Off.of hbwa21));have Kfs : ZB wa21 wc20.heap.size #[.func (.func J1) #[] j1, .func (.func J2) #[] j2, .func (.func J3) #[] j3, .func (.func J4) #[] j4, .func (.func J5) #[] j5, .func (.func J6) #[] j6, .func (.func J7) #[] j7, .func (.func J8) #[] j8, .func (.func J9) #[] j9, .func (.func J10) #[] j10, .func (.func J11) #[] j11] 72 := by rw [← hwa21]; exact zz02 _ _
 clear hwa21 hbwa21;refine zQs (fun _ => ⟨KP, KE, KG⟩) ?_
 refine zW 46 ?_;go_wp2_with fail;have qall := zH (zz5h (Gt w0 g (.slice Ah b.h.length ch) (.slice As b.s.length cs) (.slice Ao b.o.length co) (.slice Ar b.r.length cr) b e rate) (wc20.heap.size) 11 [(.func (.func J1) #[] j1, sS 3 (e.side) (0)), (.func (.func J2) #[] j2, sS 4 (e.side) (1)), (.func (.func J3) #[] j3, sS 5 (e.qty) (1)), (.func (.func J4) #[] j4, sS 6 (e.px) (1)), (.func (.func J5) #[] j5, sS 10 (bitI (hasH b e.acc)) (1)), (.func (.func J6) #[] j6, sS 12 (bitI (hasO b e.ord)) (0)), (.func (.func J7) #[] j7, sS 14 (bitI (hasR b e.sym)) (1)), (.func (.func J8) #[] j8, sS 16 (b.o.length) (63)), (.func (.func J9) #[] j9, oS 18 ((mulP e.qty e.px).1) (h3) ((mulP e.qty e.px).2)), (.func (.func J10) #[] j10, oS 19 ((reachR b e.acc e.sym e.side e.qty).1) (h2) ((reachR b e.acc e.sym e.side e.qty).2)), (.func (.func J11) #[] j11, oS 20 ((needE b e rate).1) ((eqR b e.acc).1) ((needE b e rate).2 && (eqR b e.acc).2))] #[.func (.func J1) #[] j1, .func (.func J2) #[] j2, .func (.func J3) #[] j3, .func (.func J4) #[] j4, .func (.func J5) #[] j5, .func (.func J6) #[] j6, .func (.func J7) #[] j7, .func (.func J8) #[] j8, .func (.func J9) #[] j9, .func (.func J10) #[] j10, .func (.func J11) #[] j11] l0 _ rfl rfl Kfs (zH (by intro x hx; simp only [List.mem_cons, List.not_mem_nil, or_false] at hx; rcases hx with rfl | rfl | rfl | rfl | rfl | rfl | rfl | rfl | rfl | rfl | rfl <;> first | exact HK1.out | exact HK2.out | exact HK3.out | exact HK4.out | exact HK5.out | exact HK6.out | exact HK7.out | exact HK8.out | exact HK9.out | exact HK10.out | exact HK11.out)) HI (by have := hl0.out; show _ ≤ _; omega))
 have qall2 : Hid (Calls Tryz.prog 35 #[.slice (some ⟨wc20.heap.size, 0, none⟩) 11 11] wa21 fun r w' => r = .returned (.bool FA) ∧ Gt w0 g (.slice Ah b.h.length ch) (.slice As b.s.length cs) (.slice Ao b.o.length co) (.slice Ar b.r.length cr) b e rate (l0 ++ cutL ([sS 3 (e.side) (0), sS 4 (e.side) (1), sS 5 (e.qty) (1), sS 6 (e.px) (1), sS 10 (bitI (hasH b e.acc)) (1), sS 12 (bitI (hasO b e.ord)) (0), sS 14 (bitI (hasR b e.sym)) (1), sS 16 (b.o.length) (63), oS 18 ((mulP e.qty e.px).1) (h3) ((mulP e.qty e.px).2), oS 19 ((reachR b e.acc e.sym e.side e.qty).1) (h2) ((reachR b e.acc e.sym e.side e.qty).2), oS 20 ((needE b e rate).1) ((eqR b e.acc).1) ((needE b e rate).2 && (eqR b e.acc).2)])) w' ∧ Off wa21 w') := by rw [← hFA.out]; exact qall.out
 clear qall;(with_reducible refine qall2.out.mono ?_);rintro r wl22 ⟨rfl, hI2, ho⟩;clear qall2 HI HK1 HK2 HK3 HK4 HK5 HK6 HK7 HK8 HK9 HK10 HK11;replace KP := zD ho KP;replace KT := zD ho KT;replace KE := zD ho KE;replace Kh := zD ho Kh;replace HOF := zH (HOF.out.trans ho);clear Kfs KG ho;have HI := zH hI2;clear hI2;have KG := zH (HI.out.blk.imp fun _ h => h.1)
 go_wp2_with fail;refine zQs (fun _ => ⟨KP, KE, KG⟩) ?_
 refine zM [47] 0 ⟨KP, KE, KG⟩ ?_;simp only [opsAt, zA];refine zp ?_;unfold wpPure;go_simp;refine zQe ?_;cases FA with
 | false =>
  have c_p_0 := zz00 KP.out 0 _ rfl;obtain ⟨vX_g, hX_g⟩ := KG.out;have c_g_0 := zC hX_g;replace hX_g := zH hX_g;have c_t_0 := zC KT.out;have fc_t_0 := zF KT.out;go_wp2_with fail;generalize hws23 : World.setCell _ _ _ = ws23;clear c_p_0 hX_g c_g_0 c_t_0 fc_t_0;obtain ⟨vs, zE, hvs⟩ := zV5 hws23;replace HI := zH (HI.out.put KT.out zx zx LT.out 0 vs);replace HOF := zH (Off.freshC MT.out HOF.out 0 vs);replace KP := zH (zz03 (zz0a KP.out KT.out zx) (o := 0) (vs := vs) KP.out );replace KE := zH (zz03 (zz0a KE.out KT.out zx) (o := 0) (vs := vs) KE.out );replace Kh := zH (zz03 (zz0a Kh.out KT.out zx) (o := 0) (vs := vs) Kh.out );replace KG := zH ((KG.out.imp fun _ h => zz03 (zz0a h KT.out zx) (o := 0) (vs := vs) h ))
  subst hvs;rw [zE] at HI HOF KP KE Kh KG;replace KT := zP zE KT;clear zE;replace KT : ZB ws23 (w.heap.size + 1) (BF Ah ch As cs Ao co Ar cr b b.n) 27 := KT.out;clear hws23;exact zt13
 | true =>
  have c_p_0 := zz00 KP.out 0 _ rfl;obtain ⟨vX_g, hX_g⟩ := KG.out;have c_g_0 := zC hX_g;replace hX_g := zH hX_g;go_wp2_with fail;clear c_p_0 hX_g c_g_0;refine zz07 [] (fun wz : World => ZB wz w.heap.size #[.pointer (some ⟨g, 0, none⟩)] 66 ∧ ZB wz (w.heap.size + 2) #[e.kind, e.acc, e.ord, e.sym, e.side, e.qty, e.px] 29 ∧ zG wz g Ah ch As cs Ao co Ar cr b e rate) 19 (zb 19 0) zk zk zk ?_
  obtain ⟨wd24, hwd24⟩ : ∃ wd24 : World, { wl22 with drawn := wl22.drawn + 1 } = wd24 := ⟨_, rfl⟩
  rw [hwd24];have hbwd24 : Below wl22.heap.size wl22 wd24 := by rw [← hwd24]; exact (Below.refl _ _).drew
  replace KP := zK KP hbwd24;replace KT := zK KT hbwd24;replace KE := zK KE hbwd24;replace Kh := zK Kh hbwd24;replace KG := zKx KG hbwd24;replace HOF := zX HOF hbwd24;replace HI := zH (HI.out.kept hbwd24);clear hwd24 hbwd24;refine zM [0, 1, 2, 3, 4, 5, 6, 7, 8, 9, 10, 11, 12, 13, 14, 15, 16] 2 ⟨KP, KE, KG⟩ ?_;simp only [opsAt, zA];refine zq (fun wz hC => zC hC.1.out) ?_
  iterate 2 refine zp ?_
  refine zr (fun wz hC => hC.2.2.out) ?_
  refine zp ?_;refine zq (fun wz hC => zC hC.2.1.out) ?_
  refine zp ?_;refine zq (fun wz hC => zC hC.2.1.out) ?_
  refine zp ?_;refine zq (fun wz hC => zC hC.2.1.out) ?_
  refine zp ?_;refine zq (fun wz hC => zC hC.2.1.out) ?_
  refine zp ?_;refine zq (fun wz hC => zC hC.2.1.out) ?_
  refine zp ?_;refine zq (fun wz hC => zC hC.2.1.out) ?_
  refine zp ?_;unfold wpPure;go_simp;refine zW 17 ?_;go_wp2_with fail;(with_reducible refine (q5.out _ (zH (B0.out.call HI.out.below))).mono ?_);rintro r wc25 ⟨v5, rfl, hO, hb⟩;replace KP := zK KP hb;replace KT := zK KT hb;replace KE := zK KE hb;replace Kh := zK Kh hb;replace KG := zKx KG hb;replace HOF := zX HOF hb;replace HI := zH (HI.out.kept hb);clear hb;obtain ⟨U1, u1, U2, u2, U3, u3, U4, u4, rfl⟩ := hO.form;have HO := zH hO;clear hO;go_wp2_with fail;refine zQs (fun _ => ⟨KP, KE, KG⟩) ?_
  have c_t_0 := zC KT.out;have fc_t_0 := zF KT.out;refine zW 18 ?_;go_wp2_with fail;generalize hws26 : World.setCell _ _ _ = ws26;clear c_t_0 fc_t_0;replace HO : Hid _ := zH (HO.out.put KT.out 0 (BF U1 u1 U2 u2 U3 u3 U4 u4 nb nb.n));replace HI := zH (HI.out.put KT.out zx zx LT.out 0 (BF U1 u1 U2 u2 U3 u3 U4 u4 nb nb.n));replace HOF := zH (Off.freshC MT.out HOF.out 0 (BF U1 u1 U2 u2 U3 u3 U4 u4 nb nb.n));replace KP := zH (zz03 (zz0a KP.out KT.out zx) (o := 0) (vs := (BF U1 u1 U2 u2 U3 u3 U4 u4 nb nb.n)) KP.out );replace KE := zH (zz03 (zz0a KE.out KT.out zx) (o := 0) (vs := (BF U1 u1 U2 u2 U3 u3 U4 u4 nb nb.n)) KE.out );replace Kh := zH (zz03 (zz0a Kh.out KT.out zx) (o := 0) (vs := (BF U1 u1 U2 u2 U3 u3 U4 u4 nb nb.n)) Kh.out );replace KG := zH ((KG.out.imp fun _ h => zz03 (zz0a h KT.out zx) (o := 0) (vs := (BF U1 u1 U2 u2 U3 u3 U4 u4 nb nb.n)) h ))
  replace KT := zH (zz17 (o := 0) (vs := (BF U1 u1 U2 u2 U3 u3 U4 u4 nb nb.n)) KT.out);rw [show putC wc25 (w.heap.size + 1) 0 (BF U1 u1 U2 u2 U3 u3 U4 u4 nb nb.n) = ws26 from hws26] at HO
  rw [show putC wc25 (w.heap.size + 1) 0 (BF U1 u1 U2 u2 U3 u3 U4 u4 nb nb.n) = ws26 from hws26] at HI HOF KP KT KE Kh KG
  replace KT : ZB ws26 (w.heap.size + 1) (BF U1 u1 U2 u2 U3 u3 U4 u4 nb nb.n) 27 := KT.out;clear hws26;refine zQs (fun _ => ⟨KP, KE, KG⟩) ?_
  refine zQe ?_;exact zt17
end
section
open Go Go.RowKit
def stateOk (md : Region.Mode) (ops : Array Oper) (bf : Nat → Nat → Bool) (Lf : Array Bool) (Ss : List (List Nat × Array Bool)) (p : List Nat × Array Bool) : Bool :=
 match p.1 with
 | [] => p.2 == Lf
 | _ => !(Region.ready md ops p.2).isEmpty && (Region.ready md ops p.2).all fun i => p.1.contains i && p.1.all (fun j => !bf j i) && Ss.any (fun q => q.1 == p.1.erase i && q.2 == p.2.setIfInBounds i true)
def statesOk (md : Region.Mode) (ops : Array Oper) (bf : Nat → Nat → Bool) (Lf : Array Bool) (Ss : List (List Nat × Array Bool)) : Bool := Ss.all (stateOk md ops bf Lf Ss)
theorem zz2k {md : Region.Mode} {ops : Array Oper} {bf : Nat → Nat → Bool} {Lf : Array Bool} {Ss : List (List Nat × Array Bool)} (h : statesOk md ops bf Lf Ss = true) :
  ∀ (n : Nat) (is : List Nat) (L : Array Bool), (is, L) ∈ Ss → is.length = n → readyAll md ops bf Lf n is L = true
 | 0, is, L, hm, hn => by
  obtain rfl : is = [] := List.eq_nil_of_length_eq_zero hn;have := List.all_eq_true.1 h _ hm;unfold stateOk at this;simp only [beq_iff_eq] at this;simp [readyAll, this]
 | n + 1, is, L, hm, hn => by
  have h1 := List.all_eq_true.1 h _ hm;unfold stateOk at h1;cases is with
  | nil => simp at hn
  | cons a t =>
   simp only [Bool.and_eq_true, List.all_eq_true] at h1;obtain ⟨h0, h2⟩ := h1;simp only [readyAll, Bool.and_eq_true, List.all_eq_true];refine ⟨h0, fun i hi => ?_⟩
   obtain ⟨⟨h3, h4⟩, h5⟩ := h2 i hi;refine ⟨⟨h3, h4⟩, ?_⟩;obtain ⟨q, hq, h6⟩ := List.any_eq_true.1 h5;simp only [Bool.and_eq_true, beq_iff_eq] at h6;obtain ⟨q1, q2⟩ := q;obtain ⟨rfl, rfl⟩ := h6;have hmem : i ∈ a :: t := by simpa using h3
   exact zz2k h n _ _ hq (by rw [List.length_erase_of_mem hmem, hn]; rfl)
theorem zz7r (a : Act) (t : Tmp) (v : Value) : (a.put (some t) v).tmps.size = a.tmps.size := by simp [Act.put]
theorem zz5d (a : Act) (t : Tmp) (v : Value) (h : t < a.tmps.size) : (a.put (some t) v).eval (.tmp t) = v := by
 simp [Act.put, Act.eval, Array.getD_eq_getD_getElem?, Array.getElem?_setIfInBounds, h]
section
variable {P : Program} {ops : Array Oper} {md : Region.Mode} {C : World → Prop} {ex : List Nat}
def hoistOk (md : Region.Mode) (ops : Array Oper) (ex : List Nat) (i : Nat) (hs : List Nat) (L : Array Bool) : Bool := Region.noSelect ops && headDB md ops ex hs (L.setIfInBounds i true)
def okC (md : Region.Mode) (ops : Array Oper) (ex : List Nat) (i : Nat) (hs : List Nat) (Lf : Array Bool) : Nat → List Nat → Array Bool → Bool
 | 0, is, L => is.isEmpty && Region.ready md ops L == [i] && hoistOk md ops ex i hs L && setAll hs (L.setIfInBounds i true) == Lf
 | n + 1, is, L => !(Region.ready md ops L).isEmpty && (Region.ready md ops L).all fun k => if k == i then hoistOk md ops ex i hs L && readyAll md ops (fun _ _ => false) Lf (n + 1) is (setAll hs (L.setIfInBounds i true)) else is.contains k && okC md ops ex i hs Lf n (is.erase k) (L.setIfInBounds k true)
def preOk (md : Region.Mode) (ops : Array Oper) (ex : List Nat) (i : Nat) (hs : List Nat) (S1 S2 : List (List Nat × Array Bool)) (p : List Nat × Array Bool) : Bool :=
 !(Region.ready md ops p.2).isEmpty && ((Region.ready md ops p.2).all (fun k => if k == i then hoistOk md ops ex i hs p.2 && S2.any (fun q => q.1 == p.1 && q.2 == setAll hs (p.2.setIfInBounds i true)) else p.1.contains k && S1.any (fun q => q.1 == p.1.erase k && q.2 == p.2.setIfInBounds k true))
  && (if p.1.isEmpty then Region.ready md ops p.2 == [i] else true))
theorem zz3l {i : Nat} {hs : List Nat} {Lf : Array Bool} {S1 S2 : List (List Nat × Array Bool)} (h1 : S1.all (preOk md ops ex i hs S1 S2) = true) (h2 : statesOk md ops (fun _ _ => false) Lf S2 = true) :
  ∀ (n : Nat) (is : List Nat) (L : Array Bool), (is, L) ∈ S1 → is.length = n → okC md ops ex i hs Lf n is L = true
 | 0, is, L, hm, hn => by
  obtain rfl : is = [] := List.eq_nil_of_length_eq_zero hn;have h := List.all_eq_true.1 h1 _ hm;unfold preOk at h;simp only [Bool.and_eq_true, List.isEmpty_nil, if_true, beq_iff_eq] at h;obtain ⟨h0, ha, hr⟩ := h;rw [hr] at ha;simp only [List.all_cons, List.all_nil, Bool.and_true, beq_self_eq_true, if_true, Bool.and_eq_true] at ha;obtain ⟨hh, hq⟩ := ha;obtain ⟨q, hqm, hq2⟩ := List.any_eq_true.1 hq;simp only [Bool.and_eq_true, beq_iff_eq] at hq2;obtain ⟨q1, q2⟩ := q;obtain ⟨rfl, rfl⟩ := hq2;have h3 := List.all_eq_true.1 h2 _ hqm;unfold stateOk at h3;simp only [beq_iff_eq] at h3;simp [okC, hr, hh, h3]
 | n + 1, is, L, hm, hn => by
  have h := List.all_eq_true.1 h1 _ hm;unfold preOk at h;simp only [Bool.and_eq_true, List.all_eq_true] at h;obtain ⟨h0, ha, _⟩ := h;simp only [okC, Bool.and_eq_true, List.all_eq_true];refine ⟨h0, fun k hk => ?_⟩
  have hk2 := ha k hk;by_cases hki : k = i
  ·subst hki
   rw [if_pos (by simp)] at hk2 ⊢
   simp only [Bool.and_eq_true] at hk2 ⊢;obtain ⟨hh, hq⟩ := hk2;obtain ⟨q, hqm, hq2⟩ := List.any_eq_true.1 hq;simp only [Bool.and_eq_true, beq_iff_eq] at hq2;obtain ⟨q1, q2⟩ := q;obtain ⟨rfl, rfl⟩ := hq2;exact ⟨hh, zz2k h2 (n + 1) _ _ hqm hn⟩
  ·rw [if_neg (by simpa using hki)] at hk2 ⊢
   simp only [Bool.and_eq_true] at hk2 ⊢;obtain ⟨hc, hq⟩ := hk2;obtain ⟨q, hqm, hq2⟩ := List.any_eq_true.1 hq;simp only [Bool.and_eq_true, beq_iff_eq] at hq2;obtain ⟨q1, q2⟩ := q;obtain ⟨rfl, rfl⟩ := hq2;have hmem : k ∈ is := by simpa using hc
   exact ⟨hc, zz3l h1 h2 n _ _ hqm (by rw [List.length_erase_of_mem hmem, hn]; rfl)⟩
theorem CanC.act {T : List Tmp} {W0 : World} {e : FreeC} {a b : Act} (h : CanC P ops T W0 e a) (hb : ∀ x : Operand, (∀ t ∈ T, x ≠ .tmp t) → b.eval x = a.eval x) : CanC P ops T W0 e b :=
 ⟨h.ex, fun Q a' w K ha hB hK => h.run Q a' w K (fun x hx => (ha x hx).trans (hb x hx)) hB hK⟩
theorem zz8w {Q : Exit → Act → World → Prop} {W0 : World} (i : Nat) (hs : List Nat) (di : Tmp) (v : Value) (vs0 : List (Tmp × Value)) (f : Nat) (Lf : Array Bool) (T : List Tmp) (N : Nat)
  (hC : ∀ w, Below W0.heap.size W0 w → C w) (hdi : di ∈ T) (hvT : ∀ p ∈ vs0, p.1 ∈ T)
  (hp : ∀ (a' : Act) (K : Act → Prop), a'.tmps.size = N → K (putsV (a'.put (some di) v) vs0) → wpPure P ops C K (opsAt ops hs) (a'.put (some di) v)) :
  ∀ (n : Nat) (es : List FreeC) (L : Array Bool) (a : Act) (w : World), es.length = n → Below W0.heap.size W0 w → okC md ops ex i hs Lf n (es.map (·.i)) L = true → (es.map (·.i)).Nodup → (es.map (·.d)).Nodup →
  (∀ e ∈ es, e.i ≠ i ∧ e.d ≠ di ∧ ∀ p ∈ vs0, p.1 ≠ e.d) → (∀ e ∈ es, CanC P ops T W0 e a ∧ e.d ∈ T) → CanC P ops T W0 ⟨i, di, fun _ _ u _ => u = v⟩ a → a.tmps.size = N →
  (∀ e ∈ es, ∀ lo hi v w1 w2, e.R lo hi v w1 → Below w1.heap.size w1 w2 → e.R lo hi v w2) →
  (∀ vs w', Holds w.heap.size es vs w' → Apart (fun _ _ => false) es vs → Below w.heap.size w w' → wpAnyD P md ops C ex (OnlyN Q) f Lf (putsE es vs (putsV (a.put (some di) v) vs0)) w') →
  wpAnyD P md ops C ex (OnlyN Q) (f + hs.length + 1 + n) L a w
 | 0, es, L, a, w, hn, hB, hok, _, _, _, _, hca, hN, _, K => by
  obtain rfl : es = [] := List.eq_nil_of_length_eq_zero hn;simp only [okC, Bool.and_eq_true, beq_iff_eq] at hok;obtain ⟨⟨⟨_, hr⟩, hh⟩, hL⟩ := hok;refine ⟨fun h => (by rw [hr] at h; cases h), fun k hk => ?_⟩
  rw [hr] at hk;obtain rfl : k = i := by simpa using hk
  refine hca.run _ a w _ (fun _ _ => rfl) hB fun u w1 hu hb => ⟨fun _ => hC _ (hB.trans (hb.mono hB.size)), ?_⟩
  obtain rfl : u = v := hu;exact zz29 hs f hh hL (hC _ (hB.trans (hb.mono hB.size))) (hp a _ hN (K [] w1 trivial trivial hb))
 | n + 1, es, L, a, w, hn, hB, hok, hni, hnd, hdis, hga, hca, hN, hst, K => by
  simp only [okC, Bool.and_eq_true, List.all_eq_true] at hok;obtain ⟨hr0, hr2⟩ := hok;refine ⟨fun h0 => ?_, fun k hk => ?_⟩
  ·rw [h0] at hr0
   simp at hr0
  have h2 := hr2 k hk;by_cases hki : k = i
  ·subst hki
   rw [if_pos (by simp), Bool.and_eq_true] at h2
   refine hca.run _ a w _ (fun _ _ => rfl) hB fun u w1 hu hb => ⟨fun _ => hC _ (hB.trans (hb.mono hB.size)), ?_⟩
   obtain rfl : u = v := hu;have hB1 := hB.trans (hb.mono hB.size);have hev : ∀ x : Operand, (∀ t ∈ T, x ≠ .tmp t) → (putsV (a.put (some di) u) vs0).eval x = a.eval x := fun x hx => by rw [zz4e T vs0 _ hvT x hx, zz0m a x di u (hx _ hdi)]
   show wpAnyD P md ops C ex (OnlyN Q) (f + hs.length + 1 + n) _ _ _;rw [show f + hs.length + 1 + n = (f + (n + 1)) + hs.length by omega]
   refine zz29 hs (f + (n + 1)) h2.1 rfl (hC _ hB1) (hp a _ hN ?_);exact zzbk f Lf (fun _ _ => false) hC T (n + 1) es _ _ w1 hn hB1 h2.2 hni hnd (fun e he => ⟨(hga e he).1.act hev, (hga e he).2⟩) hst
    (fun vs w' hh hap hb' => K vs w' (hh.lower hb.size) hap (hb.trans (hb'.mono hb.size)))
  ·rw [if_neg (by simpa using hki), Bool.and_eq_true] at h2
   obtain ⟨hin0, h2⟩ := h2;obtain ⟨e, he, rfl⟩ := List.mem_map.1 (show k ∈ es.map (·.i) by simpa using hin0)
   obtain ⟨l1, l2, rfl⟩ := List.append_of_mem he;have hni' := hni;have hnd' := hnd;rw [List.map_append, List.map_cons] at hni' hnd' h2;have hi1 : e.i ∉ l1.map (·.i) := fun h => (List.nodup_append.1 hni').2.2 _ h _ (by simp) rfl
   have hd1 : e.d ∉ l1.map (·.d) := fun h => (List.nodup_append.1 hnd').2.2 _ h _ (by simp) rfl
   rw [List.erase_append_right _ hi1, List.erase_cons_head, ← List.map_append] at h2;have hin : ∀ x ∈ l1 ++ l2, x ∈ l1 ++ e :: l2 := fun x hx => by
    rcases List.mem_append.1 hx with h | h
    ·exact List.mem_append_left _ h
    ·exact List.mem_append_right _ (List.mem_cons_of_mem _ h)
   have hsub : List.Sublist (l1 ++ l2) (l1 ++ e :: l2) := List.Sublist.append (List.Sublist.refl l1) (List.sublist_cons_self e l2);refine (hga e (by simp)).1.run _ a w _ (fun _ _ => rfl) hB fun ve w1 hv hb => ?_
   have hB1 := hB.trans (hb.mono hB.size);refine ⟨fun _ => hC _ hB1, ?_⟩
   have heT := (hga e (by simp)).2
   refine zz8w i hs di v vs0 f Lf T N hC hdi hvT hp n (l1 ++ l2) (L.setIfInBounds e.i true) (a.put (some e.d) ve) w1 (by simp at hn ⊢; omega) hB1 h2 ((hsub.map _).nodup hni) ((hsub.map _).nodup hnd) (fun x hx => hdis x (hin x hx))
    (fun x hx => ⟨(hga x (hin x hx)).1.put heT ve, (hga x (hin x hx)).2⟩) (hca.put heT ve) (by rw [zz7r]; exact hN) (fun x hx => hst x (hin x hx)) ?_
   intro vs w' hh hap hb';obtain ⟨v1, v2, rfl, h1, h2'⟩ := Holds.split hh;have hall := hh.all;have := K (v1 ++ ⟨w.heap.size, w1.heap.size, ve⟩ :: v2) w' (Holds.join (h1.lower hb.size) ⟨⟨hst e (by simp) _ _ ve w1 w' hv hb', Nat.le_refl _⟩, h2'.lower hb.size⟩)
    (Apart.mid h1.len hap hall (fun x hx => rfl)) (hb.trans (hb'.mono hb.size))
   obtain ⟨_, hne, hnv⟩ := hdis e (by simp)
   rw [zz5r e _ l2 v2 l1 v1 _ h1.len (fun x hx h => hd1 (h ▸ List.mem_map_of_mem hx))] at this
   have hcomm : (a.put (some e.d) ve).put (some di) v = (a.put (some di) v).put (some e.d) ve := Act.put_comm a _ _ (fun d h1 h2 => hne (by injection h1 with h1; injection h2 with h2; rw [h1, h2]))
   rw [hcomm, zz5q _ _ _ _ hnv];exact this
theorem zzac {Q : Exit → Act → World → Prop} (i1 i2 j : Nat) (d1 d2 dj : Tmp) (f : Nat) {L L3 : Array Bool} {a : Act} {w : World} (R1 R2 : Value → World → Prop) (cs : Array Value) (t : TypeId)
  (hr0 : ((Region.ready md ops L).all (fun k => k == i1 || k == j) && !(Region.ready md ops L).isEmpty) = true) (hr1 : Region.ready md ops (L.setIfInBounds j true) = [i1])
  (hr2 : ((Region.ready md ops (L.setIfInBounds i1 true)).all (fun k => k == i2 || k == j) && !(Region.ready md ops (L.setIfInBounds i1 true)).isEmpty) = true)
  (hr3 : Region.ready md ops ((L.setIfInBounds j true).setIfInBounds i1 true) = [i2]) (hr4 : Region.ready md ops ((L.setIfInBounds i1 true).setIfInBounds j true) = [i2]) (hr5 : Region.ready md ops ((L.setIfInBounds i1 true).setIfInBounds i2 true) = [j])
  (hL1 : ((L.setIfInBounds j true).setIfInBounds i1 true).setIfInBounds i2 true = L3) (hL2 : ((L.setIfInBounds i1 true).setIfInBounds j true).setIfInBounds i2 true = L3) (hL3 : ((L.setIfInBounds i1 true).setIfInBounds i2 true).setIfInBounds j true = L3)
  (hd : (d1 != dj && d2 != dj && d1 != d2) = true)
  (h1 : CanC P ops [d1, d2, dj] w ⟨i1, d1, fun _ _ u wz => R1 u wz⟩ a)
  (h2 : ∀ v1 w1, Below w.heap.size w w1 → R1 v1 w1 → CanC P ops [d2, dj] w1 ⟨i2, d2, fun _ _ u wz => R2 u wz⟩ (a.put (some d1) v1))
  (hj : CanC P ops [d1, d2, dj] w ⟨j, dj, fun lo _ u wz => u = .pointer (some ⟨lo, 0, none⟩) ∧ wz.heap[lo]? = some (.cells cs t (0, 0))⟩ a)
  (hs1 : ∀ u w1 w2, R1 u w1 → Below w1.heap.size w1 w2 → R1 u w2) (hs2 : ∀ u w1 w2, R2 u w1 → Below w1.heap.size w1 w2 → R2 u w2) (hC : ∀ w', Below w.heap.size w w' → C w')
  (cont : ∀ (v1 v2 : Value) (p : Nat) (w' : World), w.heap.size ≤ p → w'.heap[p]? = some (.cells cs t (0, 0)) → R2 v2 w' → Below w.heap.size w w' → wpAnyD P md ops C ex (OnlyN Q) f L3 (((a.put (some d1) v1).put (some d2) v2).put (some dj) (.pointer (some ⟨p, 0, none⟩))) w') :
  wpAnyD P md ops C ex (OnlyN Q) (f + 3) L a w := by
 simp only [Bool.and_eq_true, bne_iff_ne, ne_eq] at hd;obtain ⟨⟨hd1, hd2⟩, hd3⟩ := hd;simp only [Bool.and_eq_true] at hr0 hr2;have com : ∀ (b : Act) (x y : Tmp) (u v : Value), ¬ x = y → (b.put (some x) u).put (some y) v = (b.put (some y) v).put (some x) u := fun b x y u v hxy => Act.put_comm b u v (fun d h1 h2 => hxy (by injection h1 with h1; injection h2 with h2; rw [h1, h2]))
 refine ⟨fun h => (by rw [h] at hr0; simp at hr0), fun k hk => ?_⟩
 have hk' : k = i1 ∨ k = j := by simpa using List.all_eq_true.1 hr0.1 k hk
 rcases hk' with rfl | rfl
 ·refine h1.run _ a w _ (fun _ _ => rfl) (Below.refl _ _) fun v1 w1 hv1 hb1 => ⟨fun _ => hC _ hb1, ?_⟩
  refine ⟨fun h => (by rw [h] at hr2; simp at hr2), fun k2 hk2 => ?_⟩
  have hk2' : k2 = i2 ∨ k2 = j := by simpa using List.all_eq_true.1 hr2.1 k2 hk2
  rcases hk2' with rfl | rfl
  ·refine (h2 v1 w1 hb1 hv1).run _ _ w1 _ (fun _ _ => rfl) (Below.refl _ _) fun v2 w2 hv2 hb2 => ?_
   have hb12 := hb1.trans (hb2.mono hb1.size);refine ⟨fun _ => hC _ hb12, fun h => (by rw [hr5] at h; cases h), fun k3 hk3 => ?_⟩
   rw [hr5] at hk3;obtain rfl : k3 = j := by simpa using hk3
   refine hj.run _ _ w2 _ (fun x hx => ?_) hb12 fun u w3 hu hb3 => ⟨fun _ => hC _ (hb12.trans (hb3.mono hb12.size)), ?_⟩
   ·rw [zz0m _ x d2 v2 (hx _ (by simp)), zz0m _ x d1 v1 (hx _ (by simp))]
   ·obtain ⟨rfl, hg⟩ := hu
    rw [hL3];exact cont v1 v2 _ w3 hb12.size hg (hs2 _ _ _ hv2 hb3) (hb12.trans (hb3.mono hb12.size))
  ·refine hj.run _ _ w1 _ (fun x hx => zz0m _ x d1 v1 (hx _ (by simp))) hb1 fun u w2 hu hb2 => ?_
   obtain ⟨rfl, hg⟩ := hu;have hb12 := hb1.trans (hb2.mono hb1.size);refine ⟨fun _ => hC _ hb12, fun h => (by rw [hr4] at h; cases h), fun k3 hk3 => ?_⟩
   rw [hr4] at hk3;obtain rfl : k3 = i2 := by simpa using hk3
   refine (h2 v1 w2 hb12 (hs1 _ _ _ hv1 hb2)).run _ _ w2 _ (fun x hx => zz0m _ x dj _ (hx _ (by simp))) (Below.refl _ _) fun v2 w3 hv2 hb3 => ⟨fun _ => hC _ (hb12.trans (hb3.mono hb12.size)), ?_⟩
   show wpAnyD P md ops C ex (OnlyN Q) f _ (((a.put (some d1) v1).put (some dj) _).put (some d2) v2) w3;rw [hL2, com _ dj d2 _ _ (fun e => hd2 e.symm)]
   exact cont v1 v2 _ w3 hb1.size (zz06 hg hb3) hv2 (hb12.trans (hb3.mono hb12.size))
 ·refine hj.run _ a w _ (fun _ _ => rfl) (Below.refl _ _) fun u w1 hu hb1 => ?_
  obtain ⟨rfl, hg⟩ := hu;refine ⟨fun _ => hC _ hb1, fun h => (by rw [hr1] at h; cases h), fun k2 hk2 => ?_⟩
  rw [hr1] at hk2;obtain rfl : k2 = i1 := by simpa using hk2
  refine h1.run _ _ w1 _ (fun x hx => zz0m _ x dj _ (hx _ (by simp))) hb1 fun v1 w2 hv1 hb2 => ?_
  have hb12 := hb1.trans (hb2.mono hb1.size);refine ⟨fun _ => hC _ hb12, fun h => (by rw [hr3] at h; cases h), fun k3 hk3 => ?_⟩
  rw [hr3] at hk3;obtain rfl : k3 = i2 := by simpa using hk3
  rw [com a dj d1 _ v1 (fun e => hd1 e.symm)]
  refine (h2 v1 w2 hb12 hv1).run _ _ w2 _ (fun x hx => zz0m _ x dj _ (hx _ (by simp))) (Below.refl _ _) fun v2 w3 hv2 hb3 => ⟨fun _ => hC _ (hb12.trans (hb3.mono hb12.size)), ?_⟩
  show wpAnyD P md ops C ex (OnlyN Q) f _ (((a.put (some d1) v1).put (some dj) _).put (some d2) v2) w3;rw [hL1, com _ dj d2 _ _ (fun e => hd2 e.symm)]
  exact cont v1 v2 _ w3 (Nat.le_refl _) (zz06 hg (hb2.trans (hb3.mono hb2.size))) hv2 (hb12.trans (hb3.mono hb12.size))
end
end
end Go.Proofs.YtajogedbacpohaaGreatDoor
