/- Part 19 of what the claim rests on. -/
import Derived.Test.YtjcdpmianmgiaaaGreatDoorF00
import Derived.Test.YtjcdpmianmgiaaaGreatDoorF13
import Derived.Test.YtjcdpmianmgiaaaGreatDoorF15
namespace Go.Proofs.YtjcdpmianmgiaaaGreatDoor
open Go Go.RowKit Mon Bg
set_option linter.unusedVariables false
set_option linter.unusedSimpArgs false
set_option maxRecDepth 100000 in
set_option maxHeartbeats 16000000 in
theorem order_any (w0 : World) (g : Nat) (vh vs vo vr : Value) (b : Bk) (e : Ev) (rate : Int) (hT : Hid (Law16 w0)) (B0 : Hid (BkAt w0 (.agg #[vh, vs, vo, vr, .int .i64 b.n]) b)) (hs : Hid b.Small) (hR : Hid b.Rise) (hE : Hid e.I64s) (l0 : List Stp) (hl0 : Hid (l0.length ≤ 50)) (w : World) (HI : Hid (Gt w0 g vh vs vo vr b e rate l0 w)) (hi : Hid b.I64s) (hm : Hid (b.mayB = true)) :
    Calls Tryz.prog 39 #[.pointer (some ⟨g, 0, none⟩)] w fun r w' => ∃ v, r = .returned v ∧ BkEi w' (.agg #[vh, vs, vo, vr, .int .i64 b.n]) v b (if (ordS b e rate).all (·.holds) then ordB b e else b) ∧ Gt w0 g vh vs vo vr b e rate (l0 ++ cutL (ordS b e rate)) w' ∧ Off w w' := by
  obtain ⟨_, _, _, _, hv, r1, r2, r3, r4⟩ := B0.out
  injection hv with hv
  simp only [Array.mk.injEq, List.cons.injEq, and_true] at hv
  obtain ⟨rfl, rfl, rfl, rfl, _⟩ := hv
  have LH : Hid (∀ r ∈ b.h, r.length = 4) := (by obtain ⟨_, _, _, h, _⟩ := r1; exact h)
  have LO : Hid (∀ r ∈ b.o, r.length = 6) := (by obtain ⟨_, _, _, h, _⟩ := r3; exact h)
  have LR : Hid (∀ r ∈ b.r, r.length = 2) := (by obtain ⟨_, _, _, h, _⟩ := r4; exact h)
  obtain ⟨Ah, ch, rfl, _⟩ := r1
  obtain ⟨As, cs, rfl, _⟩ := r2
  obtain ⟨Ao, co, rfl, _⟩ := r3
  obtain ⟨Ar, cr, rfl, _⟩ := r4
  have F1 : b.h.length ≤ 1000000 ∧ b.o.length ≤ 1000000 ∧ b.r.length ≤ 1000000 := by have := hs.out; unfold Bk.Small at this; omega
  have HL1 := zH F1
  clear F1
  have KG := zH (HI.out.blk.imp fun _ h => h.1)
  have HOF : Hid (Off w w) := Off.refl _
  obtain ⟨rh, FH, hl1, hx1⟩ := rec_of LH.out (isId e.acc)
  match rh, hl1, hx1 with
  | [h0, h1, h2, h3], _, hx1 =>
  have hF : FH = hasH b e.acc := recOf_snd hx1
  subst hF
  have HX1 := zH hx1
  clear hx1
  obtain ⟨ro, FO, hl2, hx2⟩ := rec_of LO.out (isId e.ord)
  match ro, hl2, hx2 with
  | [o0, o1, o2, o3, o4, o5], _, hx2 =>
  have hFo : FO = hasO b e.ord := recOf_snd hx2
  subst hFo
  have HX2 := zH hx2
  clear hx2
  obtain ⟨rr, FR, hl3, hx3⟩ := rec_of LR.out (isId e.sym)
  match rr, hl3, hx3 with
  | [r0, r1], _, hx3 =>
  have hFr : FR = hasR b e.sym := recOf_snd hx3
  subst hFr
  have HX3 := zH hx3
  clear hx3
  have HRr : Hid (riseH b.r) := hR.out.2.2.1
  have I3 : Hid (I64 h3) := rec_I64 hi.out.1 HX1.out h3 (by simp)
  have I2 : Hid (I64 h2) := rec_I64 hi.out.1 HX1.out h2 (by simp)
  have G3 : Hid (I64 (mulP e.qty e.px).1) := fitsP_I64 _
  have G2 : Hid (I64 (reachR b e.acc e.sym e.side e.qty).1) := reachR_I64 _ _ _ _ _
  have G1 : Hid (I64 (needE b e rate).1) := needR_I64 _ _
  have G0 : Hid (I64 (eqR b e.acc).1) := fitsP_I64 _
  have hrec : recH b e.acc = [h0, h1, h2, h3] := by unfold recH; rw [HX1.out]
  have hst : ordS b e rate = [sS 3 (e.side) (0), sS 4 (e.side) (1), sS 5 (e.qty) (1), sS 6 (e.px) (1), sS 10 (bitI (hasH b e.acc)) (1), sS 12 (bitI (hasO b e.ord)) (0), sS 14 (bitI (hasR b e.sym)) (1), sS 16 (b.o.length) (63), oS 18 ((mulP e.qty e.px).1) (h3) ((mulP e.qty e.px).2), oS 19 ((reachR b e.acc e.sym e.side e.qty).1) (h2) ((reachR b e.acc e.sym e.side e.qty).2), oS 20 ((needE b e rate).1) ((eqR b e.acc).1) ((needE b e rate).2 && (eqR b e.acc).2)] := by unfold ordS; rw [hrec]; rfl
  rw [hst]
  clear hst hrec
  obtain ⟨FA, hFA⟩ : ∃ FA, ([sS 3 (e.side) (0), sS 4 (e.side) (1), sS 5 (e.qty) (1), sS 6 (e.px) (1), sS 10 (bitI (hasH b e.acc)) (1), sS 12 (bitI (hasO b e.ord)) (0), sS 14 (bitI (hasR b e.sym)) (1), sS 16 (b.o.length) (63), oS 18 ((mulP e.qty e.px).1) (h3) ((mulP e.qty e.px).2), oS 19 ((reachR b e.acc e.sym e.side e.qty).1) (h2) ((reachR b e.acc e.sym e.side e.qty).2), oS 20 ((needE b e rate).1) ((eqR b e.acc).1) ((needE b e rate).2 && (eqR b e.acc).2)]).all (·.holds) = FA := ⟨_, rfl⟩
  rw [hFA]
  replace hFA := zH hFA
  obtain ⟨nb, hnb⟩ : ∃ nb : Bk, ordB b e = nb := ⟨_, rfl⟩
  have q5 : Hid (∀ wz : World, Hid (BkAt wz (.agg #[.slice Ah b.h.length ch, .slice As b.s.length cs, .slice Ao b.o.length co, .slice Ar b.r.length cr, .int .i64 b.n]) b) → Calls Tryz.prog 99 #[.agg #[.slice Ah b.h.length ch, .slice As b.s.length cs, .slice Ao b.o.length co, .slice Ar b.r.length cr, .int .i64 b.n], .agg #[.int .i64 e.ord, .int .i64 e.acc, .int .i64 e.sym, .int .i64 e.side, .int .i64 e.qty, .int .i64 e.px]] wz fun r w' => ∃ v', r = .returned v' ∧ BkOwn w' wz.heap.size v' nb ∧ Below wz.heap.size wz w') := (show _ from fun wz hv => by rw [← hnb]; exact SetOpen_any _ b e.ord e.acc e.sym e.side e.qty e.px wz hv hs hR.out.2.1)
  rw [hnb]
  clear hnb
  obtain ⟨vX_g, hX_g⟩ := KG.out
  have c_g_0 := zC hX_g
  replace hX_g := zH hX_g
  have lg := zL hX_g.out
  obtain ⟨wb, hwb⟩ : ∃ wb : World, ((w.alloc (.cells #[.pointer (some ⟨g, 0, none⟩)] 73)).alloc (.cells #[.slice none 0 0, .slice none 0 0, .slice none 0 0, .slice none 0 0, .int .i64 0] 27)).alloc (.cells #[.int .i64 e.kind, .int .i64 e.acc, .int .i64 e.ord, .int .i64 e.sym, .int .i64 e.side, .int .i64 e.qty, .int .i64 e.px] 29) = wb := ⟨_, rfl⟩
  have hb : Below w.heap.size w wb := by rw [← hwb]; exact below_alloc (below_alloc (below_alloc (Below.refl _ _) (Nat.le_refl _) _) (by first | (simp; done) | (simp; omega)) _) (by first | (simp; done) | (simp; omega)) _
  have KP : Hid (wb.heap[w.heap.size]? = some (.cells #[.pointer (some ⟨g, 0, none⟩)] 73 (0, 0))) := by rw [← hwb]; exact blk_old (blk_old (heap_new _ _) _) _
  have KT : Hid (wb.heap[w.heap.size + 1]? = some (.cells #[.slice none 0 0, .slice none 0 0, .slice none 0 0, .slice none 0 0, .int .i64 0] 27 (0, 0))) := by rw [← hwb]; exact blk_old (blk_new _ _ _ (by simp)) _
  have KE : Hid (wb.heap[w.heap.size + 2]? = some (.cells #[.int .i64 e.kind, .int .i64 e.acc, .int .i64 e.ord, .int .i64 e.sym, .int .i64 e.side, .int .i64 e.qty, .int .i64 e.px] 29 (0, 0))) := by rw [← hwb]; exact blk_new _ _ _ (by simp)
  have LT : Hid (w0.heap.size ≤ w.heap.size + 1) := Nat.le_succ_of_le HI.out.below.size
  have MT : Hid (w.heap.size ≤ w.heap.size + 1) := Nat.le_succ _
  replace KG := zH ((KG.out.imp fun _ h => blk_call h hb))
  replace HI := zH (HI.out.kept hb)
  replace HOF := zH (HOF.out.trans (Off.of hb))
  replace hwb := zH hwb
  clear hb
  go_enter Tryz.func39, Tryz.ntmps39
  go_wp2_with fail
  rw [hwb.out]
  clear hwb lg
  clear hX_g c_g_0
  refine wp_region_D [] (fun wz : World => Hid (wz.heap[w.heap.size]? = some (.cells #[.pointer (some ⟨g, 0, none⟩)] 73 (0, 0))) ∧ Hid (wz.heap[w.heap.size + 2]? = some (.cells #[.int .i64 e.kind, .int .i64 e.acc, .int .i64 e.ord, .int .i64 e.sym, .int .i64 e.side, .int .i64 e.qty, .int .i64 e.px] 29 (0, 0))) ∧ Hid (∃ vX : Value, wz.heap[g]? = some (.cells #[.slice Ah b.h.length ch, .slice As b.s.length cs, .slice Ao b.o.length co, .slice Ar b.r.length cr, .int .i64 b.n, .int .i64 e.kind, .int .i64 e.acc, .int .i64 e.ord, .int .i64 e.sym, .int .i64 e.side, .int .i64 e.qty, .int .i64 e.px, .int .i64 rate, vX] 75 (0, 0)))) 13 #[false, false, false, false, false, false, false, false, false, false, false, false, false] (by kernel_rfl) (by kernel_rfl) (by kernel_rfl) ?_
  obtain ⟨wd1, hwd1⟩ : ∃ wd1 : World, { wb with drawn := wb.drawn + 1 } = wd1 := ⟨_, rfl⟩
  rw [hwd1]
  have hbwd1 : Below wb.heap.size wb wd1 := by rw [← hwd1]; exact (Below.refl _ _).drew
  replace KG := zH ((KG.out.imp fun _ h => blk_call h hbwd1))
  replace KP := zK KP hbwd1
  replace KT := zK KT hbwd1
  replace KE := zK KE hbwd1
  replace HI := zH (HI.out.kept hbwd1)
  replace HOF := zH (HOF.out.trans (Off.of hbwd1))
  clear hwd1 hbwd1
  refine pure_moreD [0, 1, 2, 3, 4, 5] 7 (L' := #[true, true, true, true, true, true, false, false, false, false, false, false, false]) (by kernel_rfl) (by kernel_rfl) ⟨KP, KE, KG⟩ ?_
  simp only [opsAt, List.getElem?_toArray, List.getElem?_cons_zero, List.getElem?_cons_succ]
  refine pure_atG (.pointer (some ⟨g, 0, none⟩)) rfl (fun wz hC => by have c0 := cells_of_blk hC.1.out 0 _ rfl; unfold execOp; go_simp) ?_
  refine pure_atG (.pointer (some ⟨g, 0, none⟩)) rfl (fun wz _ => by unfold execOp; go_simp) ?_
  refine pure_atG (.pointer (some ⟨g, 0, none⟩)) rfl (fun wz _ => by unfold execOp; go_simp) ?_
  refine pure_atG (.agg #[.slice Ah b.h.length ch, .slice As b.s.length cs, .slice Ao b.o.length co, .slice Ar b.r.length cr, .int .i64 b.n]) rfl (fun wz hC => by obtain ⟨vX, hX⟩ := hC.2.2.out; have c0 := cells_of_blk hX 0 _ rfl; have c1 := cells_of_blk hX 1 _ rfl; have c2 := cells_of_blk hX 2 _ rfl; have c3 := cells_of_blk hX 3 _ rfl; have c4 := cells_of_blk hX 4 _ rfl; unfold execOp; go_simp) ?_
  refine pure_atG (.pointer (some ⟨w.heap.size + 2, 1, none⟩)) rfl (fun wz _ => by unfold execOp; go_simp) ?_
  refine pure_atG (.int .i64 e.acc) rfl (fun wz hC => by have c0 := cells_of_blk hC.2.1.out 1 _ rfl; unfold execOp; go_simp) ?_
  unfold wpPure
  go_simp
  have hzd := zH HI.out.below.size
  have hzo := zH HOF.out.size
  refine wpAnyD_ca 6 10 [7, 8, 9] 22 4 2 (.tuple #[.agg #[.int .i64 h0, .int .i64 h1, .int .i64 h2, .int .i64 h3], .bool (hasH b e.acc)]) #[.int .i64 0, .int .i64 0, .int .i64 0, .int .i64 0] 82 [(15, .tuple #[.agg #[.int .i64 h0, .int .i64 h1, .int .i64 h2, .int .i64 h3], .bool (hasH b e.acc)]), (23, .agg #[.int .i64 h0, .int .i64 h1, .int .i64 h2, .int .i64 h3]), (24, .bool (hasH b e.acc))] [22, 4, 15, 23, 24] (by kernel_rfl) (by kernel_rfl) (by kernel_rfl) (by kernel_rfl) (by kernel_rfl) (L2 := #[true, true, true, true, true, true, true, true, true, true, true, false, false]) (by kernel_rfl) (by kernel_rfl) (by kernel_rfl) ?_ ?_ ?_ ?_ ?_
  · exact can_call 77 #[.agg #[.slice Ah b.h.length ch, .slice As b.s.length cs, .slice Ao b.o.length co, .slice Ar b.r.length cr, .int .i64 b.n], .int .i64 e.acc] ⟨_, _, _, rfl, rfl, rfl, rfl, by simp [Act.eval, Act.put], by simp⟩ (fun w => enters_of Tryz.func77 (by kernel_rfl) rfl _ w) (fun wz hz => (Holder_any _ b e.acc h0 h1 h2 h3 (hasH b e.acc) wz (zH (B0.out.call (HI.out.below.trans (hz.mono HI.out.below.size)))) HL1.out.1 hR.out.1 HX1).mono fun x w' ⟨h1, h2⟩ => ⟨_, h1, rfl, h2⟩)
  · exact can_alloc _ rfl rfl rfl #[.int .i64 0, .int .i64 0, .int .i64 0, .int .i64 0] 82 (fun ev wz => by unfold execOp; go_simp) (fun wz hz => ⟨rfl, heap_new wz _⟩)
  · exact fun wz hz => ⟨blk_call KP.out hz, blk_call KE.out hz, (KG.out.imp fun _ h => blk_call h hz)⟩
  · intro a' K ha hk
    simp only [opsAt, List.getElem?_toArray, List.getElem?_cons_zero, List.getElem?_cons_succ]
    rcases ha with rfl | ⟨p, rfl⟩
    · refine pure_atG (.tuple #[.agg #[.int .i64 h0, .int .i64 h1, .int .i64 h2, .int .i64 h3], .bool (hasH b e.acc)]) rfl (fun wz _ => by unfold execOp; go_simp) ?_
      refine pure_atG (.agg #[.int .i64 h0, .int .i64 h1, .int .i64 h2, .int .i64 h3]) rfl (fun wz _ => by unfold execOp; go_simp) ?_
      refine pure_atG (.bool (hasH b e.acc)) rfl (fun wz _ => by unfold execOp; go_simp) ?_
      unfold wpPure
      exact hk
    · refine pure_atG (.tuple #[.agg #[.int .i64 h0, .int .i64 h1, .int .i64 h2, .int .i64 h3], .bool (hasH b e.acc)]) rfl (fun wz _ => by unfold execOp; go_simp) ?_
      refine pure_atG (.agg #[.int .i64 h0, .int .i64 h1, .int .i64 h2, .int .i64 h3]) rfl (fun wz _ => by unfold execOp; go_simp) ?_
      refine pure_atG (.bool (hasH b e.acc)) rfl (fun wz _ => by unfold execOp; go_simp) ?_
      unfold wpPure
      exact hk
  intro qwf2 wf2 m2 g2 hb
  have Kh := zH g2
  have Lh := zH (Nat.le_trans hzd.out m2)
  have Mh := zH (Nat.le_trans hzo.out m2)
  clear g2 m2 hzd hzo
  simp only [putsV]
  go_simp
  replace KG := zH ((KG.out.imp fun _ h => blk_call h hb))
  replace KP := zK KP hb
  replace KT := zK KT hb
  replace KE := zK KE hb
  replace HI := zH (HI.out.kept hb)
  replace HOF := zH (HOF.out.trans (Off.of hb))
  clear hb
  have c_h_0 := zC Kh.out
  have fc_h_0 := zF Kh.out
  refine wpAnyD_one 11 (f := 1) (L' := #[true, true, true, true, true, true, true, true, true, true, true, true, false]) (by kernel_rfl) (by kernel_rfl) rfl rfl ?_
  go_wp2_with fail
  obtain ⟨ws3, hws3⟩ : ∃ ws3 : World, (((wf2.setCell ⟨qwf2, 0, none⟩ (.int .i64 h0)).setCell ⟨qwf2, 1, none⟩ (.int .i64 h1)).setCell ⟨qwf2, 2, none⟩ (.int .i64 h2)).setCell ⟨qwf2, 3, none⟩ (.int .i64 h3) = ws3 := ⟨_, rfl⟩
  rw [hws3]
  clear c_h_0 fc_h_0
  have zE : putC wf2 (qwf2) 0 [.int .i64 h0, .int .i64 h1, .int .i64 h2, .int .i64 h3] = ws3 := hws3
  replace HI := zH (HI.out.put Kh.out (by decide) (by decide) Lh.out 0 [.int .i64 h0, .int .i64 h1, .int .i64 h2, .int .i64 h3])
  replace HOF := zH (Off.freshC Mh.out HOF.out 0 [.int .i64 h0, .int .i64 h1, .int .i64 h2, .int .i64 h3])
  replace KG := zH ((KG.out.imp fun _ h => putC_oth (blk_ne h Kh.out (by decide)) (o := 0) (vs := [.int .i64 h0, .int .i64 h1, .int .i64 h2, .int .i64 h3]) h ))
  replace KP := zH (putC_oth (blk_ne KP.out Kh.out (by decide)) (o := 0) (vs := [.int .i64 h0, .int .i64 h1, .int .i64 h2, .int .i64 h3]) KP.out )
  replace KT := zH (putC_oth (blk_ne KT.out Kh.out (by decide)) (o := 0) (vs := [.int .i64 h0, .int .i64 h1, .int .i64 h2, .int .i64 h3]) KT.out )
  replace KE := zH (putC_oth (blk_ne KE.out Kh.out (by decide)) (o := 0) (vs := [.int .i64 h0, .int .i64 h1, .int .i64 h2, .int .i64 h3]) KE.out )
  rw [zE] at HI HOF KG KP KT KE
  replace Kh := zP zE Kh
  clear zE
  replace Kh : Hid (ws3.heap[qwf2]? = some (.cells #[.int .i64 h0, .int .i64 h1, .int .i64 h2, .int .i64 h3] 82 (0, 0))) := Kh.out
  clear hws3
  rw [StepQ_normal]
  refine ⟨fun _ => ⟨KP, KE, KG⟩, ?_⟩
  refine pure_moreD [12] 0 (L' := #[true, true, true, true, true, true, true, true, true, true, true, true, true]) (by kernel_rfl) (by kernel_rfl) ⟨KP, KE, KG⟩ ?_
  simp only [opsAt, List.getElem?_toArray, List.getElem?_cons_zero, List.getElem?_cons_succ]
  refine pure_atG (.bool (hasH b e.acc)) rfl (fun wz _ => by unfold execOp; go_simp) ?_
  unfold wpPure
  go_simp
  refine ⟨by kernel_rfl, ?_⟩
  rw [OnlyN_normal]
  go_wp2_with fail
  refine wp_region_D [] (fun wz : World => Hid (wz.heap[w.heap.size]? = some (.cells #[.pointer (some ⟨g, 0, none⟩)] 73 (0, 0))) ∧ Hid (wz.heap[w.heap.size + 2]? = some (.cells #[.int .i64 e.kind, .int .i64 e.acc, .int .i64 e.ord, .int .i64 e.sym, .int .i64 e.side, .int .i64 e.qty, .int .i64 e.px] 29 (0, 0))) ∧ Hid (∃ vX : Value, wz.heap[g]? = some (.cells #[.slice Ah b.h.length ch, .slice As b.s.length cs, .slice Ao b.o.length co, .slice Ar b.r.length cr, .int .i64 b.n, .int .i64 e.kind, .int .i64 e.acc, .int .i64 e.ord, .int .i64 e.sym, .int .i64 e.side, .int .i64 e.qty, .int .i64 e.px, .int .i64 rate, vX] 75 (0, 0)))) 13 #[false, false, false, false, false, false, false, false, false, false, false, false, false] (by kernel_rfl) (by kernel_rfl) (by kernel_rfl) ?_
  obtain ⟨wd4, hwd4⟩ : ∃ wd4 : World, { ws3 with drawn := ws3.drawn + 1 } = wd4 := ⟨_, rfl⟩
  rw [hwd4]
  have hbwd4 : Below ws3.heap.size ws3 wd4 := by rw [← hwd4]; exact (Below.refl _ _).drew
  replace KG := zH ((KG.out.imp fun _ h => blk_call h hbwd4))
  replace KP := zK KP hbwd4
  replace KT := zK KT hbwd4
  replace KE := zK KE hbwd4
  replace Kh := zK Kh hbwd4
  replace HI := zH (HI.out.kept hbwd4)
  replace HOF := zH (HOF.out.trans (Off.of hbwd4))
  clear hwd4 hbwd4
  refine pure_moreD [0, 1, 2, 3, 4, 5] 7 (L' := #[true, true, true, true, true, true, false, false, false, false, false, false, false]) (by kernel_rfl) (by kernel_rfl) ⟨KP, KE, KG⟩ ?_
  simp only [opsAt, List.getElem?_toArray, List.getElem?_cons_zero, List.getElem?_cons_succ]
  refine pure_atG (.pointer (some ⟨g, 0, none⟩)) rfl (fun wz hC => by have c0 := cells_of_blk hC.1.out 0 _ rfl; unfold execOp; go_simp) ?_
  refine pure_atG (.pointer (some ⟨g, 0, none⟩)) rfl (fun wz _ => by unfold execOp; go_simp) ?_
  refine pure_atG (.pointer (some ⟨g, 0, none⟩)) rfl (fun wz _ => by unfold execOp; go_simp) ?_
  refine pure_atG (.agg #[.slice Ah b.h.length ch, .slice As b.s.length cs, .slice Ao b.o.length co, .slice Ar b.r.length cr, .int .i64 b.n]) rfl (fun wz hC => by obtain ⟨vX, hX⟩ := hC.2.2.out; have c0 := cells_of_blk hX 0 _ rfl; have c1 := cells_of_blk hX 1 _ rfl; have c2 := cells_of_blk hX 2 _ rfl; have c3 := cells_of_blk hX 3 _ rfl; have c4 := cells_of_blk hX 4 _ rfl; unfold execOp; go_simp) ?_
  refine pure_atG (.pointer (some ⟨w.heap.size + 2, 2, none⟩)) rfl (fun wz _ => by unfold execOp; go_simp) ?_
  refine pure_atG (.int .i64 e.ord) rfl (fun wz hC => by have c0 := cells_of_blk hC.2.1.out 2 _ rfl; unfold execOp; go_simp) ?_
  unfold wpPure
  go_simp
  have hzd := zH HI.out.below.size
  have hzo := zH HOF.out.size
  refine wpAnyD_ca 6 10 [7, 8, 9] 32 6 2 (.tuple #[.agg #[.int .i64 o0, .int .i64 o1, .int .i64 o2, .int .i64 o3, .int .i64 o4, .int .i64 o5], .bool (hasO b e.ord)]) #[.int .i64 0, .int .i64 0, .int .i64 0, .int .i64 0, .int .i64 0, .int .i64 0] 86 [(25, .tuple #[.agg #[.int .i64 o0, .int .i64 o1, .int .i64 o2, .int .i64 o3, .int .i64 o4, .int .i64 o5], .bool (hasO b e.ord)]), (33, .agg #[.int .i64 o0, .int .i64 o1, .int .i64 o2, .int .i64 o3, .int .i64 o4, .int .i64 o5]), (34, .bool (hasO b e.ord))] [32, 6, 25, 33, 34] (by kernel_rfl) (by kernel_rfl) (by kernel_rfl) (by kernel_rfl) (by kernel_rfl) (L2 := #[true, true, true, true, true, true, true, true, true, true, true, false, false]) (by kernel_rfl) (by kernel_rfl) (by kernel_rfl) ?_ ?_ ?_ ?_ ?_
  · exact can_call 90 #[.agg #[.slice Ah b.h.length ch, .slice As b.s.length cs, .slice Ao b.o.length co, .slice Ar b.r.length cr, .int .i64 b.n], .int .i64 e.ord] ⟨_, _, _, rfl, rfl, rfl, rfl, by simp [Act.eval, Act.put], by simp⟩ (fun w => enters_of Tryz.func90 (by kernel_rfl) rfl _ w) (fun wz hz => (Open_any _ b e.ord o0 o1 o2 o3 o4 o5 (hasO b e.ord) wz (zH (B0.out.call (HI.out.below.trans (hz.mono HI.out.below.size)))) HL1.out.2.1 hR.out.2.1 HX2).mono fun x w' ⟨h1, h2⟩ => ⟨_, h1, rfl, h2⟩)
  · exact can_alloc _ rfl rfl rfl #[.int .i64 0, .int .i64 0, .int .i64 0, .int .i64 0, .int .i64 0, .int .i64 0] 86 (fun ev wz => by unfold execOp; go_simp) (fun wz hz => ⟨rfl, heap_new wz _⟩)
  · exact fun wz hz => ⟨blk_call KP.out hz, blk_call KE.out hz, (KG.out.imp fun _ h => blk_call h hz)⟩
  · intro a' K ha hk
    simp only [opsAt, List.getElem?_toArray, List.getElem?_cons_zero, List.getElem?_cons_succ]
    rcases ha with rfl | ⟨p, rfl⟩
    · refine pure_atG (.tuple #[.agg #[.int .i64 o0, .int .i64 o1, .int .i64 o2, .int .i64 o3, .int .i64 o4, .int .i64 o5], .bool (hasO b e.ord)]) rfl (fun wz _ => by unfold execOp; go_simp) ?_
      refine pure_atG (.agg #[.int .i64 o0, .int .i64 o1, .int .i64 o2, .int .i64 o3, .int .i64 o4, .int .i64 o5]) rfl (fun wz _ => by unfold execOp; go_simp) ?_
      refine pure_atG (.bool (hasO b e.ord)) rfl (fun wz _ => by unfold execOp; go_simp) ?_
      unfold wpPure
      exact hk
    · refine pure_atG (.tuple #[.agg #[.int .i64 o0, .int .i64 o1, .int .i64 o2, .int .i64 o3, .int .i64 o4, .int .i64 o5], .bool (hasO b e.ord)]) rfl (fun wz _ => by unfold execOp; go_simp) ?_
      refine pure_atG (.agg #[.int .i64 o0, .int .i64 o1, .int .i64 o2, .int .i64 o3, .int .i64 o4, .int .i64 o5]) rfl (fun wz _ => by unfold execOp; go_simp) ?_
      refine pure_atG (.bool (hasO b e.ord)) rfl (fun wz _ => by unfold execOp; go_simp) ?_
      unfold wpPure
      exact hk
  intro qwf5 wf5 m2 g2 hb
  have Ko := zH g2
  have Lo := zH (Nat.le_trans hzd.out m2)
  have Mo := zH (Nat.le_trans hzo.out m2)
  clear g2 m2 hzd hzo
  simp only [putsV]
  go_simp
  replace KG := zH ((KG.out.imp fun _ h => blk_call h hb))
  replace KP := zK KP hb
  replace KT := zK KT hb
  replace KE := zK KE hb
  replace Kh := zK Kh hb
  replace HI := zH (HI.out.kept hb)
  replace HOF := zH (HOF.out.trans (Off.of hb))
  clear hb
  have c_o_0 := zC Ko.out
  have fc_o_0 := zF Ko.out
  refine wpAnyD_one 11 (f := 1) (L' := #[true, true, true, true, true, true, true, true, true, true, true, true, false]) (by kernel_rfl) (by kernel_rfl) rfl rfl ?_
  go_wp2_with fail
  obtain ⟨ws6, hws6⟩ : ∃ ws6 : World, (((((wf5.setCell ⟨qwf5, 0, none⟩ (.int .i64 o0)).setCell ⟨qwf5, 1, none⟩ (.int .i64 o1)).setCell ⟨qwf5, 2, none⟩ (.int .i64 o2)).setCell ⟨qwf5, 3, none⟩ (.int .i64 o3)).setCell ⟨qwf5, 4, none⟩ (.int .i64 o4)).setCell ⟨qwf5, 5, none⟩ (.int .i64 o5) = ws6 := ⟨_, rfl⟩
  rw [hws6]
  clear c_o_0 fc_o_0
  have zE : putC wf5 (qwf5) 0 [.int .i64 o0, .int .i64 o1, .int .i64 o2, .int .i64 o3, .int .i64 o4, .int .i64 o5] = ws6 := hws6
  replace HI := zH (HI.out.put Ko.out (by decide) (by decide) Lo.out 0 [.int .i64 o0, .int .i64 o1, .int .i64 o2, .int .i64 o3, .int .i64 o4, .int .i64 o5])
  replace HOF := zH (Off.freshC Mo.out HOF.out 0 [.int .i64 o0, .int .i64 o1, .int .i64 o2, .int .i64 o3, .int .i64 o4, .int .i64 o5])
  replace KG := zH ((KG.out.imp fun _ h => putC_oth (blk_ne h Ko.out (by decide)) (o := 0) (vs := [.int .i64 o0, .int .i64 o1, .int .i64 o2, .int .i64 o3, .int .i64 o4, .int .i64 o5]) h ))
  replace KP := zH (putC_oth (blk_ne KP.out Ko.out (by decide)) (o := 0) (vs := [.int .i64 o0, .int .i64 o1, .int .i64 o2, .int .i64 o3, .int .i64 o4, .int .i64 o5]) KP.out )
  replace KT := zH (putC_oth (blk_ne KT.out Ko.out (by decide)) (o := 0) (vs := [.int .i64 o0, .int .i64 o1, .int .i64 o2, .int .i64 o3, .int .i64 o4, .int .i64 o5]) KT.out )
  replace KE := zH (putC_oth (blk_ne KE.out Ko.out (by decide)) (o := 0) (vs := [.int .i64 o0, .int .i64 o1, .int .i64 o2, .int .i64 o3, .int .i64 o4, .int .i64 o5]) KE.out )
  replace Kh := zH (putC_oth (blk_ne Kh.out Ko.out (by decide)) (o := 0) (vs := [.int .i64 o0, .int .i64 o1, .int .i64 o2, .int .i64 o3, .int .i64 o4, .int .i64 o5]) Kh.out )
  rw [zE] at HI HOF KG KP KT KE Kh
  replace Ko := zP zE Ko
  clear zE
  replace Ko : Hid (ws6.heap[qwf5]? = some (.cells #[.int .i64 o0, .int .i64 o1, .int .i64 o2, .int .i64 o3, .int .i64 o4, .int .i64 o5] 86 (0, 0))) := Ko.out
  clear hws6
  rw [StepQ_normal]
  refine ⟨fun _ => ⟨KP, KE, KG⟩, ?_⟩
  refine pure_moreD [12] 0 (L' := #[true, true, true, true, true, true, true, true, true, true, true, true, true]) (by kernel_rfl) (by kernel_rfl) ⟨KP, KE, KG⟩ ?_
  simp only [opsAt, List.getElem?_toArray, List.getElem?_cons_zero, List.getElem?_cons_succ]
  refine pure_atG (.bool (hasO b e.ord)) rfl (fun wz _ => by unfold execOp; go_simp) ?_
  unfold wpPure
  go_simp
  refine ⟨by kernel_rfl, ?_⟩
  rw [OnlyN_normal]
  clear Ko Lo
  go_wp2_with fail
  refine wp_region_D [] (fun wz : World => Hid (wz.heap[w.heap.size]? = some (.cells #[.pointer (some ⟨g, 0, none⟩)] 73 (0, 0))) ∧ Hid (wz.heap[w.heap.size + 2]? = some (.cells #[.int .i64 e.kind, .int .i64 e.acc, .int .i64 e.ord, .int .i64 e.sym, .int .i64 e.side, .int .i64 e.qty, .int .i64 e.px] 29 (0, 0))) ∧ Hid (∃ vX : Value, wz.heap[g]? = some (.cells #[.slice Ah b.h.length ch, .slice As b.s.length cs, .slice Ao b.o.length co, .slice Ar b.r.length cr, .int .i64 b.n, .int .i64 e.kind, .int .i64 e.acc, .int .i64 e.ord, .int .i64 e.sym, .int .i64 e.side, .int .i64 e.qty, .int .i64 e.px, .int .i64 rate, vX] 75 (0, 0)))) 12 #[false, false, false, false, false, false, false, false, false, false, false, false] (by kernel_rfl) (by kernel_rfl) (by kernel_rfl) ?_
  obtain ⟨wd7, hwd7⟩ : ∃ wd7 : World, { ws6 with drawn := ws6.drawn + 1 } = wd7 := ⟨_, rfl⟩
  rw [hwd7]
  have hbwd7 : Below ws6.heap.size ws6 wd7 := by rw [← hwd7]; exact (Below.refl _ _).drew
  replace KG := zH ((KG.out.imp fun _ h => blk_call h hbwd7))
  replace KP := zK KP hbwd7
  replace KT := zK KT hbwd7
  replace KE := zK KE hbwd7
  replace Kh := zK Kh hbwd7
  replace HI := zH (HI.out.kept hbwd7)
  replace HOF := zH (HOF.out.trans (Off.of hbwd7))
  clear hwd7 hbwd7
  refine pure_moreD [0, 1, 2, 3, 4, 5] 6 (L' := #[true, true, true, true, true, true, false, false, false, false, false, false]) (by kernel_rfl) (by kernel_rfl) ⟨KP, KE, KG⟩ ?_
  simp only [opsAt, List.getElem?_toArray, List.getElem?_cons_zero, List.getElem?_cons_succ]
  refine pure_atG (.pointer (some ⟨g, 0, none⟩)) rfl (fun wz hC => by have c0 := cells_of_blk hC.1.out 0 _ rfl; unfold execOp; go_simp) ?_
  refine pure_atG (.pointer (some ⟨g, 0, none⟩)) rfl (fun wz _ => by unfold execOp; go_simp) ?_
  refine pure_atG (.pointer (some ⟨g, 0, none⟩)) rfl (fun wz _ => by unfold execOp; go_simp) ?_
  refine pure_atG (.agg #[.slice Ah b.h.length ch, .slice As b.s.length cs, .slice Ao b.o.length co, .slice Ar b.r.length cr, .int .i64 b.n]) rfl (fun wz hC => by obtain ⟨vX, hX⟩ := hC.2.2.out; have c0 := cells_of_blk hX 0 _ rfl; have c1 := cells_of_blk hX 1 _ rfl; have c2 := cells_of_blk hX 2 _ rfl; have c3 := cells_of_blk hX 3 _ rfl; have c4 := cells_of_blk hX 4 _ rfl; unfold execOp; go_simp) ?_
  refine pure_atG (.pointer (some ⟨w.heap.size + 2, 3, none⟩)) rfl (fun wz _ => by unfold execOp; go_simp) ?_
  refine pure_atG (.int .i64 e.sym) rfl (fun wz hC => by have c0 := cells_of_blk hC.2.1.out 3 _ rfl; unfold execOp; go_simp) ?_
  unfold wpPure
  go_simp
  refine wpAnyD_one 6 (f := 5) (L' := #[true, true, true, true, true, true, true, false, false, false, false, false]) (by kernel_rfl) (by kernel_rfl) rfl rfl ?_
  go_wp2_with fail
  with_reducible refine (Rate_any _ b e.sym r0 r1 (hasR b e.sym) _ (zH (B0.out.call HI.out.below)) HL1.out.2.2 HRr HX3).mono ?_
  rintro e wc8 ⟨rfl, hb⟩
  replace KG := zH ((KG.out.imp fun _ h => blk_call h hb))
  replace KP := zK KP hb
  replace KT := zK KT hb
  replace KE := zK KE hb
  replace Kh := zK Kh hb
  replace HI := zH (HI.out.kept hb)
  replace HOF := zH (HOF.out.trans (Off.of hb))
  clear hb
  go_wp2_with fail
  rw [StepQ_normal]
  refine ⟨fun _ => ⟨KP, KE, KG⟩, ?_⟩
  refine pure_moreD [7, 8, 9, 10, 11] 0 (L' := #[true, true, true, true, true, true, true, true, true, true, true, true]) (by kernel_rfl) (by kernel_rfl) ⟨KP, KE, KG⟩ ?_
  simp only [opsAt, List.getElem?_toArray, List.getElem?_cons_zero, List.getElem?_cons_succ]
  refine pure_moveG rfl rfl ?_
  refine pure_atG (.int .i64 r1) rfl (fun wz _ => by unfold execOp; go_simp) ?_
  refine pure_atG (.bool (hasR b e.sym)) rfl (fun wz _ => by unfold execOp; go_simp) ?_
  refine pure_atG (.int .i64 r1) rfl (fun wz _ => by unfold execOp; go_simp) ?_
  refine pure_atG (.bool (hasR b e.sym)) rfl (fun wz _ => by unfold execOp; go_simp) ?_
  unfold wpPure
  go_simp
  refine ⟨by kernel_rfl, ?_⟩
  rw [OnlyN_normal]
  go_wp2_with fail
  refine wp_region_D [] (fun wz : World => Hid (wz.heap[w.heap.size]? = some (.cells #[.pointer (some ⟨g, 0, none⟩)] 73 (0, 0))) ∧ Hid (wz.heap[w.heap.size + 2]? = some (.cells #[.int .i64 e.kind, .int .i64 e.acc, .int .i64 e.ord, .int .i64 e.sym, .int .i64 e.side, .int .i64 e.qty, .int .i64 e.px] 29 (0, 0))) ∧ Hid (∃ vX : Value, wz.heap[g]? = some (.cells #[.slice Ah b.h.length ch, .slice As b.s.length cs, .slice Ao b.o.length co, .slice Ar b.r.length cr, .int .i64 b.n, .int .i64 e.kind, .int .i64 e.acc, .int .i64 e.ord, .int .i64 e.sym, .int .i64 e.side, .int .i64 e.qty, .int .i64 e.px, .int .i64 rate, vX] 75 (0, 0)))) 48 #[false, false, false, false, false, false, false, false, false, false, false, false, false, false, false, false, false, false, false, false, false, false, false, false, false, false, false, false, false, false, false, false, false, false, false, false, false, false, false, false, false, false, false, false, false, false, false, false] (by kernel_rfl) (by kernel_rfl) (by kernel_rfl) ?_
  obtain ⟨wd9, hwd9⟩ : ∃ wd9 : World, { wc8 with drawn := wc8.drawn + 1 } = wd9 := ⟨_, rfl⟩
  rw [hwd9]
  have hbwd9 : Below wc8.heap.size wc8 wd9 := by rw [← hwd9]; exact (Below.refl _ _).drew
  replace KG := zH ((KG.out.imp fun _ h => blk_call h hbwd9))
  replace KP := zK KP hbwd9
  replace KT := zK KT hbwd9
  replace KE := zK KE hbwd9
  replace Kh := zK Kh hbwd9
  replace HI := zH (HI.out.kept hbwd9)
  replace HOF := zH (HOF.out.trans (Off.of hbwd9))
  clear hwd9 hbwd9
  refine pure_moreD [0, 1, 2, 4, 5, 6, 8, 9, 10, 12, 13, 14, 16, 17, 20, 21, 24, 25, 28, 29, 30, 31, 32, 33, 34, 36, 37, 39, 40, 42, 43] 17 (L' := #[true, true, true, false, true, true, true, false, true, true, true, false, true, true, true, false, true, true, false, false, true, true, false, false, true, true, false, false, true, true, true, true, true, true, true, false, true, true, false, true, true, false, true, true, false, false, false, false]) (by kernel_rfl) (by kernel_rfl) ⟨KP, KE, KG⟩ ?_
  simp only [opsAt, List.getElem?_toArray, List.getElem?_cons_zero, List.getElem?_cons_succ]
  refine pure_atG (.pointer (some ⟨g, 0, none⟩)) rfl (fun wz hC => by have c0 := cells_of_blk hC.1.out 0 _ rfl; unfold execOp; go_simp) ?_
  refine pure_atG (.pointer (some ⟨w.heap.size + 2, 4, none⟩)) rfl (fun wz _ => by unfold execOp; go_simp) ?_
  refine pure_atG (.int .i64 e.side) rfl (fun wz hC => by have c0 := cells_of_blk hC.2.1.out 4 _ rfl; unfold execOp; go_simp) ?_
  refine pure_atG (.pointer (some ⟨g, 0, none⟩)) rfl (fun wz hC => by have c0 := cells_of_blk hC.1.out 0 _ rfl; unfold execOp; go_simp) ?_
  refine pure_atG (.pointer (some ⟨w.heap.size + 2, 4, none⟩)) rfl (fun wz _ => by unfold execOp; go_simp) ?_
  refine pure_atG (.int .i64 e.side) rfl (fun wz hC => by have c0 := cells_of_blk hC.2.1.out 4 _ rfl; unfold execOp; go_simp) ?_
  refine pure_atG (.pointer (some ⟨g, 0, none⟩)) rfl (fun wz hC => by have c0 := cells_of_blk hC.1.out 0 _ rfl; unfold execOp; go_simp) ?_
  refine pure_atG (.pointer (some ⟨w.heap.size + 2, 5, none⟩)) rfl (fun wz _ => by unfold execOp; go_simp) ?_
  refine pure_atG (.int .i64 e.qty) rfl (fun wz hC => by have c0 := cells_of_blk hC.2.1.out 5 _ rfl; unfold execOp; go_simp) ?_
  refine pure_atG (.pointer (some ⟨g, 0, none⟩)) rfl (fun wz hC => by have c0 := cells_of_blk hC.1.out 0 _ rfl; unfold execOp; go_simp) ?_
  refine pure_atG (.pointer (some ⟨w.heap.size + 2, 6, none⟩)) rfl (fun wz _ => by unfold execOp; go_simp) ?_
  refine pure_atG (.int .i64 e.px) rfl (fun wz hC => by have c0 := cells_of_blk hC.2.1.out 6 _ rfl; unfold execOp; go_simp) ?_
  refine pure_atG (.pointer (some ⟨g, 0, none⟩)) rfl (fun wz hC => by have c0 := cells_of_blk hC.1.out 0 _ rfl; unfold execOp; go_simp) ?_
  refine pure_moveG rfl rfl ?_
  refine pure_atG (.pointer (some ⟨g, 0, none⟩)) rfl (fun wz hC => by have c0 := cells_of_blk hC.1.out 0 _ rfl; unfold execOp; go_simp) ?_
  refine pure_moveG rfl rfl ?_
  refine pure_atG (.pointer (some ⟨g, 0, none⟩)) rfl (fun wz hC => by have c0 := cells_of_blk hC.1.out 0 _ rfl; unfold execOp; go_simp) ?_
  refine pure_moveG rfl rfl ?_
  refine pure_atG (.pointer (some ⟨g, 0, none⟩)) rfl (fun wz hC => by have c0 := cells_of_blk hC.1.out 0 _ rfl; unfold execOp; go_simp) ?_
  refine pure_atG (.pointer (some ⟨g, 0, none⟩)) rfl (fun wz hC => by have c0 := cells_of_blk hC.1.out 0 _ rfl; unfold execOp; go_simp) ?_
  refine pure_atG (.pointer (some ⟨g, 0, none⟩)) rfl (fun wz _ => by unfold execOp; go_simp) ?_
  refine pure_atG (.pointer (some ⟨g, 0, none⟩)) rfl (fun wz _ => by unfold execOp; go_simp) ?_
  refine pure_atG (.pointer (some ⟨g, 2, none⟩)) rfl (fun wz _ => by unfold execOp; go_simp) ?_
  refine pure_atG (.slice Ao b.o.length co) rfl (fun wz hC => by obtain ⟨vX, hX⟩ := hC.2.2.out; have c0 := cells_of_blk hX 2 _ rfl; unfold execOp; go_simp) ?_
  refine pure_atG (.int .i64 (b.o.length)) rfl (fun wz _ => by unfold execOp; go_simp) ?_
  refine pure_atG (.pointer (some ⟨g, 0, none⟩)) rfl (fun wz hC => by have c0 := cells_of_blk hC.1.out 0 _ rfl; unfold execOp; go_simp) ?_
  refine pure_atG (.func (.func 92) #[] #[.pointer (some ⟨w.heap.size + 2, 0, none⟩), .pointer (some ⟨qwf2, 0, none⟩)]) rfl (fun wz _ => by unfold execOp; go_simp) ?_
  refine pure_atG (.pointer (some ⟨g, 0, none⟩)) rfl (fun wz hC => by have c0 := cells_of_blk hC.1.out 0 _ rfl; unfold execOp; go_simp) ?_
  refine pure_atG (.func (.func 94) #[] #[.pointer (some ⟨w.heap.size, 0, none⟩), .pointer (some ⟨w.heap.size + 2, 0, none⟩), .pointer (some ⟨qwf2, 0, none⟩)]) rfl (fun wz _ => by unfold execOp; go_simp) ?_
  refine pure_atG (.pointer (some ⟨g, 0, none⟩)) rfl (fun wz hC => by have c0 := cells_of_blk hC.1.out 0 _ rfl; unfold execOp; go_simp) ?_
  refine pure_atG (.func (.func 96) #[] #[.pointer (some ⟨w.heap.size, 0, none⟩), .pointer (some ⟨w.heap.size + 2, 0, none⟩)]) rfl (fun wz _ => by unfold execOp; go_simp) ?_
  unfold wpPure
  go_simp
  refine wpAnyD_one 3 (f := 16) (L' := #[true, true, true, true, true, true, true, false, true, true, true, false, true, true, true, false, true, true, false, false, true, true, false, false, true, true, false, false, true, true, true, true, true, true, true, false, true, true, false, true, true, false, true, true, false, false, false, false]) (by kernel_rfl) (by kernel_rfl) rfl rfl ?_
  go_wp2_with fail
  with_reducible refine (sides_any w0 g (.slice Ah b.h.length ch) (.slice As b.s.length cs) (.slice Ao b.o.length co) (.slice Ar b.r.length cr) b e rate hT 3 (e.side) (0) (gfit _ _ _ (by omega) hE.out.side (i64_lit (by omega))) _).mono ?_
  rintro e wc10 ⟨f1, rfl, hl1, hb⟩
  replace KG := zH ((KG.out.imp fun _ h => blk_call h hb))
  replace KP := zK KP hb
  replace KT := zK KT hb
  replace KE := zK KE hb
  replace Kh := zK Kh hb
  replace HI := zH (HI.out.kept hb)
  replace HOF := zH (HOF.out.trans (Off.of hb))
  clear hb
  obtain ⟨J1, j1, rfl⟩ := hl1.form
  have HK1 := zH hl1
  clear hl1
  go_wp2_with fail
  rw [StepQ_normal]
  refine ⟨fun _ => ⟨KP, KE, KG⟩, ?_⟩
  refine wpAnyD_one 7 (f := 15) (L' := #[true, true, true, true, true, true, true, true, true, true, true, false, true, true, true, false, true, true, false, false, true, true, false, false, true, true, false, false, true, true, true, true, true, true, true, false, true, true, false, true, true, false, true, true, false, false, false, false]) (by kernel_rfl) (by kernel_rfl) rfl rfl ?_
  go_wp2_with fail
  with_reducible refine (sides_any w0 g (.slice Ah b.h.length ch) (.slice As b.s.length cs) (.slice Ao b.o.length co) (.slice Ar b.r.length cr) b e rate hT 4 (e.side) (1) (gfit _ _ _ (by omega) hE.out.side (i64_lit (by omega))) _).mono ?_
  rintro e wc11 ⟨f2, rfl, hl2, hb⟩
  replace KG := zH ((KG.out.imp fun _ h => blk_call h hb))
  replace KP := zK KP hb
  replace KT := zK KT hb
  replace KE := zK KE hb
  replace Kh := zK Kh hb
  replace HI := zH (HI.out.kept hb)
  replace HOF := zH (HOF.out.trans (Off.of hb))
  replace HK1 := zH (HK1.out.off (Off.of hb))
  clear hb
  obtain ⟨J2, j2, rfl⟩ := hl2.form
  have HK2 := zH hl2
  clear hl2
  go_wp2_with fail
  rw [StepQ_normal]
  refine ⟨fun _ => ⟨KP, KE, KG⟩, ?_⟩
  refine wpAnyD_one 11 (f := 14) (L' := #[true, true, true, true, true, true, true, true, true, true, true, true, true, true, true, false, true, true, false, false, true, true, false, false, true, true, false, false, true, true, true, true, true, true, true, false, true, true, false, true, true, false, true, true, false, false, false, false]) (by kernel_rfl) (by kernel_rfl) rfl rfl ?_
  go_wp2_with fail
  with_reducible refine (sides_any w0 g (.slice Ah b.h.length ch) (.slice As b.s.length cs) (.slice Ao b.o.length co) (.slice Ar b.r.length cr) b e rate hT 5 (e.qty) (1) (gfit _ _ _ (by omega) hE.out.qty (i64_lit (by omega))) _).mono ?_
  rintro e wc12 ⟨f3, rfl, hl3, hb⟩
  replace KG := zH ((KG.out.imp fun _ h => blk_call h hb))
  replace KP := zK KP hb
  replace KT := zK KT hb
  replace KE := zK KE hb
  replace Kh := zK Kh hb
  replace HI := zH (HI.out.kept hb)
  replace HOF := zH (HOF.out.trans (Off.of hb))
  replace HK1 := zH (HK1.out.off (Off.of hb))
  replace HK2 := zH (HK2.out.off (Off.of hb))
  clear hb
  obtain ⟨J3, j3, rfl⟩ := hl3.form
  have HK3 := zH hl3
  clear hl3
  go_wp2_with fail
  rw [StepQ_normal]
  refine ⟨fun _ => ⟨KP, KE, KG⟩, ?_⟩
  refine wpAnyD_one 15 (f := 13) (L' := #[true, true, true, true, true, true, true, true, true, true, true, true, true, true, true, true, true, true, false, false, true, true, false, false, true, true, false, false, true, true, true, true, true, true, true, false, true, true, false, true, true, false, true, true, false, false, false, false]) (by kernel_rfl) (by kernel_rfl) rfl rfl ?_
  go_wp2_with fail
  with_reducible refine (sides_any w0 g (.slice Ah b.h.length ch) (.slice As b.s.length cs) (.slice Ao b.o.length co) (.slice Ar b.r.length cr) b e rate hT 6 (e.px) (1) (gfit _ _ _ (by omega) hE.out.px (i64_lit (by omega))) _).mono ?_
  rintro e wc13 ⟨f4, rfl, hl4, hb⟩
  replace KG := zH ((KG.out.imp fun _ h => blk_call h hb))
  replace KP := zK KP hb
  replace KT := zK KT hb
  replace KE := zK KE hb
  replace Kh := zK Kh hb
  replace HI := zH (HI.out.kept hb)
  replace HOF := zH (HOF.out.trans (Off.of hb))
  replace HK1 := zH (HK1.out.off (Off.of hb))
  replace HK2 := zH (HK2.out.off (Off.of hb))
  replace HK3 := zH (HK3.out.off (Off.of hb))
  clear hb
  obtain ⟨J4, j4, rfl⟩ := hl4.form
  have HK4 := zH hl4
  clear hl4
  go_wp2_with fail
  rw [StepQ_normal]
  refine ⟨fun _ => ⟨KP, KE, KG⟩, ?_⟩
  refine wpAnyD_one 18 (f := 12) (L' := #[true, true, true, true, true, true, true, true, true, true, true, true, true, true, true, true, true, true, true, false, true, true, false, false, true, true, false, false, true, true, true, true, true, true, true, false, true, true, false, true, true, false, true, true, false, false, false, false]) (by kernel_rfl) (by kernel_rfl) rfl rfl ?_
  go_wp2_with fail
  with_reducible refine (gbit_any _ _).mono ?_
  rintro r _ ⟨rfl, rfl⟩
  go_wp2_with fail
  rw [StepQ_normal]
  refine ⟨fun _ => ⟨KP, KE, KG⟩, ?_⟩
  refine wpAnyD_one 19 (f := 11) (L' := #[true, true, true, true, true, true, true, true, true, true, true, true, true, true, true, true, true, true, true, true, true, true, false, false, true, true, false, false, true, true, true, true, true, true, true, false, true, true, false, true, true, false, true, true, false, false, false, false]) (by kernel_rfl) (by kernel_rfl) rfl rfl ?_
  go_wp2_with fail
  with_reducible refine (sides_any w0 g (.slice Ah b.h.length ch) (.slice As b.s.length cs) (.slice Ao b.o.length co) (.slice Ar b.r.length cr) b e rate hT 10 (bitI (hasH b e.acc)) (1) (gfit _ _ _ (by omega) (i64_bit _) (i64_lit (by omega))) _).mono ?_
  rintro e wc14 ⟨f5, rfl, hl5, hb⟩
  replace KG := zH ((KG.out.imp fun _ h => blk_call h hb))
  replace KP := zK KP hb
  replace KT := zK KT hb
  replace KE := zK KE hb
  replace Kh := zK Kh hb
  replace HI := zH (HI.out.kept hb)
  replace HOF := zH (HOF.out.trans (Off.of hb))
  replace HK1 := zH (HK1.out.off (Off.of hb))
  replace HK2 := zH (HK2.out.off (Off.of hb))
  replace HK3 := zH (HK3.out.off (Off.of hb))
  replace HK4 := zH (HK4.out.off (Off.of hb))
  clear hb
  obtain ⟨J5, j5, rfl⟩ := hl5.form
  have HK5 := zH hl5
  clear hl5
  go_wp2_with fail
  rw [StepQ_normal]
  refine ⟨fun _ => ⟨KP, KE, KG⟩, ?_⟩
  refine wpAnyD_one 22 (f := 10) (L' := #[true, true, true, true, true, true, true, true, true, true, true, true, true, true, true, true, true, true, true, true, true, true, true, false, true, true, false, false, true, true, true, true, true, true, true, false, true, true, false, true, true, false, true, true, false, false, false, false]) (by kernel_rfl) (by kernel_rfl) rfl rfl ?_
  go_wp2_with fail
  with_reducible refine (gbit_any _ _).mono ?_
  rintro r _ ⟨rfl, rfl⟩
  go_wp2_with fail
  rw [StepQ_normal]
  refine ⟨fun _ => ⟨KP, KE, KG⟩, ?_⟩
  refine wpAnyD_one 23 (f := 9) (L' := #[true, true, true, true, true, true, true, true, true, true, true, true, true, true, true, true, true, true, true, true, true, true, true, true, true, true, false, false, true, true, true, true, true, true, true, false, true, true, false, true, true, false, true, true, false, false, false, false]) (by kernel_rfl) (by kernel_rfl) rfl rfl ?_
  go_wp2_with fail
  with_reducible refine (sides_any w0 g (.slice Ah b.h.length ch) (.slice As b.s.length cs) (.slice Ao b.o.length co) (.slice Ar b.r.length cr) b e rate hT 12 (bitI (hasO b e.ord)) (0) (gfit _ _ _ (by omega) (i64_bit _) (i64_lit (by omega))) _).mono ?_
  rintro e wc15 ⟨f6, rfl, hl6, hb⟩
  replace KG := zH ((KG.out.imp fun _ h => blk_call h hb))
  replace KP := zK KP hb
  replace KT := zK KT hb
  replace KE := zK KE hb
  replace Kh := zK Kh hb
  replace HI := zH (HI.out.kept hb)
  replace HOF := zH (HOF.out.trans (Off.of hb))
  replace HK1 := zH (HK1.out.off (Off.of hb))
  replace HK2 := zH (HK2.out.off (Off.of hb))
  replace HK3 := zH (HK3.out.off (Off.of hb))
  replace HK4 := zH (HK4.out.off (Off.of hb))
  replace HK5 := zH (HK5.out.off (Off.of hb))
  clear hb
  obtain ⟨J6, j6, rfl⟩ := hl6.form
  have HK6 := zH hl6
  clear hl6
  go_wp2_with fail
  rw [StepQ_normal]
  refine ⟨fun _ => ⟨KP, KE, KG⟩, ?_⟩
  refine wpAnyD_one 26 (f := 8) (L' := #[true, true, true, true, true, true, true, true, true, true, true, true, true, true, true, true, true, true, true, true, true, true, true, true, true, true, true, false, true, true, true, true, true, true, true, false, true, true, false, true, true, false, true, true, false, false, false, false]) (by kernel_rfl) (by kernel_rfl) rfl rfl ?_
  go_wp2_with fail
  with_reducible refine (gbit_any _ _).mono ?_
  rintro r _ ⟨rfl, rfl⟩
  go_wp2_with fail
  rw [StepQ_normal]
  refine ⟨fun _ => ⟨KP, KE, KG⟩, ?_⟩
  refine wpAnyD_one 27 (f := 7) (L' := #[true, true, true, true, true, true, true, true, true, true, true, true, true, true, true, true, true, true, true, true, true, true, true, true, true, true, true, true, true, true, true, true, true, true, true, false, true, true, false, true, true, false, true, true, false, false, false, false]) (by kernel_rfl) (by kernel_rfl) rfl rfl ?_
  go_wp2_with fail
  with_reducible refine (sides_any w0 g (.slice Ah b.h.length ch) (.slice As b.s.length cs) (.slice Ao b.o.length co) (.slice Ar b.r.length cr) b e rate hT 14 (bitI (hasR b e.sym)) (1) (gfit _ _ _ (by omega) (i64_bit _) (i64_lit (by omega))) _).mono ?_
  rintro e wc16 ⟨f7, rfl, hl7, hb⟩
  replace KG := zH ((KG.out.imp fun _ h => blk_call h hb))
  replace KP := zK KP hb
  replace KT := zK KT hb
  replace KE := zK KE hb
  replace Kh := zK Kh hb
  replace HI := zH (HI.out.kept hb)
  replace HOF := zH (HOF.out.trans (Off.of hb))
  replace HK1 := zH (HK1.out.off (Off.of hb))
  replace HK2 := zH (HK2.out.off (Off.of hb))
  replace HK3 := zH (HK3.out.off (Off.of hb))
  replace HK4 := zH (HK4.out.off (Off.of hb))
  replace HK5 := zH (HK5.out.off (Off.of hb))
  replace HK6 := zH (HK6.out.off (Off.of hb))
  clear hb
  obtain ⟨J7, j7, rfl⟩ := hl7.form
  have HK7 := zH hl7
  clear hl7
  go_wp2_with fail
  rw [StepQ_normal]
  refine ⟨fun _ => ⟨KP, KE, KG⟩, ?_⟩
  refine wpAnyD_one 35 (f := 6) (L' := #[true, true, true, true, true, true, true, true, true, true, true, true, true, true, true, true, true, true, true, true, true, true, true, true, true, true, true, true, true, true, true, true, true, true, true, true, true, true, false, true, true, false, true, true, false, false, false, false]) (by kernel_rfl) (by kernel_rfl) rfl rfl ?_
  go_wp2_with fail
  with_reducible refine (sides_any w0 g (.slice Ah b.h.length ch) (.slice As b.s.length cs) (.slice Ao b.o.length co) (.slice Ar b.r.length cr) b e rate hT 16 (b.o.length) (63) (gfit _ _ _ (by omega) (i64_len HL1.out.2.1) (i64_lit (by omega))) _).mono ?_
  rintro e wc17 ⟨f8, rfl, hl8, hb⟩
  replace KG := zH ((KG.out.imp fun _ h => blk_call h hb))
  replace KP := zK KP hb
  replace KT := zK KT hb
  replace KE := zK KE hb
  replace Kh := zK Kh hb
  replace HI := zH (HI.out.kept hb)
  replace HOF := zH (HOF.out.trans (Off.of hb))
  replace HK1 := zH (HK1.out.off (Off.of hb))
  replace HK2 := zH (HK2.out.off (Off.of hb))
  replace HK3 := zH (HK3.out.off (Off.of hb))
  replace HK4 := zH (HK4.out.off (Off.of hb))
  replace HK5 := zH (HK5.out.off (Off.of hb))
  replace HK6 := zH (HK6.out.off (Off.of hb))
  replace HK7 := zH (HK7.out.off (Off.of hb))
  clear hb
  obtain ⟨J8, j8, rfl⟩ := hl8.form
  have HK8 := zH hl8
  clear hl8
  go_wp2_with fail
  rw [StepQ_normal]
  refine ⟨fun _ => ⟨KP, KE, KG⟩, ?_⟩
  have hSd9 := zH (order1_on w0 g (.slice Ah b.h.length ch) (.slice As b.s.length cs) (.slice Ao b.o.length co) (.slice Ar b.r.length cr) b e rate hE h0 h1 h2 h3 _ _ _ KE Kh)
  have qe9 := zH (exact_any w0 g (.slice Ah b.h.length ch) (.slice As b.s.length cs) (.slice Ao b.o.length co) (.slice Ar b.r.length cr) b e rate hT 18 ((mulP e.qty e.px).1) (h3) ((mulP e.qty e.px).2) (.func (.func 92) #[] #[.pointer (some ⟨w.heap.size + 2, 0, none⟩), .pointer (some ⟨qwf2, 0, none⟩)]) (show I64 18 from i64_lit (by omega)) (gfit _ _ _ (by omega) G3.out I3.out) _ hSd9)
  clear hSd9
  refine wpAnyD_one 38 (f := 5) (L' := #[true, true, true, true, true, true, true, true, true, true, true, true, true, true, true, true, true, true, true, true, true, true, true, true, true, true, true, true, true, true, true, true, true, true, true, true, true, true, true, true, true, false, true, true, false, false, false, false]) (by kernel_rfl) (by kernel_rfl) rfl rfl ?_
  go_wp2_with fail
  with_reducible refine (qe9.out).mono ?_
  rintro e wc18 ⟨f9, rfl, hl9, hb⟩
  replace KG := zH ((KG.out.imp fun _ h => blk_call h hb))
  replace KP := zK KP hb
  replace KT := zK KT hb
  replace KE := zK KE hb
  replace Kh := zK Kh hb
  replace HI := zH (HI.out.kept hb)
  replace HOF := zH (HOF.out.trans (Off.of hb))
  replace HK1 := zH (HK1.out.off (Off.of hb))
  replace HK2 := zH (HK2.out.off (Off.of hb))
  replace HK3 := zH (HK3.out.off (Off.of hb))
  replace HK4 := zH (HK4.out.off (Off.of hb))
  replace HK5 := zH (HK5.out.off (Off.of hb))
  replace HK6 := zH (HK6.out.off (Off.of hb))
  replace HK7 := zH (HK7.out.off (Off.of hb))
  replace HK8 := zH (HK8.out.off (Off.of hb))
  clear hb
  clear qe9
  obtain ⟨J9, j9, rfl⟩ := hl9.form
  have HK9 := zH hl9
  clear hl9
  go_wp2_with fail
  rw [StepQ_normal]
  refine ⟨fun _ => ⟨KP, KE, KG⟩, ?_⟩
  have hSd10 := zH (order2_on w0 g (.slice Ah b.h.length ch) (.slice As b.s.length cs) (.slice Ao b.o.length co) (.slice Ar b.r.length cr) b e rate B0 hs hi hm hE h0 h1 h2 h3 _ _ _ _ KP KE Kh)
  have qe10 := zH (exact_any w0 g (.slice Ah b.h.length ch) (.slice As b.s.length cs) (.slice Ao b.o.length co) (.slice Ar b.r.length cr) b e rate hT 19 ((reachR b e.acc e.sym e.side e.qty).1) (h2) ((reachR b e.acc e.sym e.side e.qty).2) (.func (.func 94) #[] #[.pointer (some ⟨w.heap.size, 0, none⟩), .pointer (some ⟨w.heap.size + 2, 0, none⟩), .pointer (some ⟨qwf2, 0, none⟩)]) (show I64 19 from i64_lit (by omega)) (gfit _ _ _ (by omega) G2.out I2.out) _ hSd10)
  clear hSd10
  refine wpAnyD_one 41 (f := 4) (L' := #[true, true, true, true, true, true, true, true, true, true, true, true, true, true, true, true, true, true, true, true, true, true, true, true, true, true, true, true, true, true, true, true, true, true, true, true, true, true, true, true, true, true, true, true, false, false, false, false]) (by kernel_rfl) (by kernel_rfl) rfl rfl ?_
  go_wp2_with fail
  with_reducible refine (qe10.out).mono ?_
  rintro e wc19 ⟨f10, rfl, hl10, hb⟩
  replace KG := zH ((KG.out.imp fun _ h => blk_call h hb))
  replace KP := zK KP hb
  replace KT := zK KT hb
  replace KE := zK KE hb
  replace Kh := zK Kh hb
  replace HI := zH (HI.out.kept hb)
  replace HOF := zH (HOF.out.trans (Off.of hb))
  replace HK1 := zH (HK1.out.off (Off.of hb))
  replace HK2 := zH (HK2.out.off (Off.of hb))
  replace HK3 := zH (HK3.out.off (Off.of hb))
  replace HK4 := zH (HK4.out.off (Off.of hb))
  replace HK5 := zH (HK5.out.off (Off.of hb))
  replace HK6 := zH (HK6.out.off (Off.of hb))
  replace HK7 := zH (HK7.out.off (Off.of hb))
  replace HK8 := zH (HK8.out.off (Off.of hb))
  replace HK9 := zH (HK9.out.off (Off.of hb))
  clear hb
  clear qe10
  obtain ⟨J10, j10, rfl⟩ := hl10.form
  have HK10 := zH hl10
  clear hl10
  go_wp2_with fail
  rw [StepQ_normal]
  refine ⟨fun _ => ⟨KP, KE, KG⟩, ?_⟩
  have hSd11 := zH (order3_on w0 g (.slice Ah b.h.length ch) (.slice As b.s.length cs) (.slice Ao b.o.length co) (.slice Ar b.r.length cr) b e rate B0 hs hi hm hE _ _ _ KP KE)
  have qe11 := zH (exact_any w0 g (.slice Ah b.h.length ch) (.slice As b.s.length cs) (.slice Ao b.o.length co) (.slice Ar b.r.length cr) b e rate hT 20 ((needE b e rate).1) ((eqR b e.acc).1) ((needE b e rate).2 && (eqR b e.acc).2) (.func (.func 96) #[] #[.pointer (some ⟨w.heap.size, 0, none⟩), .pointer (some ⟨w.heap.size + 2, 0, none⟩)]) (show I64 20 from i64_lit (by omega)) (gfit _ _ _ (by omega) G1.out G0.out) _ hSd11)
  clear hSd11
  refine wpAnyD_one 44 (f := 3) (L' := #[true, true, true, true, true, true, true, true, true, true, true, true, true, true, true, true, true, true, true, true, true, true, true, true, true, true, true, true, true, true, true, true, true, true, true, true, true, true, true, true, true, true, true, true, true, false, false, false]) (by kernel_rfl) (by kernel_rfl) rfl rfl ?_
  go_wp2_with fail
  with_reducible refine (qe11.out).mono ?_
  rintro e wc20 ⟨f11, rfl, hl11, hb⟩
  replace KG := zH ((KG.out.imp fun _ h => blk_call h hb))
  replace KP := zK KP hb
  replace KT := zK KT hb
  replace KE := zK KE hb
  replace Kh := zK Kh hb
  replace HI := zH (HI.out.kept hb)
  replace HOF := zH (HOF.out.trans (Off.of hb))
  replace HK1 := zH (HK1.out.off (Off.of hb))
  replace HK2 := zH (HK2.out.off (Off.of hb))
  replace HK3 := zH (HK3.out.off (Off.of hb))
  replace HK4 := zH (HK4.out.off (Off.of hb))
  replace HK5 := zH (HK5.out.off (Off.of hb))
  replace HK6 := zH (HK6.out.off (Off.of hb))
  replace HK7 := zH (HK7.out.off (Off.of hb))
  replace HK8 := zH (HK8.out.off (Off.of hb))
  replace HK9 := zH (HK9.out.off (Off.of hb))
  replace HK10 := zH (HK10.out.off (Off.of hb))
  clear hb
  clear qe11
  obtain ⟨J11, j11, rfl⟩ := hl11.form
  have HK11 := zH hl11
  clear hl11
  go_wp2_with fail
  rw [StepQ_normal]
  refine ⟨fun _ => ⟨KP, KE, KG⟩, ?_⟩
  refine wpAnyD_one 45 (f := 2) (L' := #[true, true, true, true, true, true, true, true, true, true, true, true, true, true, true, true, true, true, true, true, true, true, true, true, true, true, true, true, true, true, true, true, true, true, true, true, true, true, true, true, true, true, true, true, true, true, false, false]) (by kernel_rfl) (by kernel_rfl) rfl rfl ?_
  go_wp2_with fail
  obtain ⟨wa21, hwa21⟩ : ∃ wa21 : World, wc20.alloc (.cells #[.func (.func J1) #[] j1, .func (.func J2) #[] j2, .func (.func J3) #[] j3, .func (.func J4) #[] j4, .func (.func J5) #[] j5, .func (.func J6) #[] j6, .func (.func J7) #[] j7, .func (.func J8) #[] j8, .func (.func J9) #[] j9, .func (.func J10) #[] j10, .func (.func J11) #[] j11] 79) = wa21 := ⟨_, rfl⟩
  rw [hwa21]
  have hbwa21 : Below wc20.heap.size wc20 wa21 := by rw [← hwa21]; exact below_alloc (Below.refl _ _) (Nat.le_refl _) _
  replace KG := zH ((KG.out.imp fun _ h => blk_call h hbwa21))
  replace KP := zK KP hbwa21
  replace KT := zK KT hbwa21
  replace KE := zK KE hbwa21
  replace Kh := zK Kh hbwa21
  replace HI := zH (HI.out.kept hbwa21)
  replace HOF := zH (HOF.out.trans (Off.of hbwa21))
  replace HK1 := zH (HK1.out.off (Off.of hbwa21))
  replace HK2 := zH (HK2.out.off (Off.of hbwa21))
  replace HK3 := zH (HK3.out.off (Off.of hbwa21))
  replace HK4 := zH (HK4.out.off (Off.of hbwa21))
  replace HK5 := zH (HK5.out.off (Off.of hbwa21))
  replace HK6 := zH (HK6.out.off (Off.of hbwa21))
  replace HK7 := zH (HK7.out.off (Off.of hbwa21))
  replace HK8 := zH (HK8.out.off (Off.of hbwa21))
  replace HK9 := zH (HK9.out.off (Off.of hbwa21))
  replace HK10 := zH (HK10.out.off (Off.of hbwa21))
  replace HK11 := zH (HK11.out.off (Off.of hbwa21))
  have Kfs : Hid (wa21.heap[wc20.heap.size]? = some (.cells #[.func (.func J1) #[] j1, .func (.func J2) #[] j2, .func (.func J3) #[] j3, .func (.func J4) #[] j4, .func (.func J5) #[] j5, .func (.func J6) #[] j6, .func (.func J7) #[] j7, .func (.func J8) #[] j8, .func (.func J9) #[] j9, .func (.func J10) #[] j10, .func (.func J11) #[] j11] 79 (0, 0))) := by rw [← hwa21]; exact heap_new _ _
  clear hwa21 hbwa21
  rw [StepQ_normal]
  refine ⟨fun _ => ⟨KP, KE, KG⟩, ?_⟩
  refine wpAnyD_one 46 (f := 1) (L' := #[true, true, true, true, true, true, true, true, true, true, true, true, true, true, true, true, true, true, true, true, true, true, true, true, true, true, true, true, true, true, true, true, true, true, true, true, true, true, true, true, true, true, true, true, true, true, true, false]) (by kernel_rfl) (by kernel_rfl) rfl rfl ?_
  go_wp2_with fail
  have qall := zH (all_any (Gt w0 g (.slice Ah b.h.length ch) (.slice As b.s.length cs) (.slice Ao b.o.length co) (.slice Ar b.r.length cr) b e rate) (wc20.heap.size) 11 [(.func (.func J1) #[] j1, sS 3 (e.side) (0)), (.func (.func J2) #[] j2, sS 4 (e.side) (1)), (.func (.func J3) #[] j3, sS 5 (e.qty) (1)), (.func (.func J4) #[] j4, sS 6 (e.px) (1)), (.func (.func J5) #[] j5, sS 10 (bitI (hasH b e.acc)) (1)), (.func (.func J6) #[] j6, sS 12 (bitI (hasO b e.ord)) (0)), (.func (.func J7) #[] j7, sS 14 (bitI (hasR b e.sym)) (1)), (.func (.func J8) #[] j8, sS 16 (b.o.length) (63)), (.func (.func J9) #[] j9, oS 18 ((mulP e.qty e.px).1) (h3) ((mulP e.qty e.px).2)), (.func (.func J10) #[] j10, oS 19 ((reachR b e.acc e.sym e.side e.qty).1) (h2) ((reachR b e.acc e.sym e.side e.qty).2)), (.func (.func J11) #[] j11, oS 20 ((needE b e rate).1) ((eqR b e.acc).1) ((needE b e rate).2 && (eqR b e.acc).2))] #[.func (.func J1) #[] j1, .func (.func J2) #[] j2, .func (.func J3) #[] j3, .func (.func J4) #[] j4, .func (.func J5) #[] j5, .func (.func J6) #[] j6, .func (.func J7) #[] j7, .func (.func J8) #[] j8, .func (.func J9) #[] j9, .func (.func J10) #[] j10, .func (.func J11) #[] j11] l0 _ rfl rfl Kfs (zH (by intro x hx; simp only [List.mem_cons, List.not_mem_nil, or_false] at hx; rcases hx with rfl | rfl | rfl | rfl | rfl | rfl | rfl | rfl | rfl | rfl | rfl <;> first | exact HK1.out | exact HK2.out | exact HK3.out | exact HK4.out | exact HK5.out | exact HK6.out | exact HK7.out | exact HK8.out | exact HK9.out | exact HK10.out | exact HK11.out)) HI (by have := hl0.out; show _ ≤ _; omega))
  have qall2 : Hid (Calls Tryz.prog 43 #[.slice (some ⟨wc20.heap.size, 0, none⟩) 11 11] wa21 fun r w' => r = .returned (.bool FA) ∧ Gt w0 g (.slice Ah b.h.length ch) (.slice As b.s.length cs) (.slice Ao b.o.length co) (.slice Ar b.r.length cr) b e rate (l0 ++ cutL ([sS 3 (e.side) (0), sS 4 (e.side) (1), sS 5 (e.qty) (1), sS 6 (e.px) (1), sS 10 (bitI (hasH b e.acc)) (1), sS 12 (bitI (hasO b e.ord)) (0), sS 14 (bitI (hasR b e.sym)) (1), sS 16 (b.o.length) (63), oS 18 ((mulP e.qty e.px).1) (h3) ((mulP e.qty e.px).2), oS 19 ((reachR b e.acc e.sym e.side e.qty).1) (h2) ((reachR b e.acc e.sym e.side e.qty).2), oS 20 ((needE b e rate).1) ((eqR b e.acc).1) ((needE b e rate).2 && (eqR b e.acc).2)])) w' ∧ Off wa21 w') := by rw [← hFA.out]; exact qall.out
  clear qall
  with_reducible refine qall2.out.mono ?_
  rintro r wl22 ⟨rfl, hI2, ho⟩
  clear qall2 HI HK1 HK2 HK3 HK4 HK5 HK6 HK7 HK8 HK9 HK10 HK11
  replace KP := zH (ho.blk _ _ _ _ KP.out (by decide) (by decide))
  replace KT := zH (ho.blk _ _ _ _ KT.out (by decide) (by decide))
  replace KE := zH (ho.blk _ _ _ _ KE.out (by decide) (by decide))
  replace Kh := zH (ho.blk _ _ _ _ Kh.out (by decide) (by decide))
  replace HOF := zH (HOF.out.trans ho)
  clear Kfs KG ho
  have HI := zH hI2
  clear hI2
  have KG := zH (HI.out.blk.imp fun _ h => h.1)
  go_wp2_with fail
  rw [StepQ_normal]
  refine ⟨fun _ => ⟨KP, KE, KG⟩, ?_⟩
  refine pure_moreD [47] 0 (L' := #[true, true, true, true, true, true, true, true, true, true, true, true, true, true, true, true, true, true, true, true, true, true, true, true, true, true, true, true, true, true, true, true, true, true, true, true, true, true, true, true, true, true, true, true, true, true, true, true]) (by kernel_rfl) (by kernel_rfl) ⟨KP, KE, KG⟩ ?_
  simp only [opsAt, List.getElem?_toArray, List.getElem?_cons_zero, List.getElem?_cons_succ]
  refine pure_atG (.bool FA) rfl (fun wz _ => by unfold execOp; go_simp) ?_
  unfold wpPure
  go_simp
  refine ⟨by kernel_rfl, ?_⟩
  rw [OnlyN_normal]
  cases FA with
  | false =>
    have c_p_0 := cells_of_blk KP.out 0 _ rfl
    obtain ⟨vX_g, hX_g⟩ := KG.out
    have c_g_0 := zC hX_g
    replace hX_g := zH hX_g
    have c_t_0 := zC KT.out
    have fc_t_0 := zF KT.out
    go_wp2_with fail
    obtain ⟨ws23, hws23⟩ : ∃ ws23 : World, ((((wl22.setCell ⟨w.heap.size + 1, 0, none⟩ (.slice Ah b.h.length ch)).setCell ⟨w.heap.size + 1, 1, none⟩ (.slice As b.s.length cs)).setCell ⟨w.heap.size + 1, 2, none⟩ (.slice Ao b.o.length co)).setCell ⟨w.heap.size + 1, 3, none⟩ (.slice Ar b.r.length cr)).setCell ⟨w.heap.size + 1, 4, none⟩ (.int .i64 b.n) = ws23 := ⟨_, rfl⟩
    rw [hws23]
    clear c_p_0 hX_g c_g_0 c_t_0 fc_t_0
    have zE : putC wl22 (w.heap.size + 1) 0 [.slice Ah b.h.length ch, .slice As b.s.length cs, .slice Ao b.o.length co, .slice Ar b.r.length cr, .int .i64 b.n] = ws23 := hws23
    replace HI := zH (HI.out.put KT.out (by decide) (by decide) LT.out 0 [.slice Ah b.h.length ch, .slice As b.s.length cs, .slice Ao b.o.length co, .slice Ar b.r.length cr, .int .i64 b.n])
    replace HOF := zH (Off.freshC MT.out HOF.out 0 [.slice Ah b.h.length ch, .slice As b.s.length cs, .slice Ao b.o.length co, .slice Ar b.r.length cr, .int .i64 b.n])
    replace KP := zH (putC_oth (blk_ne KP.out KT.out (by decide)) (o := 0) (vs := [.slice Ah b.h.length ch, .slice As b.s.length cs, .slice Ao b.o.length co, .slice Ar b.r.length cr, .int .i64 b.n]) KP.out )
    replace KE := zH (putC_oth (blk_ne KE.out KT.out (by decide)) (o := 0) (vs := [.slice Ah b.h.length ch, .slice As b.s.length cs, .slice Ao b.o.length co, .slice Ar b.r.length cr, .int .i64 b.n]) KE.out )
    replace Kh := zH (putC_oth (blk_ne Kh.out KT.out (by decide)) (o := 0) (vs := [.slice Ah b.h.length ch, .slice As b.s.length cs, .slice Ao b.o.length co, .slice Ar b.r.length cr, .int .i64 b.n]) Kh.out )
    replace KG := zH ((KG.out.imp fun _ h => putC_oth (blk_ne h KT.out (by decide)) (o := 0) (vs := [.slice Ah b.h.length ch, .slice As b.s.length cs, .slice Ao b.o.length co, .slice Ar b.r.length cr, .int .i64 b.n]) h ))
    rw [zE] at HI HOF KP KE Kh KG
    replace KT := zP zE KT
    clear zE
    replace KT : Hid (ws23.heap[w.heap.size + 1]? = some (.cells #[.slice Ah b.h.length ch, .slice As b.s.length cs, .slice Ao b.o.length co, .slice Ar b.r.length cr, .int .i64 b.n] 27 (0, 0))) := KT.out
    clear hws23
    go_wp2_with fail
    refine bodyPost_ret (v := .agg #[.slice Ah b.h.length ch, .slice As b.s.length cs, .slice Ao b.o.length co, .slice Ar b.r.length cr, .int .i64 b.n]) ?_ rfl ⟨_, rfl, by first | exact BkEi.same _ _ _ | (rw [if_neg (by simp)]; exact BkEi.same _ _ _), HI.out, HOF.out⟩
    exact ret_cell rfl _ _ _ _ _ _ rfl KT.out Tryz.underlying27 rfl (by kernel_rfl)
  | true =>
    have c_p_0 := cells_of_blk KP.out 0 _ rfl
    obtain ⟨vX_g, hX_g⟩ := KG.out
    have c_g_0 := zC hX_g
    replace hX_g := zH hX_g
    go_wp2_with fail
    clear c_p_0 hX_g c_g_0
    refine wp_region_D [] (fun wz : World => Hid (wz.heap[w.heap.size]? = some (.cells #[.pointer (some ⟨g, 0, none⟩)] 73 (0, 0))) ∧ Hid (wz.heap[w.heap.size + 2]? = some (.cells #[.int .i64 e.kind, .int .i64 e.acc, .int .i64 e.ord, .int .i64 e.sym, .int .i64 e.side, .int .i64 e.qty, .int .i64 e.px] 29 (0, 0))) ∧ Hid (∃ vX : Value, wz.heap[g]? = some (.cells #[.slice Ah b.h.length ch, .slice As b.s.length cs, .slice Ao b.o.length co, .slice Ar b.r.length cr, .int .i64 b.n, .int .i64 e.kind, .int .i64 e.acc, .int .i64 e.ord, .int .i64 e.sym, .int .i64 e.side, .int .i64 e.qty, .int .i64 e.px, .int .i64 rate, vX] 75 (0, 0)))) 19 #[false, false, false, false, false, false, false, false, false, false, false, false, false, false, false, false, false, false, false] (by kernel_rfl) (by kernel_rfl) (by kernel_rfl) ?_
    obtain ⟨wd24, hwd24⟩ : ∃ wd24 : World, { wl22 with drawn := wl22.drawn + 1 } = wd24 := ⟨_, rfl⟩
    rw [hwd24]
    have hbwd24 : Below wl22.heap.size wl22 wd24 := by rw [← hwd24]; exact (Below.refl _ _).drew
    replace KP := zK KP hbwd24
    replace KT := zK KT hbwd24
    replace KE := zK KE hbwd24
    replace Kh := zK Kh hbwd24
    replace KG := zH ((KG.out.imp fun _ h => blk_call h hbwd24))
    replace HOF := zH (HOF.out.trans (Off.of hbwd24))
    replace HI := zH (HI.out.kept hbwd24)
    clear hwd24 hbwd24
    refine pure_moreD [0, 1, 2, 3, 4, 5, 6, 7, 8, 9, 10, 11, 12, 13, 14, 15, 16] 2 (L' := #[true, true, true, true, true, true, true, true, true, true, true, true, true, true, true, true, true, false, false]) (by kernel_rfl) (by kernel_rfl) ⟨KP, KE, KG⟩ ?_
    simp only [opsAt, List.getElem?_toArray, List.getElem?_cons_zero, List.getElem?_cons_succ]
    refine pure_atG (.pointer (some ⟨g, 0, none⟩)) rfl (fun wz hC => by have c0 := cells_of_blk hC.1.out 0 _ rfl; unfold execOp; go_simp) ?_
    refine pure_atG (.pointer (some ⟨g, 0, none⟩)) rfl (fun wz _ => by unfold execOp; go_simp) ?_
    refine pure_atG (.pointer (some ⟨g, 0, none⟩)) rfl (fun wz _ => by unfold execOp; go_simp) ?_
    refine pure_atG (.agg #[.slice Ah b.h.length ch, .slice As b.s.length cs, .slice Ao b.o.length co, .slice Ar b.r.length cr, .int .i64 b.n]) rfl (fun wz hC => by obtain ⟨vX, hX⟩ := hC.2.2.out; have c0 := cells_of_blk hX 0 _ rfl; have c1 := cells_of_blk hX 1 _ rfl; have c2 := cells_of_blk hX 2 _ rfl; have c3 := cells_of_blk hX 3 _ rfl; have c4 := cells_of_blk hX 4 _ rfl; unfold execOp; go_simp) ?_
    refine pure_atG (.pointer (some ⟨w.heap.size + 2, 2, none⟩)) rfl (fun wz _ => by unfold execOp; go_simp) ?_
    refine pure_atG (.int .i64 e.ord) rfl (fun wz hC => by have c0 := cells_of_blk hC.2.1.out 2 _ rfl; unfold execOp; go_simp) ?_
    refine pure_atG (.pointer (some ⟨w.heap.size + 2, 1, none⟩)) rfl (fun wz _ => by unfold execOp; go_simp) ?_
    refine pure_atG (.int .i64 e.acc) rfl (fun wz hC => by have c0 := cells_of_blk hC.2.1.out 1 _ rfl; unfold execOp; go_simp) ?_
    refine pure_atG (.pointer (some ⟨w.heap.size + 2, 3, none⟩)) rfl (fun wz _ => by unfold execOp; go_simp) ?_
    refine pure_atG (.int .i64 e.sym) rfl (fun wz hC => by have c0 := cells_of_blk hC.2.1.out 3 _ rfl; unfold execOp; go_simp) ?_
    refine pure_atG (.pointer (some ⟨w.heap.size + 2, 4, none⟩)) rfl (fun wz _ => by unfold execOp; go_simp) ?_
    refine pure_atG (.int .i64 e.side) rfl (fun wz hC => by have c0 := cells_of_blk hC.2.1.out 4 _ rfl; unfold execOp; go_simp) ?_
    refine pure_atG (.pointer (some ⟨w.heap.size + 2, 5, none⟩)) rfl (fun wz _ => by unfold execOp; go_simp) ?_
    refine pure_atG (.int .i64 e.qty) rfl (fun wz hC => by have c0 := cells_of_blk hC.2.1.out 5 _ rfl; unfold execOp; go_simp) ?_
    refine pure_atG (.pointer (some ⟨w.heap.size + 2, 6, none⟩)) rfl (fun wz _ => by unfold execOp; go_simp) ?_
    refine pure_atG (.int .i64 e.px) rfl (fun wz hC => by have c0 := cells_of_blk hC.2.1.out 6 _ rfl; unfold execOp; go_simp) ?_
    refine pure_atG (.agg #[.int .i64 e.ord, .int .i64 e.acc, .int .i64 e.sym, .int .i64 e.side, .int .i64 e.qty, .int .i64 e.px]) rfl (fun wz _ => by unfold execOp; go_simp) ?_
    unfold wpPure
    go_simp
    refine wpAnyD_one 17 (f := 1) (L' := #[true, true, true, true, true, true, true, true, true, true, true, true, true, true, true, true, true, true, false]) (by kernel_rfl) (by kernel_rfl) rfl rfl ?_
    go_wp2_with fail
    with_reducible refine (q5.out _ (zH (B0.out.call HI.out.below))).mono ?_
    rintro r wc25 ⟨v5, rfl, hO, hb⟩
    replace KP := zK KP hb
    replace KT := zK KT hb
    replace KE := zK KE hb
    replace Kh := zK Kh hb
    replace KG := zH ((KG.out.imp fun _ h => blk_call h hb))
    replace HOF := zH (HOF.out.trans (Off.of hb))
    replace HI := zH (HI.out.kept hb)
    clear hb
    obtain ⟨U1, u1, U2, u2, U3, u3, U4, u4, rfl⟩ := hO.form
    have HO := zH hO
    clear hO
    go_wp2_with fail
    rw [StepQ_normal]
    refine ⟨fun _ => ⟨KP, KE, KG⟩, ?_⟩
    have c_t_0 := zC KT.out
    have fc_t_0 := zF KT.out
    refine wpAnyD_one 18 (f := 0) (L' := #[true, true, true, true, true, true, true, true, true, true, true, true, true, true, true, true, true, true, true]) (by kernel_rfl) (by kernel_rfl) rfl rfl ?_
    go_wp2_with fail
    obtain ⟨ws26, hws26⟩ : ∃ ws26 : World, ((((wc25.setCell ⟨w.heap.size + 1, 0, none⟩ (.slice U1 nb.h.length u1)).setCell ⟨w.heap.size + 1, 1, none⟩ (.slice U2 nb.s.length u2)).setCell ⟨w.heap.size + 1, 2, none⟩ (.slice U3 nb.o.length u3)).setCell ⟨w.heap.size + 1, 3, none⟩ (.slice U4 nb.r.length u4)).setCell ⟨w.heap.size + 1, 4, none⟩ (.int .i64 nb.n) = ws26 := ⟨_, rfl⟩
    rw [hws26]
    clear c_t_0 fc_t_0
    replace HO : Hid _ := zH (HO.out.put KT.out 0 [.slice U1 nb.h.length u1, .slice U2 nb.s.length u2, .slice U3 nb.o.length u3, .slice U4 nb.r.length u4, .int .i64 nb.n])
    replace HI := zH (HI.out.put KT.out (by decide) (by decide) LT.out 0 [.slice U1 nb.h.length u1, .slice U2 nb.s.length u2, .slice U3 nb.o.length u3, .slice U4 nb.r.length u4, .int .i64 nb.n])
    replace HOF := zH (Off.freshC MT.out HOF.out 0 [.slice U1 nb.h.length u1, .slice U2 nb.s.length u2, .slice U3 nb.o.length u3, .slice U4 nb.r.length u4, .int .i64 nb.n])
    replace KP := zH (putC_oth (blk_ne KP.out KT.out (by decide)) (o := 0) (vs := [.slice U1 nb.h.length u1, .slice U2 nb.s.length u2, .slice U3 nb.o.length u3, .slice U4 nb.r.length u4, .int .i64 nb.n]) KP.out )
    replace KE := zH (putC_oth (blk_ne KE.out KT.out (by decide)) (o := 0) (vs := [.slice U1 nb.h.length u1, .slice U2 nb.s.length u2, .slice U3 nb.o.length u3, .slice U4 nb.r.length u4, .int .i64 nb.n]) KE.out )
    replace Kh := zH (putC_oth (blk_ne Kh.out KT.out (by decide)) (o := 0) (vs := [.slice U1 nb.h.length u1, .slice U2 nb.s.length u2, .slice U3 nb.o.length u3, .slice U4 nb.r.length u4, .int .i64 nb.n]) Kh.out )
    replace KG := zH ((KG.out.imp fun _ h => putC_oth (blk_ne h KT.out (by decide)) (o := 0) (vs := [.slice U1 nb.h.length u1, .slice U2 nb.s.length u2, .slice U3 nb.o.length u3, .slice U4 nb.r.length u4, .int .i64 nb.n]) h ))
    replace KT := zH (putC_blk (o := 0) (vs := [.slice U1 nb.h.length u1, .slice U2 nb.s.length u2, .slice U3 nb.o.length u3, .slice U4 nb.r.length u4, .int .i64 nb.n]) KT.out)
    rw [show putC wc25 (w.heap.size + 1) 0 [.slice U1 nb.h.length u1, .slice U2 nb.s.length u2, .slice U3 nb.o.length u3, .slice U4 nb.r.length u4, .int .i64 nb.n] = ws26 from hws26] at HO
    rw [show putC wc25 (w.heap.size + 1) 0 [.slice U1 nb.h.length u1, .slice U2 nb.s.length u2, .slice U3 nb.o.length u3, .slice U4 nb.r.length u4, .int .i64 nb.n] = ws26 from hws26] at HI HOF KP KT KE Kh KG
    replace KT : Hid (ws26.heap[w.heap.size + 1]? = some (.cells #[.slice U1 nb.h.length u1, .slice U2 nb.s.length u2, .slice U3 nb.o.length u3, .slice U4 nb.r.length u4, .int .i64 nb.n] 27 (0, 0))) := KT.out
    clear hws26
    rw [StepQ_normal]
    refine ⟨fun _ => ⟨KP, KE, KG⟩, ?_⟩
    refine ⟨by kernel_rfl, ?_⟩
    rw [OnlyN_normal]
    go_wp2_with fail
    refine bodyPost_ret (v := .agg #[.slice U1 nb.h.length u1, .slice U2 nb.s.length u2, .slice U3 nb.o.length u3, .slice U4 nb.r.length u4, .int .i64 nb.n]) ?_ rfl ⟨_, rfl, BkEi.own (HO.out.mono (Nat.zero_le _)), HI.out, HOF.out⟩
    exact ret_cell rfl _ _ _ _ _ _ rfl KT.out Tryz.underlying27 rfl (by kernel_rfl)
end Go.Proofs.YtjcdpmianmgiaaaGreatDoor
