/- Part 18 of what the claim rests on. -/
import Derived.Test.YtjcdpmianmgiaaaGreatDoorF00
import Derived.Test.YtjcdpmianmgiaaaGreatDoorF13
import Derived.Test.YtjcdpmianmgiaaaGreatDoorF15
namespace Go.Proofs.YtjcdpmianmgiaaaGreatDoor
open Go Go.RowKit
set_option linter.unusedVariables false
set_option linter.unusedSimpArgs false
set_option maxRecDepth 100000 in
set_option maxHeartbeats 16000000 in
theorem limit_any (w0 : World) (g : Nat) (vh vs vo vr : Value) (b : Bk) (e : Ev) (rate : Int) (hT : Hid (Law16 w0)) (B0 : Hid (BkAt w0 (.agg #[vh, vs, vo, vr, .int .i64 b.n]) b)) (hs : Hid b.Small) (hR : Hid b.Rise) (hE : Hid e.I64s) (l0 : List Stp) (hl0 : Hid (l0.length ≤ 50)) (w : World) (HI : Hid (Gt w0 g vh vs vo vr b e rate l0 w)) :
    Calls Tryz.prog 37 #[.pointer (some ⟨g, 0, none⟩)] w fun r w' => ∃ v, r = .returned v ∧ BkEi w' (.agg #[vh, vs, vo, vr, .int .i64 b.n]) v b (if (limS b e).all (·.holds) then limB b e else b) ∧ Gt w0 g vh vs vo vr b e rate (l0 ++ cutL (limS b e)) w' ∧ Off w w' := by
  obtain ⟨_, _, _, _, hv, r1, r2, r3, r4⟩ := B0.out
  injection hv with hv
  simp only [Array.mk.injEq, List.cons.injEq, and_true] at hv
  obtain ⟨rfl, rfl, rfl, rfl, _⟩ := hv
  have LH : Hid (∀ r ∈ b.h, r.length = 4) := (by obtain ⟨_, _, _, h, _⟩ := r1; exact h)
  have LO : Hid (∀ r ∈ b.o, r.length = 6) := (by obtain ⟨_, _, _, h, _⟩ := r3; exact h)
  have LR : Hid (∀ r ∈ b.r, r.length = 2) := (by obtain ⟨_, _, _, h, _⟩ := r4; exact h)
  obtain ⟨Ah, ch, rfl, _⟩ := r1
  obtain ⟨As, cs, rfl, _⟩ := r2
  obtain ⟨Ao, co, rfl, _⟩ := r3
  obtain ⟨Ar, cr, rfl, _⟩ := r4
  have F1 : b.h.length ≤ 1000000 ∧ b.o.length ≤ 1000000 ∧ b.r.length ≤ 1000000 := by have := hs.out; unfold Bk.Small at this; omega
  have HL1 := zH F1
  clear F1
  have KG := zH (HI.out.blk.imp fun _ h => h.1)
  have HOF : Hid (Off w w) := Off.refl _
  obtain ⟨rh, FH, hl1, hx1⟩ := rec_of LH.out (isId e.acc)
  match rh, hl1, hx1 with
  | [h0, h1, h2, h3], _, hx1 =>
  have hF : FH = hasH b e.acc := recOf_snd hx1
  subst hF
  have HX1 := zH hx1
  clear hx1
  obtain ⟨FA, hFA⟩ : ∃ FA, (limS b e).all (·.holds) = FA := ⟨_, rfl⟩
  rw [hFA]
  replace hFA := zH hFA
  have hrec : recH b e.acc = [h0, h1, h2, h3] := by unfold recH; rw [HX1.out]
  have hlb : limB b e = { b with h := setH h0 [h0, h1, e.qty, e.px] false b.h } := by unfold limB; rw [hrec]; rfl
  rw [hlb]
  clear hlb hrec
  obtain ⟨nb, hnb⟩ : ∃ nb : Bk, ({ b with h := setH h0 [h0, h1, e.qty, e.px] false b.h } : Bk) = nb := ⟨_, rfl⟩
  have q5 : Hid (∀ wz : World, Hid (BkAt wz (.agg #[.slice Ah b.h.length ch, .slice As b.s.length cs, .slice Ao b.o.length co, .slice Ar b.r.length cr, .int .i64 b.n]) b) → Calls Tryz.prog 88 #[.agg #[.slice Ah b.h.length ch, .slice As b.s.length cs, .slice Ao b.o.length co, .slice Ar b.r.length cr, .int .i64 b.n], .agg #[.int .i64 h0, .int .i64 h1, .int .i64 e.qty, .int .i64 e.px]] wz fun r w' => ∃ v', r = .returned v' ∧ BkOwn w' wz.heap.size v' nb ∧ Below wz.heap.size wz w') := (show _ from fun wz hv => by rw [← hnb]; exact SetHolder_any _ b h0 h1 e.qty e.px wz hv hs hR.out.1)
  rw [hnb]
  clear hnb
  obtain ⟨wb, hwb⟩ : ∃ wb : World, w.alloc (.cells #[.slice none 0 0, .slice none 0 0, .slice none 0 0, .slice none 0 0, .int .i64 0] 27) = wb := ⟨_, rfl⟩
  have hb : Below w.heap.size w wb := by rw [← hwb]; exact below_alloc (Below.refl _ _) (Nat.le_refl _) _
  have KT : Hid (wb.heap[w.heap.size]? = some (.cells #[.slice none 0 0, .slice none 0 0, .slice none 0 0, .slice none 0 0, .int .i64 0] 27 (0, 0))) := by rw [← hwb]; exact heap_new _ _
  have LT : Hid (w0.heap.size ≤ w.heap.size) := HI.out.below.size
  have MT : Hid (w.heap.size ≤ w.heap.size) := Nat.le_refl _
  replace KG := zH ((KG.out.imp fun _ h => blk_call h hb))
  replace HI := zH (HI.out.kept hb)
  replace HOF := zH (HOF.out.trans (Off.of hb))
  replace hwb := zH hwb
  clear hb
  go_enter Tryz.func37, Tryz.ntmps37
  go_wp2_with fail
  rw [hwb.out]
  clear hwb
  refine wp_region_D [] (fun wz : World => Hid (∃ vX : Value, wz.heap[g]? = some (.cells #[.slice Ah b.h.length ch, .slice As b.s.length cs, .slice Ao b.o.length co, .slice Ar b.r.length cr, .int .i64 b.n, .int .i64 e.kind, .int .i64 e.acc, .int .i64 e.ord, .int .i64 e.sym, .int .i64 e.side, .int .i64 e.qty, .int .i64 e.px, .int .i64 rate, vX] 75 (0, 0)))) 16 #[false, false, false, false, false, false, false, false, false, false, false, false, false, false, false, false] (by kernel_rfl) (by kernel_rfl) (by kernel_rfl) ?_
  obtain ⟨wd1, hwd1⟩ : ∃ wd1 : World, { wb with drawn := wb.drawn + 1 } = wd1 := ⟨_, rfl⟩
  rw [hwd1]
  have hbwd1 : Below wb.heap.size wb wd1 := by rw [← hwd1]; exact (Below.refl _ _).drew
  replace KG := zH ((KG.out.imp fun _ h => blk_call h hbwd1))
  replace KT := zK KT hbwd1
  replace HI := zH (HI.out.kept hbwd1)
  replace HOF := zH (HOF.out.trans (Off.of hbwd1))
  clear hwd1 hbwd1
  refine pure_moreD [0, 1, 2, 3, 4, 5, 6, 7, 8] 7 (L' := #[true, true, true, true, true, true, true, true, true, false, false, false, false, false, false, false]) (by kernel_rfl) (by kernel_rfl) KG ?_
  simp only [opsAt, List.getElem?_toArray, List.getElem?_cons_zero, List.getElem?_cons_succ]
  refine pure_moveG rfl rfl ?_
  refine pure_atG (.pointer (some ⟨g, 0, none⟩)) rfl (fun wz _ => by unfold execOp; go_simp) ?_
  refine pure_atG (.pointer (some ⟨g, 0, none⟩)) rfl (fun wz _ => by unfold execOp; go_simp) ?_
  refine pure_atG (.agg #[.slice Ah b.h.length ch, .slice As b.s.length cs, .slice Ao b.o.length co, .slice Ar b.r.length cr, .int .i64 b.n]) rfl (fun wz hC => by obtain ⟨vX, hX⟩ := hC.out; have c0 := cells_of_blk hX 0 _ rfl; have c1 := cells_of_blk hX 1 _ rfl; have c2 := cells_of_blk hX 2 _ rfl; have c3 := cells_of_blk hX 3 _ rfl; have c4 := cells_of_blk hX 4 _ rfl; unfold execOp; go_simp) ?_
  refine pure_moveG rfl rfl ?_
  refine pure_atG (.pointer (some ⟨g, 0, none⟩)) rfl (fun wz _ => by unfold execOp; go_simp) ?_
  refine pure_atG (.pointer (some ⟨g, 5, none⟩)) rfl (fun wz _ => by unfold execOp; go_simp) ?_
  refine pure_atG (.pointer (some ⟨g, 6, none⟩)) rfl (fun wz _ => by unfold execOp; go_simp) ?_
  refine pure_atG (.int .i64 e.acc) rfl (fun wz hC => by obtain ⟨vX, hX⟩ := hC.out; have c0 := cells_of_blk hX 6 _ rfl; unfold execOp; go_simp) ?_
  unfold wpPure
  go_simp
  have hzd := zH HI.out.below.size
  have hzo := zH HOF.out.size
  refine wpAnyD_ca 9 13 [10, 11, 12] 15 3 2 (.tuple #[.agg #[.int .i64 h0, .int .i64 h1, .int .i64 h2, .int .i64 h3], .bool (hasH b e.acc)]) #[.int .i64 0, .int .i64 0, .int .i64 0, .int .i64 0] 82 [(5, .tuple #[.agg #[.int .i64 h0, .int .i64 h1, .int .i64 h2, .int .i64 h3], .bool (hasH b e.acc)]), (16, .agg #[.int .i64 h0, .int .i64 h1, .int .i64 h2, .int .i64 h3]), (17, .bool (hasH b e.acc))] [15, 3, 5, 16, 17] (by kernel_rfl) (by kernel_rfl) (by kernel_rfl) (by kernel_rfl) (by kernel_rfl) (L2 := #[true, true, true, true, true, true, true, true, true, true, true, true, true, true, false, false]) (by kernel_rfl) (by kernel_rfl) (by kernel_rfl) ?_ ?_ ?_ ?_ ?_
  · exact can_call 77 #[.agg #[.slice Ah b.h.length ch, .slice As b.s.length cs, .slice Ao b.o.length co, .slice Ar b.r.length cr, .int .i64 b.n], .int .i64 e.acc] ⟨_, _, _, rfl, rfl, rfl, rfl, by simp [Act.eval, Act.put], by simp⟩ (fun w => enters_of Tryz.func77 (by kernel_rfl) rfl _ w) (fun wz hz => (Holder_any _ b e.acc h0 h1 h2 h3 (hasH b e.acc) wz (zH (B0.out.call (HI.out.below.trans (hz.mono HI.out.below.size)))) HL1.out.1 hR.out.1 HX1).mono fun x w' ⟨h1, h2⟩ => ⟨_, h1, rfl, h2⟩)
  · exact can_alloc _ rfl rfl rfl #[.int .i64 0, .int .i64 0, .int .i64 0, .int .i64 0] 82 (fun ev wz => by unfold execOp; go_simp) (fun wz hz => ⟨rfl, heap_new wz _⟩)
  · exact fun wz hz => (KG.out.imp fun _ h => blk_call h hz)
  · intro a' K ha hk
    simp only [opsAt, List.getElem?_toArray, List.getElem?_cons_zero, List.getElem?_cons_succ]
    rcases ha with rfl | ⟨p, rfl⟩
    · refine pure_atG (.tuple #[.agg #[.int .i64 h0, .int .i64 h1, .int .i64 h2, .int .i64 h3], .bool (hasH b e.acc)]) rfl (fun wz _ => by unfold execOp; go_simp) ?_
      refine pure_atG (.agg #[.int .i64 h0, .int .i64 h1, .int .i64 h2, .int .i64 h3]) rfl (fun wz _ => by unfold execOp; go_simp) ?_
      refine pure_atG (.bool (hasH b e.acc)) rfl (fun wz _ => by unfold execOp; go_simp) ?_
      unfold wpPure
      exact hk
    · refine pure_atG (.tuple #[.agg #[.int .i64 h0, .int .i64 h1, .int .i64 h2, .int .i64 h3], .bool (hasH b e.acc)]) rfl (fun wz _ => by unfold execOp; go_simp) ?_
      refine pure_atG (.agg #[.int .i64 h0, .int .i64 h1, .int .i64 h2, .int .i64 h3]) rfl (fun wz _ => by unfold execOp; go_simp) ?_
      refine pure_atG (.bool (hasH b e.acc)) rfl (fun wz _ => by unfold execOp; go_simp) ?_
      unfold wpPure
      exact hk
  intro qwf2 wf2 m2 g2 hb
  have Kh := zH g2
  have Lh := zH (Nat.le_trans hzd.out m2)
  have Mh := zH (Nat.le_trans hzo.out m2)
  clear g2 m2 hzd hzo
  simp only [putsV]
  go_simp
  replace KG := zH ((KG.out.imp fun _ h => blk_call h hb))
  replace KT := zK KT hb
  replace HI := zH (HI.out.kept hb)
  replace HOF := zH (HOF.out.trans (Off.of hb))
  clear hb
  have c_h_0 := zC Kh.out
  have fc_h_0 := zF Kh.out
  refine wpAnyD_one 14 (f := 1) (L' := #[true, true, true, true, true, true, true, true, true, true, true, true, true, true, true, false]) (by kernel_rfl) (by kernel_rfl) rfl rfl ?_
  go_wp2_with fail
  obtain ⟨ws3, hws3⟩ : ∃ ws3 : World, (((wf2.setCell ⟨qwf2, 0, none⟩ (.int .i64 h0)).setCell ⟨qwf2, 1, none⟩ (.int .i64 h1)).setCell ⟨qwf2, 2, none⟩ (.int .i64 h2)).setCell ⟨qwf2, 3, none⟩ (.int .i64 h3) = ws3 := ⟨_, rfl⟩
  rw [hws3]
  clear c_h_0 fc_h_0
  have zE : putC wf2 (qwf2) 0 [.int .i64 h0, .int .i64 h1, .int .i64 h2, .int .i64 h3] = ws3 := hws3
  replace HI := zH (HI.out.put Kh.out (by decide) (by decide) Lh.out 0 [.int .i64 h0, .int .i64 h1, .int .i64 h2, .int .i64 h3])
  replace HOF := zH (Off.freshC Mh.out HOF.out 0 [.int .i64 h0, .int .i64 h1, .int .i64 h2, .int .i64 h3])
  replace KG := zH ((KG.out.imp fun _ h => putC_oth (blk_ne h Kh.out (by decide)) (o := 0) (vs := [.int .i64 h0, .int .i64 h1, .int .i64 h2, .int .i64 h3]) h ))
  replace KT := zH (putC_oth (blk_ne KT.out Kh.out (by decide)) (o := 0) (vs := [.int .i64 h0, .int .i64 h1, .int .i64 h2, .int .i64 h3]) KT.out )
  rw [zE] at HI HOF KG KT
  replace Kh := zP zE Kh
  clear zE
  replace Kh : Hid (ws3.heap[qwf2]? = some (.cells #[.int .i64 h0, .int .i64 h1, .int .i64 h2, .int .i64 h3] 82 (0, 0))) := Kh.out
  clear hws3
  rw [StepQ_normal]
  refine ⟨fun _ => KG, ?_⟩
  refine pure_moreD [15] 0 (L' := #[true, true, true, true, true, true, true, true, true, true, true, true, true, true, true, true]) (by kernel_rfl) (by kernel_rfl) KG ?_
  simp only [opsAt, List.getElem?_toArray, List.getElem?_cons_zero, List.getElem?_cons_succ]
  refine pure_atG (.bool (hasH b e.acc)) rfl (fun wz _ => by unfold execOp; go_simp) ?_
  unfold wpPure
  go_simp
  refine ⟨by kernel_rfl, ?_⟩
  rw [OnlyN_normal]
  obtain ⟨vX_g, hX_g⟩ := KG.out
  have c_g_0 := zC hX_g
  replace hX_g := zH hX_g
  have c_h_0 := zC Kh.out
  go_wp2_with fail
  clear hX_g c_g_0 c_h_0
  refine wp_region_D [] (fun wz : World => Hid (∃ vX : Value, wz.heap[g]? = some (.cells #[.slice Ah b.h.length ch, .slice As b.s.length cs, .slice Ao b.o.length co, .slice Ar b.r.length cr, .int .i64 b.n, .int .i64 e.kind, .int .i64 e.acc, .int .i64 e.ord, .int .i64 e.sym, .int .i64 e.side, .int .i64 e.qty, .int .i64 e.px, .int .i64 rate, vX] 75 (0, 0)))) 20 #[false, false, false, false, false, false, false, false, false, false, false, false, false, false, false, false, false, false, false, false] (by kernel_rfl) (by kernel_rfl) (by kernel_rfl) ?_
  obtain ⟨wd4, hwd4⟩ : ∃ wd4 : World, { ws3 with drawn := ws3.drawn + 1 } = wd4 := ⟨_, rfl⟩
  rw [hwd4]
  have hbwd4 : Below ws3.heap.size ws3 wd4 := by rw [← hwd4]; exact (Below.refl _ _).drew
  replace KG := zH ((KG.out.imp fun _ h => blk_call h hbwd4))
  replace KT := zK KT hbwd4
  replace Kh := zK Kh hbwd4
  replace HI := zH (HI.out.kept hbwd4)
  replace HOF := zH (HOF.out.trans (Off.of hbwd4))
  clear hwd4 hbwd4
  refine pure_moreD [0, 1, 4, 5, 6, 7, 8, 9, 11, 12, 13, 14, 15, 16] 6 (L' := #[true, true, false, false, true, true, true, true, true, true, false, true, true, true, true, true, true, false, false, false]) (by kernel_rfl) (by kernel_rfl) KG ?_
  simp only [opsAt, List.getElem?_toArray, List.getElem?_cons_zero, List.getElem?_cons_succ]
  refine pure_moveG rfl rfl ?_
  refine pure_moveG rfl rfl ?_
  refine pure_moveG rfl rfl ?_
  refine pure_moveG rfl rfl ?_
  refine pure_atG (.pointer (some ⟨g, 0, none⟩)) rfl (fun wz _ => by unfold execOp; go_simp) ?_
  refine pure_atG (.pointer (some ⟨g, 5, none⟩)) rfl (fun wz _ => by unfold execOp; go_simp) ?_
  refine pure_atG (.pointer (some ⟨g, 10, none⟩)) rfl (fun wz _ => by unfold execOp; go_simp) ?_
  refine pure_atG (.int .i64 e.qty) rfl (fun wz hC => by obtain ⟨vX, hX⟩ := hC.out; have c0 := cells_of_blk hX 10 _ rfl; unfold execOp; go_simp) ?_
  refine pure_moveG rfl rfl ?_
  refine pure_moveG rfl rfl ?_
  refine pure_atG (.pointer (some ⟨g, 0, none⟩)) rfl (fun wz _ => by unfold execOp; go_simp) ?_
  refine pure_atG (.pointer (some ⟨g, 5, none⟩)) rfl (fun wz _ => by unfold execOp; go_simp) ?_
  refine pure_atG (.pointer (some ⟨g, 11, none⟩)) rfl (fun wz _ => by unfold execOp; go_simp) ?_
  refine pure_atG (.int .i64 e.px) rfl (fun wz hC => by obtain ⟨vX, hX⟩ := hC.out; have c0 := cells_of_blk hX 11 _ rfl; unfold execOp; go_simp) ?_
  unfold wpPure
  go_simp
  refine wpAnyD_one 2 (f := 5) (L' := #[true, true, true, false, true, true, true, true, true, true, false, true, true, true, true, true, true, false, false, false]) (by kernel_rfl) (by kernel_rfl) rfl rfl ?_
  go_wp2_with fail
  with_reducible refine (gbit_any _ _).mono ?_
  rintro r _ ⟨rfl, rfl⟩
  go_wp2_with fail
  rw [StepQ_normal]
  refine ⟨fun _ => KG, ?_⟩
  refine wpAnyD_one 3 (f := 4) (L' := #[true, true, true, true, true, true, true, true, true, true, false, true, true, true, true, true, true, false, false, false]) (by kernel_rfl) (by kernel_rfl) rfl rfl ?_
  go_wp2_with fail
  with_reducible refine (sides_any w0 g (.slice Ah b.h.length ch) (.slice As b.s.length cs) (.slice Ao b.o.length co) (.slice Ar b.r.length cr) b e rate hT 10 (bitI (hasH b e.acc)) (1) (gfit _ _ _ (by omega) (i64_bit _) (i64_lit (by omega))) _).mono ?_
  rintro e wc6 ⟨f1, rfl, hl1, hb⟩
  replace KG := zH ((KG.out.imp fun _ h => blk_call h hb))
  replace KT := zK KT hb
  replace Kh := zK Kh hb
  replace HI := zH (HI.out.kept hb)
  replace HOF := zH (HOF.out.trans (Off.of hb))
  clear hb
  obtain ⟨J1, j1, rfl⟩ := hl1.form
  have HK1 := zH hl1
  clear hl1
  go_wp2_with fail
  rw [StepQ_normal]
  refine ⟨fun _ => KG, ?_⟩
  refine wpAnyD_one 10 (f := 3) (L' := #[true, true, true, true, true, true, true, true, true, true, true, true, true, true, true, true, true, false, false, false]) (by kernel_rfl) (by kernel_rfl) rfl rfl ?_
  go_wp2_with fail
  with_reducible refine (sides_any w0 g (.slice Ah b.h.length ch) (.slice As b.s.length cs) (.slice Ao b.o.length co) (.slice Ar b.r.length cr) b e rate hT 8 (e.qty) (0) (gfit _ _ _ (by omega) hE.out.qty (i64_lit (by omega))) _).mono ?_
  rintro e wc7 ⟨f2, rfl, hl2, hb⟩
  replace KG := zH ((KG.out.imp fun _ h => blk_call h hb))
  replace KT := zK KT hb
  replace Kh := zK Kh hb
  replace HI := zH (HI.out.kept hb)
  replace HOF := zH (HOF.out.trans (Off.of hb))
  replace HK1 := zH (HK1.out.off (Off.of hb))
  clear hb
  obtain ⟨J2, j2, rfl⟩ := hl2.form
  have HK2 := zH hl2
  clear hl2
  go_wp2_with fail
  rw [StepQ_normal]
  refine ⟨fun _ => KG, ?_⟩
  refine wpAnyD_one 17 (f := 2) (L' := #[true, true, true, true, true, true, true, true, true, true, true, true, true, true, true, true, true, true, false, false]) (by kernel_rfl) (by kernel_rfl) rfl rfl ?_
  go_wp2_with fail
  with_reducible refine (sides_any w0 g (.slice Ah b.h.length ch) (.slice As b.s.length cs) (.slice Ao b.o.length co) (.slice Ar b.r.length cr) b e rate hT 9 (e.px) (0) (gfit _ _ _ (by omega) hE.out.px (i64_lit (by omega))) _).mono ?_
  rintro e wc8 ⟨f3, rfl, hl3, hb⟩
  replace KG := zH ((KG.out.imp fun _ h => blk_call h hb))
  replace KT := zK KT hb
  replace Kh := zK Kh hb
  replace HI := zH (HI.out.kept hb)
  replace HOF := zH (HOF.out.trans (Off.of hb))
  replace HK1 := zH (HK1.out.off (Off.of hb))
  replace HK2 := zH (HK2.out.off (Off.of hb))
  clear hb
  obtain ⟨J3, j3, rfl⟩ := hl3.form
  have HK3 := zH hl3
  clear hl3
  go_wp2_with fail
  rw [StepQ_normal]
  refine ⟨fun _ => KG, ?_⟩
  refine wpAnyD_one 18 (f := 1) (L' := #[true, true, true, true, true, true, true, true, true, true, true, true, true, true, true, true, true, true, true, false]) (by kernel_rfl) (by kernel_rfl) rfl rfl ?_
  go_wp2_with fail
  obtain ⟨wa9, hwa9⟩ : ∃ wa9 : World, wc8.alloc (.cells #[.func (.func J1) #[] j1, .func (.func J2) #[] j2, .func (.func J3) #[] j3] 79) = wa9 := ⟨_, rfl⟩
  rw [hwa9]
  have hbwa9 : Below wc8.heap.size wc8 wa9 := by rw [← hwa9]; exact below_alloc (Below.refl _ _) (Nat.le_refl _) _
  replace KG := zH ((KG.out.imp fun _ h => blk_call h hbwa9))
  replace KT := zK KT hbwa9
  replace Kh := zK Kh hbwa9
  replace HI := zH (HI.out.kept hbwa9)
  replace HOF := zH (HOF.out.trans (Off.of hbwa9))
  replace HK1 := zH (HK1.out.off (Off.of hbwa9))
  replace HK2 := zH (HK2.out.off (Off.of hbwa9))
  replace HK3 := zH (HK3.out.off (Off.of hbwa9))
  have Kfs : Hid (wa9.heap[wc8.heap.size]? = some (.cells #[.func (.func J1) #[] j1, .func (.func J2) #[] j2, .func (.func J3) #[] j3] 79 (0, 0))) := by rw [← hwa9]; exact heap_new _ _
  clear hwa9 hbwa9
  rw [StepQ_normal]
  refine ⟨fun _ => KG, ?_⟩
  refine wpAnyD_one 19 (f := 0) (L' := #[true, true, true, true, true, true, true, true, true, true, true, true, true, true, true, true, true, true, true, true]) (by kernel_rfl) (by kernel_rfl) rfl rfl ?_
  go_wp2_with fail
  have qall := zH (all_any (Gt w0 g (.slice Ah b.h.length ch) (.slice As b.s.length cs) (.slice Ao b.o.length co) (.slice Ar b.r.length cr) b e rate) (wc8.heap.size) 3 [(.func (.func J1) #[] j1, sS 10 (bitI (hasH b e.acc)) (1)), (.func (.func J2) #[] j2, sS 8 (e.qty) (0)), (.func (.func J3) #[] j3, sS 9 (e.px) (0))] #[.func (.func J1) #[] j1, .func (.func J2) #[] j2, .func (.func J3) #[] j3] l0 _ rfl rfl Kfs (zH (by intro x hx; simp only [List.mem_cons, List.not_mem_nil, or_false] at hx; rcases hx with rfl | rfl | rfl <;> first | exact HK1.out | exact HK2.out | exact HK3.out)) HI (by have := hl0.out; show _ ≤ _; omega))
  have qall2 : Hid (Calls Tryz.prog 43 #[.slice (some ⟨wc8.heap.size, 0, none⟩) 3 3] wa9 fun r w' => r = .returned (.bool FA) ∧ Gt w0 g (.slice Ah b.h.length ch) (.slice As b.s.length cs) (.slice Ao b.o.length co) (.slice Ar b.r.length cr) b e rate (l0 ++ cutL (limS b e)) w' ∧ Off wa9 w') := by rw [← hFA.out]; exact qall.out
  clear qall
  with_reducible refine qall2.out.mono ?_
  rintro r wl10 ⟨rfl, hI2, ho⟩
  clear qall2 HI HK1 HK2 HK3
  replace KT := zH (ho.blk _ _ _ _ KT.out (by decide) (by decide))
  replace Kh := zH (ho.blk _ _ _ _ Kh.out (by decide) (by decide))
  replace HOF := zH (HOF.out.trans ho)
  clear Kfs KG ho
  have HI := zH hI2
  clear hI2
  have KG := zH (HI.out.blk.imp fun _ h => h.1)
  go_wp2_with fail
  rw [StepQ_normal]
  refine ⟨fun _ => KG, ?_⟩
  refine ⟨by kernel_rfl, ?_⟩
  rw [OnlyN_normal]
  cases FA with
  | false =>
    obtain ⟨vX_g, hX_g⟩ := KG.out
    have c_g_0 := zC hX_g
    replace hX_g := zH hX_g
    have c_t_0 := zC KT.out
    have fc_t_0 := zF KT.out
    go_wp2_with fail
    obtain ⟨ws11, hws11⟩ : ∃ ws11 : World, ((((wl10.setCell ⟨w.heap.size, 0, none⟩ (.slice Ah b.h.length ch)).setCell ⟨w.heap.size, 1, none⟩ (.slice As b.s.length cs)).setCell ⟨w.heap.size, 2, none⟩ (.slice Ao b.o.length co)).setCell ⟨w.heap.size, 3, none⟩ (.slice Ar b.r.length cr)).setCell ⟨w.heap.size, 4, none⟩ (.int .i64 b.n) = ws11 := ⟨_, rfl⟩
    rw [hws11]
    clear hX_g c_g_0 c_t_0 fc_t_0
    have zE : putC wl10 (w.heap.size) 0 [.slice Ah b.h.length ch, .slice As b.s.length cs, .slice Ao b.o.length co, .slice Ar b.r.length cr, .int .i64 b.n] = ws11 := hws11
    replace HI := zH (HI.out.put KT.out (by decide) (by decide) LT.out 0 [.slice Ah b.h.length ch, .slice As b.s.length cs, .slice Ao b.o.length co, .slice Ar b.r.length cr, .int .i64 b.n])
    replace HOF := zH (Off.freshC MT.out HOF.out 0 [.slice Ah b.h.length ch, .slice As b.s.length cs, .slice Ao b.o.length co, .slice Ar b.r.length cr, .int .i64 b.n])
    replace Kh := zH (putC_oth (blk_ne Kh.out KT.out (by decide)) (o := 0) (vs := [.slice Ah b.h.length ch, .slice As b.s.length cs, .slice Ao b.o.length co, .slice Ar b.r.length cr, .int .i64 b.n]) Kh.out )
    replace KG := zH ((KG.out.imp fun _ h => putC_oth (blk_ne h KT.out (by decide)) (o := 0) (vs := [.slice Ah b.h.length ch, .slice As b.s.length cs, .slice Ao b.o.length co, .slice Ar b.r.length cr, .int .i64 b.n]) h ))
    rw [zE] at HI HOF Kh KG
    replace KT := zP zE KT
    clear zE
    replace KT : Hid (ws11.heap[w.heap.size]? = some (.cells #[.slice Ah b.h.length ch, .slice As b.s.length cs, .slice Ao b.o.length co, .slice Ar b.r.length cr, .int .i64 b.n] 27 (0, 0))) := KT.out
    clear hws11
    go_wp2_with fail
    refine bodyPost_ret (v := .agg #[.slice Ah b.h.length ch, .slice As b.s.length cs, .slice Ao b.o.length co, .slice Ar b.r.length cr, .int .i64 b.n]) ?_ rfl ⟨_, rfl, by first | exact BkEi.same _ _ _ | (rw [if_neg (by simp)]; exact BkEi.same _ _ _), HI.out, HOF.out⟩
    exact ret_cell rfl _ _ _ _ _ _ rfl KT.out Tryz.underlying27 rfl (by kernel_rfl)
  | true =>
    obtain ⟨vX_g, hX_g⟩ := KG.out
    have c_g_0 := zC hX_g
    replace hX_g := zH hX_g
    have c_h_0 := zC Kh.out
    have fc_h_0 := zF Kh.out
    go_wp2_with fail
    clear hX_g c_g_0 c_h_0 fc_h_0
    refine wp_region_D [] (fun wz : World => Hid (∃ vX : Value, wz.heap[g]? = some (.cells #[.slice Ah b.h.length ch, .slice As b.s.length cs, .slice Ao b.o.length co, .slice Ar b.r.length cr, .int .i64 b.n, .int .i64 e.kind, .int .i64 e.acc, .int .i64 e.ord, .int .i64 e.sym, .int .i64 e.side, .int .i64 e.qty, .int .i64 e.px, .int .i64 rate, vX] 75 (0, 0)))) 14 #[false, false, false, false, false, false, false, false, false, false, false, false, false, false] (by kernel_rfl) (by kernel_rfl) (by kernel_rfl) ?_
    obtain ⟨wd12, hwd12⟩ : ∃ wd12 : World, { wl10 with drawn := wl10.drawn + 1 } = wd12 := ⟨_, rfl⟩
    rw [hwd12]
    have hbwd12 : Below wl10.heap.size wl10 wd12 := by rw [← hwd12]; exact (Below.refl _ _).drew
    replace KT := zK KT hbwd12
    replace Kh := zK Kh hbwd12
    replace KG := zH ((KG.out.imp fun _ h => blk_call h hbwd12))
    replace HOF := zH (HOF.out.trans (Off.of hbwd12))
    replace HI := zH (HI.out.kept hbwd12)
    clear hwd12 hbwd12
    refine pure_moreD [0, 1, 2, 3, 4, 5, 6, 7, 8, 9, 10] 3 (L' := #[true, true, true, true, true, true, true, true, true, true, true, false, false, false]) (by kernel_rfl) (by kernel_rfl) KG ?_
    simp only [opsAt, List.getElem?_toArray, List.getElem?_cons_zero, List.getElem?_cons_succ]
    refine pure_moveG rfl rfl ?_
    refine pure_atG (.pointer (some ⟨g, 0, none⟩)) rfl (fun wz _ => by unfold execOp; go_simp) ?_
    refine pure_atG (.pointer (some ⟨g, 5, none⟩)) rfl (fun wz _ => by unfold execOp; go_simp) ?_
    refine pure_atG (.pointer (some ⟨g, 10, none⟩)) rfl (fun wz _ => by unfold execOp; go_simp) ?_
    refine pure_atG (.int .i64 e.qty) rfl (fun wz hC => by obtain ⟨vX, hX⟩ := hC.out; have c0 := cells_of_blk hX 10 _ rfl; unfold execOp; go_simp) ?_
    refine pure_moveG rfl rfl ?_
    refine pure_atG (.pointer (some ⟨g, 0, none⟩)) rfl (fun wz _ => by unfold execOp; go_simp) ?_
    refine pure_atG (.pointer (some ⟨g, 5, none⟩)) rfl (fun wz _ => by unfold execOp; go_simp) ?_
    refine pure_atG (.pointer (some ⟨g, 11, none⟩)) rfl (fun wz _ => by unfold execOp; go_simp) ?_
    refine pure_atG (.int .i64 e.px) rfl (fun wz hC => by obtain ⟨vX, hX⟩ := hC.out; have c0 := cells_of_blk hX 11 _ rfl; unfold execOp; go_simp) ?_
    refine pure_atG (.pointer (some ⟨qwf2, 2, none⟩)) rfl (fun wz _ => by unfold execOp; go_simp) ?_
    unfold wpPure
    go_simp
    have c_h_0 := zC Kh.out
    have fc_h_0 := zF Kh.out
    refine wpAnyD_one 11 (f := 2) (L' := #[true, true, true, true, true, true, true, true, true, true, true, true, false, false]) (by kernel_rfl) (by kernel_rfl) rfl rfl ?_
    go_wp2_with fail
    obtain ⟨ws13, hws13⟩ : ∃ ws13 : World, wd12.setCell ⟨qwf2, 2, none⟩ (.int .i64 e.qty) = ws13 := ⟨_, rfl⟩
    rw [hws13]
    clear c_h_0 fc_h_0
    have zE : putC wd12 (qwf2) 2 [.int .i64 e.qty] = ws13 := hws13
    replace HI := zH (HI.out.put Kh.out (by decide) (by decide) Lh.out 2 [.int .i64 e.qty])
    replace HOF := zH (Off.freshC Mh.out HOF.out 2 [.int .i64 e.qty])
    replace KT := zH (putC_oth (blk_ne KT.out Kh.out (by decide)) (o := 2) (vs := [.int .i64 e.qty]) KT.out )
    replace KG := zH ((KG.out.imp fun _ h => putC_oth (blk_ne h Kh.out (by decide)) (o := 2) (vs := [.int .i64 e.qty]) h ))
    rw [zE] at HI HOF KT KG
    replace Kh := zP zE Kh
    clear zE
    replace Kh : Hid (ws13.heap[qwf2]? = some (.cells #[.int .i64 h0, .int .i64 h1, .int .i64 e.qty, .int .i64 h3] 82 (0, 0))) := Kh.out
    clear hws13
    rw [StepQ_normal]
    refine ⟨fun _ => KG, ?_⟩
    refine wpAnyD_one 12 (f := 1) (L' := #[true, true, true, true, true, true, true, true, true, true, true, true, true, false]) (by kernel_rfl) (by kernel_rfl) rfl rfl ?_
    go_wp2_with fail
    rw [StepQ_normal]
    refine ⟨fun _ => KG, ?_⟩
    have c_h_0 := zC Kh.out
    have fc_h_0 := zF Kh.out
    refine wpAnyD_one 13 (f := 0) (L' := #[true, true, true, true, true, true, true, true, true, true, true, true, true, true]) (by kernel_rfl) (by kernel_rfl) rfl rfl ?_
    go_wp2_with fail
    obtain ⟨ws14, hws14⟩ : ∃ ws14 : World, ws13.setCell ⟨qwf2, 3, none⟩ (.int .i64 e.px) = ws14 := ⟨_, rfl⟩
    rw [hws14]
    clear c_h_0 fc_h_0
    have zE : putC ws13 (qwf2) 3 [.int .i64 e.px] = ws14 := hws14
    replace HI := zH (HI.out.put Kh.out (by decide) (by decide) Lh.out 3 [.int .i64 e.px])
    replace HOF := zH (Off.freshC Mh.out HOF.out 3 [.int .i64 e.px])
    replace KT := zH (putC_oth (blk_ne KT.out Kh.out (by decide)) (o := 3) (vs := [.int .i64 e.px]) KT.out )
    replace KG := zH ((KG.out.imp fun _ h => putC_oth (blk_ne h Kh.out (by decide)) (o := 3) (vs := [.int .i64 e.px]) h ))
    rw [zE] at HI HOF KT KG
    replace Kh := zP zE Kh
    clear zE
    replace Kh : Hid (ws14.heap[qwf2]? = some (.cells #[.int .i64 h0, .int .i64 h1, .int .i64 e.qty, .int .i64 e.px] 82 (0, 0))) := Kh.out
    clear hws14
    rw [StepQ_normal]
    refine ⟨fun _ => KG, ?_⟩
    refine ⟨by kernel_rfl, ?_⟩
    rw [OnlyN_normal]
    obtain ⟨vX_g, hX_g⟩ := KG.out
    have c_g_0 := zC hX_g
    replace hX_g := zH hX_g
    have c_h_0 := zC Kh.out
    go_wp2_with fail
    clear hX_g c_g_0 c_h_0
    refine wp_region_D [] (fun wz : World => Hid (∃ vX : Value, wz.heap[g]? = some (.cells #[.slice Ah b.h.length ch, .slice As b.s.length cs, .slice Ao b.o.length co, .slice Ar b.r.length cr, .int .i64 b.n, .int .i64 e.kind, .int .i64 e.acc, .int .i64 e.ord, .int .i64 e.sym, .int .i64 e.side, .int .i64 e.qty, .int .i64 e.px, .int .i64 rate, vX] 75 (0, 0))) ∧ Hid (wz.heap[qwf2]? = some (.cells #[.int .i64 h0, .int .i64 h1, .int .i64 e.qty, .int .i64 e.px] 82 (0, 0)))) 7 #[false, false, false, false, false, false, false] (by kernel_rfl) (by kernel_rfl) (by kernel_rfl) ?_
    obtain ⟨wd15, hwd15⟩ : ∃ wd15 : World, { ws14 with drawn := ws14.drawn + 1 } = wd15 := ⟨_, rfl⟩
    rw [hwd15]
    have hbwd15 : Below ws14.heap.size ws14 wd15 := by rw [← hwd15]; exact (Below.refl _ _).drew
    replace KT := zK KT hbwd15
    replace Kh := zK Kh hbwd15
    replace KG := zH ((KG.out.imp fun _ h => blk_call h hbwd15))
    replace HOF := zH (HOF.out.trans (Off.of hbwd15))
    replace HI := zH (HI.out.kept hbwd15)
    clear hwd15 hbwd15
    refine pure_moreD [0, 1, 2, 3, 4] 2 (L' := #[true, true, true, true, true, false, false]) (by kernel_rfl) (by kernel_rfl) ⟨KG, Kh⟩ ?_
    simp only [opsAt, List.getElem?_toArray, List.getElem?_cons_zero, List.getElem?_cons_succ]
    refine pure_moveG rfl rfl ?_
    refine pure_atG (.pointer (some ⟨g, 0, none⟩)) rfl (fun wz _ => by unfold execOp; go_simp) ?_
    refine pure_atG (.pointer (some ⟨g, 0, none⟩)) rfl (fun wz _ => by unfold execOp; go_simp) ?_
    refine pure_atG (.agg #[.slice Ah b.h.length ch, .slice As b.s.length cs, .slice Ao b.o.length co, .slice Ar b.r.length cr, .int .i64 b.n]) rfl (fun wz hC => by obtain ⟨vX, hX⟩ := hC.1.out; have c0 := cells_of_blk hX 0 _ rfl; have c1 := cells_of_blk hX 1 _ rfl; have c2 := cells_of_blk hX 2 _ rfl; have c3 := cells_of_blk hX 3 _ rfl; have c4 := cells_of_blk hX 4 _ rfl; unfold execOp; go_simp) ?_
    refine pure_atG (.agg #[.int .i64 h0, .int .i64 h1, .int .i64 e.qty, .int .i64 e.px]) rfl (fun wz hC => by have c0 := cells_of_blk hC.2.out 0 _ rfl; have c1 := cells_of_blk hC.2.out 1 _ rfl; have c2 := cells_of_blk hC.2.out 2 _ rfl; have c3 := cells_of_blk hC.2.out 3 _ rfl; unfold execOp; go_simp) ?_
    unfold wpPure
    go_simp
    refine wpAnyD_one 5 (f := 1) (L' := #[true, true, true, true, true, true, false]) (by kernel_rfl) (by kernel_rfl) rfl rfl ?_
    go_wp2_with fail
    with_reducible refine (q5.out _ (zH (B0.out.call HI.out.below))).mono ?_
    rintro r wc16 ⟨v5, rfl, hO, hb⟩
    replace KT := zK KT hb
    replace Kh := zK Kh hb
    replace KG := zH ((KG.out.imp fun _ h => blk_call h hb))
    replace HOF := zH (HOF.out.trans (Off.of hb))
    replace HI := zH (HI.out.kept hb)
    clear hb
    obtain ⟨U1, u1, U2, u2, U3, u3, U4, u4, rfl⟩ := hO.form
    have HO := zH hO
    clear hO
    go_wp2_with fail
    rw [StepQ_normal]
    refine ⟨fun _ => ⟨KG, Kh⟩, ?_⟩
    have c_t_0 := zC KT.out
    have fc_t_0 := zF KT.out
    refine wpAnyD_one 6 (f := 0) (L' := #[true, true, true, true, true, true, true]) (by kernel_rfl) (by kernel_rfl) rfl rfl ?_
    go_wp2_with fail
    obtain ⟨ws17, hws17⟩ : ∃ ws17 : World, ((((wc16.setCell ⟨w.heap.size, 0, none⟩ (.slice U1 nb.h.length u1)).setCell ⟨w.heap.size, 1, none⟩ (.slice U2 nb.s.length u2)).setCell ⟨w.heap.size, 2, none⟩ (.slice U3 nb.o.length u3)).setCell ⟨w.heap.size, 3, none⟩ (.slice U4 nb.r.length u4)).setCell ⟨w.heap.size, 4, none⟩ (.int .i64 nb.n) = ws17 := ⟨_, rfl⟩
    rw [hws17]
    clear c_t_0 fc_t_0
    replace HO : Hid _ := zH (HO.out.put KT.out 0 [.slice U1 nb.h.length u1, .slice U2 nb.s.length u2, .slice U3 nb.o.length u3, .slice U4 nb.r.length u4, .int .i64 nb.n])
    replace HI := zH (HI.out.put KT.out (by decide) (by decide) LT.out 0 [.slice U1 nb.h.length u1, .slice U2 nb.s.length u2, .slice U3 nb.o.length u3, .slice U4 nb.r.length u4, .int .i64 nb.n])
    replace HOF := zH (Off.freshC MT.out HOF.out 0 [.slice U1 nb.h.length u1, .slice U2 nb.s.length u2, .slice U3 nb.o.length u3, .slice U4 nb.r.length u4, .int .i64 nb.n])
    replace Kh := zH (putC_oth (blk_ne Kh.out KT.out (by decide)) (o := 0) (vs := [.slice U1 nb.h.length u1, .slice U2 nb.s.length u2, .slice U3 nb.o.length u3, .slice U4 nb.r.length u4, .int .i64 nb.n]) Kh.out )
    replace KG := zH ((KG.out.imp fun _ h => putC_oth (blk_ne h KT.out (by decide)) (o := 0) (vs := [.slice U1 nb.h.length u1, .slice U2 nb.s.length u2, .slice U3 nb.o.length u3, .slice U4 nb.r.length u4, .int .i64 nb.n]) h ))
    replace KT := zH (putC_blk (o := 0) (vs := [.slice U1 nb.h.length u1, .slice U2 nb.s.length u2, .slice U3 nb.o.length u3, .slice U4 nb.r.length u4, .int .i64 nb.n]) KT.out)
    rw [show putC wc16 (w.heap.size) 0 [.slice U1 nb.h.length u1, .slice U2 nb.s.length u2, .slice U3 nb.o.length u3, .slice U4 nb.r.length u4, .int .i64 nb.n] = ws17 from hws17] at HO
    rw [show putC wc16 (w.heap.size) 0 [.slice U1 nb.h.length u1, .slice U2 nb.s.length u2, .slice U3 nb.o.length u3, .slice U4 nb.r.length u4, .int .i64 nb.n] = ws17 from hws17] at HI HOF KT Kh KG
    replace KT : Hid (ws17.heap[w.heap.size]? = some (.cells #[.slice U1 nb.h.length u1, .slice U2 nb.s.length u2, .slice U3 nb.o.length u3, .slice U4 nb.r.length u4, .int .i64 nb.n] 27 (0, 0))) := KT.out
    clear hws17
    rw [StepQ_normal]
    refine ⟨fun _ => ⟨KG, Kh⟩, ?_⟩
    refine ⟨by kernel_rfl, ?_⟩
    rw [OnlyN_normal]
    go_wp2_with fail
    refine bodyPost_ret (v := .agg #[.slice U1 nb.h.length u1, .slice U2 nb.s.length u2, .slice U3 nb.o.length u3, .slice U4 nb.r.length u4, .int .i64 nb.n]) ?_ rfl ⟨_, rfl, BkEi.own (HO.out.mono (Nat.zero_le _)), HI.out, HOF.out⟩
    exact ret_cell rfl _ _ _ _ _ _ rfl KT.out Tryz.underlying27 rfl (by kernel_rfl)
end Go.Proofs.YtjcdpmianmgiaaaGreatDoor
namespace Go.Proofs.YtjcdpmianmgiaaaGreatDoor
open Go Go.RowKit
set_option linter.unusedVariables false
set_option linter.unusedSimpArgs false
set_option maxRecDepth 100000 in
set_option maxHeartbeats 16000000 in
theorem cancel_any (w0 : World) (g : Nat) (vh vs vo vr : Value) (b : Bk) (e : Ev) (rate : Int) (hT : Hid (Law16 w0)) (B0 : Hid (BkAt w0 (.agg #[vh, vs, vo, vr, .int .i64 b.n]) b)) (hs : Hid b.Small) (hR : Hid b.Rise) (hE : Hid e.I64s) (l0 : List Stp) (hl0 : Hid (l0.length ≤ 50)) (w : World) (HI : Hid (Gt w0 g vh vs vo vr b e rate l0 w)) :
    Calls Tryz.prog 41 #[.pointer (some ⟨g, 0, none⟩)] w fun r w' => ∃ v, r = .returned v ∧ BkEi w' (.agg #[vh, vs, vo, vr, .int .i64 b.n]) v b (if (canS b e).all (·.holds) then canB b e else b) ∧ Gt w0 g vh vs vo vr b e rate (l0 ++ cutL (canS b e)) w' ∧ Off w w' := by
  obtain ⟨_, _, _, _, hv, r1, r2, r3, r4⟩ := B0.out
  injection hv with hv
  simp only [Array.mk.injEq, List.cons.injEq, and_true] at hv
  obtain ⟨rfl, rfl, rfl, rfl, _⟩ := hv
  have LH : Hid (∀ r ∈ b.h, r.length = 4) := (by obtain ⟨_, _, _, h, _⟩ := r1; exact h)
  have LO : Hid (∀ r ∈ b.o, r.length = 6) := (by obtain ⟨_, _, _, h, _⟩ := r3; exact h)
  have LR : Hid (∀ r ∈ b.r, r.length = 2) := (by obtain ⟨_, _, _, h, _⟩ := r4; exact h)
  obtain ⟨Ah, ch, rfl, _⟩ := r1
  obtain ⟨As, cs, rfl, _⟩ := r2
  obtain ⟨Ao, co, rfl, _⟩ := r3
  obtain ⟨Ar, cr, rfl, _⟩ := r4
  have F1 : b.h.length ≤ 1000000 ∧ b.o.length ≤ 1000000 ∧ b.r.length ≤ 1000000 := by have := hs.out; unfold Bk.Small at this; omega
  have HL1 := zH F1
  clear F1
  have KG := zH (HI.out.blk.imp fun _ h => h.1)
  have HOF : Hid (Off w w) := Off.refl _
  obtain ⟨ro, FO, hl2, hx2⟩ := rec_of LO.out (isId e.ord)
  match ro, hl2, hx2 with
  | [o0, o1, o2, o3, o4, o5], _, hx2 =>
  have hFo : FO = hasO b e.ord := recOf_snd hx2
  subst hFo
  have HX2 := zH hx2
  clear hx2
  obtain ⟨FA, hFA⟩ : ∃ FA, (canS b e).all (·.holds) = FA := ⟨_, rfl⟩
  rw [hFA]
  replace hFA := zH hFA
  obtain ⟨nb, hnb⟩ : ∃ nb : Bk, canB b e = nb := ⟨_, rfl⟩
  have q5 : Hid (∀ wz : World, Hid (BkAt wz (.agg #[.slice Ah b.h.length ch, .slice As b.s.length cs, .slice Ao b.o.length co, .slice Ar b.r.length cr, .int .i64 b.n]) b) → Calls Tryz.prog 99 #[.agg #[.slice Ah b.h.length ch, .slice As b.s.length cs, .slice Ao b.o.length co, .slice Ar b.r.length cr, .int .i64 b.n], .agg #[.int .i64 e.ord, .int .i64 0, .int .i64 0, .int .i64 0, .int .i64 0, .int .i64 0]] wz fun r w' => ∃ v', r = .returned v' ∧ BkOwn w' wz.heap.size v' nb ∧ Below wz.heap.size wz w') := (show _ from fun wz hv => by rw [← hnb]; exact SetOpen_any _ b e.ord 0 0 0 0 0 wz hv hs hR.out.2.1)
  rw [hnb]
  clear hnb
  obtain ⟨wb, hwb⟩ : ∃ wb : World, w.alloc (.cells #[.slice none 0 0, .slice none 0 0, .slice none 0 0, .slice none 0 0, .int .i64 0] 27) = wb := ⟨_, rfl⟩
  have hb : Below w.heap.size w wb := by rw [← hwb]; exact below_alloc (Below.refl _ _) (Nat.le_refl _) _
  have KT : Hid (wb.heap[w.heap.size]? = some (.cells #[.slice none 0 0, .slice none 0 0, .slice none 0 0, .slice none 0 0, .int .i64 0] 27 (0, 0))) := by rw [← hwb]; exact heap_new _ _
  have LT : Hid (w0.heap.size ≤ w.heap.size) := HI.out.below.size
  have MT : Hid (w.heap.size ≤ w.heap.size) := Nat.le_refl _
  replace KG := zH ((KG.out.imp fun _ h => blk_call h hb))
  replace HI := zH (HI.out.kept hb)
  replace HOF := zH (HOF.out.trans (Off.of hb))
  replace hwb := zH hwb
  clear hb
  go_enter Tryz.func41, Tryz.ntmps41
  go_wp2_with fail
  rw [hwb.out]
  clear hwb
  refine wp_region_D [] (fun wz : World => Hid (∃ vX : Value, wz.heap[g]? = some (.cells #[.slice Ah b.h.length ch, .slice As b.s.length cs, .slice Ao b.o.length co, .slice Ar b.r.length cr, .int .i64 b.n, .int .i64 e.kind, .int .i64 e.acc, .int .i64 e.ord, .int .i64 e.sym, .int .i64 e.side, .int .i64 e.qty, .int .i64 e.px, .int .i64 rate, vX] 75 (0, 0)))) 16 #[false, false, false, false, false, false, false, false, false, false, false, false, false, false, false, false] (by kernel_rfl) (by kernel_rfl) (by kernel_rfl) ?_
  obtain ⟨wd1, hwd1⟩ : ∃ wd1 : World, { wb with drawn := wb.drawn + 1 } = wd1 := ⟨_, rfl⟩
  rw [hwd1]
  have hbwd1 : Below wb.heap.size wb wd1 := by rw [← hwd1]; exact (Below.refl _ _).drew
  replace KG := zH ((KG.out.imp fun _ h => blk_call h hbwd1))
  replace KT := zK KT hbwd1
  replace HI := zH (HI.out.kept hbwd1)
  replace HOF := zH (HOF.out.trans (Off.of hbwd1))
  clear hwd1 hbwd1
  refine pure_moreD [0, 1, 2, 3, 4, 5, 6, 7, 8] 7 (L' := #[true, true, true, true, true, true, true, true, true, false, false, false, false, false, false, false]) (by kernel_rfl) (by kernel_rfl) KG ?_
  simp only [opsAt, List.getElem?_toArray, List.getElem?_cons_zero, List.getElem?_cons_succ]
  refine pure_moveG rfl rfl ?_
  refine pure_atG (.pointer (some ⟨g, 0, none⟩)) rfl (fun wz _ => by unfold execOp; go_simp) ?_
  refine pure_atG (.pointer (some ⟨g, 0, none⟩)) rfl (fun wz _ => by unfold execOp; go_simp) ?_
  refine pure_atG (.agg #[.slice Ah b.h.length ch, .slice As b.s.length cs, .slice Ao b.o.length co, .slice Ar b.r.length cr, .int .i64 b.n]) rfl (fun wz hC => by obtain ⟨vX, hX⟩ := hC.out; have c0 := cells_of_blk hX 0 _ rfl; have c1 := cells_of_blk hX 1 _ rfl; have c2 := cells_of_blk hX 2 _ rfl; have c3 := cells_of_blk hX 3 _ rfl; have c4 := cells_of_blk hX 4 _ rfl; unfold execOp; go_simp) ?_
  refine pure_moveG rfl rfl ?_
  refine pure_atG (.pointer (some ⟨g, 0, none⟩)) rfl (fun wz _ => by unfold execOp; go_simp) ?_
  refine pure_atG (.pointer (some ⟨g, 5, none⟩)) rfl (fun wz _ => by unfold execOp; go_simp) ?_
  refine pure_atG (.pointer (some ⟨g, 7, none⟩)) rfl (fun wz _ => by unfold execOp; go_simp) ?_
  refine pure_atG (.int .i64 e.ord) rfl (fun wz hC => by obtain ⟨vX, hX⟩ := hC.out; have c0 := cells_of_blk hX 7 _ rfl; unfold execOp; go_simp) ?_
  unfold wpPure
  go_simp
  have hzd := zH HI.out.below.size
  have hzo := zH HOF.out.size
  refine wpAnyD_ca 9 13 [10, 11, 12] 15 3 2 (.tuple #[.agg #[.int .i64 o0, .int .i64 o1, .int .i64 o2, .int .i64 o3, .int .i64 o4, .int .i64 o5], .bool (hasO b e.ord)]) #[.int .i64 0, .int .i64 0, .int .i64 0, .int .i64 0, .int .i64 0, .int .i64 0] 86 [(5, .tuple #[.agg #[.int .i64 o0, .int .i64 o1, .int .i64 o2, .int .i64 o3, .int .i64 o4, .int .i64 o5], .bool (hasO b e.ord)]), (16, .agg #[.int .i64 o0, .int .i64 o1, .int .i64 o2, .int .i64 o3, .int .i64 o4, .int .i64 o5]), (17, .bool (hasO b e.ord))] [15, 3, 5, 16, 17] (by kernel_rfl) (by kernel_rfl) (by kernel_rfl) (by kernel_rfl) (by kernel_rfl) (L2 := #[true, true, true, true, true, true, true, true, true, true, true, true, true, true, false, false]) (by kernel_rfl) (by kernel_rfl) (by kernel_rfl) ?_ ?_ ?_ ?_ ?_
  · exact can_call 90 #[.agg #[.slice Ah b.h.length ch, .slice As b.s.length cs, .slice Ao b.o.length co, .slice Ar b.r.length cr, .int .i64 b.n], .int .i64 e.ord] ⟨_, _, _, rfl, rfl, rfl, rfl, by simp [Act.eval, Act.put], by simp⟩ (fun w => enters_of Tryz.func90 (by kernel_rfl) rfl _ w) (fun wz hz => (Open_any _ b e.ord o0 o1 o2 o3 o4 o5 (hasO b e.ord) wz (zH (B0.out.call (HI.out.below.trans (hz.mono HI.out.below.size)))) HL1.out.2.1 hR.out.2.1 HX2).mono fun x w' ⟨h1, h2⟩ => ⟨_, h1, rfl, h2⟩)
  · exact can_alloc _ rfl rfl rfl #[.int .i64 0, .int .i64 0, .int .i64 0, .int .i64 0, .int .i64 0, .int .i64 0] 86 (fun ev wz => by unfold execOp; go_simp) (fun wz hz => ⟨rfl, heap_new wz _⟩)
  · exact fun wz hz => (KG.out.imp fun _ h => blk_call h hz)
  · intro a' K ha hk
    simp only [opsAt, List.getElem?_toArray, List.getElem?_cons_zero, List.getElem?_cons_succ]
    rcases ha with rfl | ⟨p, rfl⟩
    · refine pure_atG (.tuple #[.agg #[.int .i64 o0, .int .i64 o1, .int .i64 o2, .int .i64 o3, .int .i64 o4, .int .i64 o5], .bool (hasO b e.ord)]) rfl (fun wz _ => by unfold execOp; go_simp) ?_
      refine pure_atG (.agg #[.int .i64 o0, .int .i64 o1, .int .i64 o2, .int .i64 o3, .int .i64 o4, .int .i64 o5]) rfl (fun wz _ => by unfold execOp; go_simp) ?_
      refine pure_atG (.bool (hasO b e.ord)) rfl (fun wz _ => by unfold execOp; go_simp) ?_
      unfold wpPure
      exact hk
    · refine pure_atG (.tuple #[.agg #[.int .i64 o0, .int .i64 o1, .int .i64 o2, .int .i64 o3, .int .i64 o4, .int .i64 o5], .bool (hasO b e.ord)]) rfl (fun wz _ => by unfold execOp; go_simp) ?_
      refine pure_atG (.agg #[.int .i64 o0, .int .i64 o1, .int .i64 o2, .int .i64 o3, .int .i64 o4, .int .i64 o5]) rfl (fun wz _ => by unfold execOp; go_simp) ?_
      refine pure_atG (.bool (hasO b e.ord)) rfl (fun wz _ => by unfold execOp; go_simp) ?_
      unfold wpPure
      exact hk
  intro qwf2 wf2 m2 g2 hb
  have Ko := zH g2
  have Lo := zH (Nat.le_trans hzd.out m2)
  have Mo := zH (Nat.le_trans hzo.out m2)
  clear g2 m2 hzd hzo
  simp only [putsV]
  go_simp
  replace KG := zH ((KG.out.imp fun _ h => blk_call h hb))
  replace KT := zK KT hb
  replace HI := zH (HI.out.kept hb)
  replace HOF := zH (HOF.out.trans (Off.of hb))
  clear hb
  have c_o_0 := zC Ko.out
  have fc_o_0 := zF Ko.out
  refine wpAnyD_one 14 (f := 1) (L' := #[true, true, true, true, true, true, true, true, true, true, true, true, true, true, true, false]) (by kernel_rfl) (by kernel_rfl) rfl rfl ?_
  go_wp2_with fail
  obtain ⟨ws3, hws3⟩ : ∃ ws3 : World, (((((wf2.setCell ⟨qwf2, 0, none⟩ (.int .i64 o0)).setCell ⟨qwf2, 1, none⟩ (.int .i64 o1)).setCell ⟨qwf2, 2, none⟩ (.int .i64 o2)).setCell ⟨qwf2, 3, none⟩ (.int .i64 o3)).setCell ⟨qwf2, 4, none⟩ (.int .i64 o4)).setCell ⟨qwf2, 5, none⟩ (.int .i64 o5) = ws3 := ⟨_, rfl⟩
  rw [hws3]
  clear c_o_0 fc_o_0
  have zE : putC wf2 (qwf2) 0 [.int .i64 o0, .int .i64 o1, .int .i64 o2, .int .i64 o3, .int .i64 o4, .int .i64 o5] = ws3 := hws3
  replace HI := zH (HI.out.put Ko.out (by decide) (by decide) Lo.out 0 [.int .i64 o0, .int .i64 o1, .int .i64 o2, .int .i64 o3, .int .i64 o4, .int .i64 o5])
  replace HOF := zH (Off.freshC Mo.out HOF.out 0 [.int .i64 o0, .int .i64 o1, .int .i64 o2, .int .i64 o3, .int .i64 o4, .int .i64 o5])
  replace KG := zH ((KG.out.imp fun _ h => putC_oth (blk_ne h Ko.out (by decide)) (o := 0) (vs := [.int .i64 o0, .int .i64 o1, .int .i64 o2, .int .i64 o3, .int .i64 o4, .int .i64 o5]) h ))
  replace KT := zH (putC_oth (blk_ne KT.out Ko.out (by decide)) (o := 0) (vs := [.int .i64 o0, .int .i64 o1, .int .i64 o2, .int .i64 o3, .int .i64 o4, .int .i64 o5]) KT.out )
  rw [zE] at HI HOF KG KT
  replace Ko := zP zE Ko
  clear zE
  replace Ko : Hid (ws3.heap[qwf2]? = some (.cells #[.int .i64 o0, .int .i64 o1, .int .i64 o2, .int .i64 o3, .int .i64 o4, .int .i64 o5] 86 (0, 0))) := Ko.out
  clear hws3
  rw [StepQ_normal]
  refine ⟨fun _ => KG, ?_⟩
  refine pure_moreD [15] 0 (L' := #[true, true, true, true, true, true, true, true, true, true, true, true, true, true, true, true]) (by kernel_rfl) (by kernel_rfl) KG ?_
  simp only [opsAt, List.getElem?_toArray, List.getElem?_cons_zero, List.getElem?_cons_succ]
  refine pure_atG (.bool (hasO b e.ord)) rfl (fun wz _ => by unfold execOp; go_simp) ?_
  unfold wpPure
  go_simp
  refine ⟨by kernel_rfl, ?_⟩
  rw [OnlyN_normal]
  obtain ⟨vX_g, hX_g⟩ := KG.out
  have c_g_0 := zC hX_g
  replace hX_g := zH hX_g
  have c_o_0 := zC Ko.out
  go_wp2_with fail
  with_reducible refine (gbit_any _ _).mono ?_
  rintro r _ ⟨rfl, rfl⟩
  go_wp2_with fail
  with_reducible refine (sides_any w0 g (.slice Ah b.h.length ch) (.slice As b.s.length cs) (.slice Ao b.o.length co) (.slice Ar b.r.length cr) b e rate hT 13 (bitI (hasO b e.ord)) 1 (gfit _ _ _ (by omega) (i64_bit _) (i64_lit (by omega))) _).mono ?_
  rintro r wc4 ⟨f1, rfl, hl1, hb⟩
  clear hX_g c_g_0 c_o_0
  replace KG := zH ((KG.out.imp fun _ h => blk_call h hb))
  replace KT := zK KT hb
  replace Ko := zK Ko hb
  replace HI := zH (HI.out.kept hb)
  replace HOF := zH (HOF.out.trans (Off.of hb))
  clear hb
  obtain ⟨J1, j1, rfl⟩ := hl1.form
  have HK1 := zH hl1
  clear hl1
  go_wp2_with fail
  obtain ⟨wa5, hwa5⟩ : ∃ wa5 : World, wc4.alloc (.cells #[.func (.func J1) #[] j1] 79) = wa5 := ⟨_, rfl⟩
  rw [hwa5]
  have hbwa5 : Below wc4.heap.size wc4 wa5 := by rw [← hwa5]; exact below_alloc (Below.refl _ _) (Nat.le_refl _) _
  replace KG := zH ((KG.out.imp fun _ h => blk_call h hbwa5))
  replace KT := zK KT hbwa5
  replace Ko := zK Ko hbwa5
  replace HI := zH (HI.out.kept hbwa5)
  replace HOF := zH (HOF.out.trans (Off.of hbwa5))
  replace HK1 := zH (HK1.out.off (Off.of hbwa5))
  have Kfs : Hid (wa5.heap[wc4.heap.size]? = some (.cells #[.func (.func J1) #[] j1] 79 (0, 0))) := by rw [← hwa5]; exact heap_new _ _
  clear hwa5 hbwa5
  have qall := zH (all_any (Gt w0 g (.slice Ah b.h.length ch) (.slice As b.s.length cs) (.slice Ao b.o.length co) (.slice Ar b.r.length cr) b e rate) (wc4.heap.size) 1 [(.func (.func J1) #[] j1, sS 13 (bitI (hasO b e.ord)) (1))] #[.func (.func J1) #[] j1] l0 _ rfl rfl Kfs (zH (by intro x hx; simp only [List.mem_cons, List.not_mem_nil, or_false] at hx; subst hx; exact HK1.out)) HI (by have := hl0.out; show _ ≤ _; omega))
  have qall2 : Hid (Calls Tryz.prog 43 #[.slice (some ⟨wc4.heap.size, 0, none⟩) 1 1] wa5 fun r w' => r = .returned (.bool FA) ∧ Gt w0 g (.slice Ah b.h.length ch) (.slice As b.s.length cs) (.slice Ao b.o.length co) (.slice Ar b.r.length cr) b e rate (l0 ++ cutL (canS b e)) w' ∧ Off wa5 w') := by rw [← hFA.out]; exact qall.out
  clear qall
  with_reducible refine qall2.out.mono ?_
  rintro r wl6 ⟨rfl, hI2, ho⟩
  clear qall2 HI HK1
  replace KT := zH (ho.blk _ _ _ _ KT.out (by decide) (by decide))
  replace Ko := zH (ho.blk _ _ _ _ Ko.out (by decide) (by decide))
  replace HOF := zH (HOF.out.trans ho)
  clear Kfs KG ho
  have HI := zH hI2
  clear hI2
  have KG := zH (HI.out.blk.imp fun _ h => h.1)
  cases FA with
  | false =>
    obtain ⟨vX_g, hX_g⟩ := KG.out
    have c_g_0 := zC hX_g
    replace hX_g := zH hX_g
    have c_t_0 := zC KT.out
    have fc_t_0 := zF KT.out
    go_wp2_with fail
    obtain ⟨ws7, hws7⟩ : ∃ ws7 : World, ((((wl6.setCell ⟨w.heap.size, 0, none⟩ (.slice Ah b.h.length ch)).setCell ⟨w.heap.size, 1, none⟩ (.slice As b.s.length cs)).setCell ⟨w.heap.size, 2, none⟩ (.slice Ao b.o.length co)).setCell ⟨w.heap.size, 3, none⟩ (.slice Ar b.r.length cr)).setCell ⟨w.heap.size, 4, none⟩ (.int .i64 b.n) = ws7 := ⟨_, rfl⟩
    rw [hws7]
    clear hX_g c_g_0 c_t_0 fc_t_0
    have zE : putC wl6 (w.heap.size) 0 [.slice Ah b.h.length ch, .slice As b.s.length cs, .slice Ao b.o.length co, .slice Ar b.r.length cr, .int .i64 b.n] = ws7 := hws7
    replace HI := zH (HI.out.put KT.out (by decide) (by decide) LT.out 0 [.slice Ah b.h.length ch, .slice As b.s.length cs, .slice Ao b.o.length co, .slice Ar b.r.length cr, .int .i64 b.n])
    replace HOF := zH (Off.freshC MT.out HOF.out 0 [.slice Ah b.h.length ch, .slice As b.s.length cs, .slice Ao b.o.length co, .slice Ar b.r.length cr, .int .i64 b.n])
    replace Ko := zH (putC_oth (blk_ne Ko.out KT.out (by decide)) (o := 0) (vs := [.slice Ah b.h.length ch, .slice As b.s.length cs, .slice Ao b.o.length co, .slice Ar b.r.length cr, .int .i64 b.n]) Ko.out )
    replace KG := zH ((KG.out.imp fun _ h => putC_oth (blk_ne h KT.out (by decide)) (o := 0) (vs := [.slice Ah b.h.length ch, .slice As b.s.length cs, .slice Ao b.o.length co, .slice Ar b.r.length cr, .int .i64 b.n]) h ))
    rw [zE] at HI HOF Ko KG
    replace KT := zP zE KT
    clear zE
    replace KT : Hid (ws7.heap[w.heap.size]? = some (.cells #[.slice Ah b.h.length ch, .slice As b.s.length cs, .slice Ao b.o.length co, .slice Ar b.r.length cr, .int .i64 b.n] 27 (0, 0))) := KT.out
    clear hws7
    go_wp2_with fail
    refine bodyPost_ret (v := .agg #[.slice Ah b.h.length ch, .slice As b.s.length cs, .slice Ao b.o.length co, .slice Ar b.r.length cr, .int .i64 b.n]) ?_ rfl ⟨_, rfl, by first | exact BkEi.same _ _ _ | (rw [if_neg (by simp)]; exact BkEi.same _ _ _), HI.out, HOF.out⟩
    exact ret_cell rfl _ _ _ _ _ _ rfl KT.out Tryz.underlying27 rfl (by kernel_rfl)
  | true =>
    obtain ⟨vX_g, hX_g⟩ := KG.out
    have c_g_0 := zC hX_g
    replace hX_g := zH hX_g
    go_wp2_with fail
    clear hX_g c_g_0
    refine wp_region_D [] (fun wz : World => Hid (∃ vX : Value, wz.heap[g]? = some (.cells #[.slice Ah b.h.length ch, .slice As b.s.length cs, .slice Ao b.o.length co, .slice Ar b.r.length cr, .int .i64 b.n, .int .i64 e.kind, .int .i64 e.acc, .int .i64 e.ord, .int .i64 e.sym, .int .i64 e.side, .int .i64 e.qty, .int .i64 e.px, .int .i64 rate, vX] 75 (0, 0)))) 12 #[false, false, false, false, false, false, false, false, false, false, false, false] (by kernel_rfl) (by kernel_rfl) (by kernel_rfl) ?_
    obtain ⟨wd8, hwd8⟩ : ∃ wd8 : World, { wl6 with drawn := wl6.drawn + 1 } = wd8 := ⟨_, rfl⟩
    rw [hwd8]
    have hbwd8 : Below wl6.heap.size wl6 wd8 := by rw [← hwd8]; exact (Below.refl _ _).drew
    replace KT := zK KT hbwd8
    replace Ko := zK Ko hbwd8
    replace KG := zH ((KG.out.imp fun _ h => blk_call h hbwd8))
    replace HOF := zH (HOF.out.trans (Off.of hbwd8))
    replace HI := zH (HI.out.kept hbwd8)
    clear hwd8 hbwd8
    refine pure_moreD [0, 1, 2, 3, 4, 5, 6, 7, 8, 9] 2 (L' := #[true, true, true, true, true, true, true, true, true, true, false, false]) (by kernel_rfl) (by kernel_rfl) KG ?_
    simp only [opsAt, List.getElem?_toArray, List.getElem?_cons_zero, List.getElem?_cons_succ]
    refine pure_moveG rfl rfl ?_
    refine pure_atG (.pointer (some ⟨g, 0, none⟩)) rfl (fun wz _ => by unfold execOp; go_simp) ?_
    refine pure_atG (.pointer (some ⟨g, 0, none⟩)) rfl (fun wz _ => by unfold execOp; go_simp) ?_
    refine pure_atG (.agg #[.slice Ah b.h.length ch, .slice As b.s.length cs, .slice Ao b.o.length co, .slice Ar b.r.length cr, .int .i64 b.n]) rfl (fun wz hC => by obtain ⟨vX, hX⟩ := hC.out; have c0 := cells_of_blk hX 0 _ rfl; have c1 := cells_of_blk hX 1 _ rfl; have c2 := cells_of_blk hX 2 _ rfl; have c3 := cells_of_blk hX 3 _ rfl; have c4 := cells_of_blk hX 4 _ rfl; unfold execOp; go_simp) ?_
    refine pure_moveG rfl rfl ?_
    refine pure_atG (.pointer (some ⟨g, 0, none⟩)) rfl (fun wz _ => by unfold execOp; go_simp) ?_
    refine pure_atG (.pointer (some ⟨g, 5, none⟩)) rfl (fun wz _ => by unfold execOp; go_simp) ?_
    refine pure_atG (.pointer (some ⟨g, 7, none⟩)) rfl (fun wz _ => by unfold execOp; go_simp) ?_
    refine pure_atG (.int .i64 e.ord) rfl (fun wz hC => by obtain ⟨vX, hX⟩ := hC.out; have c0 := cells_of_blk hX 7 _ rfl; unfold execOp; go_simp) ?_
    refine pure_atG (.agg #[.int .i64 e.ord, .int .i64 0, .int .i64 0, .int .i64 0, .int .i64 0, .int .i64 0]) rfl (fun wz _ => by unfold execOp; go_simp) ?_
    unfold wpPure
    go_simp
    refine wpAnyD_one 10 (f := 1) (L' := #[true, true, true, true, true, true, true, true, true, true, true, false]) (by kernel_rfl) (by kernel_rfl) rfl rfl ?_
    go_wp2_with fail
    with_reducible refine (q5.out _ (zH (B0.out.call HI.out.below))).mono ?_
    rintro r wc9 ⟨v5, rfl, hO, hb⟩
    replace KT := zK KT hb
    replace Ko := zK Ko hb
    replace KG := zH ((KG.out.imp fun _ h => blk_call h hb))
    replace HOF := zH (HOF.out.trans (Off.of hb))
    replace HI := zH (HI.out.kept hb)
    clear hb
    obtain ⟨U1, u1, U2, u2, U3, u3, U4, u4, rfl⟩ := hO.form
    have HO := zH hO
    clear hO
    go_wp2_with fail
    rw [StepQ_normal]
    refine ⟨fun _ => KG, ?_⟩
    have c_t_0 := zC KT.out
    have fc_t_0 := zF KT.out
    refine wpAnyD_one 11 (f := 0) (L' := #[true, true, true, true, true, true, true, true, true, true, true, true]) (by kernel_rfl) (by kernel_rfl) rfl rfl ?_
    go_wp2_with fail
    obtain ⟨ws10, hws10⟩ : ∃ ws10 : World, ((((wc9.setCell ⟨w.heap.size, 0, none⟩ (.slice U1 nb.h.length u1)).setCell ⟨w.heap.size, 1, none⟩ (.slice U2 nb.s.length u2)).setCell ⟨w.heap.size, 2, none⟩ (.slice U3 nb.o.length u3)).setCell ⟨w.heap.size, 3, none⟩ (.slice U4 nb.r.length u4)).setCell ⟨w.heap.size, 4, none⟩ (.int .i64 nb.n) = ws10 := ⟨_, rfl⟩
    rw [hws10]
    clear c_t_0 fc_t_0
    replace HO : Hid _ := zH (HO.out.put KT.out 0 [.slice U1 nb.h.length u1, .slice U2 nb.s.length u2, .slice U3 nb.o.length u3, .slice U4 nb.r.length u4, .int .i64 nb.n])
    replace HI := zH (HI.out.put KT.out (by decide) (by decide) LT.out 0 [.slice U1 nb.h.length u1, .slice U2 nb.s.length u2, .slice U3 nb.o.length u3, .slice U4 nb.r.length u4, .int .i64 nb.n])
    replace HOF := zH (Off.freshC MT.out HOF.out 0 [.slice U1 nb.h.length u1, .slice U2 nb.s.length u2, .slice U3 nb.o.length u3, .slice U4 nb.r.length u4, .int .i64 nb.n])
    replace Ko := zH (putC_oth (blk_ne Ko.out KT.out (by decide)) (o := 0) (vs := [.slice U1 nb.h.length u1, .slice U2 nb.s.length u2, .slice U3 nb.o.length u3, .slice U4 nb.r.length u4, .int .i64 nb.n]) Ko.out )
    replace KG := zH ((KG.out.imp fun _ h => putC_oth (blk_ne h KT.out (by decide)) (o := 0) (vs := [.slice U1 nb.h.length u1, .slice U2 nb.s.length u2, .slice U3 nb.o.length u3, .slice U4 nb.r.length u4, .int .i64 nb.n]) h ))
    replace KT := zH (putC_blk (o := 0) (vs := [.slice U1 nb.h.length u1, .slice U2 nb.s.length u2, .slice U3 nb.o.length u3, .slice U4 nb.r.length u4, .int .i64 nb.n]) KT.out)
    rw [show putC wc9 (w.heap.size) 0 [.slice U1 nb.h.length u1, .slice U2 nb.s.length u2, .slice U3 nb.o.length u3, .slice U4 nb.r.length u4, .int .i64 nb.n] = ws10 from hws10] at HO
    rw [show putC wc9 (w.heap.size) 0 [.slice U1 nb.h.length u1, .slice U2 nb.s.length u2, .slice U3 nb.o.length u3, .slice U4 nb.r.length u4, .int .i64 nb.n] = ws10 from hws10] at HI HOF KT Ko KG
    replace KT : Hid (ws10.heap[w.heap.size]? = some (.cells #[.slice U1 nb.h.length u1, .slice U2 nb.s.length u2, .slice U3 nb.o.length u3, .slice U4 nb.r.length u4, .int .i64 nb.n] 27 (0, 0))) := KT.out
    clear hws10
    rw [StepQ_normal]
    refine ⟨fun _ => KG, ?_⟩
    refine ⟨by kernel_rfl, ?_⟩
    rw [OnlyN_normal]
    go_wp2_with fail
    refine bodyPost_ret (v := .agg #[.slice U1 nb.h.length u1, .slice U2 nb.s.length u2, .slice U3 nb.o.length u3, .slice U4 nb.r.length u4, .int .i64 nb.n]) ?_ rfl ⟨_, rfl, BkEi.own (HO.out.mono (Nat.zero_le _)), HI.out, HOF.out⟩
    exact ret_cell rfl _ _ _ _ _ _ rfl KT.out Tryz.underlying27 rfl (by kernel_rfl)
end Go.Proofs.YtjcdpmianmgiaaaGreatDoor
