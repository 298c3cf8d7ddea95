/- Part 22 of what the claim rests on. -/
import Derived.Test.YtjcdpmianmgiaaaGreatDoorF00
import Derived.Test.YtjcdpmianmgiaaaGreatDoorF13
import Derived.Test.YtjcdpmianmgiaaaGreatDoorF15
import Derived.Test.YtjcdpmianmgiaaaGreatDoorF16
import Derived.Test.YtjcdpmianmgiaaaGreatDoorF20
import Derived.IntWalk
import Derived.Laws.Cover1
namespace Go.Proofs.YtjcdpmianmgiaaaGreatDoor
open Go Go.RowKit
set_option linter.unusedVariables false
set_option linter.unusedSimpArgs false
set_option maxRecDepth 100000 in
set_option maxHeartbeats 16000000 in
theorem gStep_ok (vh vs vo vr : Value) (b : Bk) (e : Ev) (rate : Int) (w0 : World) (hT : Hid (Law16 w0)) (B0 : Hid (BkAt w0 (.agg #[vh, vs, vo, vr, .int .i64 b.n]) b)) (hs : Hid b.Small) (hi : Hid b.I64s) (hm : Hid (b.mayB = true)) (hE : Hid e.I64s) (hsS : Hid (b.s.length ≤ 900000)) (hr0 : 0 ≤ rate ∧ rate ≤ 1000) (hn : ¬ b.n = 1099511627776) :
    Calls Tryz.prog 14 #[.agg #[vh, vs, vo, vr, .int .i64 b.n], e.val, .int .i64 rate] w0 fun r w' => ∃ v vS, r = .returned (.tuple #[v, .agg #[.int .i64 (gateV b e rate).1, .int .i64 (gateV b e rate).2], vS, .int .i64 0]) ∧ BkOwn w' w0.heap.size v (gateB b e rate) ∧ StepsAt w' vS (gateL b e rate) ∧ Below w0.heap.size w0 w' := by
  unfold Ev.val
  obtain ⟨_, _, _, _, hv, r1, r2, r3, r4⟩ := B0.out
  injection hv with hv
  simp only [Array.mk.injEq, List.cons.injEq, and_true] at hv
  obtain ⟨rfl, rfl, rfl, rfl, _⟩ := hv
  have h6 : Hid (∀ r ∈ b.o, r.length = 6) := (by obtain ⟨_, _, _, h, _⟩ := r3; exact h)
  obtain ⟨Ah, ch, rfl, _⟩ := r1
  obtain ⟨As, cs, rfl, _⟩ := r2
  obtain ⟨Ao, co, rfl, _⟩ := r3
  obtain ⟨Ar, cr, rfl, _⟩ := r4
  have hfine := (Bk.mayB_iff b).1 hm.out
  have hR : Hid b.Rise := hfine.rise
  have hN : Hid (0 ≤ b.n ∧ b.n ≤ 1099511627776) := ⟨hfine.n0, hfine.n1⟩
  have t1 : decide (rate < 0) = false := decide_eq_false (by omega)
  have t2 : decide (1000 < rate) = false := decide_eq_false (by omega)
  have t3 : (b.n == 1099511627776) = false := beq_eq_false_iff_ne.2 hn
  have qM := zH (fun u wz hv => BkMay_any u b wz hv hs)
  rw [hm.out] at qM
  have hwr : IntKind.i64.wrap (b.n + 1) = b.n + 1 := by rw [IntKind.wrap_i64]; have := hN.out; omega
  clear hfine hn hr0
  obtain ⟨wb, hwb⟩ : ∃ wb : World, (((w0.alloc (.cells #[.slice Ah b.h.length ch, .slice As b.s.length cs, .slice Ao b.o.length co, .slice Ar b.r.length cr, .int .i64 b.n] 27)).alloc (.cells #[.int .i64 e.kind, .int .i64 e.acc, .int .i64 e.ord, .int .i64 e.sym, .int .i64 e.side, .int .i64 e.qty, .int .i64 e.px] 29)).alloc (.cells #[.slice none 0 0, .slice none 0 0, .slice none 0 0, .slice none 0 0, .int .i64 0] 27)).alloc (.cells #[.int .i64 0, .int .i64 0] 33) = wb := ⟨_, rfl⟩
  have HB : Hid (Below w0.heap.size w0 wb) := by rw [← hwb]; exact below_alloc (below_alloc (below_alloc (below_alloc (Below.refl _ _) (Nat.le_refl _) _) (by first | (simp; done) | (simp; omega)) _) (by first | (simp; done) | (simp; omega)) _) (by first | (simp; done) | (simp; omega)) _
  have Kb : Hid (wb.heap[w0.heap.size]? = some (.cells #[.slice Ah b.h.length ch, .slice As b.s.length cs, .slice Ao b.o.length co, .slice Ar b.r.length cr, .int .i64 b.n] 27 (0, 0))) := by rw [← hwb]; exact blk_old (blk_old (blk_old (heap_new _ _) _) _) _
  have Ke : Hid (wb.heap[w0.heap.size + 1]? = some (.cells #[.int .i64 e.kind, .int .i64 e.acc, .int .i64 e.ord, .int .i64 e.sym, .int .i64 e.side, .int .i64 e.qty, .int .i64 e.px] 29 (0, 0))) := by rw [← hwb]; exact blk_old (blk_old (blk_new _ _ _ (by simp)) _) _
  have Ku : Hid (wb.heap[w0.heap.size + 2]? = some (.cells #[.slice none 0 0, .slice none 0 0, .slice none 0 0, .slice none 0 0, .int .i64 0] 27 (0, 0))) := by rw [← hwb]; exact blk_old (blk_new _ _ _ (by simp)) _
  have Kv : Hid (wb.heap[w0.heap.size + 3]? = some (.cells #[.int .i64 0, .int .i64 0] 33 (0, 0))) := by rw [← hwb]; exact blk_new _ _ _ (by simp)
  have Lu : Hid (w0.heap.size ≤ w0.heap.size + 2) := Nat.le_add_right _ _
  have Lv : Hid (w0.heap.size ≤ w0.heap.size + 3) := Nat.le_add_right _ _
  replace hwb := zH hwb
  have c_b_0 := zC Kb.out
  have c_e_0 := zC Ke.out
  rw [← hwb.out] at c_b_0 c_e_0
  go_enter Tryz.func14, Tryz.ntmps14
  go_wp2_with fail
  rw [hwb.out]
  clear hwb
  clear c_b_0 c_e_0
  with_reducible refine (qM.out _ _ (zH (B0.out.call HB.out))).mono ?_
  rintro r wc1 ⟨rfl, hb⟩
  replace Kb := zK Kb hb
  replace Ke := zK Ke hb
  replace Ku := zK Ku hb
  replace Kv := zK Kv hb
  replace HB := zB HB hb
  clear hb
  obtain ⟨wm, hwm⟩ : ∃ wm : World, (wc1.alloc (.cells #[.slice Ah b.h.length ch, .slice As b.s.length cs, .slice Ao b.o.length co, .slice Ar b.r.length cr, .int .i64 b.n, .int .i64 e.kind, .int .i64 e.acc, .int .i64 e.ord, .int .i64 e.sym, .int .i64 e.side, .int .i64 e.qty, .int .i64 e.px, .int .i64 rate, .slice none 0 0] 75)).alloc (.map #[] 0) = wm := ⟨_, rfl⟩
  have hbm : Below wc1.heap.size wc1 wm := by rw [← hwm]; exact below_alloc (below_alloc (Below.refl _ _) (Nat.le_refl _) _) (by simp) _
  have KG : Hid (wm.heap[wc1.heap.size]? = some (.cells #[.slice Ah b.h.length ch, .slice As b.s.length cs, .slice Ao b.o.length co, .slice Ar b.r.length cr, .int .i64 b.n, .int .i64 e.kind, .int .i64 e.acc, .int .i64 e.ord, .int .i64 e.sym, .int .i64 e.side, .int .i64 e.qty, .int .i64 e.px, .int .i64 rate, .slice none 0 0] 75 (0, 0))) := by rw [← hwm]; exact blk_old (heap_new _ _) _
  have HMP : Hid (wm.heap[wc1.heap.size + 1]? = some (.map #[] 0)) := by rw [← hwm]; exact blk_new _ _ _ (by simp)
  have HGE : Hid (w0.heap.size ≤ wc1.heap.size) := HB.out.size
  have c_b_0 := zC Kb.out
  have lt_b := zL Kb.out
  have c_e_0 := zC Ke.out
  have lt_e := zL Ke.out
  replace hwm := zH hwm
  have hmm := @run_makeMap Tryz.prog
  have Mb := zK Kb hbm
  have Me := zK Ke hbm
  have Mu := zK Ku hbm
  have Mv := zK Kv hbm
  have MB := zB HB hbm
  have MZ : Hid (w0.heap.size ≤ wm.heap.size) := MB.out.size
  clear hbm
  have cb0 := cells_of_blk Mb.out 0 _ rfl
  have cb1 := cells_of_blk Mb.out 1 _ rfl
  have cb2 := cells_of_blk Mb.out 2 _ rfl
  have cb3 := cells_of_blk Mb.out 3 _ rfl
  have cb4 := cells_of_blk Mb.out 4 _ rfl
  have ltb := zL Mb.out
  go_wp2_with ((first | (rw [hwm.out]; refine wpList_insert_new rfl _ _ _ 77 rfl Tryz.underlying77 Tryz.underlying3 (wc1.heap.size + 1) _ _ _ (.func (.func _) #[.pointer (some ⟨wc1.heap.size, 0, none⟩)] #[]) rfl rfl rfl HMP.out rfl ?_) | (refine wpList_insert_new rfl _ _ _ 77 rfl Tryz.underlying77 Tryz.underlying3 (wc1.heap.size + 1) _ _ _ (.func (.func _) #[.pointer (some ⟨wc1.heap.size, 0, none⟩)] #[]) rfl rfl rfl HMP.out rfl ?_)); intro wx hx hgx; replace Mb := zH (blk_grown Mb.out hgx (blk_mne Mb.out HMP.out)); replace Me := zH (blk_grown Me.out hgx (blk_mne Me.out HMP.out)); replace Mu := zH (blk_grown Mu.out hgx (blk_mne Mu.out HMP.out)); replace Mv := zH (blk_grown Mv.out hgx (blk_mne Mv.out HMP.out)); replace KG := zH (blk_grown KG.out hgx (blk_mne KG.out HMP.out)); replace MB := zH (below_grown MB.out hgx (Nat.le_succ_of_le HGE.out) MZ.out); replace MZ := zH (Nat.le_trans MZ.out hgx.size); replace HMP := zH hx; clear hx hgx; replace cb0 := cells_of_blk Mb.out 0 _ rfl; replace cb1 := cells_of_blk Mb.out 1 _ rfl; replace cb2 := cells_of_blk Mb.out 2 _ rfl; replace cb3 := cells_of_blk Mb.out 3 _ rfl; replace cb4 := cells_of_blk Mb.out 4 _ rfl; replace ltb := (zL Mb.out))
  clear c_b_0 lt_b c_e_0 lt_e
  have HI : Hid (Gt w0 wc1.heap.size (.slice Ah b.h.length ch) (.slice As b.s.length cs) (.slice Ao b.o.length co) (.slice Ar b.r.length cr) b e rate ([] : List Stp) wx) := ⟨⟨_, KG.out, StepsOwn.nil _ _⟩, MB.out, HGE.out⟩
  have HMP2 : Hid (wx.heap[wc1.heap.size + 1]? = some (.map (doesE wc1.heap.size) 7)) := HMP
  clear cb0 cb1 cb2 cb3 cb4 ltb hmm qM t1 t2 t3
  clear HMP KG MB MZ Kb Ke Ku Kv HB HGE hwm
  replace HMP := HMP2
  clear HMP2
  obtain ⟨g, hgq⟩ : ∃ g : Nat, wc1.heap.size = g := ⟨_, rfl⟩
  rw [hgq] at HI HMP ⊢
  clear hgq
  have Ln : Hid (w0.heap.size ≤ wx.heap.size) := HI.out.below.size
  have NE : Hid (w0.heap.size + 2 ≠ wx.heap.size) := Nat.ne_of_lt (zL Mu.out)
  have NE2 : Hid (w0.heap.size + 3 ≠ wx.heap.size) := Nat.ne_of_lt (zL Mv.out)
  clear Mb
  obtain ⟨wa2, hwa2⟩ : ∃ wa2 : World, wx.alloc (.cells #[.slice Ah b.h.length ch, .slice As b.s.length cs, .slice Ao b.o.length co, .slice Ar b.r.length cr, .int .i64 b.n] 27) = wa2 := ⟨_, rfl⟩
  rw [hwa2]
  have hbwa2 : Below wx.heap.size wx wa2 := by rw [← hwa2]; exact below_alloc (Below.refl _ _) (Nat.le_refl _) _
  replace Me := zK Me hbwa2
  replace Mu := zK Mu hbwa2
  replace Mv := zK Mv hbwa2
  replace HI := zH (HI.out.kept hbwa2)
  replace HMP := zK HMP hbwa2
  have Kn : Hid (wa2.heap[wx.heap.size]? = some (.cells #[.slice Ah b.h.length ch, .slice As b.s.length cs, .slice Ao b.o.length co, .slice Ar b.r.length cr, .int .i64 b.n] 27 (0, 0))) := by rw [← hwa2]; exact heap_new _ _
  clear hwa2 hbwa2
  have KG := zH (HI.out.blk.imp fun _ h => h.1)
  have hl0 : Hid (([] : List Stp).length ≤ 50) := Nat.zero_le _
  obtain ⟨FA, hFA⟩ : ∃ FA, ([sS 1 (e.kind) (1), sS 2 (e.kind) (7)]).all (·.holds) = FA := ⟨_, rfl⟩
  replace hFA := zH hFA
  refine wp_region_D [] (fun wz : World => Hid (wz.heap[w0.heap.size + 1]? = some (.cells #[.int .i64 e.kind, .int .i64 e.acc, .int .i64 e.ord, .int .i64 e.sym, .int .i64 e.side, .int .i64 e.qty, .int .i64 e.px] 29 (0, 0)))) 10 #[false, false, false, false, false, false, false, false, false, false] (by kernel_rfl) (by kernel_rfl) (by kernel_rfl) ?_
  obtain ⟨wd3, hwd3⟩ : ∃ wd3 : World, { wa2 with drawn := wa2.drawn + 1 } = wd3 := ⟨_, rfl⟩
  rw [hwd3]
  have hbwd3 : Below wa2.heap.size wa2 wd3 := by rw [← hwd3]; exact (Below.refl _ _).drew
  replace Me := zK Me hbwd3
  replace Mu := zK Mu hbwd3
  replace Mv := zK Mv hbwd3
  replace Kn := zK Kn hbwd3
  replace KG := zH ((KG.out.imp fun _ h => blk_call h hbwd3))
  replace HI := zH (HI.out.kept hbwd3)
  replace HMP := zK HMP hbwd3
  clear hwd3 hbwd3
  refine pure_moreD [0, 1, 2, 4, 5, 6] 4 (L' := #[true, true, true, false, true, true, true, false, false, false]) (by kernel_rfl) (by kernel_rfl) Me ?_
  simp only [opsAt, List.getElem?_toArray, List.getElem?_cons_zero, List.getElem?_cons_succ]
  refine pure_moveG rfl rfl ?_
  refine pure_atG (.pointer (some ⟨w0.heap.size + 1, 0, none⟩)) rfl (fun wz _ => by unfold execOp; go_simp) ?_
  refine pure_atG (.int .i64 e.kind) rfl (fun wz hC => by have c0 := cells_of_blk hC.out 0 _ rfl; unfold execOp; go_simp) ?_
  refine pure_moveG rfl rfl ?_
  refine pure_atG (.pointer (some ⟨w0.heap.size + 1, 0, none⟩)) rfl (fun wz _ => by unfold execOp; go_simp) ?_
  refine pure_atG (.int .i64 e.kind) rfl (fun wz hC => by have c0 := cells_of_blk hC.out 0 _ rfl; unfold execOp; go_simp) ?_
  unfold wpPure
  go_simp
  refine wpAnyD_one 3 (f := 3) (L' := #[true, true, true, true, true, true, true, false, false, false]) (by kernel_rfl) (by kernel_rfl) rfl rfl ?_
  go_wp2_with fail
  with_reducible refine (sides_any w0 g (.slice Ah b.h.length ch) (.slice As b.s.length cs) (.slice Ao b.o.length co) (.slice Ar b.r.length cr) b e rate hT 1 (e.kind) (1) (gfit _ _ _ (by omega) hE.out.kind (i64_lit (by omega))) _).mono ?_
  rintro e wc4 ⟨f1, rfl, hl1, hb⟩
  replace Me := zK Me hb
  replace Mu := zK Mu hb
  replace Mv := zK Mv hb
  replace Kn := zK Kn hb
  replace KG := zH ((KG.out.imp fun _ h => blk_call h hb))
  replace HI := zH (HI.out.kept hb)
  replace HMP := zK HMP hb
  clear hb
  obtain ⟨J1, j1, rfl⟩ := hl1.form
  have HK1 := zH hl1
  clear hl1
  go_wp2_with fail
  rw [StepQ_normal]
  refine ⟨fun _ => Me, ?_⟩
  refine wpAnyD_one 7 (f := 2) (L' := #[true, true, true, true, true, true, true, true, false, false]) (by kernel_rfl) (by kernel_rfl) rfl rfl ?_
  go_wp2_with fail
  with_reducible refine (sides_any w0 g (.slice Ah b.h.length ch) (.slice As b.s.length cs) (.slice Ao b.o.length co) (.slice Ar b.r.length cr) b e rate hT 2 (e.kind) (7) (gfit _ _ _ (by omega) hE.out.kind (i64_lit (by omega))) _).mono ?_
  rintro e wc5 ⟨f2, rfl, hl2, hb⟩
  replace Me := zK Me hb
  replace Mu := zK Mu hb
  replace Mv := zK Mv hb
  replace Kn := zK Kn hb
  replace KG := zH ((KG.out.imp fun _ h => blk_call h hb))
  replace HI := zH (HI.out.kept hb)
  replace HMP := zK HMP hb
  replace HK1 := zH (HK1.out.off (Off.of hb))
  clear hb
  obtain ⟨J2, j2, rfl⟩ := hl2.form
  have HK2 := zH hl2
  clear hl2
  go_wp2_with fail
  rw [StepQ_normal]
  refine ⟨fun _ => Me, ?_⟩
  refine wpAnyD_one 8 (f := 1) (L' := #[true, true, true, true, true, true, true, true, true, false]) (by kernel_rfl) (by kernel_rfl) rfl rfl ?_
  go_wp2_with fail
  obtain ⟨wa6, hwa6⟩ : ∃ wa6 : World, wc5.alloc (.cells #[.func (.func J1) #[] j1, .func (.func J2) #[] j2] 79) = wa6 := ⟨_, rfl⟩
  rw [hwa6]
  have hbwa6 : Below wc5.heap.size wc5 wa6 := by rw [← hwa6]; exact below_alloc (Below.refl _ _) (Nat.le_refl _) _
  replace Me := zK Me hbwa6
  replace Mu := zK Mu hbwa6
  replace Mv := zK Mv hbwa6
  replace Kn := zK Kn hbwa6
  replace KG := zH ((KG.out.imp fun _ h => blk_call h hbwa6))
  replace HI := zH (HI.out.kept hbwa6)
  replace HMP := zK HMP hbwa6
  replace HK1 := zH (HK1.out.off (Off.of hbwa6))
  replace HK2 := zH (HK2.out.off (Off.of hbwa6))
  have Kfs : Hid (wa6.heap[wc5.heap.size]? = some (.cells #[.func (.func J1) #[] j1, .func (.func J2) #[] j2] 79 (0, 0))) := by rw [← hwa6]; exact heap_new _ _
  clear hwa6 hbwa6
  rw [StepQ_normal]
  refine ⟨fun _ => Me, ?_⟩
  refine wpAnyD_one 9 (f := 0) (L' := #[true, true, true, true, true, true, true, true, true, true]) (by kernel_rfl) (by kernel_rfl) rfl rfl ?_
  go_wp2_with fail
  have qall := zH (all_any (Gt w0 g (.slice Ah b.h.length ch) (.slice As b.s.length cs) (.slice Ao b.o.length co) (.slice Ar b.r.length cr) b e rate) (wc5.heap.size) 2 [(.func (.func J1) #[] j1, sS 1 (e.kind) (1)), (.func (.func J2) #[] j2, sS 2 (e.kind) (7))] #[.func (.func J1) #[] j1, .func (.func J2) #[] j2] ([] : List Stp) _ rfl rfl Kfs (zH (by intro x hx; simp only [List.mem_cons, List.not_mem_nil, or_false] at hx; rcases hx with rfl | rfl <;> first | exact HK1.out | exact HK2.out)) HI (by have := hl0.out; show _ ≤ _; omega))
  have qall2 : Hid (Calls Tryz.prog 43 #[.slice (some ⟨wc5.heap.size, 0, none⟩) 2 2] wa6 fun r w' => r = .returned (.bool FA) ∧ Gt w0 g (.slice Ah b.h.length ch) (.slice As b.s.length cs) (.slice Ao b.o.length co) (.slice Ar b.r.length cr) b e rate (([] : List Stp) ++ cutL ([sS 1 (e.kind) (1), sS 2 (e.kind) (7)])) w' ∧ Off wa6 w') := by rw [← hFA.out]; exact qall.out
  clear qall
  with_reducible refine qall2.out.mono ?_
  rintro r wl7 ⟨rfl, hI2, ho⟩
  clear qall2 HI HK1 HK2
  replace Me := zH (ho.blk _ _ _ _ Me.out (by decide) (by decide))
  replace Mu := zH (ho.blk _ _ _ _ Mu.out (by decide) (by decide))
  replace Mv := zH (ho.blk _ _ _ _ Mv.out (by decide) (by decide))
  replace Kn := zH (ho.blk _ _ _ _ Kn.out (by decide) (by decide))
  replace HMP := zH (ho.map _ _ _ HMP.out)
  clear Kfs KG ho
  have HI := zH hI2
  clear hI2
  have KG := zH (HI.out.blk.imp fun _ h => h.1)
  go_wp2_with fail
  rw [StepQ_normal]
  refine ⟨fun _ => Me, ?_⟩
  refine ⟨by kernel_rfl, ?_⟩
  rw [OnlyN_normal]
  cases FA with
  | false =>
    clear Me
    have hfa : (headS e).all (·.holds) = false := hFA.out
    have HBn : Hid (BkAt wl7 (.agg #[.slice Ah b.h.length ch, .slice As b.s.length cs, .slice Ao b.o.length co, .slice Ar b.r.length cr, .int .i64 b.n]) (doneB b e rate)) := by rw [doneB_stop hfa]; exact B0.out.call HI.out.below
    clear HMP
    clear KG
    obtain ⟨vX, hX, hS⟩ := HI.out.blk
    have KX := zH hX
    have HS := zH hS
    clear hX hS
    rw [show [] ++ cutL [sS 1 (e.kind) (1), sS 2 (e.kind) (7)] = gateL b e rate from gateL_stop hfa] at HS
    have c_g_0 := zC KX.out
    go_wp2_with fail
    with_reducible refine (Weigh_any _ _ _ (zH (hT.out.call HI.out.below)) (zH HS.out.at) (Nat.le_trans (gateL_len b e rate) (by decide))).mono ?_
    rintro r wc8 ⟨hr, hb⟩
    rw [if_pos (gateL_may b e rate)] at hr
    subst hr
    clear c_g_0
    replace Mu := zK Mu hb
    replace Mv := zK Mv hb
    replace Kn := zK Kn hb
    replace KX := zK KX hb
    replace HI := zH (HI.out.kept hb)
    replace HS := zH (HS.out.kept hb)
    replace HBn := zH (HBn.out.call hb)
    clear hb
    have c_n_0 := zC Kn.out
    have lt_n := zL Kn.out
    go_wp2_with fail
    have NQ : Hid (wc8.heap.size ≠ w0.heap.size + 3) := (Nat.ne_of_lt (zL Mv.out)).symm
    obtain ⟨wa9, hwa9⟩ : ∃ wa9 : World, wc8.alloc (.cells #[.int .i64 (goW (gateL b e rate) 0).1, .int .i64 (goW (gateL b e rate) 0).2] 33) = wa9 := ⟨_, rfl⟩
    rw [hwa9]
    have hbwa9 : Below wc8.heap.size wc8 wa9 := by rw [← hwa9]; exact below_alloc (Below.refl _ _) (Nat.le_refl _) _
    replace Mu := zK Mu hbwa9
    replace Mv := zK Mv hbwa9
    replace Kn := zK Kn hbwa9
    replace KX := zK KX hbwa9
    replace HI := zH (HI.out.kept hbwa9)
    replace HS := zH (HS.out.kept hbwa9)
    replace HBn := zH (HBn.out.call hbwa9)
    have Kq : Hid (wa9.heap[wc8.heap.size]? = some (.cells #[.int .i64 (goW (gateL b e rate) 0).1, .int .i64 (goW (gateL b e rate) 0).2] 33 (0, 0))) := by rw [← hwa9]; exact heap_new _ _
    clear hwa9 hbwa9
    have LB : Hid (w0.heap.size ≤ wa9.heap.size) := HI.out.below.size
    have LV : Hid (w0.heap.size + 3 < wa9.heap.size) := zL Mv.out
    with_reducible refine (Copy_any _ _ _ HBn (zH (doneB_small hm.out h6.out hsS.out e rate))).mono ?_
    rintro r wc10 ⟨v5, rfl, hO, hb⟩
    clear c_n_0 lt_n
    replace Mu := zK Mu hb
    replace Mv := zK Mv hb
    replace Kn := zK Kn hb
    replace KX := zK KX hb
    replace Kq := zK Kq hb
    replace HI := zH (HI.out.kept hb)
    replace HS := zH (HS.out.kept hb)
    replace HBn := zH (HBn.out.call hb)
    clear hb HBn
    obtain ⟨U1, u1, U2, u2, U3, u3, U4, u4, hv5⟩ := hO.form
    rw [doneB_n] at hv5
    subst hv5
    have HO := zH hO
    clear hO
    have c_n_0 := zC Kn.out
    have fc_n_0 := zF Kn.out
    go_wp2_with fail
    obtain ⟨ws11, hws11⟩ : ∃ ws11 : World, ((((wc10.setCell ⟨wx.heap.size, 0, none⟩ (.slice U1 (doneB b e rate).h.length u1)).setCell ⟨wx.heap.size, 1, none⟩ (.slice U2 (doneB b e rate).s.length u2)).setCell ⟨wx.heap.size, 2, none⟩ (.slice U3 (doneB b e rate).o.length u3)).setCell ⟨wx.heap.size, 3, none⟩ (.slice U4 (doneB b e rate).r.length u4)).setCell ⟨wx.heap.size, 4, none⟩ (.int .i64 b.n) = ws11 := ⟨_, rfl⟩
    rw [hws11]
    clear c_n_0 fc_n_0
    have zE : putC wc10 (wx.heap.size) 0 [(.slice U1 (doneB b e rate).h.length u1 : Value), .slice U2 (doneB b e rate).s.length u2, .slice U3 (doneB b e rate).o.length u3, .slice U4 (doneB b e rate).r.length u4, .int .i64 b.n] = ws11 := hws11
    replace HO : Hid _ := zH (HO.out.put Kn.out 0 [(.slice U1 (doneB b e rate).h.length u1 : Value), .slice U2 (doneB b e rate).s.length u2, .slice U3 (doneB b e rate).o.length u3, .slice U4 (doneB b e rate).r.length u4, .int .i64 b.n])
    replace HS : Hid _ := zH (putC_steps (by decide) (o := 0) (vs := [(.slice U1 (doneB b e rate).h.length u1 : Value), .slice U2 (doneB b e rate).s.length u2, .slice U3 (doneB b e rate).o.length u3, .slice U4 (doneB b e rate).r.length u4, .int .i64 b.n]) Kn.out HS.out)
    replace HI := zH (HI.out.put Kn.out (by decide) (by decide) Ln.out 0 [(.slice U1 (doneB b e rate).h.length u1 : Value), .slice U2 (doneB b e rate).s.length u2, .slice U3 (doneB b e rate).o.length u3, .slice U4 (doneB b e rate).r.length u4, .int .i64 b.n])
    replace Mu := zH (putC_oth NE.out (o := 0) (vs := [(.slice U1 (doneB b e rate).h.length u1 : Value), .slice U2 (doneB b e rate).s.length u2, .slice U3 (doneB b e rate).o.length u3, .slice U4 (doneB b e rate).r.length u4, .int .i64 b.n]) Mu.out )
    replace Mv := zH (putC_oth NE2.out (o := 0) (vs := [(.slice U1 (doneB b e rate).h.length u1 : Value), .slice U2 (doneB b e rate).s.length u2, .slice U3 (doneB b e rate).o.length u3, .slice U4 (doneB b e rate).r.length u4, .int .i64 b.n]) Mv.out )
    replace KX := zH (putC_oth (blk_ne KX.out Kn.out (by decide)) (o := 0) (vs := [(.slice U1 (doneB b e rate).h.length u1 : Value), .slice U2 (doneB b e rate).s.length u2, .slice U3 (doneB b e rate).o.length u3, .slice U4 (doneB b e rate).r.length u4, .int .i64 b.n]) KX.out )
    replace Kq := zH (putC_oth (blk_ne Kq.out Kn.out (by decide)) (o := 0) (vs := [(.slice U1 (doneB b e rate).h.length u1 : Value), .slice U2 (doneB b e rate).s.length u2, .slice U3 (doneB b e rate).o.length u3, .slice U4 (doneB b e rate).r.length u4, .int .i64 b.n]) Kq.out )
    rw [zE] at HI HO HS Mu Mv KX Kq
    replace Kn := zP zE Kn
    clear zE
    replace Kn : Hid (ws11.heap[wx.heap.size]? = some (.cells #[.slice U1 (doneB b e rate).h.length u1, .slice U2 (doneB b e rate).s.length u2, .slice U3 (doneB b e rate).o.length u3, .slice U4 (doneB b e rate).r.length u4, .int .i64 b.n] 27 (0, 0))) := Kn.out
    clear hws11
    have c_n_0 := zC Kn.out
    have fc_n_0 := zF Kn.out
    go_wp2_with fail
    obtain ⟨ws12, hws12⟩ : ∃ ws12 : World, ws11.setCell ⟨wx.heap.size, 4, none⟩ (.int .i64 (b.n + 1)) = ws12 := ⟨_, rfl⟩
    rw [hws12]
    clear c_n_0 fc_n_0
    have zE : putC ws11 (wx.heap.size) 4 [(.int .i64 (b.n + 1) : Value)] = ws12 := hws12
    replace HO : Hid _ := zH (HO.out.put Kn.out 4 [(.int .i64 (b.n + 1) : Value)])
    replace HS : Hid _ := zH (putC_steps (by decide) (o := 4) (vs := [(.int .i64 (b.n + 1) : Value)]) Kn.out HS.out)
    replace HI := zH (HI.out.put Kn.out (by decide) (by decide) Ln.out 4 [(.int .i64 (b.n + 1) : Value)])
    replace Mu := zH (putC_oth NE.out (o := 4) (vs := [(.int .i64 (b.n + 1) : Value)]) Mu.out )
    replace Mv := zH (putC_oth NE2.out (o := 4) (vs := [(.int .i64 (b.n + 1) : Value)]) Mv.out )
    replace KX := zH (putC_oth (blk_ne KX.out Kn.out (by decide)) (o := 4) (vs := [(.int .i64 (b.n + 1) : Value)]) KX.out )
    replace Kq := zH (putC_oth (blk_ne Kq.out Kn.out (by decide)) (o := 4) (vs := [(.int .i64 (b.n + 1) : Value)]) Kq.out )
    rw [zE] at HI HO HS Mu Mv KX Kq
    replace Kn := zP zE Kn
    clear zE
    replace Kn : Hid (ws12.heap[wx.heap.size]? = some (.cells #[.slice U1 (doneB b e rate).h.length u1, .slice U2 (doneB b e rate).s.length u2, .slice U3 (doneB b e rate).o.length u3, .slice U4 (doneB b e rate).r.length u4, .int .i64 (b.n + 1)] 27 (0, 0))) := Kn.out
    clear hws12
    go_wp2_with fail
    refine wp_region_D [] (fun wz : World => Hid (wz.heap[wx.heap.size]? = some (.cells #[.slice U1 (doneB b e rate).h.length u1, .slice U2 (doneB b e rate).s.length u2, .slice U3 (doneB b e rate).o.length u3, .slice U4 (doneB b e rate).r.length u4, .int .i64 (b.n + 1)] 27 (0, 0))) ∧ Hid (wz.heap[wc8.heap.size]? = some (.cells #[.int .i64 (goW (gateL b e rate) 0).1, .int .i64 (goW (gateL b e rate) 0).2] 33 (0, 0))) ∧ Hid (wz.heap[g]? = some (.cells #[.slice Ah b.h.length ch, .slice As b.s.length cs, .slice Ao b.o.length co, .slice Ar b.r.length cr, .int .i64 b.n, .int .i64 e.kind, .int .i64 e.acc, .int .i64 e.ord, .int .i64 e.sym, .int .i64 e.side, .int .i64 e.qty, .int .i64 e.px, .int .i64 rate, vX] 75 (0, 0)))) 10 #[false, false, false, false, false, false, false, false, false, false] (by kernel_rfl) (by kernel_rfl) (by kernel_rfl) ?_
    obtain ⟨wd13, hwd13⟩ : ∃ wd13 : World, { ws12 with drawn := ws12.drawn + 1 } = wd13 := ⟨_, rfl⟩
    rw [hwd13]
    have hbwd13 : Below ws12.heap.size ws12 wd13 := by rw [← hwd13]; exact (Below.refl _ _).drew
    replace Mu := zK Mu hbwd13
    replace Mv := zK Mv hbwd13
    replace Kn := zK Kn hbwd13
    replace KX := zK KX hbwd13
    replace Kq := zK Kq hbwd13
    replace HI := zH (HI.out.kept hbwd13)
    replace HS := zH (HS.out.kept hbwd13)
    replace HO := zH (HO.out.kept hbwd13)
    clear hwd13 hbwd13
    refine pure_moreD [0, 1, 2, 3, 4, 5] 4 (L' := #[true, true, true, true, true, true, false, false, false, false]) (by kernel_rfl) (by kernel_rfl) ⟨Kn, Kq, KX⟩ ?_
    simp only [opsAt, List.getElem?_toArray, List.getElem?_cons_zero, List.getElem?_cons_succ]
    refine pure_atG (.agg #[.slice U1 (doneB b e rate).h.length u1, .slice U2 (doneB b e rate).s.length u2, .slice U3 (doneB b e rate).o.length u3, .slice U4 (doneB b e rate).r.length u4, .int .i64 (b.n + 1)]) rfl (fun wz hC => by have c0 := cells_of_blk hC.1.out 0 _ rfl; have c1 := cells_of_blk hC.1.out 1 _ rfl; have c2 := cells_of_blk hC.1.out 2 _ rfl; have c3 := cells_of_blk hC.1.out 3 _ rfl; have c4 := cells_of_blk hC.1.out 4 _ rfl; unfold execOp; go_simp) ?_
    refine pure_atG (.agg #[.int .i64 (goW (gateL b e rate) 0).1, .int .i64 (goW (gateL b e rate) 0).2]) rfl (fun wz hC => by have c0 := cells_of_blk hC.2.1.out 0 _ rfl; have c1 := cells_of_blk hC.2.1.out 1 _ rfl; unfold execOp; go_simp) ?_
    refine pure_moveG rfl rfl ?_
    refine pure_atG (.pointer (some ⟨g, 0, none⟩)) rfl (fun wz _ => by unfold execOp; go_simp) ?_
    refine pure_atG (.pointer (some ⟨g, 13, none⟩)) rfl (fun wz _ => by unfold execOp; go_simp) ?_
    refine pure_atG (vX) rfl (fun wz hC => by have c0 := cells_of_blk hC.2.2.out 13 _ rfl; unfold execOp; go_simp) ?_
    unfold wpPure
    go_simp
    have c_u_0 := zC Mu.out
    have fc_u_0 := zF Mu.out
    refine wpAnyD_one 6 (f := 3) (L' := #[true, true, true, true, true, true, true, false, false, false]) (by kernel_rfl) (by kernel_rfl) rfl rfl ?_
    go_wp2_with fail
    obtain ⟨ws14, hws14⟩ : ∃ ws14 : World, ((((wd13.setCell ⟨w0.heap.size + 2, 0, none⟩ (.slice U1 (doneB b e rate).h.length u1)).setCell ⟨w0.heap.size + 2, 1, none⟩ (.slice U2 (doneB b e rate).s.length u2)).setCell ⟨w0.heap.size + 2, 2, none⟩ (.slice U3 (doneB b e rate).o.length u3)).setCell ⟨w0.heap.size + 2, 3, none⟩ (.slice U4 (doneB b e rate).r.length u4)).setCell ⟨w0.heap.size + 2, 4, none⟩ (.int .i64 (b.n + 1)) = ws14 := ⟨_, rfl⟩
    rw [hws14]
    clear c_u_0 fc_u_0
    have zE : putC wd13 (w0.heap.size + 2) 0 [(.slice U1 (doneB b e rate).h.length u1 : Value), .slice U2 (doneB b e rate).s.length u2, .slice U3 (doneB b e rate).o.length u3, .slice U4 (doneB b e rate).r.length u4, .int .i64 (b.n + 1)] = ws14 := hws14
    replace HO : Hid _ := zH (HO.out.put Mu.out 0 [(.slice U1 (doneB b e rate).h.length u1 : Value), .slice U2 (doneB b e rate).s.length u2, .slice U3 (doneB b e rate).o.length u3, .slice U4 (doneB b e rate).r.length u4, .int .i64 (b.n + 1)])
    replace HS : Hid _ := zH (putC_steps (by decide) (o := 0) (vs := [(.slice U1 (doneB b e rate).h.length u1 : Value), .slice U2 (doneB b e rate).s.length u2, .slice U3 (doneB b e rate).o.length u3, .slice U4 (doneB b e rate).r.length u4, .int .i64 (b.n + 1)]) Mu.out HS.out)
    replace HI := zH (HI.out.put Mu.out (by decide) (by decide) Lu.out 0 [(.slice U1 (doneB b e rate).h.length u1 : Value), .slice U2 (doneB b e rate).s.length u2, .slice U3 (doneB b e rate).o.length u3, .slice U4 (doneB b e rate).r.length u4, .int .i64 (b.n + 1)])
    replace Mv := zH (putC_oth (blk_ne Mv.out Mu.out (by decide)) (o := 0) (vs := [(.slice U1 (doneB b e rate).h.length u1 : Value), .slice U2 (doneB b e rate).s.length u2, .slice U3 (doneB b e rate).o.length u3, .slice U4 (doneB b e rate).r.length u4, .int .i64 (b.n + 1)]) Mv.out )
    replace Kn := zH (putC_oth NE.out.symm (o := 0) (vs := [(.slice U1 (doneB b e rate).h.length u1 : Value), .slice U2 (doneB b e rate).s.length u2, .slice U3 (doneB b e rate).o.length u3, .slice U4 (doneB b e rate).r.length u4, .int .i64 (b.n + 1)]) Kn.out )
    replace KX := zH (putC_oth (blk_ne KX.out Mu.out (by decide)) (o := 0) (vs := [(.slice U1 (doneB b e rate).h.length u1 : Value), .slice U2 (doneB b e rate).s.length u2, .slice U3 (doneB b e rate).o.length u3, .slice U4 (doneB b e rate).r.length u4, .int .i64 (b.n + 1)]) KX.out )
    replace Kq := zH (putC_oth (blk_ne Kq.out Mu.out (by decide)) (o := 0) (vs := [(.slice U1 (doneB b e rate).h.length u1 : Value), .slice U2 (doneB b e rate).s.length u2, .slice U3 (doneB b e rate).o.length u3, .slice U4 (doneB b e rate).r.length u4, .int .i64 (b.n + 1)]) Kq.out )
    rw [zE] at HI HO HS Mv Kn KX Kq
    replace Mu := zP zE Mu
    clear zE
    replace Mu : Hid (ws14.heap[w0.heap.size + 2]? = some (.cells #[.slice U1 (doneB b e rate).h.length u1, .slice U2 (doneB b e rate).s.length u2, .slice U3 (doneB b e rate).o.length u3, .slice U4 (doneB b e rate).r.length u4, .int .i64 (b.n + 1)] 27 (0, 0))) := Mu.out
    clear hws14
    rw [StepQ_normal]
    refine ⟨fun _ => ⟨Kn, Kq, KX⟩, ?_⟩
    have c_v_0 := zC Mv.out
    have fc_v_0 := zF Mv.out
    refine wpAnyD_one 7 (f := 2) (L' := #[true, true, true, true, true, true, true, true, false, false]) (by kernel_rfl) (by kernel_rfl) rfl rfl ?_
    go_wp2_with fail
    obtain ⟨ws15, hws15⟩ : ∃ ws15 : World, (ws14.setCell ⟨w0.heap.size + 3, 0, none⟩ (.int .i64 (goW (gateL b e rate) 0).1)).setCell ⟨w0.heap.size + 3, 1, none⟩ (.int .i64 (goW (gateL b e rate) 0).2) = ws15 := ⟨_, rfl⟩
    rw [hws15]
    clear c_v_0 fc_v_0
    have zE : putC ws14 (w0.heap.size + 3) 0 [(.int .i64 (goW (gateL b e rate) 0).1 : Value), .int .i64 (goW (gateL b e rate) 0).2] = ws15 := hws15
    replace HO : Hid _ := zH (HO.out.low LV.out 0 [(.int .i64 (goW (gateL b e rate) 0).1 : Value), .int .i64 (goW (gateL b e rate) 0).2])
    replace HS : Hid _ := zH (putC_steps (by decide) (o := 0) (vs := [(.int .i64 (goW (gateL b e rate) 0).1 : Value), .int .i64 (goW (gateL b e rate) 0).2]) Mv.out HS.out)
    replace HI := zH (HI.out.put Mv.out (by decide) (by decide) Lv.out 0 [(.int .i64 (goW (gateL b e rate) 0).1 : Value), .int .i64 (goW (gateL b e rate) 0).2])
    replace Mu := zH (putC_oth (blk_ne Mu.out Mv.out (by decide)) (o := 0) (vs := [(.int .i64 (goW (gateL b e rate) 0).1 : Value), .int .i64 (goW (gateL b e rate) 0).2]) Mu.out )
    replace Kn := zH (putC_oth (blk_ne Kn.out Mv.out (by decide)) (o := 0) (vs := [(.int .i64 (goW (gateL b e rate) 0).1 : Value), .int .i64 (goW (gateL b e rate) 0).2]) Kn.out )
    replace KX := zH (putC_oth (blk_ne KX.out Mv.out (by decide)) (o := 0) (vs := [(.int .i64 (goW (gateL b e rate) 0).1 : Value), .int .i64 (goW (gateL b e rate) 0).2]) KX.out )
    replace Kq := zH (putC_oth NQ.out (o := 0) (vs := [(.int .i64 (goW (gateL b e rate) 0).1 : Value), .int .i64 (goW (gateL b e rate) 0).2]) Kq.out )
    rw [zE] at HI HO HS Mu Kn KX Kq
    replace Mv := zP zE Mv
    clear zE
    replace Mv : Hid (ws15.heap[w0.heap.size + 3]? = some (.cells #[.int .i64 (goW (gateL b e rate) 0).1, .int .i64 (goW (gateL b e rate) 0).2] 33 (0, 0))) := Mv.out
    clear hws15
    rw [StepQ_normal]
    refine ⟨fun _ => ⟨Kn, Kq, KX⟩, ?_⟩
    refine wpAnyD_one 8 (f := 1) (L' := #[true, true, true, true, true, true, true, true, true, false]) (by kernel_rfl) (by kernel_rfl) rfl rfl ?_
    go_wp2_with fail
    rw [StepQ_normal]
    refine ⟨fun _ => ⟨Kn, Kq, KX⟩, ?_⟩
    refine wpAnyD_one 9 (f := 0) (L' := #[true, true, true, true, true, true, true, true, true, true]) (by kernel_rfl) (by kernel_rfl) rfl rfl ?_
    go_wp2_with fail
    rw [StepQ_normal]
    refine ⟨fun _ => ⟨Kn, Kq, KX⟩, ?_⟩
    refine ⟨by kernel_rfl, ?_⟩
    rw [OnlyN_normal]
    go_wp2_with fail
    refine bodyPost_ret (v := .tuple #[.agg #[.slice U1 (doneB b e rate).h.length u1, .slice U2 (doneB b e rate).s.length u2, .slice U3 (doneB b e rate).o.length u3, .slice U4 (doneB b e rate).r.length u4, .int .i64 (b.n + 1)], .agg #[.int .i64 (gateV b e rate).1, .int .i64 (gateV b e rate).2], vX, .int .i64 0]) ?_ rfl ⟨_, vX, rfl, (HO.out.count (b.n + 1)).mono LB.out, HS.out.at, HI.out.below⟩
    exact ret_c2t2 rfl _ _ _ _ _ _ _ _ _ _ rfl Mu.out Tryz.underlying27 rfl (by kernel_rfl) rfl Mv.out Tryz.underlying33 rfl (by kernel_rfl) _ _ rfl rfl
  | true =>
    have hfa : (headS e).all (·.holds) = true := hFA.out
    have hk := (headS_iff e).1 hfa
    obtain ⟨J, jj, hf, eJ, hJ⟩ := does_any w0 g (.slice Ah b.h.length ch) (.slice As b.s.length cs) (.slice Ao b.o.length co) (.slice Ar b.r.length cr) b e rate hT B0 hs hR hE hi hm hsS hk
    have HJ := zH hJ
    clear hJ
    have hlk := run_map_look (P := Tryz.prog) 77 _ _ (g + 1) 7 (doesE g) e.kind _ _ Tryz.underlying77 Tryz.underlying3 HMP.out hf
    clear hf hk
    have c_e_0 := zC Me.out
    go_wp2_with fail
    have hlen : (([] : List Stp) ++ cutL [sS 1 (e.kind) (1), sS 2 (e.kind) (7)]).length ≤ 50 := Nat.le_trans (show _ ≤ 2 from cutL_len [sS 1 (e.kind) (1), sS 2 (e.kind) (7)]) (by decide)
    go_at_fn J
    with_reducible refine (HJ.out _ _ hlen HI.out).mono ?_
    rintro r wl16 ⟨v5, rfl, hB, hI2, ho⟩
    clear c_e_0
    clear HJ hlk eJ HI HMP
    replace Mu := zH (ho.blk _ _ _ _ Mu.out (by decide) (by decide))
    replace Mv := zH (ho.blk _ _ _ _ Mv.out (by decide) (by decide))
    replace Kn := zH (ho.blk _ _ _ _ Kn.out (by decide) (by decide))
    clear ho KG Me
    have HI := zH hI2
    clear hI2
    clear hlen
    rw [doneB_on hfa] at hB
    have HFA := zH hfa
    clear hfa
    obtain ⟨U1, u1, U2, u2, U3, u3, U4, u4, hv5⟩ := hB.form B0.out
    rw [doneB_n] at hv5
    subst hv5
    have HEi := zH hB
    clear hB
    obtain ⟨vX, hX, hS⟩ := HI.out.blk
    have KX := zH hX
    have HS := zH hS
    clear hX hS
    rw [show ([] ++ cutL [sS 1 (e.kind) (1), sS 2 (e.kind) (7)]) ++ cutL (kindS b e rate) = gateL b e rate from gateL_on HFA.out] at HS
    have c_n_0 := zC Kn.out
    have fc_n_0 := zF Kn.out
    have c_g_0 := zC KX.out
    have neg := blk_ne KX.out Kn.out (by decide)
    have neg2 := neg.symm
    go_wp2_with fail
    obtain ⟨ws17, hws17⟩ : ∃ ws17 : World, ((((wl16.setCell ⟨wx.heap.size, 0, none⟩ (.slice U1 (doneB b e rate).h.length u1)).setCell ⟨wx.heap.size, 1, none⟩ (.slice U2 (doneB b e rate).s.length u2)).setCell ⟨wx.heap.size, 2, none⟩ (.slice U3 (doneB b e rate).o.length u3)).setCell ⟨wx.heap.size, 3, none⟩ (.slice U4 (doneB b e rate).r.length u4)).setCell ⟨wx.heap.size, 4, none⟩ (.int .i64 b.n) = ws17 := ⟨_, rfl⟩
    rw [hws17]
    clear c_n_0 fc_n_0 c_g_0 neg neg2
    replace HS : Hid _ := zH (putC_steps (by decide) (o := 0) (vs := [(.slice U1 (doneB b e rate).h.length u1 : Value), .slice U2 (doneB b e rate).s.length u2, .slice U3 (doneB b e rate).o.length u3, .slice U4 (doneB b e rate).r.length u4, .int .i64 b.n]) Kn.out HS.out)
    replace HI := zH (HI.out.put Kn.out (by decide) (by decide) Ln.out 0 [(.slice U1 (doneB b e rate).h.length u1 : Value), .slice U2 (doneB b e rate).s.length u2, .slice U3 (doneB b e rate).o.length u3, .slice U4 (doneB b e rate).r.length u4, .int .i64 b.n])
    have HBn := zH (HEi.out.put Kn.out 0 [(.slice U1 (doneB b e rate).h.length u1 : Value), .slice U2 (doneB b e rate).s.length u2, .slice U3 (doneB b e rate).o.length u3, .slice U4 (doneB b e rate).r.length u4, .int .i64 b.n] (B0.out.call HI.out.below))
    clear HEi
    have zE : putC wl16 (wx.heap.size) 0 [(.slice U1 (doneB b e rate).h.length u1 : Value), .slice U2 (doneB b e rate).s.length u2, .slice U3 (doneB b e rate).o.length u3, .slice U4 (doneB b e rate).r.length u4, .int .i64 b.n] = ws17 := hws17
    replace Mu := zH (putC_oth NE.out (o := 0) (vs := [(.slice U1 (doneB b e rate).h.length u1 : Value), .slice U2 (doneB b e rate).s.length u2, .slice U3 (doneB b e rate).o.length u3, .slice U4 (doneB b e rate).r.length u4, .int .i64 b.n]) Mu.out )
    replace Mv := zH (putC_oth NE2.out (o := 0) (vs := [(.slice U1 (doneB b e rate).h.length u1 : Value), .slice U2 (doneB b e rate).s.length u2, .slice U3 (doneB b e rate).o.length u3, .slice U4 (doneB b e rate).r.length u4, .int .i64 b.n]) Mv.out )
    replace KX := zH (putC_oth (blk_ne KX.out Kn.out (by decide)) (o := 0) (vs := [(.slice U1 (doneB b e rate).h.length u1 : Value), .slice U2 (doneB b e rate).s.length u2, .slice U3 (doneB b e rate).o.length u3, .slice U4 (doneB b e rate).r.length u4, .int .i64 b.n]) KX.out )
    rw [zE] at HI HS HBn Mu Mv KX
    replace Kn := zP zE Kn
    clear zE
    replace Kn : Hid (ws17.heap[wx.heap.size]? = some (.cells #[.slice U1 (doneB b e rate).h.length u1, .slice U2 (doneB b e rate).s.length u2, .slice U3 (doneB b e rate).o.length u3, .slice U4 (doneB b e rate).r.length u4, .int .i64 b.n] 27 (0, 0))) := Kn.out
    clear hws17
    with_reducible refine (Weigh_any _ _ _ (zH (hT.out.call HI.out.below)) (zH HS.out.at) (Nat.le_trans (gateL_len b e rate) (by decide))).mono ?_
    rintro r wc18 ⟨hr, hb⟩
    rw [if_pos (gateL_may b e rate)] at hr
    subst hr
    replace Mu := zK Mu hb
    replace Mv := zK Mv hb
    replace Kn := zK Kn hb
    replace KX := zK KX hb
    replace HI := zH (HI.out.kept hb)
    replace HS := zH (HS.out.kept hb)
    replace HBn := zH (HBn.out.call hb)
    clear hb
    have c_n_0 := zC Kn.out
    have lt_n := zL Kn.out
    go_wp2_with fail
    have NQ : Hid (wc18.heap.size ≠ w0.heap.size + 3) := (Nat.ne_of_lt (zL Mv.out)).symm
    obtain ⟨wa19, hwa19⟩ : ∃ wa19 : World, wc18.alloc (.cells #[.int .i64 (goW (gateL b e rate) 0).1, .int .i64 (goW (gateL b e rate) 0).2] 33) = wa19 := ⟨_, rfl⟩
    rw [hwa19]
    have hbwa19 : Below wc18.heap.size wc18 wa19 := by rw [← hwa19]; exact below_alloc (Below.refl _ _) (Nat.le_refl _) _
    replace Mu := zK Mu hbwa19
    replace Mv := zK Mv hbwa19
    replace Kn := zK Kn hbwa19
    replace KX := zK KX hbwa19
    replace HI := zH (HI.out.kept hbwa19)
    replace HS := zH (HS.out.kept hbwa19)
    replace HBn := zH (HBn.out.call hbwa19)
    have Kq : Hid (wa19.heap[wc18.heap.size]? = some (.cells #[.int .i64 (goW (gateL b e rate) 0).1, .int .i64 (goW (gateL b e rate) 0).2] 33 (0, 0))) := by rw [← hwa19]; exact heap_new _ _
    clear hwa19 hbwa19
    have LB : Hid (w0.heap.size ≤ wa19.heap.size) := HI.out.below.size
    have LV : Hid (w0.heap.size + 3 < wa19.heap.size) := zL Mv.out
    with_reducible refine (Copy_any _ _ _ HBn (zH (doneB_small hm.out h6.out hsS.out e rate))).mono ?_
    rintro r wc20 ⟨v5, rfl, hO, hb⟩
    clear c_n_0 lt_n
    replace Mu := zK Mu hb
    replace Mv := zK Mv hb
    replace Kn := zK Kn hb
    replace KX := zK KX hb
    replace Kq := zK Kq hb
    replace HI := zH (HI.out.kept hb)
    replace HS := zH (HS.out.kept hb)
    replace HBn := zH (HBn.out.call hb)
    clear hb HBn
    obtain ⟨U1, u1, U2, u2, U3, u3, U4, u4, hv5⟩ := hO.form
    rw [doneB_n] at hv5
    subst hv5
    have HO := zH hO
    clear hO
    have c_n_0 := zC Kn.out
    have fc_n_0 := zF Kn.out
    go_wp2_with fail
    obtain ⟨ws21, hws21⟩ : ∃ ws21 : World, ((((wc20.setCell ⟨wx.heap.size, 0, none⟩ (.slice U1 (doneB b e rate).h.length u1)).setCell ⟨wx.heap.size, 1, none⟩ (.slice U2 (doneB b e rate).s.length u2)).setCell ⟨wx.heap.size, 2, none⟩ (.slice U3 (doneB b e rate).o.length u3)).setCell ⟨wx.heap.size, 3, none⟩ (.slice U4 (doneB b e rate).r.length u4)).setCell ⟨wx.heap.size, 4, none⟩ (.int .i64 b.n) = ws21 := ⟨_, rfl⟩
    rw [hws21]
    clear c_n_0 fc_n_0
    have zE : putC wc20 (wx.heap.size) 0 [(.slice U1 (doneB b e rate).h.length u1 : Value), .slice U2 (doneB b e rate).s.length u2, .slice U3 (doneB b e rate).o.length u3, .slice U4 (doneB b e rate).r.length u4, .int .i64 b.n] = ws21 := hws21
    replace HO : Hid _ := zH (HO.out.put Kn.out 0 [(.slice U1 (doneB b e rate).h.length u1 : Value), .slice U2 (doneB b e rate).s.length u2, .slice U3 (doneB b e rate).o.length u3, .slice U4 (doneB b e rate).r.length u4, .int .i64 b.n])
    replace HS : Hid _ := zH (putC_steps (by decide) (o := 0) (vs := [(.slice U1 (doneB b e rate).h.length u1 : Value), .slice U2 (doneB b e rate).s.length u2, .slice U3 (doneB b e rate).o.length u3, .slice U4 (doneB b e rate).r.length u4, .int .i64 b.n]) Kn.out HS.out)
    replace HI := zH (HI.out.put Kn.out (by decide) (by decide) Ln.out 0 [(.slice U1 (doneB b e rate).h.length u1 : Value), .slice U2 (doneB b e rate).s.length u2, .slice U3 (doneB b e rate).o.length u3, .slice U4 (doneB b e rate).r.length u4, .int .i64 b.n])
    replace Mu := zH (putC_oth NE.out (o := 0) (vs := [(.slice U1 (doneB b e rate).h.length u1 : Value), .slice U2 (doneB b e rate).s.length u2, .slice U3 (doneB b e rate).o.length u3, .slice U4 (doneB b e rate).r.length u4, .int .i64 b.n]) Mu.out )
    replace Mv := zH (putC_oth NE2.out (o := 0) (vs := [(.slice U1 (doneB b e rate).h.length u1 : Value), .slice U2 (doneB b e rate).s.length u2, .slice U3 (doneB b e rate).o.length u3, .slice U4 (doneB b e rate).r.length u4, .int .i64 b.n]) Mv.out )
    replace KX := zH (putC_oth (blk_ne KX.out Kn.out (by decide)) (o := 0) (vs := [(.slice U1 (doneB b e rate).h.length u1 : Value), .slice U2 (doneB b e rate).s.length u2, .slice U3 (doneB b e rate).o.length u3, .slice U4 (doneB b e rate).r.length u4, .int .i64 b.n]) KX.out )
    replace Kq := zH (putC_oth (blk_ne Kq.out Kn.out (by decide)) (o := 0) (vs := [(.slice U1 (doneB b e rate).h.length u1 : Value), .slice U2 (doneB b e rate).s.length u2, .slice U3 (doneB b e rate).o.length u3, .slice U4 (doneB b e rate).r.length u4, .int .i64 b.n]) Kq.out )
    rw [zE] at HI HO HS Mu Mv KX Kq
    replace Kn := zP zE Kn
    clear zE
    replace Kn : Hid (ws21.heap[wx.heap.size]? = some (.cells #[.slice U1 (doneB b e rate).h.length u1, .slice U2 (doneB b e rate).s.length u2, .slice U3 (doneB b e rate).o.length u3, .slice U4 (doneB b e rate).r.length u4, .int .i64 b.n] 27 (0, 0))) := Kn.out
    clear hws21
    have c_n_0 := zC Kn.out
    have fc_n_0 := zF Kn.out
    go_wp2_with fail
    obtain ⟨ws22, hws22⟩ : ∃ ws22 : World, ws21.setCell ⟨wx.heap.size, 4, none⟩ (.int .i64 (b.n + 1)) = ws22 := ⟨_, rfl⟩
    rw [hws22]
    clear c_n_0 fc_n_0
    have zE : putC ws21 (wx.heap.size) 4 [(.int .i64 (b.n + 1) : Value)] = ws22 := hws22
    replace HO : Hid _ := zH (HO.out.put Kn.out 4 [(.int .i64 (b.n + 1) : Value)])
    replace HS : Hid _ := zH (putC_steps (by decide) (o := 4) (vs := [(.int .i64 (b.n + 1) : Value)]) Kn.out HS.out)
    replace HI := zH (HI.out.put Kn.out (by decide) (by decide) Ln.out 4 [(.int .i64 (b.n + 1) : Value)])
    replace Mu := zH (putC_oth NE.out (o := 4) (vs := [(.int .i64 (b.n + 1) : Value)]) Mu.out )
    replace Mv := zH (putC_oth NE2.out (o := 4) (vs := [(.int .i64 (b.n + 1) : Value)]) Mv.out )
    replace KX := zH (putC_oth (blk_ne KX.out Kn.out (by decide)) (o := 4) (vs := [(.int .i64 (b.n + 1) : Value)]) KX.out )
    replace Kq := zH (putC_oth (blk_ne Kq.out Kn.out (by decide)) (o := 4) (vs := [(.int .i64 (b.n + 1) : Value)]) Kq.out )
    rw [zE] at HI HO HS Mu Mv KX Kq
    replace Kn := zP zE Kn
    clear zE
    replace Kn : Hid (ws22.heap[wx.heap.size]? = some (.cells #[.slice U1 (doneB b e rate).h.length u1, .slice U2 (doneB b e rate).s.length u2, .slice U3 (doneB b e rate).o.length u3, .slice U4 (doneB b e rate).r.length u4, .int .i64 (b.n + 1)] 27 (0, 0))) := Kn.out
    clear hws22
    go_wp2_with fail
    refine wp_region_D [] (fun wz : World => Hid (wz.heap[wx.heap.size]? = some (.cells #[.slice U1 (doneB b e rate).h.length u1, .slice U2 (doneB b e rate).s.length u2, .slice U3 (doneB b e rate).o.length u3, .slice U4 (doneB b e rate).r.length u4, .int .i64 (b.n + 1)] 27 (0, 0))) ∧ Hid (wz.heap[wc18.heap.size]? = some (.cells #[.int .i64 (goW (gateL b e rate) 0).1, .int .i64 (goW (gateL b e rate) 0).2] 33 (0, 0))) ∧ Hid (wz.heap[g]? = some (.cells #[.slice Ah b.h.length ch, .slice As b.s.length cs, .slice Ao b.o.length co, .slice Ar b.r.length cr, .int .i64 b.n, .int .i64 e.kind, .int .i64 e.acc, .int .i64 e.ord, .int .i64 e.sym, .int .i64 e.side, .int .i64 e.qty, .int .i64 e.px, .int .i64 rate, vX] 75 (0, 0)))) 10 #[false, false, false, false, false, false, false, false, false, false] (by kernel_rfl) (by kernel_rfl) (by kernel_rfl) ?_
    obtain ⟨wd23, hwd23⟩ : ∃ wd23 : World, { ws22 with drawn := ws22.drawn + 1 } = wd23 := ⟨_, rfl⟩
    rw [hwd23]
    have hbwd23 : Below ws22.heap.size ws22 wd23 := by rw [← hwd23]; exact (Below.refl _ _).drew
    replace Mu := zK Mu hbwd23
    replace Mv := zK Mv hbwd23
    replace Kn := zK Kn hbwd23
    replace KX := zK KX hbwd23
    replace Kq := zK Kq hbwd23
    replace HI := zH (HI.out.kept hbwd23)
    replace HS := zH (HS.out.kept hbwd23)
    replace HO := zH (HO.out.kept hbwd23)
    clear hwd23 hbwd23
    refine pure_moreD [0, 1, 2, 3, 4, 5] 4 (L' := #[true, true, true, true, true, true, false, false, false, false]) (by kernel_rfl) (by kernel_rfl) ⟨Kn, Kq, KX⟩ ?_
    simp only [opsAt, List.getElem?_toArray, List.getElem?_cons_zero, List.getElem?_cons_succ]
    refine pure_atG (.agg #[.slice U1 (doneB b e rate).h.length u1, .slice U2 (doneB b e rate).s.length u2, .slice U3 (doneB b e rate).o.length u3, .slice U4 (doneB b e rate).r.length u4, .int .i64 (b.n + 1)]) rfl (fun wz hC => by have c0 := cells_of_blk hC.1.out 0 _ rfl; have c1 := cells_of_blk hC.1.out 1 _ rfl; have c2 := cells_of_blk hC.1.out 2 _ rfl; have c3 := cells_of_blk hC.1.out 3 _ rfl; have c4 := cells_of_blk hC.1.out 4 _ rfl; unfold execOp; go_simp) ?_
    refine pure_atG (.agg #[.int .i64 (goW (gateL b e rate) 0).1, .int .i64 (goW (gateL b e rate) 0).2]) rfl (fun wz hC => by have c0 := cells_of_blk hC.2.1.out 0 _ rfl; have c1 := cells_of_blk hC.2.1.out 1 _ rfl; unfold execOp; go_simp) ?_
    refine pure_moveG rfl rfl ?_
    refine pure_atG (.pointer (some ⟨g, 0, none⟩)) rfl (fun wz _ => by unfold execOp; go_simp) ?_
    refine pure_atG (.pointer (some ⟨g, 13, none⟩)) rfl (fun wz _ => by unfold execOp; go_simp) ?_
    refine pure_atG (vX) rfl (fun wz hC => by have c0 := cells_of_blk hC.2.2.out 13 _ rfl; unfold execOp; go_simp) ?_
    unfold wpPure
    go_simp
    have c_u_0 := zC Mu.out
    have fc_u_0 := zF Mu.out
    refine wpAnyD_one 6 (f := 3) (L' := #[true, true, true, true, true, true, true, false, false, false]) (by kernel_rfl) (by kernel_rfl) rfl rfl ?_
    go_wp2_with fail
    obtain ⟨ws24, hws24⟩ : ∃ ws24 : World, ((((wd23.setCell ⟨w0.heap.size + 2, 0, none⟩ (.slice U1 (doneB b e rate).h.length u1)).setCell ⟨w0.heap.size + 2, 1, none⟩ (.slice U2 (doneB b e rate).s.length u2)).setCell ⟨w0.heap.size + 2, 2, none⟩ (.slice U3 (doneB b e rate).o.length u3)).setCell ⟨w0.heap.size + 2, 3, none⟩ (.slice U4 (doneB b e rate).r.length u4)).setCell ⟨w0.heap.size + 2, 4, none⟩ (.int .i64 (b.n + 1)) = ws24 := ⟨_, rfl⟩
    rw [hws24]
    clear c_u_0 fc_u_0
    have zE : putC wd23 (w0.heap.size + 2) 0 [(.slice U1 (doneB b e rate).h.length u1 : Value), .slice U2 (doneB b e rate).s.length u2, .slice U3 (doneB b e rate).o.length u3, .slice U4 (doneB b e rate).r.length u4, .int .i64 (b.n + 1)] = ws24 := hws24
    replace HO : Hid _ := zH (HO.out.put Mu.out 0 [(.slice U1 (doneB b e rate).h.length u1 : Value), .slice U2 (doneB b e rate).s.length u2, .slice U3 (doneB b e rate).o.length u3, .slice U4 (doneB b e rate).r.length u4, .int .i64 (b.n + 1)])
    replace HS : Hid _ := zH (putC_steps (by decide) (o := 0) (vs := [(.slice U1 (doneB b e rate).h.length u1 : Value), .slice U2 (doneB b e rate).s.length u2, .slice U3 (doneB b e rate).o.length u3, .slice U4 (doneB b e rate).r.length u4, .int .i64 (b.n + 1)]) Mu.out HS.out)
    replace HI := zH (HI.out.put Mu.out (by decide) (by decide) Lu.out 0 [(.slice U1 (doneB b e rate).h.length u1 : Value), .slice U2 (doneB b e rate).s.length u2, .slice U3 (doneB b e rate).o.length u3, .slice U4 (doneB b e rate).r.length u4, .int .i64 (b.n + 1)])
    replace Mv := zH (putC_oth (blk_ne Mv.out Mu.out (by decide)) (o := 0) (vs := [(.slice U1 (doneB b e rate).h.length u1 : Value), .slice U2 (doneB b e rate).s.length u2, .slice U3 (doneB b e rate).o.length u3, .slice U4 (doneB b e rate).r.length u4, .int .i64 (b.n + 1)]) Mv.out )
    replace Kn := zH (putC_oth NE.out.symm (o := 0) (vs := [(.slice U1 (doneB b e rate).h.length u1 : Value), .slice U2 (doneB b e rate).s.length u2, .slice U3 (doneB b e rate).o.length u3, .slice U4 (doneB b e rate).r.length u4, .int .i64 (b.n + 1)]) Kn.out )
    replace KX := zH (putC_oth (blk_ne KX.out Mu.out (by decide)) (o := 0) (vs := [(.slice U1 (doneB b e rate).h.length u1 : Value), .slice U2 (doneB b e rate).s.length u2, .slice U3 (doneB b e rate).o.length u3, .slice U4 (doneB b e rate).r.length u4, .int .i64 (b.n + 1)]) KX.out )
    replace Kq := zH (putC_oth (blk_ne Kq.out Mu.out (by decide)) (o := 0) (vs := [(.slice U1 (doneB b e rate).h.length u1 : Value), .slice U2 (doneB b e rate).s.length u2, .slice U3 (doneB b e rate).o.length u3, .slice U4 (doneB b e rate).r.length u4, .int .i64 (b.n + 1)]) Kq.out )
    rw [zE] at HI HO HS Mv Kn KX Kq
    replace Mu := zP zE Mu
    clear zE
    replace Mu : Hid (ws24.heap[w0.heap.size + 2]? = some (.cells #[.slice U1 (doneB b e rate).h.length u1, .slice U2 (doneB b e rate).s.length u2, .slice U3 (doneB b e rate).o.length u3, .slice U4 (doneB b e rate).r.length u4, .int .i64 (b.n + 1)] 27 (0, 0))) := Mu.out
    clear hws24
    rw [StepQ_normal]
    refine ⟨fun _ => ⟨Kn, Kq, KX⟩, ?_⟩
    have c_v_0 := zC Mv.out
    have fc_v_0 := zF Mv.out
    refine wpAnyD_one 7 (f := 2) (L' := #[true, true, true, true, true, true, true, true, false, false]) (by kernel_rfl) (by kernel_rfl) rfl rfl ?_
    go_wp2_with fail
    obtain ⟨ws25, hws25⟩ : ∃ ws25 : World, (ws24.setCell ⟨w0.heap.size + 3, 0, none⟩ (.int .i64 (goW (gateL b e rate) 0).1)).setCell ⟨w0.heap.size + 3, 1, none⟩ (.int .i64 (goW (gateL b e rate) 0).2) = ws25 := ⟨_, rfl⟩
    rw [hws25]
    clear c_v_0 fc_v_0
    have zE : putC ws24 (w0.heap.size + 3) 0 [(.int .i64 (goW (gateL b e rate) 0).1 : Value), .int .i64 (goW (gateL b e rate) 0).2] = ws25 := hws25
    replace HO : Hid _ := zH (HO.out.low LV.out 0 [(.int .i64 (goW (gateL b e rate) 0).1 : Value), .int .i64 (goW (gateL b e rate) 0).2])
    replace HS : Hid _ := zH (putC_steps (by decide) (o := 0) (vs := [(.int .i64 (goW (gateL b e rate) 0).1 : Value), .int .i64 (goW (gateL b e rate) 0).2]) Mv.out HS.out)
    replace HI := zH (HI.out.put Mv.out (by decide) (by decide) Lv.out 0 [(.int .i64 (goW (gateL b e rate) 0).1 : Value), .int .i64 (goW (gateL b e rate) 0).2])
    replace Mu := zH (putC_oth (blk_ne Mu.out Mv.out (by decide)) (o := 0) (vs := [(.int .i64 (goW (gateL b e rate) 0).1 : Value), .int .i64 (goW (gateL b e rate) 0).2]) Mu.out )
    replace Kn := zH (putC_oth (blk_ne Kn.out Mv.out (by decide)) (o := 0) (vs := [(.int .i64 (goW (gateL b e rate) 0).1 : Value), .int .i64 (goW (gateL b e rate) 0).2]) Kn.out )
    replace KX := zH (putC_oth (blk_ne KX.out Mv.out (by decide)) (o := 0) (vs := [(.int .i64 (goW (gateL b e rate) 0).1 : Value), .int .i64 (goW (gateL b e rate) 0).2]) KX.out )
    replace Kq := zH (putC_oth NQ.out (o := 0) (vs := [(.int .i64 (goW (gateL b e rate) 0).1 : Value), .int .i64 (goW (gateL b e rate) 0).2]) Kq.out )
    rw [zE] at HI HO HS Mu Kn KX Kq
    replace Mv := zP zE Mv
    clear zE
    replace Mv : Hid (ws25.heap[w0.heap.size + 3]? = some (.cells #[.int .i64 (goW (gateL b e rate) 0).1, .int .i64 (goW (gateL b e rate) 0).2] 33 (0, 0))) := Mv.out
    clear hws25
    rw [StepQ_normal]
    refine ⟨fun _ => ⟨Kn, Kq, KX⟩, ?_⟩
    refine wpAnyD_one 8 (f := 1) (L' := #[true, true, true, true, true, true, true, true, true, false]) (by kernel_rfl) (by kernel_rfl) rfl rfl ?_
    go_wp2_with fail
    rw [StepQ_normal]
    refine ⟨fun _ => ⟨Kn, Kq, KX⟩, ?_⟩
    refine wpAnyD_one 9 (f := 0) (L' := #[true, true, true, true, true, true, true, true, true, true]) (by kernel_rfl) (by kernel_rfl) rfl rfl ?_
    go_wp2_with fail
    rw [StepQ_normal]
    refine ⟨fun _ => ⟨Kn, Kq, KX⟩, ?_⟩
    refine ⟨by kernel_rfl, ?_⟩
    rw [OnlyN_normal]
    go_wp2_with fail
    refine bodyPost_ret (v := .tuple #[.agg #[.slice U1 (doneB b e rate).h.length u1, .slice U2 (doneB b e rate).s.length u2, .slice U3 (doneB b e rate).o.length u3, .slice U4 (doneB b e rate).r.length u4, .int .i64 (b.n + 1)], .agg #[.int .i64 (gateV b e rate).1, .int .i64 (gateV b e rate).2], vX, .int .i64 0]) ?_ rfl ⟨_, vX, rfl, (HO.out.count (b.n + 1)).mono LB.out, HS.out.at, HI.out.below⟩
    exact ret_c2t2 rfl _ _ _ _ _ _ _ _ _ _ rfl Mu.out Tryz.underlying27 rfl (by kernel_rfl) rfl Mv.out Tryz.underlying33 rfl (by kernel_rfl) _ _ rfl rfl
end Go.Proofs.YtjcdpmianmgiaaaGreatDoor
namespace Go.Proofs.YtjcdpmianmgiaaaGreatDoor
open Go Go.RowKit
set_option linter.unusedVariables false
set_option linter.unusedSimpArgs false
end Go.Proofs.YtjcdpmianmgiaaaGreatDoor
namespace Go.Proofs.YtjcdpmianmgiaaaGreatDoor
open Go Go.RowKit
set_option linter.unusedVariables false
set_option linter.unusedSimpArgs false
end Go.Proofs.YtjcdpmianmgiaaaGreatDoor
namespace Go.Proofs.YtjcdpmianmgiaaaGreatDoor
open Go Go.RowKit Mon Bg
set_option linter.unusedVariables false
set_option linter.unusedSimpArgs false
end Go.Proofs.YtjcdpmianmgiaaaGreatDoor
namespace Go.Proofs.YtjcdpmianmgiaaaGreatDoor
open Go Go.RowKit
set_option linter.unusedVariables false
end Go.Proofs.YtjcdpmianmgiaaaGreatDoor
namespace Go.Proofs.YtjcdpmianmgiaaaGreatDoor
open Go Go.RowKit
set_option linter.unusedVariables false
set_option linter.unusedSimpArgs false
end Go.Proofs.YtjcdpmianmgiaaaGreatDoor
namespace Go.Proofs.YtjcdpmianmgiaaaGreatDoor
open Go Go.RowKit
set_option linter.unusedVariables false
set_option linter.unusedSimpArgs false
theorem putC_cell {g p i : Nat} (hne : p ≠ g) : ∀ (us : List Value) (o : Nat) (w : World), (putC w g o us).cell? ⟨p, i, none⟩ = w.cell? ⟨p, i, none⟩
  | [], _, _ => rfl
  | u :: us, o, w => by
    show (putC (w.setCell ⟨g, o, none⟩ u) g (o + 1) us).cell? ⟨p, i, none⟩ = _
    rw [putC_cell hne us (o + 1)]
    unfold World.cell?
    have := putC_oth (vs := [u]) (o := o) (w := w) hne (x := w.heap[p]?) rfl
    simp only [putC] at this
    simp [this]
theorem putC_size {g : Nat} : ∀ (us : List Value) (o : Nat) (w : World), (putC w g o us).heap.size = w.heap.size
  | [], _, _ => rfl
  | u :: us, o, w => by
    show (putC (w.setCell ⟨g, o, none⟩ u) g (o + 1) us).heap.size = _
    rw [putC_size us (o + 1)]
    simp
end Go.Proofs.YtjcdpmianmgiaaaGreatDoor
namespace Go.Proofs.YtjcdpmianmgiaaaGreatDoor
open Go Go.RowKit
set_option linter.unusedVariables false
set_option linter.unusedSimpArgs false
theorem BkAt.forms {w : World} {v : Value} {b : Bk} (h : BkAt w v b) : ∃ A1 c1 A2 c2 A3 c3 A4 c4, v = .agg #[.slice A1 b.h.length c1, .slice A2 b.s.length c2, .slice A3 b.o.length c3, .slice A4 b.r.length c4, .int .i64 b.n] := by
  obtain ⟨_, _, _, _, rfl, ⟨A1, c1, rfl, _⟩, ⟨A2, c2, rfl, _⟩, ⟨A3, c3, rfl, _⟩, ⟨A4, c4, rfl, _⟩⟩ := h
  exact ⟨A1, c1, A2, c2, A3, c3, A4, c4, rfl⟩
end Go.Proofs.YtjcdpmianmgiaaaGreatDoor
namespace Go.Proofs.YtjcdpmianmgiaaaGreatDoor
open Go Go.RowKit
set_option linter.unusedVariables false
set_option linter.unusedSimpArgs false
def Stp.eqD (a b : Stp) : Decidable (a = b) :=
  if h : a.rule = b.rule ∧ a.left = b.left ∧ a.right = b.right ∧ a.over = b.over then .isTrue (by cases a; cases b; simp_all) else .isFalse (fun e => h (by subst e; simp))
instance : DecidableEq Stp := Stp.eqD
end Go.Proofs.YtjcdpmianmgiaaaGreatDoor
namespace Go.Proofs.YtjcdpmianmgiaaaGreatDoor
open Go Go.RowKit Mon
set_option linter.unusedVariables false
set_option linter.unusedSimpArgs false
def bZ : Bk := ⟨[], [], [], [], 0⟩
theorem RowAt.zero (w : World) (k : Nat) : RowAt w (.slice none 0 0) k [] := ⟨none, 0, rfl, by simp, .inl rfl⟩
theorem BkAt.zero (w : World) : BkAt w (.agg #[.slice none 0 0, .slice none 0 0, .slice none 0 0, .slice none 0 0, .int .i64 0]) bZ := ⟨_, _, _, _, rfl, RowAt.zero w 4, RowAt.zero w 3, RowAt.zero w 6, RowAt.zero w 2⟩
end Go.Proofs.YtjcdpmianmgiaaaGreatDoor
namespace Go.Proofs.YtjcdpmianmgiaaaGreatDoor
open Go Go.RowKit Mon
set_option linter.unusedVariables false
set_option linter.unusedSimpArgs false
theorem grown_belowF {w w' : World} (h : Below w.heap.size w w') (row : Option Nat) : w.grownBy w' row := ⟨h.os, h.tape, h.output, h.size, fun k hk _ => h.block k hk⟩
theorem grown_putC {g : Nat} : ∀ (us : List Value) (o : Nat) (w : World), w.grownBy (putC w g o us) (some g)
  | [], _, w => ⟨rfl, rfl, rfl, Nat.le_refl _, fun _ _ _ => rfl⟩
  | u :: us, o, w => by
    have h1 := grown_putC (g := g) us (o + 1) (w.setCell ⟨g, o, none⟩ u)
    have h0 : w.grownBy (w.setCell ⟨g, o, none⟩ u) (some g) := ⟨rfl, rfl, rfl, (KeepsWalks.setCell w _ u).size, fun k _ hk => Below.heap_setCell _ _ _ k (fun e => hk (by rw [e]))⟩
    exact ⟨h1.os.trans h0.os, h1.tape.trans h0.tape, h1.output.trans h0.output, Nat.le_trans h0.size h1.size, fun k hk hne => (h1.block k (Nat.lt_of_lt_of_le hk h0.size) hne).trans (h0.block k hk hne)⟩
def KpF (n0 Bs : Nat) (M : Nat) (A B : World) : Prop := Below n0 A B ∧ ∀ k cs t fr, A.heap[k]? = some (.cells cs t fr) → (M ≤ k ∨ (Bs ≤ k ∧ k ≤ Bs + 2)) → B.heap[k]? = some (.cells cs t fr)
theorem KpF.trans {n0 Bs M : Nat} {A B C : World} (h : KpF n0 Bs M A B) (k : KpF n0 Bs M B C) : KpF n0 Bs M A C := ⟨h.1.trans k.1, fun i cs t fr hi hk => k.2 i cs t fr (h.2 i cs t fr hi hk) hk⟩
theorem KpF.put {n0 Bs M : Nat} {W : World} {l : Nat} {o : Obj} (o' : Obj) (hn : n0 ≤ l) (hl : W.heap[l]? = some o) (ho : o.isCells = false) : KpF n0 Bs M W (W.putObj l o') := by
  refine ⟨(Below.refl n0 W).grown (grownBy_putObj' W l o') (by have := (zL hl); omega) (fun k e => by cases e; omega), fun k cs t fr hk _ => ?_⟩
  rw [World.putObj_heap_other (fun e => ?_)]
  · exact hk
  · subst e
    rw [hl] at hk
    cases hk
    cases ho
theorem KpF.of {n0 Bs M : Nat} {W W' : World} (h : Below W.heap.size W W') (hn : n0 ≤ W.heap.size) : KpF n0 Bs M W W' :=
  ⟨h.mono hn, fun k cs t fr hk _ => (h.block k (zL hk)).trans hk⟩
theorem RowOwn.still {A B : World} {b0 : Nat} {e : TypeId} {v : Value} {k : Nat} {l : List (List Int)} (h : RowOwn A b0 e v k l) (hs : A.heap.size ≤ B.heap.size) (hk : ∀ q cs t fr, A.heap[q]? = some (.cells cs t fr) → v.ownBlock = some q → B.heap[q]? = some (.cells cs t fr)) : RowOwn B b0 e v k l := by
  obtain ⟨⟨hl, ho⟩, h2⟩ := h
  refine ⟨⟨hl, ?_⟩, h2⟩
  rcases ho with h | ⟨g, cap, cur, rfl, h1, h3, h4⟩
  · exact .inl h
  · exact .inr ⟨g, cap, cur, rfl, h1, hk _ _ _ _ h3 rfl, h4⟩
theorem RowOwn.block {A : World} {b0 : Nat} {e : TypeId} {v : Value} {k : Nat} {l : List (List Int)} (h : RowOwn A b0 e v k l) {q : Nat} (hq : v.ownBlock = some q) : b0 ≤ q ∧ q < A.heap.size := by
  rcases h.1.2 with ⟨rfl, _⟩ | ⟨g, cap, cur, rfl, h1, h3, _⟩
  · cases hq
  · obtain rfl : g = q := by simpa [Value.ownBlock] using hq
    exact ⟨h1, (zL h3)⟩
theorem BkOwn.still {A B : World} {b0 : Nat} {v : Value} {b : Bk} (h : BkOwn A b0 v b) (hs : A.heap.size ≤ B.heap.size) (hk : ∀ q cs t fr, A.heap[q]? = some (.cells cs t fr) → b0 ≤ q → B.heap[q]? = some (.cells cs t fr)) : BkOwn B b0 v b := by
  obtain ⟨vh, vs, vo, vr, rfl, h1, h2, h3, h4⟩ := h
  exact ⟨vh, vs, vo, vr, rfl, h1.still hs fun q cs t fr hq hv => hk q cs t fr hq (h1.block hv).1, h2.still hs fun q cs t fr hq hv => hk q cs t fr hq (h2.block hv).1, h3.still hs fun q cs t fr hq hv => hk q cs t fr hq (h3.block hv).1, h4.still hs fun q cs t fr hq hv => hk q cs t fr hq (h4.block hv).1⟩
theorem BkOwn.keptF {n0 Bs M : Nat} {A B : World} {v : Value} {b : Bk} (h : BkOwn A M v b) (hk : KpF n0 Bs M A B) : BkOwn B M v b := h.still hk.1.size fun q cs t fr hq hM => hk.2 q cs t fr hq (.inl hM)
def EvsAt (w : World) (v : Value) (L : List Ev) : Prop := RowAt w v 7 (L.map Ev.cells)
theorem EvsAt.call {w w' : World} {v : Value} {L : List Ev} (h : EvsAt w v L) (hb : Below w.heap.size w w') : EvsAt w' v L := RowAt.call h hb
theorem EvsAt.form {w : World} {v : Value} {L : List Ev} (h : EvsAt w v L) : ∃ A c, v = .slice A L.length c := by
  obtain ⟨A, c, rfl, _⟩ := h
  exact ⟨A, c, by rw [List.length_map]⟩
theorem EvsAt.get {w : World} {A : Option Addr} {n c : Nat} {L : List Ev} (h : EvsAt w (.slice A n c) L) {i : Nat} {e : Ev} (hi : L[i]? = some e) : ∃ b o, A = some ⟨b, o, none⟩ ∧ b < w.heap.size ∧
    w.cell? ⟨b, o + i * 7, none⟩ = some (.int .i64 e.kind) ∧ w.cell? ⟨b, o + i * 7 + 1, none⟩ = some (.int .i64 e.acc) ∧ w.cell? ⟨b, o + i * 7 + 2, none⟩ = some (.int .i64 e.ord) ∧ w.cell? ⟨b, o + i * 7 + 3, none⟩ = some (.int .i64 e.sym) ∧ w.cell? ⟨b, o + i * 7 + 4, none⟩ = some (.int .i64 e.side) ∧ w.cell? ⟨b, o + i * 7 + 5, none⟩ = some (.int .i64 e.qty) ∧ w.cell? ⟨b, o + i * 7 + 6, none⟩ = some (.int .i64 e.px) := by
  obtain ⟨A', c', hA, hi'⟩ := RowAt.rec' h
  injection hA with hA1 _ _
  subst hA1
  obtain ⟨_, b, o, hA2, hb, hc⟩ := hi' i e.cells (by rw [List.getElem?_map, hi]; rfl)
  exact ⟨b, o, hA2, hb, hc 0 _ rfl, hc 1 _ rfl, hc 2 _ rfl, hc 3 _ rfl, hc 4 _ rfl, hc 5 _ rfl, hc 6 _ rfl⟩
def EnF (b : Bk) (rate : Int) (pre : List Ev) (e : Ev) (args : Array Value) (M : Nat) (W : World) : Prop :=
  ∃ A1 c1 A2 c2 A3 c3 A4 c4, args = #[.int .i64 (pre.length : Nat), .agg #[.int .i64 (gateV (foldB b rate pre) e rate).1, .int .i64 (gateV (foldB b rate pre) e rate).2, .slice A1 (foldB b rate (pre ++ [e])).h.length c1, .slice A2 (foldB b rate (pre ++ [e])).s.length c2, .slice A3 (foldB b rate (pre ++ [e])).o.length c3, .slice A4 (foldB b rate (pre ++ [e])).r.length c4, .int .i64 (foldB b rate (pre ++ [e])).n]] ∧
    BkOwn W M (.agg #[.slice A1 (foldB b rate (pre ++ [e])).h.length c1, .slice A2 (foldB b rate (pre ++ [e])).s.length c2, .slice A3 (foldB b rate (pre ++ [e])).o.length c3, .slice A4 (foldB b rate (pre ++ [e])).r.length c4, .int .i64 (foldB b rate (pre ++ [e])).n]) (foldB b rate (pre ++ [e]))
theorem foldB_snoc (b : Bk) (rate : Int) (pre : List Ev) (e : Ev) : foldB b rate (pre ++ [e]) = gateB (foldB b rate pre) e rate := foldB_app rate pre [e] b
end Go.Proofs.YtjcdpmianmgiaaaGreatDoor
