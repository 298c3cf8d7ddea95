/- Part 21 of what the claim rests on. -/
import Derived.Test.YtjcdpmianmgiaaaGreatDoorF00
import Derived.Test.YtjcdpmianmgiaaaGreatDoorF13
import Derived.Test.YtjcdpmianmgiaaaGreatDoorF15
import Derived.Test.YtjcdpmianmgiaaaGreatDoorF16
import Derived.Test.YtjcdpmianmgiaaaGreatDoorF17
import Derived.Test.YtjcdpmianmgiaaaGreatDoorF18
import Derived.Test.YtjcdpmianmgiaaaGreatDoorF19
namespace Go.Proofs.YtjcdpmianmgiaaaGreatDoor
open Go Go.RowKit
set_option linter.unusedVariables false
set_option linter.unusedSimpArgs false
theorem el_look : Elt Tryz.prog 136 79 Value.nilFunc 1 8 := Elt.mk' Tryz.underlying136 (by kernel_rfl) rfl (by decide)
section
variable {P : Program} {ops : Array Oper} {rest : List Oper} {o : Oper} {a : Act} {Q : Exit → Act → World → Prop}
theorem wpList_append_new {w : World} (hgd : o.guard = none) (s x : Operand) (t : TypeId) (ho : o.op = .call { callee := .builtin .append, args := #[s, x], argTypes := #[t, t] })
    {e : TypeId} {z : Value} {bytes : Nat} (hu : P.underlying t = some (.slice e)) (he : Elt P t e z 1 bytes) (b : Addr) (sLen sCap : Nat) (olds : List Value) (hlo : olds.length = sLen) (holds : ∀ (j : Nat) (v : Value), olds[j]? = some v → w.cell? (b.add j) = some v)
    (ad : Addr) (n c : Nat) (news : List Value) (hl : news.length = n) (hnews : ∀ (j : Nat) (v : Value), news[j]? = some v → w.cell? (ad.add j) = some v)
    (hs : a.eval s = .slice (some b) sLen sCap) (hx : a.eval x = .slice (some ad) n c) (hg : sCap < sLen + n) (h63 : ((sLen + n : Nat) : Int) ≤ 9223372036854775807) (hfit : Builtin.nextslicecap (sLen + n) sCap * bytes ≤ 281474976710656)
    (h : ∀ (w' : World) (g cap : Nat) (cur : Array Value), g = w.heap.size → w'.heap[g]? = some (.cells cur e (0, 0)) → (∀ (j : Nat) (v : Value), (olds ++ news)[j]? = some v → cur[j]? = some v) → Below w.heap.size w w' → wpList P ops Q rest (a.put o.dst (.slice (some ⟨g, 0, none⟩) (sLen + n) cap)) w') :
    wpList P ops Q (o :: rest) a w := by
  obtain ⟨i, hi, hz, hsz, hbs⟩ := he.info
  refine wpList_plain hgd fun K hK => ?_
  have hrun := run_append_grow (P := P) (w := w) t o.type e i z hu hi hz b sLen sCap olds (by rw [hsz, hlo, Nat.mul_one]) holds ad n c news (by rw [hsz, hl, Nat.mul_one]) hnews hg h63 (by rw [hbs]; exact hfit)
  unfold Oper.wp
  simp [execOp, ho, resolve, invoke, builtin, hs, hx, hrun, Result.andThen]
  refine hK _ _ (h _ w.heap.size _ _ rfl (heap_new w.drew _) (fun j v hj => ?_) ?_)
  · have hlt := (List.getElem?_eq_some_iff.1 hj).1
    rw [Array.getElem?_append_left (by simpa using hlt)]
    simpa using hj
  · exact (Below.refl _ _).drew.alloc (Nat.le_refl _) _
end
set_option maxRecDepth 100000 in
set_option maxHeartbeats 16000000 in
theorem quote_any (w0 : World) (g : Nat) (vh vs vo vr : Value) (b : Bk) (e : Ev) (rate : Int) (hT : Hid (Law16 w0)) (B0 : Hid (BkAt w0 (.agg #[vh, vs, vo, vr, .int .i64 b.n]) b)) (hs : Hid b.Small) (hR : Hid b.Rise) (hE : Hid e.I64s) (l0 : List Stp) (hl0 : Hid (l0.length ≤ 50)) (w : World) (HI : Hid (Gt w0 g vh vs vo vr b e rate l0 w)) :
    Calls Tryz.prog 38 #[.pointer (some ⟨g, 0, none⟩)] w fun r w' => ∃ v, r = .returned v ∧ BkEi w' (.agg #[vh, vs, vo, vr, .int .i64 b.n]) v b (if (quoS b e).all (·.holds) then quoB b e else b) ∧ Gt w0 g vh vs vo vr b e rate (l0 ++ cutL (quoS b e)) w' ∧ Off w w' := by
  obtain ⟨_, _, _, _, hv, r1, r2, r3, r4⟩ := B0.out
  injection hv with hv
  simp only [Array.mk.injEq, List.cons.injEq, and_true] at hv
  obtain ⟨rfl, rfl, rfl, rfl, _⟩ := hv
  have LH : Hid (∀ r ∈ b.h, r.length = 4) := (by obtain ⟨_, _, _, h, _⟩ := r1; exact h)
  have LO : Hid (∀ r ∈ b.o, r.length = 6) := (by obtain ⟨_, _, _, h, _⟩ := r3; exact h)
  have LR : Hid (∀ r ∈ b.r, r.length = 2) := (by obtain ⟨_, _, _, h, _⟩ := r4; exact h)
  obtain ⟨Ah, ch, rfl, _⟩ := r1
  obtain ⟨As, cs, rfl, _⟩ := r2
  obtain ⟨Ao, co, rfl, _⟩ := r3
  obtain ⟨Ar, cr, rfl, _⟩ := r4
  have F1 : b.h.length ≤ 1000000 ∧ b.o.length ≤ 1000000 ∧ b.r.length ≤ 1000000 := by have := hs.out; unfold Bk.Small at this; omega
  have HL1 := zH F1
  clear F1
  have KG := zH (HI.out.blk.imp fun _ h => h.1)
  have HOF : Hid (Off w w) := Off.refl _
  obtain ⟨rr, FR, hl3, hx3⟩ := rec_of LR.out (isId e.sym)
  match rr, hl3, hx3 with
  | [r0, r1], _, hx3 =>
  have hFr : FR = hasR b e.sym := recOf_snd hx3
  have HFr := zH hFr
  clear hFr
  have HX3 := zH hx3
  clear hx3
  have HRr : Hid (riseH b.r) := hR.out.2.2.1
  obtain ⟨nb, hnb⟩ : ∃ nb : Bk, quoB b e = nb := ⟨_, rfl⟩
  have q5 : Hid (∀ wz : World, Hid (BkAt wz (.agg #[.slice Ah b.h.length ch, .slice As b.s.length cs, .slice Ao b.o.length co, .slice Ar b.r.length cr, .int .i64 b.n]) b) → Calls Tryz.prog 89 #[.agg #[.slice Ah b.h.length ch, .slice As b.s.length cs, .slice Ao b.o.length co, .slice Ar b.r.length cr, .int .i64 b.n], .agg #[.int .i64 e.sym, .int .i64 e.px]] wz fun r w' => ∃ v', r = .returned v' ∧ BkOwn w' wz.heap.size v' nb ∧ Below wz.heap.size wz w') := (show _ from fun wz hv => by rw [← hnb]; exact SetRate_any _ b e.sym e.px wz hv hs hR.out.2.2.1)
  rw [hnb]
  clear hnb
  cases FR with
  | true =>
    have hst : quoS b e = [sS 6 e.px 1] := by unfold quoS; rw [← HFr.out]; rfl
    rw [hst]
    clear hst
    obtain ⟨FA, hFA⟩ : ∃ FA, ([sS 6 e.px 1]).all (·.holds) = FA := ⟨_, rfl⟩
    rw [hFA]
    replace hFA := zH hFA
    obtain ⟨wb, hwb⟩ : ∃ wb : World, w.alloc (.cells #[.slice none 0 0, .slice none 0 0, .slice none 0 0, .slice none 0 0, .int .i64 0] 27) = wb := ⟨_, rfl⟩
    have hb : Below w.heap.size w wb := by rw [← hwb]; exact below_alloc (Below.refl _ _) (Nat.le_refl _) _
    have KT : Hid (wb.heap[w.heap.size]? = some (.cells #[.slice none 0 0, .slice none 0 0, .slice none 0 0, .slice none 0 0, .int .i64 0] 27 (0, 0))) := by rw [← hwb]; exact heap_new _ _
    have LT : Hid (w0.heap.size ≤ w.heap.size) := HI.out.below.size
    have MT : Hid (w.heap.size ≤ w.heap.size) := Nat.le_refl _
    replace KG := zH ((KG.out.imp fun _ h => blk_call h hb))
    replace HI := zH (HI.out.kept hb)
    replace HOF := zH (HOF.out.trans (Off.of hb))
    replace hwb := zH hwb
    clear hb
    go_enter Tryz.func38, Tryz.ntmps38
    go_wp2_with fail
    rw [hwb.out]
    clear hwb
    refine wp_region_D [] (fun wz : World => Hid (∃ vX : Value, wz.heap[g]? = some (.cells #[.slice Ah b.h.length ch, .slice As b.s.length cs, .slice Ao b.o.length co, .slice Ar b.r.length cr, .int .i64 b.n, .int .i64 e.kind, .int .i64 e.acc, .int .i64 e.ord, .int .i64 e.sym, .int .i64 e.side, .int .i64 e.qty, .int .i64 e.px, .int .i64 rate, vX] 75 (0, 0)))) 15 #[false, false, false, false, false, false, false, false, false, false, false, false, false, false, false] (by kernel_rfl) (by kernel_rfl) (by kernel_rfl) ?_
    obtain ⟨wd1, hwd1⟩ : ∃ wd1 : World, { wb with drawn := wb.drawn + 1 } = wd1 := ⟨_, rfl⟩
    rw [hwd1]
    have hbwd1 : Below wb.heap.size wb wd1 := by rw [← hwd1]; exact (Below.refl _ _).drew
    replace KG := zH ((KG.out.imp fun _ h => blk_call h hbwd1))
    replace KT := zK KT hbwd1
    replace HI := zH (HI.out.kept hbwd1)
    replace HOF := zH (HOF.out.trans (Off.of hbwd1))
    clear hwd1 hbwd1
    refine pure_moreD [0, 1, 2, 3, 4, 5, 6, 7, 8] 6 (L' := #[true, true, true, true, true, true, true, true, true, false, false, false, false, false, false]) (by kernel_rfl) (by kernel_rfl) KG ?_
    simp only [opsAt, List.getElem?_toArray, List.getElem?_cons_zero, List.getElem?_cons_succ]
    refine pure_moveG rfl rfl ?_
    refine pure_atG (.pointer (some ⟨g, 0, none⟩)) rfl (fun wz _ => by unfold execOp; go_simp) ?_
    refine pure_atG (.pointer (some ⟨g, 0, none⟩)) rfl (fun wz _ => by unfold execOp; go_simp) ?_
    refine pure_atG (.agg #[.slice Ah b.h.length ch, .slice As b.s.length cs, .slice Ao b.o.length co, .slice Ar b.r.length cr, .int .i64 b.n]) rfl (fun wz hC => by obtain ⟨vX, hX⟩ := hC.out; have c0 := cells_of_blk hX 0 _ rfl; have c1 := cells_of_blk hX 1 _ rfl; have c2 := cells_of_blk hX 2 _ rfl; have c3 := cells_of_blk hX 3 _ rfl; have c4 := cells_of_blk hX 4 _ rfl; unfold execOp; go_simp) ?_
    refine pure_moveG rfl rfl ?_
    refine pure_atG (.pointer (some ⟨g, 0, none⟩)) rfl (fun wz _ => by unfold execOp; go_simp) ?_
    refine pure_atG (.pointer (some ⟨g, 5, none⟩)) rfl (fun wz _ => by unfold execOp; go_simp) ?_
    refine pure_atG (.pointer (some ⟨g, 8, none⟩)) rfl (fun wz _ => by unfold execOp; go_simp) ?_
    refine pure_atG (.int .i64 e.sym) rfl (fun wz hC => by obtain ⟨vX, hX⟩ := hC.out; have c0 := cells_of_blk hX 8 _ rfl; unfold execOp; go_simp) ?_
    unfold wpPure
    go_simp
    refine wpAnyD_one 9 (f := 5) (L' := #[true, true, true, true, true, true, true, true, true, true, false, false, false, false, false]) (by kernel_rfl) (by kernel_rfl) rfl rfl ?_
    go_wp2_with fail
    with_reducible refine (Rate_any _ b e.sym r0 r1 true _ (zH (B0.out.call HI.out.below)) HL1.out.2.2 HRr HX3).mono ?_
    rintro e wc2 ⟨rfl, hb⟩
    replace KG := zH ((KG.out.imp fun _ h => blk_call h hb))
    replace KT := zK KT hb
    replace HI := zH (HI.out.kept hb)
    replace HOF := zH (HOF.out.trans (Off.of hb))
    clear hb
    go_wp2_with fail
    rw [StepQ_normal]
    refine ⟨fun _ => KG, ?_⟩
    refine pure_moreD [10, 11, 12, 13, 14] 0 (L' := #[true, true, true, true, true, true, true, true, true, true, true, true, true, true, true]) (by kernel_rfl) (by kernel_rfl) KG ?_
    simp only [opsAt, List.getElem?_toArray, List.getElem?_cons_zero, List.getElem?_cons_succ]
    refine pure_moveG rfl rfl ?_
    refine pure_atG (.int .i64 r1) rfl (fun wz _ => by unfold execOp; go_simp) ?_
    refine pure_atG (.bool true) rfl (fun wz _ => by unfold execOp; go_simp) ?_
    refine pure_atG (.int .i64 r1) rfl (fun wz _ => by unfold execOp; go_simp) ?_
    refine pure_atG (.bool true) rfl (fun wz _ => by unfold execOp; go_simp) ?_
    unfold wpPure
    go_simp
    refine ⟨by kernel_rfl, ?_⟩
    rw [OnlyN_normal]
    obtain ⟨vX_g, hX_g⟩ := KG.out
    have c_g_0 := zC hX_g
    replace hX_g := zH hX_g
    go_wp2_with fail
    with_reducible refine (sides_any w0 g (.slice Ah b.h.length ch) (.slice As b.s.length cs) (.slice Ao b.o.length co) (.slice Ar b.r.length cr) b e rate hT 6 (e.px) (1) (gfit _ _ _ (by omega) hE.out.px (i64_lit (by omega))) _).mono ?_
    rintro r wc3 ⟨f1, rfl, hl1, hb⟩
    clear hX_g c_g_0
    replace KG := zH ((KG.out.imp fun _ h => blk_call h hb))
    replace KT := zK KT hb
    replace HI := zH (HI.out.kept hb)
    replace HOF := zH (HOF.out.trans (Off.of hb))
    clear hb
    obtain ⟨J1, j1, rfl⟩ := hl1.form
    have HK1 := zH hl1
    clear hl1
    obtain ⟨vX_g, hX_g⟩ := KG.out
    have c_g_0 := zC hX_g
    have lt_g := zL hX_g
    replace hX_g := zH hX_g
    go_wp2_with fail
    obtain ⟨wa4, hwa4⟩ : ∃ wa4 : World, wc3.alloc (.cells #[.func (.func J1) #[] j1] 79) = wa4 := ⟨_, rfl⟩
    rw [hwa4]
    have hbwa4 : Below wc3.heap.size wc3 wa4 := by rw [← hwa4]; exact below_alloc (Below.refl _ _) (Nat.le_refl _) _
    replace KG := zH ((KG.out.imp fun _ h => blk_call h hbwa4))
    replace KT := zK KT hbwa4
    replace HI := zH (HI.out.kept hbwa4)
    replace HOF := zH (HOF.out.trans (Off.of hbwa4))
    replace HK1 := zH (HK1.out.off (Off.of hbwa4))
    have Kfs : Hid (wa4.heap[wc3.heap.size]? = some (.cells #[.func (.func J1) #[] j1] 79 (0, 0))) := by rw [← hwa4]; exact heap_new _ _
    clear hwa4 hbwa4
    clear hX_g c_g_0 lt_g
    have qall := zH (all_gen (Gt w0 g (.slice Ah b.h.length ch) (.slice As b.s.length cs) (.slice Ao b.o.length co) (.slice Ar b.r.length cr) b e rate) (wc3.heap.size) 1 (1) [(.func (.func J1) #[] j1, sS 6 e.px 1)] _ l0 _ rfl (show _ from fun i h => by have h1 : i < 1 := h; obtain rfl : i = 0 := (by omega); rfl) Kfs (zH (by intro x hx; simp only [List.mem_cons, List.not_mem_nil, or_false] at hx; subst hx; exact HK1.out)) HI (by have := hl0.out; show _ ≤ _; omega))
    have qall2 : Hid (Calls Tryz.prog 43 #[.slice (some ⟨wc3.heap.size, 0, none⟩) 1 (1)] wa4 fun r w' => r = .returned (.bool FA) ∧ Gt w0 g (.slice Ah b.h.length ch) (.slice As b.s.length cs) (.slice Ao b.o.length co) (.slice Ar b.r.length cr) b e rate (l0 ++ cutL ([sS 6 e.px 1])) w' ∧ Off wa4 w') := by rw [← hFA.out]; exact qall.out
    clear qall
    with_reducible refine qall2.out.mono ?_
    rintro r wl5 ⟨rfl, hI2, ho⟩
    clear qall2 HI HK1
    replace KT := zH (ho.blk _ _ _ _ KT.out (by decide) (by decide))
    replace HOF := zH (HOF.out.trans ho)
    clear KG ho
    have HI := zH hI2
    clear hI2
    have KG := zH (HI.out.blk.imp fun _ h => h.1)
    cases FA with
    | false =>
      obtain ⟨vX_g, hX_g⟩ := KG.out
      have c_g_0 := zC hX_g
      replace hX_g := zH hX_g
      have c_t_0 := zC KT.out
      have fc_t_0 := zF KT.out
      go_wp2_with fail
      obtain ⟨ws6, hws6⟩ : ∃ ws6 : World, ((((wl5.setCell ⟨w.heap.size, 0, none⟩ (.slice Ah b.h.length ch)).setCell ⟨w.heap.size, 1, none⟩ (.slice As b.s.length cs)).setCell ⟨w.heap.size, 2, none⟩ (.slice Ao b.o.length co)).setCell ⟨w.heap.size, 3, none⟩ (.slice Ar b.r.length cr)).setCell ⟨w.heap.size, 4, none⟩ (.int .i64 b.n) = ws6 := ⟨_, rfl⟩
      rw [hws6]
      clear hX_g c_g_0 c_t_0 fc_t_0
      have zE : putC wl5 (w.heap.size) 0 [.slice Ah b.h.length ch, .slice As b.s.length cs, .slice Ao b.o.length co, .slice Ar b.r.length cr, .int .i64 b.n] = ws6 := hws6
      replace HI := zH (HI.out.put KT.out (by decide) (by decide) LT.out 0 [.slice Ah b.h.length ch, .slice As b.s.length cs, .slice Ao b.o.length co, .slice Ar b.r.length cr, .int .i64 b.n])
      replace HOF := zH (Off.freshC MT.out HOF.out 0 [.slice Ah b.h.length ch, .slice As b.s.length cs, .slice Ao b.o.length co, .slice Ar b.r.length cr, .int .i64 b.n])
      replace KG := zH ((KG.out.imp fun _ h => putC_oth (blk_ne h KT.out (by decide)) (o := 0) (vs := [.slice Ah b.h.length ch, .slice As b.s.length cs, .slice Ao b.o.length co, .slice Ar b.r.length cr, .int .i64 b.n]) h ))
      rw [zE] at HI HOF KG
      replace KT := zP zE KT
      clear zE
      replace KT : Hid (ws6.heap[w.heap.size]? = some (.cells #[.slice Ah b.h.length ch, .slice As b.s.length cs, .slice Ao b.o.length co, .slice Ar b.r.length cr, .int .i64 b.n] 27 (0, 0))) := KT.out
      clear hws6
      go_wp2_with fail
      refine bodyPost_ret (v := .agg #[.slice Ah b.h.length ch, .slice As b.s.length cs, .slice Ao b.o.length co, .slice Ar b.r.length cr, .int .i64 b.n]) ?_ rfl ⟨_, rfl, by first | exact BkEi.same _ _ _ | (rw [if_neg (by simp)]; exact BkEi.same _ _ _), HI.out, HOF.out⟩
      exact ret_cell rfl _ _ _ _ _ _ rfl KT.out Tryz.underlying27 rfl (by kernel_rfl)
    | true =>
      obtain ⟨vX_g, hX_g⟩ := KG.out
      have c_g_0 := zC hX_g
      replace hX_g := zH hX_g
      go_wp2_with fail
      clear hX_g c_g_0
      refine wp_region_D [] (fun wz : World => Hid (∃ vX : Value, wz.heap[g]? = some (.cells #[.slice Ah b.h.length ch, .slice As b.s.length cs, .slice Ao b.o.length co, .slice Ar b.r.length cr, .int .i64 b.n, .int .i64 e.kind, .int .i64 e.acc, .int .i64 e.ord, .int .i64 e.sym, .int .i64 e.side, .int .i64 e.qty, .int .i64 e.px, .int .i64 rate, vX] 75 (0, 0)))) 17 #[false, false, false, false, false, false, false, false, false, false, false, false, false, false, false, false, false] (by kernel_rfl) (by kernel_rfl) (by kernel_rfl) ?_
      obtain ⟨wd7, hwd7⟩ : ∃ wd7 : World, { wl5 with drawn := wl5.drawn + 1 } = wd7 := ⟨_, rfl⟩
      rw [hwd7]
      have hbwd7 : Below wl5.heap.size wl5 wd7 := by rw [← hwd7]; exact (Below.refl _ _).drew
      replace KT := zK KT hbwd7
      replace KG := zH ((KG.out.imp fun _ h => blk_call h hbwd7))
      replace HOF := zH (HOF.out.trans (Off.of hbwd7))
      replace HI := zH (HI.out.kept hbwd7)
      clear hwd7 hbwd7
      refine pure_moreD [0, 1, 2, 3, 4, 5, 6, 7, 8, 9, 10, 11, 12, 13, 14] 2 (L' := #[true, true, true, true, true, true, true, true, true, true, true, true, true, true, true, false, false]) (by kernel_rfl) (by kernel_rfl) KG ?_
      simp only [opsAt, List.getElem?_toArray, List.getElem?_cons_zero, List.getElem?_cons_succ]
      refine pure_moveG rfl rfl ?_
      refine pure_atG (.pointer (some ⟨g, 0, none⟩)) rfl (fun wz _ => by unfold execOp; go_simp) ?_
      refine pure_atG (.pointer (some ⟨g, 0, none⟩)) rfl (fun wz _ => by unfold execOp; go_simp) ?_
      refine pure_atG (.agg #[.slice Ah b.h.length ch, .slice As b.s.length cs, .slice Ao b.o.length co, .slice Ar b.r.length cr, .int .i64 b.n]) rfl (fun wz hC => by obtain ⟨vX, hX⟩ := hC.out; have c0 := cells_of_blk hX 0 _ rfl; have c1 := cells_of_blk hX 1 _ rfl; have c2 := cells_of_blk hX 2 _ rfl; have c3 := cells_of_blk hX 3 _ rfl; have c4 := cells_of_blk hX 4 _ rfl; unfold execOp; go_simp) ?_
      refine pure_moveG rfl rfl ?_
      refine pure_atG (.pointer (some ⟨g, 0, none⟩)) rfl (fun wz _ => by unfold execOp; go_simp) ?_
      refine pure_atG (.pointer (some ⟨g, 5, none⟩)) rfl (fun wz _ => by unfold execOp; go_simp) ?_
      refine pure_atG (.pointer (some ⟨g, 8, none⟩)) rfl (fun wz _ => by unfold execOp; go_simp) ?_
      refine pure_atG (.int .i64 e.sym) rfl (fun wz hC => by obtain ⟨vX, hX⟩ := hC.out; have c0 := cells_of_blk hX 8 _ rfl; unfold execOp; go_simp) ?_
      refine pure_moveG rfl rfl ?_
      refine pure_atG (.pointer (some ⟨g, 0, none⟩)) rfl (fun wz _ => by unfold execOp; go_simp) ?_
      refine pure_atG (.pointer (some ⟨g, 5, none⟩)) rfl (fun wz _ => by unfold execOp; go_simp) ?_
      refine pure_atG (.pointer (some ⟨g, 11, none⟩)) rfl (fun wz _ => by unfold execOp; go_simp) ?_
      refine pure_atG (.int .i64 e.px) rfl (fun wz hC => by obtain ⟨vX, hX⟩ := hC.out; have c0 := cells_of_blk hX 11 _ rfl; unfold execOp; go_simp) ?_
      refine pure_atG (.agg #[.int .i64 e.sym, .int .i64 e.px]) rfl (fun wz _ => by unfold execOp; go_simp) ?_
      unfold wpPure
      go_simp
      refine wpAnyD_one 15 (f := 1) (L' := #[true, true, true, true, true, true, true, true, true, true, true, true, true, true, true, true, false]) (by kernel_rfl) (by kernel_rfl) rfl rfl ?_
      go_wp2_with fail
      with_reducible refine (q5.out _ (zH (B0.out.call HI.out.below))).mono ?_
      rintro r wc8 ⟨v5, rfl, hO, hb⟩
      replace KT := zK KT hb
      replace KG := zH ((KG.out.imp fun _ h => blk_call h hb))
      replace HOF := zH (HOF.out.trans (Off.of hb))
      replace HI := zH (HI.out.kept hb)
      clear hb
      obtain ⟨U1, u1, U2, u2, U3, u3, U4, u4, rfl⟩ := hO.form
      have HO := zH hO
      clear hO
      go_wp2_with fail
      rw [StepQ_normal]
      refine ⟨fun _ => KG, ?_⟩
      have c_t_0 := zC KT.out
      have fc_t_0 := zF KT.out
      refine wpAnyD_one 16 (f := 0) (L' := #[true, true, true, true, true, true, true, true, true, true, true, true, true, true, true, true, true]) (by kernel_rfl) (by kernel_rfl) rfl rfl ?_
      go_wp2_with fail
      obtain ⟨ws9, hws9⟩ : ∃ ws9 : World, ((((wc8.setCell ⟨w.heap.size, 0, none⟩ (.slice U1 nb.h.length u1)).setCell ⟨w.heap.size, 1, none⟩ (.slice U2 nb.s.length u2)).setCell ⟨w.heap.size, 2, none⟩ (.slice U3 nb.o.length u3)).setCell ⟨w.heap.size, 3, none⟩ (.slice U4 nb.r.length u4)).setCell ⟨w.heap.size, 4, none⟩ (.int .i64 nb.n) = ws9 := ⟨_, rfl⟩
      rw [hws9]
      clear c_t_0 fc_t_0
      replace HO : Hid _ := zH (HO.out.put KT.out 0 [.slice U1 nb.h.length u1, .slice U2 nb.s.length u2, .slice U3 nb.o.length u3, .slice U4 nb.r.length u4, .int .i64 nb.n])
      replace HI := zH (HI.out.put KT.out (by decide) (by decide) LT.out 0 [.slice U1 nb.h.length u1, .slice U2 nb.s.length u2, .slice U3 nb.o.length u3, .slice U4 nb.r.length u4, .int .i64 nb.n])
      replace HOF := zH (Off.freshC MT.out HOF.out 0 [.slice U1 nb.h.length u1, .slice U2 nb.s.length u2, .slice U3 nb.o.length u3, .slice U4 nb.r.length u4, .int .i64 nb.n])
      replace KG := zH ((KG.out.imp fun _ h => putC_oth (blk_ne h KT.out (by decide)) (o := 0) (vs := [.slice U1 nb.h.length u1, .slice U2 nb.s.length u2, .slice U3 nb.o.length u3, .slice U4 nb.r.length u4, .int .i64 nb.n]) h ))
      replace KT := zH (putC_blk (o := 0) (vs := [.slice U1 nb.h.length u1, .slice U2 nb.s.length u2, .slice U3 nb.o.length u3, .slice U4 nb.r.length u4, .int .i64 nb.n]) KT.out)
      rw [show putC wc8 (w.heap.size) 0 [.slice U1 nb.h.length u1, .slice U2 nb.s.length u2, .slice U3 nb.o.length u3, .slice U4 nb.r.length u4, .int .i64 nb.n] = ws9 from hws9] at HO
      rw [show putC wc8 (w.heap.size) 0 [.slice U1 nb.h.length u1, .slice U2 nb.s.length u2, .slice U3 nb.o.length u3, .slice U4 nb.r.length u4, .int .i64 nb.n] = ws9 from hws9] at HI HOF KT KG
      replace KT : Hid (ws9.heap[w.heap.size]? = some (.cells #[.slice U1 nb.h.length u1, .slice U2 nb.s.length u2, .slice U3 nb.o.length u3, .slice U4 nb.r.length u4, .int .i64 nb.n] 27 (0, 0))) := KT.out
      clear hws9
      rw [StepQ_normal]
      refine ⟨fun _ => KG, ?_⟩
      refine ⟨by kernel_rfl, ?_⟩
      rw [OnlyN_normal]
      go_wp2_with fail
      refine bodyPost_ret (v := .agg #[.slice U1 nb.h.length u1, .slice U2 nb.s.length u2, .slice U3 nb.o.length u3, .slice U4 nb.r.length u4, .int .i64 nb.n]) ?_ rfl ⟨_, rfl, BkEi.own (HO.out.mono (Nat.zero_le _)), HI.out, HOF.out⟩
      exact ret_cell rfl _ _ _ _ _ _ rfl KT.out Tryz.underlying27 rfl (by kernel_rfl)
  | false =>
    have hst : quoS b e = [sS 6 e.px 1, sS 17 b.r.length 31] := by unfold quoS; rw [← HFr.out]; rfl
    rw [hst]
    clear hst
    obtain ⟨FA, hFA⟩ : ∃ FA, ([sS 6 e.px 1, sS 17 b.r.length 31]).all (·.holds) = FA := ⟨_, rfl⟩
    rw [hFA]
    replace hFA := zH hFA
    obtain ⟨wb, hwb⟩ : ∃ wb : World, w.alloc (.cells #[.slice none 0 0, .slice none 0 0, .slice none 0 0, .slice none 0 0, .int .i64 0] 27) = wb := ⟨_, rfl⟩
    have hb : Below w.heap.size w wb := by rw [← hwb]; exact below_alloc (Below.refl _ _) (Nat.le_refl _) _
    have KT : Hid (wb.heap[w.heap.size]? = some (.cells #[.slice none 0 0, .slice none 0 0, .slice none 0 0, .slice none 0 0, .int .i64 0] 27 (0, 0))) := by rw [← hwb]; exact heap_new _ _
    have LT : Hid (w0.heap.size ≤ w.heap.size) := HI.out.below.size
    have MT : Hid (w.heap.size ≤ w.heap.size) := Nat.le_refl _
    replace KG := zH ((KG.out.imp fun _ h => blk_call h hb))
    replace HI := zH (HI.out.kept hb)
    replace HOF := zH (HOF.out.trans (Off.of hb))
    replace hwb := zH hwb
    clear hb
    go_enter Tryz.func38, Tryz.ntmps38
    go_wp2_with fail
    rw [hwb.out]
    clear hwb
    refine wp_region_D [] (fun wz : World => Hid (∃ vX : Value, wz.heap[g]? = some (.cells #[.slice Ah b.h.length ch, .slice As b.s.length cs, .slice Ao b.o.length co, .slice Ar b.r.length cr, .int .i64 b.n, .int .i64 e.kind, .int .i64 e.acc, .int .i64 e.ord, .int .i64 e.sym, .int .i64 e.side, .int .i64 e.qty, .int .i64 e.px, .int .i64 rate, vX] 75 (0, 0)))) 15 #[false, false, false, false, false, false, false, false, false, false, false, false, false, false, false] (by kernel_rfl) (by kernel_rfl) (by kernel_rfl) ?_
    obtain ⟨wd10, hwd10⟩ : ∃ wd10 : World, { wb with drawn := wb.drawn + 1 } = wd10 := ⟨_, rfl⟩
    rw [hwd10]
    have hbwd10 : Below wb.heap.size wb wd10 := by rw [← hwd10]; exact (Below.refl _ _).drew
    replace KG := zH ((KG.out.imp fun _ h => blk_call h hbwd10))
    replace KT := zK KT hbwd10
    replace HI := zH (HI.out.kept hbwd10)
    replace HOF := zH (HOF.out.trans (Off.of hbwd10))
    clear hwd10 hbwd10
    refine pure_moreD [0, 1, 2, 3, 4, 5, 6, 7, 8] 6 (L' := #[true, true, true, true, true, true, true, true, true, false, false, false, false, false, false]) (by kernel_rfl) (by kernel_rfl) KG ?_
    simp only [opsAt, List.getElem?_toArray, List.getElem?_cons_zero, List.getElem?_cons_succ]
    refine pure_moveG rfl rfl ?_
    refine pure_atG (.pointer (some ⟨g, 0, none⟩)) rfl (fun wz _ => by unfold execOp; go_simp) ?_
    refine pure_atG (.pointer (some ⟨g, 0, none⟩)) rfl (fun wz _ => by unfold execOp; go_simp) ?_
    refine pure_atG (.agg #[.slice Ah b.h.length ch, .slice As b.s.length cs, .slice Ao b.o.length co, .slice Ar b.r.length cr, .int .i64 b.n]) rfl (fun wz hC => by obtain ⟨vX, hX⟩ := hC.out; have c0 := cells_of_blk hX 0 _ rfl; have c1 := cells_of_blk hX 1 _ rfl; have c2 := cells_of_blk hX 2 _ rfl; have c3 := cells_of_blk hX 3 _ rfl; have c4 := cells_of_blk hX 4 _ rfl; unfold execOp; go_simp) ?_
    refine pure_moveG rfl rfl ?_
    refine pure_atG (.pointer (some ⟨g, 0, none⟩)) rfl (fun wz _ => by unfold execOp; go_simp) ?_
    refine pure_atG (.pointer (some ⟨g, 5, none⟩)) rfl (fun wz _ => by unfold execOp; go_simp) ?_
    refine pure_atG (.pointer (some ⟨g, 8, none⟩)) rfl (fun wz _ => by unfold execOp; go_simp) ?_
    refine pure_atG (.int .i64 e.sym) rfl (fun wz hC => by obtain ⟨vX, hX⟩ := hC.out; have c0 := cells_of_blk hX 8 _ rfl; unfold execOp; go_simp) ?_
    unfold wpPure
    go_simp
    refine wpAnyD_one 9 (f := 5) (L' := #[true, true, true, true, true, true, true, true, true, true, false, false, false, false, false]) (by kernel_rfl) (by kernel_rfl) rfl rfl ?_
    go_wp2_with fail
    with_reducible refine (Rate_any _ b e.sym r0 r1 false _ (zH (B0.out.call HI.out.below)) HL1.out.2.2 HRr HX3).mono ?_
    rintro e wc11 ⟨rfl, hb⟩
    replace KG := zH ((KG.out.imp fun _ h => blk_call h hb))
    replace KT := zK KT hb
    replace HI := zH (HI.out.kept hb)
    replace HOF := zH (HOF.out.trans (Off.of hb))
    clear hb
    go_wp2_with fail
    rw [StepQ_normal]
    refine ⟨fun _ => KG, ?_⟩
    refine pure_moreD [10, 11, 12, 13, 14] 0 (L' := #[true, true, true, true, true, true, true, true, true, true, true, true, true, true, true]) (by kernel_rfl) (by kernel_rfl) KG ?_
    simp only [opsAt, List.getElem?_toArray, List.getElem?_cons_zero, List.getElem?_cons_succ]
    refine pure_moveG rfl rfl ?_
    refine pure_atG (.int .i64 r1) rfl (fun wz _ => by unfold execOp; go_simp) ?_
    refine pure_atG (.bool false) rfl (fun wz _ => by unfold execOp; go_simp) ?_
    refine pure_atG (.int .i64 r1) rfl (fun wz _ => by unfold execOp; go_simp) ?_
    refine pure_atG (.bool false) rfl (fun wz _ => by unfold execOp; go_simp) ?_
    unfold wpPure
    go_simp
    refine ⟨by kernel_rfl, ?_⟩
    rw [OnlyN_normal]
    obtain ⟨vX_g, hX_g⟩ := KG.out
    have c_g_0 := zC hX_g
    replace hX_g := zH hX_g
    go_wp2_with fail
    with_reducible refine (sides_any w0 g (.slice Ah b.h.length ch) (.slice As b.s.length cs) (.slice Ao b.o.length co) (.slice Ar b.r.length cr) b e rate hT 6 (e.px) (1) (gfit _ _ _ (by omega) hE.out.px (i64_lit (by omega))) _).mono ?_
    rintro r wc12 ⟨f1, rfl, hl1, hb⟩
    clear hX_g c_g_0
    replace KG := zH ((KG.out.imp fun _ h => blk_call h hb))
    replace KT := zK KT hb
    replace HI := zH (HI.out.kept hb)
    replace HOF := zH (HOF.out.trans (Off.of hb))
    clear hb
    obtain ⟨J1, j1, rfl⟩ := hl1.form
    have HK1 := zH hl1
    clear hl1
    obtain ⟨vX_g, hX_g⟩ := KG.out
    have c_g_0 := zC hX_g
    have lt_g := zL hX_g
    replace hX_g := zH hX_g
    go_wp2_with fail
    obtain ⟨wa13, hwa13⟩ : ∃ wa13 : World, wc12.alloc (.cells #[.func (.func J1) #[] j1] 79) = wa13 := ⟨_, rfl⟩
    rw [hwa13]
    have hbwa13 : Below wc12.heap.size wc12 wa13 := by rw [← hwa13]; exact below_alloc (Below.refl _ _) (Nat.le_refl _) _
    replace KG := zH ((KG.out.imp fun _ h => blk_call h hbwa13))
    replace KT := zK KT hbwa13
    replace HI := zH (HI.out.kept hbwa13)
    replace HOF := zH (HOF.out.trans (Off.of hbwa13))
    replace HK1 := zH (HK1.out.off (Off.of hbwa13))
    have Kfs : Hid (wa13.heap[wc12.heap.size]? = some (.cells #[.func (.func J1) #[] j1] 79 (0, 0))) := by rw [← hwa13]; exact heap_new _ _
    clear hwa13 hbwa13
    clear hX_g c_g_0 lt_g
    with_reducible refine (sides_any w0 g (.slice Ah b.h.length ch) (.slice As b.s.length cs) (.slice Ao b.o.length co) (.slice Ar b.r.length cr) b e rate hT 17 (b.r.length) (31) (gfit _ _ _ (by omega) (i64_len HL1.out.2.2) (i64_lit (by omega))) _).mono ?_
    rintro r wc14 ⟨f2, rfl, hl2, hb⟩
    replace KG := zH ((KG.out.imp fun _ h => blk_call h hb))
    replace KT := zK KT hb
    replace Kfs := zK Kfs hb
    replace HI := zH (HI.out.kept hb)
    replace HOF := zH (HOF.out.trans (Off.of hb))
    replace HK1 := zH (HK1.out.off (Off.of hb))
    clear hb
    obtain ⟨J2, j2, rfl⟩ := hl2.form
    have HK2 := zH hl2
    clear hl2
    have c_fs_0 := cells_of_blk Kfs.out 0 _ rfl
    have lt_fs := zL Kfs.out
    have hsz : wc14.heap.size = wc14.heap.size := rfl
    go_wp2_with (at_builtin; go_loud (refine wpList_append_new (w := wc14.alloc (.cells #[.func (.func J2) #[] j2] 79)) rfl _ _ _ rfl Tryz.underlying136 el_look ⟨wc12.heap.size, 0, none⟩ 1 1 [.func (.func J1) #[] j1] rfl ?_ ⟨wc14.heap.size, 0, none⟩ 1 1 [.func (.func J2) #[] j2] rfl ?_ rfl rfl (by omega) (by decide) (by decide) ?_; (intro j v hj; rw [Addr.add_lit]; exact cells_of_blk (blk_old Kfs.out _) (0 + j) v (by simpa using hj)); (intro j v hj; rw [Addr.add_lit]; exact cells_of_blk (heap_new _ _) (0 + j) v (by simpa using hj)); intro wa15 gq cq cur hgq hKq hcur hb; clear hgq))
    clear c_fs_0 lt_fs
    replace hb : Below wc14.heap.size wc14 wa15 := (below_alloc (Below.refl _ _) (Nat.le_refl _) _).trans (hb.mono (by simp))
    replace KG := zH ((KG.out.imp fun _ h => blk_call h hb))
    replace KT := zK KT hb
    replace Kfs := zK Kfs hb
    replace HI := zH (HI.out.kept hb)
    replace HOF := zH (HOF.out.trans (Off.of hb))
    replace HK1 := zH (HK1.out.off (Off.of hb))
    replace HK2 := zH (HK2.out.off (Off.of hb))
    clear hb
    have Kfn := zH hKq
    have HCU := zH hcur
    clear hKq hcur hsz
    go_wp2_with fail
    have qall := zH (all_gen (Gt w0 g (.slice Ah b.h.length ch) (.slice As b.s.length cs) (.slice Ao b.o.length co) (.slice Ar b.r.length cr) b e rate) (gq) 2 (cq) [(.func (.func J1) #[] j1, sS 6 e.px 1), (.func (.func J2) #[] j2, sS 17 b.r.length 31)] _ l0 _ rfl (show _ from fun i h => HCU.out i _ (by have h2 : i < 2 := h; rcases (show i = 0 ∨ i = 1 by omega) with rfl | rfl <;> rfl)) Kfn (zH (by intro x hx; simp only [List.mem_cons, List.not_mem_nil, or_false] at hx; rcases hx with rfl | rfl <;> first | exact HK1.out | exact HK2.out)) HI (by have := hl0.out; show _ ≤ _; omega))
    have qall2 : Hid (Calls Tryz.prog 43 #[.slice (some ⟨gq, 0, none⟩) 2 (cq)] wa15 fun r w' => r = .returned (.bool FA) ∧ Gt w0 g (.slice Ah b.h.length ch) (.slice As b.s.length cs) (.slice Ao b.o.length co) (.slice Ar b.r.length cr) b e rate (l0 ++ cutL ([sS 6 e.px 1, sS 17 b.r.length 31])) w' ∧ Off wa15 w') := by rw [← hFA.out]; exact qall.out
    clear qall
    with_reducible refine qall2.out.mono ?_
    rintro r wl16 ⟨rfl, hI2, ho⟩
    clear qall2 HI HK1 HK2
    replace KT := zH (ho.blk _ _ _ _ KT.out (by decide) (by decide))
    replace HOF := zH (HOF.out.trans ho)
    clear KG ho
    have HI := zH hI2
    clear hI2
    have KG := zH (HI.out.blk.imp fun _ h => h.1)
    cases FA with
    | false =>
      obtain ⟨vX_g, hX_g⟩ := KG.out
      have c_g_0 := zC hX_g
      replace hX_g := zH hX_g
      have c_t_0 := zC KT.out
      have fc_t_0 := zF KT.out
      go_wp2_with fail
      obtain ⟨ws17, hws17⟩ : ∃ ws17 : World, ((((wl16.setCell ⟨w.heap.size, 0, none⟩ (.slice Ah b.h.length ch)).setCell ⟨w.heap.size, 1, none⟩ (.slice As b.s.length cs)).setCell ⟨w.heap.size, 2, none⟩ (.slice Ao b.o.length co)).setCell ⟨w.heap.size, 3, none⟩ (.slice Ar b.r.length cr)).setCell ⟨w.heap.size, 4, none⟩ (.int .i64 b.n) = ws17 := ⟨_, rfl⟩
      rw [hws17]
      clear hX_g c_g_0 c_t_0 fc_t_0
      have zE : putC wl16 (w.heap.size) 0 [.slice Ah b.h.length ch, .slice As b.s.length cs, .slice Ao b.o.length co, .slice Ar b.r.length cr, .int .i64 b.n] = ws17 := hws17
      replace HI := zH (HI.out.put KT.out (by decide) (by decide) LT.out 0 [.slice Ah b.h.length ch, .slice As b.s.length cs, .slice Ao b.o.length co, .slice Ar b.r.length cr, .int .i64 b.n])
      replace HOF := zH (Off.freshC MT.out HOF.out 0 [.slice Ah b.h.length ch, .slice As b.s.length cs, .slice Ao b.o.length co, .slice Ar b.r.length cr, .int .i64 b.n])
      replace KG := zH ((KG.out.imp fun _ h => putC_oth (blk_ne h KT.out (by decide)) (o := 0) (vs := [.slice Ah b.h.length ch, .slice As b.s.length cs, .slice Ao b.o.length co, .slice Ar b.r.length cr, .int .i64 b.n]) h ))
      rw [zE] at HI HOF KG
      replace KT := zP zE KT
      clear zE
      replace KT : Hid (ws17.heap[w.heap.size]? = some (.cells #[.slice Ah b.h.length ch, .slice As b.s.length cs, .slice Ao b.o.length co, .slice Ar b.r.length cr, .int .i64 b.n] 27 (0, 0))) := KT.out
      clear hws17
      go_wp2_with fail
      refine bodyPost_ret (v := .agg #[.slice Ah b.h.length ch, .slice As b.s.length cs, .slice Ao b.o.length co, .slice Ar b.r.length cr, .int .i64 b.n]) ?_ rfl ⟨_, rfl, by first | exact BkEi.same _ _ _ | (rw [if_neg (by simp)]; exact BkEi.same _ _ _), HI.out, HOF.out⟩
      exact ret_cell rfl _ _ _ _ _ _ rfl KT.out Tryz.underlying27 rfl (by kernel_rfl)
    | true =>
      obtain ⟨vX_g, hX_g⟩ := KG.out
      have c_g_0 := zC hX_g
      replace hX_g := zH hX_g
      go_wp2_with fail
      clear hX_g c_g_0
      refine wp_region_D [] (fun wz : World => Hid (∃ vX : Value, wz.heap[g]? = some (.cells #[.slice Ah b.h.length ch, .slice As b.s.length cs, .slice Ao b.o.length co, .slice Ar b.r.length cr, .int .i64 b.n, .int .i64 e.kind, .int .i64 e.acc, .int .i64 e.ord, .int .i64 e.sym, .int .i64 e.side, .int .i64 e.qty, .int .i64 e.px, .int .i64 rate, vX] 75 (0, 0)))) 17 #[false, false, false, false, false, false, false, false, false, false, false, false, false, false, false, false, false] (by kernel_rfl) (by kernel_rfl) (by kernel_rfl) ?_
      obtain ⟨wd18, hwd18⟩ : ∃ wd18 : World, { wl16 with drawn := wl16.drawn + 1 } = wd18 := ⟨_, rfl⟩
      rw [hwd18]
      have hbwd18 : Below wl16.heap.size wl16 wd18 := by rw [← hwd18]; exact (Below.refl _ _).drew
      replace KT := zK KT hbwd18
      replace KG := zH ((KG.out.imp fun _ h => blk_call h hbwd18))
      replace HOF := zH (HOF.out.trans (Off.of hbwd18))
      replace HI := zH (HI.out.kept hbwd18)
      clear hwd18 hbwd18
      refine pure_moreD [0, 1, 2, 3, 4, 5, 6, 7, 8, 9, 10, 11, 12, 13, 14] 2 (L' := #[true, true, true, true, true, true, true, true, true, true, true, true, true, true, true, false, false]) (by kernel_rfl) (by kernel_rfl) KG ?_
      simp only [opsAt, List.getElem?_toArray, List.getElem?_cons_zero, List.getElem?_cons_succ]
      refine pure_moveG rfl rfl ?_
      refine pure_atG (.pointer (some ⟨g, 0, none⟩)) rfl (fun wz _ => by unfold execOp; go_simp) ?_
      refine pure_atG (.pointer (some ⟨g, 0, none⟩)) rfl (fun wz _ => by unfold execOp; go_simp) ?_
      refine pure_atG (.agg #[.slice Ah b.h.length ch, .slice As b.s.length cs, .slice Ao b.o.length co, .slice Ar b.r.length cr, .int .i64 b.n]) rfl (fun wz hC => by obtain ⟨vX, hX⟩ := hC.out; have c0 := cells_of_blk hX 0 _ rfl; have c1 := cells_of_blk hX 1 _ rfl; have c2 := cells_of_blk hX 2 _ rfl; have c3 := cells_of_blk hX 3 _ rfl; have c4 := cells_of_blk hX 4 _ rfl; unfold execOp; go_simp) ?_
      refine pure_moveG rfl rfl ?_
      refine pure_atG (.pointer (some ⟨g, 0, none⟩)) rfl (fun wz _ => by unfold execOp; go_simp) ?_
      refine pure_atG (.pointer (some ⟨g, 5, none⟩)) rfl (fun wz _ => by unfold execOp; go_simp) ?_
      refine pure_atG (.pointer (some ⟨g, 8, none⟩)) rfl (fun wz _ => by unfold execOp; go_simp) ?_
      refine pure_atG (.int .i64 e.sym) rfl (fun wz hC => by obtain ⟨vX, hX⟩ := hC.out; have c0 := cells_of_blk hX 8 _ rfl; unfold execOp; go_simp) ?_
      refine pure_moveG rfl rfl ?_
      refine pure_atG (.pointer (some ⟨g, 0, none⟩)) rfl (fun wz _ => by unfold execOp; go_simp) ?_
      refine pure_atG (.pointer (some ⟨g, 5, none⟩)) rfl (fun wz _ => by unfold execOp; go_simp) ?_
      refine pure_atG (.pointer (some ⟨g, 11, none⟩)) rfl (fun wz _ => by unfold execOp; go_simp) ?_
      refine pure_atG (.int .i64 e.px) rfl (fun wz hC => by obtain ⟨vX, hX⟩ := hC.out; have c0 := cells_of_blk hX 11 _ rfl; unfold execOp; go_simp) ?_
      refine pure_atG (.agg #[.int .i64 e.sym, .int .i64 e.px]) rfl (fun wz _ => by unfold execOp; go_simp) ?_
      unfold wpPure
      go_simp
      refine wpAnyD_one 15 (f := 1) (L' := #[true, true, true, true, true, true, true, true, true, true, true, true, true, true, true, true, false]) (by kernel_rfl) (by kernel_rfl) rfl rfl ?_
      go_wp2_with fail
      with_reducible refine (q5.out _ (zH (B0.out.call HI.out.below))).mono ?_
      rintro r wc19 ⟨v5, rfl, hO, hb⟩
      replace KT := zK KT hb
      replace KG := zH ((KG.out.imp fun _ h => blk_call h hb))
      replace HOF := zH (HOF.out.trans (Off.of hb))
      replace HI := zH (HI.out.kept hb)
      clear hb
      obtain ⟨U1, u1, U2, u2, U3, u3, U4, u4, rfl⟩ := hO.form
      have HO := zH hO
      clear hO
      go_wp2_with fail
      rw [StepQ_normal]
      refine ⟨fun _ => KG, ?_⟩
      have c_t_0 := zC KT.out
      have fc_t_0 := zF KT.out
      refine wpAnyD_one 16 (f := 0) (L' := #[true, true, true, true, true, true, true, true, true, true, true, true, true, true, true, true, true]) (by kernel_rfl) (by kernel_rfl) rfl rfl ?_
      go_wp2_with fail
      obtain ⟨ws20, hws20⟩ : ∃ ws20 : World, ((((wc19.setCell ⟨w.heap.size, 0, none⟩ (.slice U1 nb.h.length u1)).setCell ⟨w.heap.size, 1, none⟩ (.slice U2 nb.s.length u2)).setCell ⟨w.heap.size, 2, none⟩ (.slice U3 nb.o.length u3)).setCell ⟨w.heap.size, 3, none⟩ (.slice U4 nb.r.length u4)).setCell ⟨w.heap.size, 4, none⟩ (.int .i64 nb.n) = ws20 := ⟨_, rfl⟩
      rw [hws20]
      clear c_t_0 fc_t_0
      replace HO : Hid _ := zH (HO.out.put KT.out 0 [.slice U1 nb.h.length u1, .slice U2 nb.s.length u2, .slice U3 nb.o.length u3, .slice U4 nb.r.length u4, .int .i64 nb.n])
      replace HI := zH (HI.out.put KT.out (by decide) (by decide) LT.out 0 [.slice U1 nb.h.length u1, .slice U2 nb.s.length u2, .slice U3 nb.o.length u3, .slice U4 nb.r.length u4, .int .i64 nb.n])
      replace HOF := zH (Off.freshC MT.out HOF.out 0 [.slice U1 nb.h.length u1, .slice U2 nb.s.length u2, .slice U3 nb.o.length u3, .slice U4 nb.r.length u4, .int .i64 nb.n])
      replace KG := zH ((KG.out.imp fun _ h => putC_oth (blk_ne h KT.out (by decide)) (o := 0) (vs := [.slice U1 nb.h.length u1, .slice U2 nb.s.length u2, .slice U3 nb.o.length u3, .slice U4 nb.r.length u4, .int .i64 nb.n]) h ))
      replace KT := zH (putC_blk (o := 0) (vs := [.slice U1 nb.h.length u1, .slice U2 nb.s.length u2, .slice U3 nb.o.length u3, .slice U4 nb.r.length u4, .int .i64 nb.n]) KT.out)
      rw [show putC wc19 (w.heap.size) 0 [.slice U1 nb.h.length u1, .slice U2 nb.s.length u2, .slice U3 nb.o.length u3, .slice U4 nb.r.length u4, .int .i64 nb.n] = ws20 from hws20] at HO
      rw [show putC wc19 (w.heap.size) 0 [.slice U1 nb.h.length u1, .slice U2 nb.s.length u2, .slice U3 nb.o.length u3, .slice U4 nb.r.length u4, .int .i64 nb.n] = ws20 from hws20] at HI HOF KT KG
      replace KT : Hid (ws20.heap[w.heap.size]? = some (.cells #[.slice U1 nb.h.length u1, .slice U2 nb.s.length u2, .slice U3 nb.o.length u3, .slice U4 nb.r.length u4, .int .i64 nb.n] 27 (0, 0))) := KT.out
      clear hws20
      rw [StepQ_normal]
      refine ⟨fun _ => KG, ?_⟩
      refine ⟨by kernel_rfl, ?_⟩
      rw [OnlyN_normal]
      go_wp2_with fail
      refine bodyPost_ret (v := .agg #[.slice U1 nb.h.length u1, .slice U2 nb.s.length u2, .slice U3 nb.o.length u3, .slice U4 nb.r.length u4, .int .i64 nb.n]) ?_ rfl ⟨_, rfl, BkEi.own (HO.out.mono (Nat.zero_le _)), HI.out, HOF.out⟩
      exact ret_cell rfl _ _ _ _ _ _ rfl KT.out Tryz.underlying27 rfl (by kernel_rfl)
set_option maxRecDepth 100000 in
set_option maxHeartbeats 2000000 in
theorem snap_any (w0 : World) (g : Nat) (vh vs vo vr : Value) (b : Bk) (e : Ev) (rate : Int) (hT : Hid (Law16 w0)) (B0 : Hid (BkAt w0 (.agg #[vh, vs, vo, vr, .int .i64 b.n]) b)) (hs : Hid b.Small) (hR : Hid b.Rise) (hE : Hid e.I64s) (l0 : List Stp) (hl0 : Hid (l0.length ≤ 50)) (w : World) (HI : Hid (Gt w0 g vh vs vo vr b e rate l0 w)) :
    Calls Tryz.prog 42 #[.pointer (some ⟨g, 0, none⟩)] w fun r w' => ∃ v, r = .returned v ∧ BkEi w' (.agg #[vh, vs, vo, vr, .int .i64 b.n]) v b b ∧ Gt w0 g vh vs vo vr b e rate l0 w' ∧ Off w w' := by
  obtain ⟨_, _, _, _, hv, r1, r2, r3, r4⟩ := B0.out
  injection hv with hv
  simp only [Array.mk.injEq, List.cons.injEq, and_true] at hv
  obtain ⟨rfl, rfl, rfl, rfl, _⟩ := hv
  have LH : Hid (∀ r ∈ b.h, r.length = 4) := (by obtain ⟨_, _, _, h, _⟩ := r1; exact h)
  have LO : Hid (∀ r ∈ b.o, r.length = 6) := (by obtain ⟨_, _, _, h, _⟩ := r3; exact h)
  have LR : Hid (∀ r ∈ b.r, r.length = 2) := (by obtain ⟨_, _, _, h, _⟩ := r4; exact h)
  obtain ⟨Ah, ch, rfl, _⟩ := r1
  obtain ⟨As, cs, rfl, _⟩ := r2
  obtain ⟨Ao, co, rfl, _⟩ := r3
  obtain ⟨Ar, cr, rfl, _⟩ := r4
  have F1 : b.h.length ≤ 1000000 ∧ b.o.length ≤ 1000000 ∧ b.r.length ≤ 1000000 := by have := hs.out; unfold Bk.Small at this; omega
  have HL1 := zH F1
  clear F1
  have KG := zH (HI.out.blk.imp fun _ h => h.1)
  have HOF : Hid (Off w w) := Off.refl _
  obtain ⟨vX_g, hX_g⟩ := KG.out
  have c_g_0 := zC hX_g
  have lt_g := zL hX_g
  replace hX_g := zH hX_g
  go_enter Tryz.func42, Tryz.ntmps42
  go_wp2_with fail
  clear hX_g c_g_0 lt_g
  have hbe : Below w.heap.size w (w.alloc (.cells #[.slice Ah b.h.length ch, .slice As b.s.length cs, .slice Ao b.o.length co, .slice Ar b.r.length cr, .int .i64 b.n] 27)) := below_alloc (Below.refl _ _) (Nat.le_refl _) _
  have hI2 := HI.out.kept hbe
  refine bodyPost_ret (v := .agg #[.slice Ah b.h.length ch, .slice As b.s.length cs, .slice Ao b.o.length co, .slice Ar b.r.length cr, .int .i64 b.n]) ?_ rfl ⟨_, rfl, ?_, hI2, Off.of hbe⟩
  · exact ret_cell rfl _ _ w.heap.size _ _ _ rfl (heap_new _ _) Tryz.underlying27 rfl (by kernel_rfl)
  · exact BkEi.same _ _ _
end Go.Proofs.YtjcdpmianmgiaaaGreatDoor
namespace Go.Proofs.YtjcdpmianmgiaaaGreatDoor
open Go Go.RowKit
set_option linter.unusedVariables false
set_option linter.unusedSimpArgs false
def doesE (g : Nat) : Array MapEntry := #[
  { key := .int .i64 1, val := .func (.func 36) #[.pointer (some ⟨g, 0, none⟩)] #[], born := 0 },
  { key := .int .i64 2, val := .func (.func 37) #[.pointer (some ⟨g, 0, none⟩)] #[], born := 1 },
  { key := .int .i64 3, val := .func (.func 38) #[.pointer (some ⟨g, 0, none⟩)] #[], born := 2 },
  { key := .int .i64 4, val := .func (.func 39) #[.pointer (some ⟨g, 0, none⟩)] #[], born := 3 },
  { key := .int .i64 5, val := .func (.func 40) #[.pointer (some ⟨g, 0, none⟩)] #[], born := 4 },
  { key := .int .i64 6, val := .func (.func 41) #[.pointer (some ⟨g, 0, none⟩)] #[], born := 5 },
  { key := .int .i64 7, val := .func (.func 42) #[.pointer (some ⟨g, 0, none⟩)] #[], born := 6 }]
def DoneAt (W w0 : World) (g : Nat) (vh vs vo vr : Value) (b : Bk) (e : Ev) (rate : Int) (l0 : List Stp) (r : Ending) (w' : World) : Prop :=
  ∃ v, r = .returned v ∧ BkEi w' (.agg #[vh, vs, vo, vr, .int .i64 b.n]) v b (if (kindS b e rate).all (·.holds) then newB b e else b) ∧ Gt w0 g vh vs vo vr b e rate (l0 ++ cutL (kindS b e rate)) w' ∧ Off W w'
theorem does_any (w0 : World) (g : Nat) (vh vs vo vr : Value) (b : Bk) (e : Ev) (rate : Int) (hT : Hid (Law16 w0)) (B0 : Hid (BkAt w0 (.agg #[vh, vs, vo, vr, .int .i64 b.n]) b)) (hs : Hid b.Small) (hR : Hid b.Rise) (hE : Hid e.I64s) (hi : Hid b.I64s) (hm : Hid (b.mayB = true)) (hsS : Hid (b.s.length ≤ 900000)) (hk : 1 ≤ e.kind ∧ e.kind ≤ 7) :
    ∃ K i, Instr.findNow (.int .i64) (.int .i64 e.kind) (doesE g).toList 0 = some (some (i, .func (.func K) #[.pointer (some ⟨g, 0, none⟩)] #[])) ∧ (∀ args w, (callFunc K args).run Tryz.prog w = .ok (.enter K args) w) ∧
      ∀ (l0 : List Stp) (w : World), l0.length ≤ 50 → Gt w0 g vh vs vo vr b e rate l0 w → Calls Tryz.prog K #[.pointer (some ⟨g, 0, none⟩)] w (DoneAt w w0 g vh vs vo vr b e rate l0) := by
  have hc : e.kind = 1 ∨ e.kind = 2 ∨ e.kind = 3 ∨ e.kind = 4 ∨ e.kind = 5 ∨ e.kind = 6 ∨ e.kind = 7 := by omega
  rcases hc with h | h | h | h | h | h | h
  · refine ⟨36, 0, by rw [h]; rfl, fun args w => enters_of Tryz.func36 (by kernel_rfl) rfl _ w, fun l0 w hl hI => ?_⟩
    have e1 : kindS b e rate = accS b e := by unfold kindS; rw [if_pos h]
    have e2 : newB b e = accB b e := by unfold newB; rw [if_pos h]
    unfold DoneAt
    rw [e1, e2]
    exact account_any w0 g vh vs vo vr b e rate hT B0 hs hR hE l0 hl w hI
  · refine ⟨37, 1, by rw [h]; rfl, fun args w => enters_of Tryz.func37 (by kernel_rfl) rfl _ w, fun l0 w hl hI => ?_⟩
    have e1 : kindS b e rate = limS b e := by unfold kindS; rw [if_neg (by omega), if_pos h]
    have e2 : newB b e = limB b e := by unfold newB; rw [if_neg (by omega), if_pos h]
    unfold DoneAt
    rw [e1, e2]
    exact limit_any w0 g vh vs vo vr b e rate hT B0 hs hR hE l0 hl w hI
  · refine ⟨38, 2, by rw [h]; rfl, fun args w => enters_of Tryz.func38 (by kernel_rfl) rfl _ w, fun l0 w hl hI => ?_⟩
    have e1 : kindS b e rate = quoS b e := by unfold kindS; rw [if_neg (by omega), if_neg (by omega), if_pos h]
    have e2 : newB b e = quoB b e := by unfold newB; rw [if_neg (by omega), if_neg (by omega), if_pos h]
    unfold DoneAt
    rw [e1, e2]
    exact quote_any w0 g vh vs vo vr b e rate hT B0 hs hR hE l0 hl w hI
  · refine ⟨39, 3, by rw [h]; rfl, fun args w => enters_of Tryz.func39 (by kernel_rfl) rfl _ w, fun l0 w hl hI => ?_⟩
    have e1 : kindS b e rate = ordS b e rate := by unfold kindS; rw [if_neg (by omega), if_neg (by omega), if_neg (by omega), if_pos h]
    have e2 : newB b e = ordB b e := by unfold newB; rw [if_neg (by omega), if_neg (by omega), if_neg (by omega), if_pos h]
    unfold DoneAt
    rw [e1, e2]
    exact order_any w0 g vh vs vo vr b e rate hT B0 hs hR hE l0 hl w hI hi hm
  · refine ⟨40, 4, by rw [h]; rfl, fun args w => enters_of Tryz.func40 (by kernel_rfl) rfl _ w, fun l0 w hl hI => ?_⟩
    have e1 : kindS b e rate = fillS b e := by unfold kindS; rw [if_neg (by omega), if_neg (by omega), if_neg (by omega), if_neg (by omega), if_pos h]
    have e2 : newB b e = fillB b e := by unfold newB; rw [if_neg (by omega), if_neg (by omega), if_neg (by omega), if_neg (by omega), if_pos h]
    unfold DoneAt
    rw [e1, e2]
    exact fill_any w0 g vh vs vo vr b e rate hT B0 hs hR hE l0 hl w hI hi hm hsS
  · refine ⟨41, 5, by rw [h]; rfl, fun args w => enters_of Tryz.func41 (by kernel_rfl) rfl _ w, fun l0 w hl hI => ?_⟩
    have e1 : kindS b e rate = canS b e := by unfold kindS; rw [if_neg (by omega), if_neg (by omega), if_neg (by omega), if_neg (by omega), if_neg (by omega), if_pos h]
    have e2 : newB b e = canB b e := by unfold newB; rw [if_neg (by omega), if_neg (by omega), if_neg (by omega), if_neg (by omega), if_neg (by omega), if_pos h]
    unfold DoneAt
    rw [e1, e2]
    exact cancel_any w0 g vh vs vo vr b e rate hT B0 hs hR hE l0 hl w hI
  · refine ⟨42, 6, by rw [h]; rfl, fun args w => enters_of Tryz.func42 (by kernel_rfl) rfl _ w, fun l0 w hl hI => ?_⟩
    have e1 : kindS b e rate = [] := by unfold kindS; rw [if_neg (by omega), if_neg (by omega), if_neg (by omega), if_neg (by omega), if_neg (by omega), if_neg (by omega)]
    have e2 : newB b e = b := by unfold newB; rw [if_neg (by omega), if_neg (by omega), if_neg (by omega), if_neg (by omega), if_neg (by omega), if_neg (by omega)]
    unfold DoneAt
    rw [e1, e2]
    refine (snap_any w0 g vh vs vo vr b e rate hT B0 hs hR hE l0 hl w hI).mono ?_
    rintro r w' ⟨v, h1, h2, h3, h4⟩
    exact ⟨v, h1, by simpa using h2, by simpa [cutL] using h3, h4⟩
end Go.Proofs.YtjcdpmianmgiaaaGreatDoor
