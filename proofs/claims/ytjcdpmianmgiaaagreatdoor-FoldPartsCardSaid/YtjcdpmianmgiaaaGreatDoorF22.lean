/- Part 23 of what the claim rests on. -/
import Derived.Test.YtjcdpmianmgiaaaGreatDoorF00
import Derived.Test.YtjcdpmianmgiaaaGreatDoorF01
import Derived.Test.YtjcdpmianmgiaaaGreatDoorF12
import Derived.Test.YtjcdpmianmgiaaaGreatDoorF13
import Derived.Test.YtjcdpmianmgiaaaGreatDoorF21
import Derived.Laws.AppendOwnNone
import Derived.LoopIn
import Derived.LoopNIn
import Derived.OrdersIn
import Derived.OwnWalkIn
import Derived.RangeFuncCalls
import Derived.Shelf.Abstract
import Derived.SizedLaws
import Derived.TacticsInMore
namespace Go.Proofs.YtjcdpmianmgiaaaGreatDoor
open Go Go.RowKit Go.Shelf Mon
set_option linter.unusedVariables false
set_option linter.unusedSimpArgs false
attribute [local go_sem] Oper.semAt_some
theorem states_any (Ah As Ao Ar AL : Option Addr) (ch cs co cr n cL : Nat) (b : Bk) (rate : Int) (w : World) :
    Calls Tryz.prog 65 #[.agg #[.slice Ah b.h.length ch, .slice As b.s.length cs, .slice Ao b.o.length co, .slice Ar b.r.length cr, .int .i64 b.n], .slice AL n cL, .int .i64 rate] w fun r w' => r = .returned (.func (.func 122) #[] #[.pointer (some ⟨w.heap.size + 1, 0, none⟩), .pointer (some ⟨w.heap.size, 0, none⟩), .pointer (some ⟨w.heap.size + 2, 0, none⟩)]) ∧
      w' = ((w.alloc (.cells #[.slice Ah b.h.length ch, .slice As b.s.length cs, .slice Ao b.o.length co, .slice Ar b.r.length cr, .int .i64 b.n] 27)).alloc (.cells #[.slice AL n cL] 51)).alloc (.cells #[.int .i64 rate] 3) := by
  go_enter Tryz.func65, Tryz.ntmps65
  go_wp2_with fail
  go_ret
  exact ⟨rfl, rfl⟩
set_option maxRecDepth 100000 in
set_option maxHeartbeats 16000000 in
theorem states1_in (b : Bk) (L : List Ev) (rate : Int) (w0 w : World) (Bs : Nat) (Ah As Ao Ar AL : Option Addr) (ch cs co cr cL : Nat) (hT : Hid (Law16 w0)) (B0 : Hid (BkAt w0 (.agg #[.slice Ah b.h.length ch, .slice As b.s.length cs, .slice Ao b.o.length co, .slice Ar b.r.length cr, .int .i64 b.n]) b)) (HL : Hid (EvsAt w0 (.slice AL L.length cL) L)) (hgd : Hid b.Good) (hE : Hid (∀ e ∈ L, e.I64s)) (hr0 : Hid (0 ≤ rate ∧ rate ≤ 1000))
    (hcount : Hid (b.n + L.length ≤ 1099511627776)) (hst : Hid (b.s.length + L.length ≤ 900000)) (hln : L.length ≤ 1000000) (hbw : Hid (Below w0.heap.size w0 w)) (hB0 : Hid (w0.heap.size ≤ Bs))
    (k0 : Hid (w.heap[Bs]? = some (.cells #[.slice Ah b.h.length ch, .slice As b.s.length cs, .slice Ao b.o.length co, .slice Ar b.r.length cr, .int .i64 b.n] 27 (0, 0)))) (k1 : Hid (w.heap[Bs + 1]? = some (.cells #[.slice AL L.length cL] 51 (0, 0)))) (k2 : Hid (w.heap[Bs + 2]? = some (.cells #[.int .i64 rate] 3 (0, 0)))) :
    IterS Fence.wide 2 Tryz.prog 122 #[.pointer (some ⟨Bs + 1, 0, none⟩), .pointer (some ⟨Bs, 0, none⟩), .pointer (some ⟨Bs + 2, 0, none⟩)] Bs w (EnF b rate) (KpF w0.heap.size Bs) L := by
  intro l J Jx W hW hJ hJx hY h0
  have K0 := zK k0 hW
  have K1 := zK k1 hW
  have K2 := zK k2 hW
  have HB := zB hbw hW
  have H0 := zH h0
  have hJh := zH hJ
  have hJxh := zH hJx
  have hYh := zH hY
  have hg1 : Hid (∀ i : Nat, i < L.length → ∃ e, L[i]? = some e) := fun i hi => ⟨_, List.getElem?_eq_getElem hi⟩
  have hlast : Hid (L.take L.length = L) := List.take_length
  have BK : Hid (BkAt W (.agg #[.slice Ah b.h.length ch, .slice As b.s.length cs, .slice Ao b.o.length co, .slice Ar b.r.length cr, .int .i64 b.n]) (foldB b rate (L.take 0))) := B0.out.call HB.out
  clear k0 k1 k2 hW hbw h0 hJ hJx hY B0
  refine callsIn_of_wp Tryz.func122 rfl trivial ?_ rfl
  simp only [Tryz.ntmps122, List.size_toArray, List.length_cons, List.length_nil, Nat.reduceAdd, Nat.reduceSub, Array.replicate_succ, Array.replicate_zero, List.push_toArray, List.append_toArray, List.nil_append, List.cons_append]
  have c1 := cells_of_blk K1.out 0 _ rfl
  gi_wp2
  clear c1
  gi_loopw [13] (fun s13 wr => ∃ (i : Nat) (V1 V2 V3 V4 : Option Addr) (Vc1 Vc2 Vc3 Vc4 : Nat), s13 = .int .i64 i ∧ Hid (i ≤ L.length) ∧ Hid (J (L.take i) wr) ∧ Hid (Below w0.heap.size w0 wr) ∧
      Hid (wr.heap[Bs]? = some (.cells #[.slice V1 (foldB b rate (L.take i)).h.length Vc1, .slice V2 (foldB b rate (L.take i)).s.length Vc2, .slice V3 (foldB b rate (L.take i)).o.length Vc3, .slice V4 (foldB b rate (L.take i)).r.length Vc4, .int .i64 (foldB b rate (L.take i)).n] 27 (0, 0))) ∧ Hid (wr.heap[Bs + 1]? = some (.cells #[.slice AL L.length cL] 51 (0, 0))) ∧ Hid (wr.heap[Bs + 2]? = some (.cells #[.int .i64 rate] 3 (0, 0))) ∧ Hid (BkAt wr (.agg #[.slice V1 (foldB b rate (L.take i)).h.length Vc1, .slice V2 (foldB b rate (L.take i)).s.length Vc2, .slice V3 (foldB b rate (L.take i)).o.length Vc3, .slice V4 (foldB b rate (L.take i)).r.length Vc4, .int .i64 (foldB b rate (L.take i)).n]) (foldB b rate (L.take i))))
    (fun s13 _ => L.length - (intOf s13).toNat)
  case atStart => exact ⟨0, Ah, As, Ao, Ar, ch, cs, co, cr, rfl, Nat.zero_le _, H0.out, HB.out, K0.out, K1.out, K2.out, BK.out⟩
  case round =>
    clear K0 K1 K2 HB H0 BK
    obtain ⟨i, V1, V2, V3, V4, Vc1, Vc2, Vc3, Vc4, rfl, hi, HJ, HB, K0, K1, K2, BK⟩ := hrel
    have hi2 := hi.out
    by_cases hlt : i < L.length
    · obtain ⟨e, he⟩ := hg1.out i hlt
      have htk := take_snoc he
      have hkn : i + 1 ≤ L.length := hlt
      have htl : (L.take i).length = i := by rw [List.length_take]; omega
      have hbg := foldB_good rate (L.take i) b hgd.out (by rw [htl]; have := hcount.out; omega) (fun x hx => hE.out x (List.mem_of_mem_take hx))
      have hbn := foldB_n rate (L.take i) b
      have hbs := foldB_stakes rate (L.take i) b
      rw [htl] at hbn hbs
      have hsn := foldB_snoc b rate (L.take i) e
      obtain ⟨bi, hbi⟩ : ∃ bi, foldB b rate (L.take i) = bi := ⟨_, rfl⟩
      rw [hbi] at K0 BK hbg hbn hbs hsn
      have hEe : Hid e.I64s := hE.out e (List.mem_of_getElem? he)
      have hsS : Hid (bi.s.length ≤ 900000) := (show bi.s.length ≤ 900000 by have := hst.out; omega)
      have hsm : Hid bi.Small := hbg.small hsS.out
      have hin : Hid bi.I64s := hbg.ints
      have hmb : Hid (bi.mayB = true) := hbg.may
      have q1 := zH (fun wz hz hv => gStep_ok (.slice V1 bi.h.length Vc1) (.slice V2 bi.s.length Vc2) (.slice V3 bi.o.length Vc3) (.slice V4 bi.r.length Vc4) bi e rate wz hz hv hsm hin hmb hEe hsS hr0.out (by have := hcount.out; rw [hbn]; omega))
      unfold Ev.val at q1
      obtain ⟨nb, hnb⟩ : ∃ nb, gateB bi e rate = nb := ⟨_, rfl⟩
      obtain ⟨⟨X1, X2⟩, hX⟩ : ∃ X, gateV bi e rate = X := ⟨_, rfl⟩
      rw [hnb, hX] at q1
      rw [hnb] at hsn
      have hen : Hid (∀ (Y1 Y2 Y3 Y4 : Option Addr) (d1 d2 d3 d4 M : Nat) (Wz : World), BkOwn Wz M (.agg #[.slice Y1 nb.h.length d1, .slice Y2 nb.s.length d2, .slice Y3 nb.o.length d3, .slice Y4 nb.r.length d4, .int .i64 nb.n]) nb → EnF b rate (L.take i) e #[.int .i64 i, .agg #[.int .i64 X1, .int .i64 X2, .slice Y1 nb.h.length d1, .slice Y2 nb.s.length d2, .slice Y3 nb.o.length d3, .slice Y4 nb.r.length d4, .int .i64 nb.n]] M Wz) := (by
        intro Y1 Y2 Y3 Y4 d1 d2 d3 d4 M Wz hO
        refine ⟨Y1, d1, Y2, d2, Y3, d3, Y4, d4, ?_, ?_⟩
        · rw [htl, hsn, hbi, hX]
        · rw [hsn]; exact hO)
      have hpre : Hid (L.take i ++ [e] <+: L) := (show L.take i ++ [e] <+: L from htk ▸ List.take_prefix _ _)
      have HTK := zH htk
      have HSN := zH hsn
      obtain ⟨bb, oo, rfl, hbl, l0, l1, l2, l3, l4, l5, l6⟩ := (HL.out.call HB.out).get he
      clear htk hkn htl hbg hbn hbs hsn hbi hnb hX he hi hsm hin hmb hEe hsS
      have hAt : ∀ x, Below wr.heap.size wr (wr.alloc (.cells x 29)) := fun x => below_alloc (Below.refl _ _) (Nat.le_refl _) _
      have hbA := zH (hAt #[.int .i64 e.kind, .int .i64 e.acc, .int .i64 e.ord, .int .i64 e.sym, .int .i64 e.side, .int .i64 e.qty, .int .i64 e.px])
      clear hAt
      have hzA := zH (hT.out.call (HB.out.trans (hbA.out.mono HB.out.size)))
      have BKA := zH (BK.out.call hbA.out)
      have b0 := zC K0.out
      have r0 := cells_of_blk K2.out 0 _ rfl
      have lt0 := zL K0.out
      have lt2 := zL K2.out
      gi_wp2_with (fail)
      refine ⟨trivial, callsIn_wide.2 ((q1.out _ hzA BKA).mono ?_)⟩
      rintro r w1 ⟨v5, vS, rfl, hO, hS, hb⟩
      clear b0 r0 lt0 lt2 l0 l1 l2 l3 l4 l5 l6 hbl q1 hzA BKA hS BK
      obtain ⟨Y1, d1, Y2, d2, Y3, d3, Y4, d4, hv5⟩ := hO.at.forms
      subst hv5
      have hb1 : Below wr.heap.size wr w1 := hbA.out.trans (hb.mono hbA.out.size)
      have hO1 := hO.mono hbA.out.size
      clear hO hb hbA
      obtain ⟨wY, hwY⟩ : ∃ wY : World, (w1.alloc (.cells #[.slice Y1 nb.h.length d1, .slice Y2 nb.s.length d2, .slice Y3 nb.o.length d3, .slice Y4 nb.r.length d4, .int .i64 nb.n] 27)).alloc (.cells #[.int .i64 X1, .int .i64 X2] 33) = wY := ⟨_, rfl⟩
      have hY2 : Below w1.heap.size w1 wY := by rw [← hwY]; exact below_alloc (below_alloc (Below.refl _ _) (Nat.le_refl _) _) (by simp) _
      have KN : Hid (wY.heap[w1.heap.size]? = some (.cells #[.slice Y1 nb.h.length d1, .slice Y2 nb.s.length d2, .slice Y3 nb.o.length d3, .slice Y4 nb.r.length d4, .int .i64 nb.n] 27 (0, 0))) := by rw [← hwY]; exact blk_old (heap_new _ _) _
      have hbY := zH (hb1.trans (hY2.mono hb1.size))
      have HO := zH (hO1.kept hY2)
      have HM := zH hb1.size
      clear hb1 hO1 hY2
      obtain ⟨fn, tmps, assign, body, hy, hR⟩ := hYh.out (L.take i) e #[.int .i64 i, .agg #[.int .i64 X1, .int .i64 X2, .slice Y1 nb.h.length d1, .slice Y2 nb.s.length d2, .slice Y3 nb.o.length d3, .slice Y4 nb.r.length d4, .int .i64 nb.n]] wr wY HJ.out (grown_belowF hbY.out _) (hen.out _ _ _ _ _ _ _ _ _ _ HO.out) hpre.out
      have HR := zH hR
      clear hR hen
      rw [← hwY] at hy
      have HWY := zH hwY
      clear hwY
      gi_wp2_with (fail)
      rw [HWY.out]
      refine HR.out.mono ?_
      clear HR hy HWY HJ
      rintro r w2 (⟨rfl, hJ2, hk2⟩ | ⟨rfl, hJx2⟩)
      · have HJ2 := zH hJ2
        have K0' := zH (hk2.2 _ _ _ _ (blk_call K0.out hbY.out) (.inr ⟨Nat.le_refl _, Nat.le_add_right _ _⟩))
        have K1' := zH (hk2.2 _ _ _ _ (blk_call K1.out hbY.out) (.inr ⟨by omega, by omega⟩))
        have K2' := zH (hk2.2 _ _ _ _ (blk_call K2.out hbY.out) (.inr ⟨by omega, by omega⟩))
        have KN' := zH (hk2.2 _ _ _ _ KN.out (.inl HM.out))
        have HO' := zH (HO.out.keptF hk2)
        have HB' := zH ((HB.out.trans (hbY.out.mono HB.out.size)).trans hk2.1)
        have hlt : Hid (Bs < wr.heap.size) := zL K0.out
        have hne : w1.heap.size ≠ Bs := by have h1 := hlt.out; have h2 := HM.out; omega
        clear hJ2 hk2 K0 K1 K2 KN HO HB hbY
        have b0 := zC K0'.out
        have hne2 := hne.symm
        have f0 := free_of_blk K0'.out 0
        have f1 := free_of_blk K0'.out 1
        have f2 := free_of_blk K0'.out 2
        have f3 := free_of_blk K0'.out 3
        have f4 := free_of_blk K0'.out 4
        have n0 := zC KN'.out
        gi_wp2_with (fail)
        obtain ⟨ws, hws⟩ : ∃ ws : World, ((((w2.setCell ⟨Bs, 0, none⟩ (.slice Y1 nb.h.length d1)).setCell ⟨Bs, 1, none⟩ (.slice Y2 nb.s.length d2)).setCell ⟨Bs, 2, none⟩ (.slice Y3 nb.o.length d3)).setCell ⟨Bs, 3, none⟩ (.slice Y4 nb.r.length d4)).setCell ⟨Bs, 4, none⟩ (.int .i64 nb.n) = ws := ⟨_, rfl⟩
        rw [hws]
        clear b0 f0 f1 f2 f3 f4 n0 hne hne2
        have EE : putC w2 Bs 0 [(.slice Y1 nb.h.length d1 : Value), .slice Y2 nb.s.length d2, .slice Y3 nb.o.length d3, .slice Y4 nb.r.length d4, .int .i64 nb.n] = ws := hws
        clear hws
        have J3 := hJh.out _ _ _ HJ2.out (grown_putC [(.slice Y1 nb.h.length d1 : Value), .slice Y2 nb.s.length d2, .slice Y3 nb.o.length d3, .slice Y4 nb.r.length d4, .int .i64 nb.n] 0 w2 (g := Bs))
        have B3 := putC_below hB0.out (o := 0) (vs := [(.slice Y1 nb.h.length d1 : Value), .slice Y2 nb.s.length d2, .slice Y3 nb.o.length d3, .slice Y4 nb.r.length d4, .int .i64 nb.n]) HB'.out
        have K03 : (putC w2 Bs 0 [(.slice Y1 nb.h.length d1 : Value), .slice Y2 nb.s.length d2, .slice Y3 nb.o.length d3, .slice Y4 nb.r.length d4, .int .i64 nb.n]).heap[Bs]? = some (.cells #[.slice Y1 nb.h.length d1, .slice Y2 nb.s.length d2, .slice Y3 nb.o.length d3, .slice Y4 nb.r.length d4, .int .i64 nb.n] 27 (0, 0)) := putC_blk K0'.out
        have K13 := putC_oth (g := Bs) (p := Bs + 1) (by omega) (o := 0) (vs := [(.slice Y1 nb.h.length d1 : Value), .slice Y2 nb.s.length d2, .slice Y3 nb.o.length d3, .slice Y4 nb.r.length d4, .int .i64 nb.n]) K1'.out
        have K23 := putC_oth (g := Bs) (p := Bs + 2) (by omega) (o := 0) (vs := [(.slice Y1 nb.h.length d1 : Value), .slice Y2 nb.s.length d2, .slice Y3 nb.o.length d3, .slice Y4 nb.r.length d4, .int .i64 nb.n]) K2'.out
        have O3 := BkOwn.low hlt.out HO'.out 0 [(.slice Y1 nb.h.length d1 : Value), .slice Y2 nb.s.length d2, .slice Y3 nb.o.length d3, .slice Y4 nb.r.length d4, .int .i64 nb.n]
        rw [EE] at J3 B3 K03 K13 K23 O3
        go_roundw
        case rel =>
          refine ⟨i + 1, Y1, Y2, Y3, Y4, d1, d2, d3, d4, by go_num, by show _ ≤ _; omega, ?_, B3, ?_, K13, K23, ?_⟩
          · rw [HTK.out]; exact J3
          · rw [HTK.out, HSN.out]; exact K03
          · rw [HTK.out, HSN.out]; exact O3.at
        case measure => simp [intOf]; omega
      · have HJX := zH hJx2
        clear hJx2
        gi_wp2_with (fail)
        refine bodyPost_ret (results_none rfl _ _ _) rfl ?_
        exact ⟨⟨_, rfl⟩, .inr ⟨_, hpre.out, HJX.out⟩⟩
    · obtain rfl : i = L.length := by omega
      gi_wp2_with (fail)
      go_end0
      have h := HJ.out
      rw [hlast.out] at h
      exact ⟨⟨_, rfl⟩, .inl h⟩
end Go.Proofs.YtjcdpmianmgiaaaGreatDoor
namespace Go.Proofs.YtjcdpmianmgiaaaGreatDoor
open Go Go.RowKit
section
variable {P : Program} {ops : Array Oper} {md : Region.Mode} {Q : Exit → Act → World → Prop}
theorem wpOpIn_of {l n i : Nat} {K : Act → World → Prop} {a : Act} {w : World} (hd : ∀ o c, ops[i]? = some o → o.op ≠ .defer c) (hQ : ¬ LetsOut Q) (h : wpOp P ops Q i K a w) : wpOpIn (Fence.wide.inRound l) n P ops Q i K a w := by
  unfold wpOp at h
  unfold wpOpIn
  cases ho : ops[i]? with
  | none => rw [ho] at h; exact h
  | some o =>
    rw [ho] at h
    simp only [] at h ⊢
    split at h
    · rename_i hw
      rw [if_pos hw]
      rcases h with h | ⟨_, h⟩
      · refine ⟨fun _ _ => trivial, ?_⟩
        rw [Oper.semAt_eq _ _ _ (fun c => hd o c ho)]
        unfold Oper.wp at h
        generalize (execOp a.eval o).run P w = r at h ⊢
        cases r with
        | ok x w' =>
          cases x with
          | value u => exact h
          | skip => exact h
          | defer d => exact h
          | enter f args =>
            refine ⟨(fun h => by cases h), CallsIn.inRound l (callsIn_wide.2 (Calls.mono h fun e w'' he => ?_))⟩
            cases e <;> exact he
          | row row args => exact ⟨(fun h => by cases h), fun c cs _ => let ⟨v, w', r, s⟩ := h c cs; ⟨v, w', r, stepsIn_wide.2 s⟩⟩
          | _ => exact h.elim
        | halt x w' =>
          cases x with
          | panic u => exact h
          | _ => exact h.elim
      · exact (hQ h).elim
    · rename_i hw
      rw [if_neg hw]
      exact ⟨fun _ _ => trivial, h⟩
theorem wpAnyIn_of {l n : Nat} (hd : ∀ (i : Nat) (o : Oper) (c : Call), ops[i]? = some o → o.op ≠ .defer c) (hQ : ¬ LetsOut Q) : ∀ (f : Nat) (L : Array Bool) (a : Act) (w : World), wpAny P md ops Q f L a w → wpAnyIn (Fence.wide.inRound l) n P md ops Q f L a w
  | 0, _, _, _, h => h
  | f + 1, _, _, _, h => ⟨h.1, fun i hi => wpOpIn_of (hd i) hQ (wpOp_mono (fun a' w' h' => wpAnyIn_of hd hQ f _ a' w' h') (h.2 i hi))⟩
def noDefer (ops : Array Oper) : Bool := ops.all fun (o : Oper) => match o.op with | .defer _ => false | _ => true
theorem noDefer_spec (h : noDefer ops = true) : ∀ (i : Nat) (o : Oper) (c : Call), ops[i]? = some o → o.op ≠ .defer c := by
  intro i o c ho hc
  have h1 := Array.all_eq_true.1 h i (zL ho)
  rw [(Array.getElem?_eq_some_iff.1 ho).2, hc] at h1
  cases h1
def OnlyX (Q : Exit → Act → World → Prop) : Exit → Act → World → Prop
  | .normal, a, w => Q .normal a w
  | _, _, _ => False
theorem OnlyX_normal (a : Act) (w : World) : OnlyN (OnlyX Q) .normal a w = Q .normal a w := rfl
theorem OnlyX.to : ∀ (x : Exit) (a : Act) (w : World), OnlyN (OnlyX Q) x a w → Q x a w
  | .normal, _, _, h => h
  | .outgrown, _, _, h => h.elim
  | .exit _, _, _, h => h.elim
  | .goto _, _, _, h => h.elim
  | .ret, _, _, h => h.elim
  | .panic _, _, _, h => h.elim
theorem wpIn_region_D {l n id : Nat} {C : World → Prop} {a : Act} {w : World} {os : List Oper} (ex : List Nat) (f : Nat) (L : Array Bool) (hm : P.follows .mixedOrders = true) (hf : os.length = f) (hL : Array.replicate os.toArray.size false = L) (hd : noDefer os.toArray = true)
    (h : wpAnyD P .any os.toArray C ex (OnlyN (OnlyX Q)) f L a { w with drawn := w.drawn + 1 }) : (Code.region id os.toArray true).wpIn (Fence.wide.inRound l) n P Q a w := by
  subst hL hf
  refine wpIn_mono (Q := OnlyN (OnlyX Q)) (wpIn_region_any hm (wpAnyIn_of (noDefer_spec hd) (by rintro ⟨a, w, h⟩; exact h) _ _ _ _ (wpAny_of_D (C := C) (ex := ex) _ _ _ _ ?_))) OnlyX.to
  simpa using h
end
end Go.Proofs.YtjcdpmianmgiaaaGreatDoor
namespace Go.Proofs.YtjcdpmianmgiaaaGreatDoor
open Go Go.RowKit Mon
set_option linter.unusedVariables false
set_option linter.unusedSimpArgs false
theorem RowOwn.neB {w : World} {B : Nat} {e : TypeId} {v : Value} {k : Nat} {l : List (List Int)} (h : RowOwn w B e v k l) {g : Nat} {cs : Array Value} {t : TypeId} {fr : Nat × Nat} (hg : w.heap[g]? = some (.cells cs t fr)) (hne : e ≠ t) : v.ownBlock ≠ some g := by
  obtain ⟨⟨hl, ho⟩, hk⟩ := h
  rcases ho with h | ⟨g', cap, cur, h1, h2, h3, h4⟩
  · rw [h.1]; intro e'; cases e'
  · rw [h1]
    intro e'
    have e2 : g' = g := by simpa [Value.ownBlock] using e'
    subst e2
    rw [hg] at h3
    injection h3 with h3
    injection h3 with _ h3 _
    exact hne h3.symm
theorem RowOwn.cellsB {w : World} {B : Nat} {e : TypeId} {v : Value} {k : Nat} {l : List (List Int)} (h : RowOwn w B e v k l) {q : Nat} (hq : v.ownBlock = some q) : ∃ o : Obj, w.heap[q]? = some o ∧ o.isCells = true := by
  rcases h.1.2 with ⟨rfl, _⟩ | ⟨g, cap, cur, rfl, _, h3, _⟩
  · cases hq
  · obtain rfl : g = q := by simpa [Value.ownBlock] using hq
    exact ⟨_, h3, rfl⟩
theorem RowOwn.grow {A B : World} {b0 : Nat} {e : TypeId} {v : Value} {k : Nat} {l : List (List Int)} {row : Option Nat} (h : RowOwn A b0 e v k l) (hg : A.grownBy B row) (hr : ∀ q, v.ownBlock = some q → row ≠ some q) : RowOwn B b0 e v k l :=
  h.still hg.size fun q cs t fr hq hv => (hg.block q (zL hq) (fun e => hr q hv e.symm)).trans hq
theorem grow_keeps {W w1 : World} {B : Nat} {e : TypeId} {v : Value} {k : Nat} {l : List (List Int)} {tmp : Obj} (h : RowOwn W B e v k l) (hn : B ≤ W.heap.size) (hg : (W.alloc tmp).grownBy w1 v.ownBlock) : KeepsOthers W w1 ∧ Below B W w1 ∧ ∀ j, j < W.heap.size → v.ownBlock ≠ some j → w1.heap[j]? = W.heap[j]? := by
  refine ⟨(KeepsOthers.alloc W tmp).trans (KeepsOthers.of_grownBy hg fun j o ej hj => ?_), ((Below.refl B W).alloc hn tmp).grown hg (by simp; omega) (fun j ej => (h.block ej).1), fun j hj hne => ?_⟩
  · obtain ⟨o', ho', hc⟩ := h.cellsB ej
    have := Below.heap_alloc W tmp j (Array.getElem?_eq_some_iff.1 ho').1
    rw [this, ho'] at hj
    cases hj
    exact hc
  · have h1 := hg.block j (by simp; omega) (fun e => hne e.symm)
    rw [h1, Below.heap_alloc W tmp j hj]
section
variable {P : Program} {ops : Array Oper} {rest : List Oper} {o : Oper} {a : Act} {Q : Exit → Act → World → Prop}
theorem wpList_append_recF {wr : World} {B : Nat} (s x : Operand) (t e : TypeId) (z : Value) (k bytes : Nat) (he : Elt P t e z k bytes) (r : List Int) (v : Value) (l : List (List Int))
    (hown : Hid (RowOwn wr B e v k l)) (hB : B ≤ wr.heap.size) (hgd : o.guard = none) (ho : o.op = .call { callee := .builtin .append, args := #[s, x], argTypes := #[t, t] })
    (hs : a.eval s = v) (hx : a.eval x = .slice (some ⟨wr.heap.size, 0, none⟩) 1 1) (hr : r.length = k) (hn : l.length + 1 ≤ 4000000) (hby : bytes ≤ 256)
    (h : ∀ v' w', Hid (RowOwn w' B e v' k (l ++ [r])) → Hid ((wr.alloc (.cells (r.map (Value.int .i64)).toArray e)).grownBy w' v.ownBlock) → wpList P ops Q rest (a.put o.dst v') w') :
    wpList P ops Q (o :: rest) a (wr.alloc (.cells (r.map (Value.int .i64)).toArray e)) := by
  obtain ⟨i, hi, hz, hsz, hbs⟩ := he.info
  obtain ⟨ho', hk⟩ := hown.out
  refine wpList_append_own _ hgd s x t ho B e i z k bytes he.und hi hz hsz hbs he.zs he.pos v l.length (flatC l) hs (ho'.alloc _) ⟨wr.heap.size, 0, none⟩ 1 1 (r.map (Value.int .i64)) hx (by rw [List.length_map, hr, Nat.one_mul]) ?_ ?_ ?_ ?_ ?_ ?_
  · intro j u hj
    rw [Addr.add_lit, Nat.zero_add]
    exact cells_of_blk (heap_new wr (.cells (r.map (Value.int .i64)).toArray e)) j u (by simpa using hj)
  · intro u hu; obtain ⟨y, _, rfl⟩ := List.mem_map.1 hu; rfl
  · unfold maxLen; omega
  · have h1 := Nat.mul_le_mul hn hby; omega
  · simp; omega
  · intro v' w' h1 h2 _
    refine h v' w' ⟨?_, ?_⟩ h2
    · rw [List.length_append, flatC_append, show flatC [r] = r.map (Value.int .i64) by simp [flatC]]
      exact h1
    · intro u hu
      rcases List.mem_append.1 hu with hu | hu
      · exact hk u hu
      · simp at hu; rw [hu]; exact hr
end
theorem el_Pair : Elt Tryz.prog 52 111 (.agg #[.int .i64 0, .int .i64 0, .int .i64 0, .int .i64 0, .int .i64 0, .int .i64 0, .int .i64 0, .int .i64 0, .int .i64 0]) 9 72 := Elt.mk' Tryz.underlying52 (by kernel_rfl) rfl (by decide)
theorem foldP_snoc (b : Bk) (rate : Int) (pre : List Ev) (e : Ev) : foldP b rate (pre ++ [e]) = foldP b rate pre ++ [pairC e (gateV (foldB b rate pre) e rate)] := by rw [foldP_app]; rfl
theorem EvsAt.got {w : World} {bb oo n c : Nat} {L : List Ev} (h : EvsAt w (.slice (some ⟨bb, oo, none⟩) n c) L) {i : Nat} {e : Ev} (hi : L[i]? = some e) : bb < w.heap.size ∧
    w.cell? ⟨bb, oo + i * 7, none⟩ = some (.int .i64 e.kind) ∧ w.cell? ⟨bb, oo + i * 7 + 1, none⟩ = some (.int .i64 e.acc) ∧ w.cell? ⟨bb, oo + i * 7 + 2, none⟩ = some (.int .i64 e.ord) ∧ w.cell? ⟨bb, oo + i * 7 + 3, none⟩ = some (.int .i64 e.sym) ∧ w.cell? ⟨bb, oo + i * 7 + 4, none⟩ = some (.int .i64 e.side) ∧ w.cell? ⟨bb, oo + i * 7 + 5, none⟩ = some (.int .i64 e.qty) ∧ w.cell? ⟨bb, oo + i * 7 + 6, none⟩ = some (.int .i64 e.px) := by
  obtain ⟨b, o, hA, h1⟩ := h.get hi
  injection hA with hA
  injection hA with hb ho _
  subst hb ho
  exact h1
def NotIn (Bs : Nat) (v : Value) : Prop := ∀ a1 a2 a3 a4 n, v = .agg #[a1, a2, a3, a4, n] → a1.ownBlock ≠ some Bs ∧ a2.ownBlock ≠ some Bs ∧ a3.ownBlock ≠ some Bs ∧ a4.ownBlock ≠ some Bs
theorem BkOwn.notIn {A : World} {b0 : Nat} {v : Value} {b : Bk} {Bs : Nat} (h : BkOwn A b0 v b) (hB : Bs < b0 ∨ A.heap.size ≤ Bs) : NotIn Bs v := by
  obtain ⟨vh, vs, vo, vr, rfl, h1, h2, h3, h4⟩ := h
  intro a1 a2 a3 a4 n hv
  injection hv with hv
  simp only [Array.mk.injEq, List.cons.injEq, and_true] at hv
  obtain ⟨rfl, rfl, rfl, rfl, _⟩ := hv
  refine ⟨fun e => ?_, fun e => ?_, fun e => ?_, fun e => ?_⟩
  · have := h1.block e; omega
  · have := h2.block e; omega
  · have := h3.block e; omega
  · have := h4.block e; omega
theorem BkOwn.grow {A B : World} {b0 Bs N : Nat} {v : Value} {b : Bk} {row : Option Nat} (h : BkOwn A b0 v b) (hn : NotIn Bs v) (hg : A.grownBy B row) (hr : ∀ r, row = some r → r = Bs ∨ (N ≤ r ∧ ∃ o : Obj, A.heap[r]? = some o ∧ o.isCells = false)) : BkOwn B b0 v b := by
  obtain ⟨vh, vs, vo, vr, rfl, h1, h2, h3, h4⟩ := h
  obtain ⟨n1, n2, n3, n4⟩ := hn _ _ _ _ _ rfl
  have key : ∀ {e : TypeId} {u : Value} {k : Nat} {l : List (List Int)}, RowOwn A b0 e u k l → u.ownBlock ≠ some Bs → RowOwn B b0 e u k l := fun hx hne => hx.grow hg fun q hq e => by
    rcases hr q e with rfl | ⟨_, o, ho, hc⟩
    · exact hne hq
    · obtain ⟨o', ho', hc'⟩ := hx.cellsB hq
      rw [ho] at ho'
      cases ho'
      rw [hc] at hc'
      cases hc'
  exact ⟨vh, vs, vo, vr, rfl, key h1 n1, key h2 n2, key h3 n3, key h4 n4⟩
theorem BkOwn.grown {A B : World} {b0 : Nat} {v : Value} {b : Bk} (h : BkOwn A b0 v b) {e : TypeId} {u : Value} {k c0 : Nat} {l : List (List Int)} (hu : RowOwn A c0 e u k l) (he : e ≠ 82 ∧ e ≠ 84 ∧ e ≠ 86 ∧ e ≠ 88) (hs : A.heap.size ≤ B.heap.size) (hk : ∀ j, j < A.heap.size → u.ownBlock ≠ some j → B.heap[j]? = A.heap[j]?) : BkOwn B b0 v b := by
  obtain ⟨vh, vs, vo, vr, rfl, h1, h2, h3, h4⟩ := h
  have key : ∀ {e' : TypeId} {x : Value} {k' : Nat} {l' : List (List Int)}, RowOwn A b0 e' x k' l' → e ≠ e' → RowOwn B b0 e' x k' l' := fun {e' x k' l'} hx hne => by
    obtain ⟨⟨hl, ho⟩, h2⟩ := hx
    refine ⟨⟨hl, ?_⟩, h2⟩
    rcases ho with h | ⟨g, cap, cur, rfl, h1, h3, h4⟩
    · exact .inl h
    · exact .inr ⟨g, cap, cur, rfl, h1, (hk g (zL h3) (hu.neB h3 hne)).trans h3, h4⟩
  exact ⟨vh, vs, vo, vr, rfl, key h1 he.1, key h2 he.2.1, key h3 he.2.2.1, key h4 he.2.2.2⟩
theorem RowOwn.putT {g B : Nat} {e t : TypeId} {v : Value} {k : Nat} {l : List (List Int)} {fr : Nat × Nat} (hne : e ≠ t) : ∀ {us : List Value} {o : Nat} {w : World} {cs : Array Value}, RowOwn w B e v k l → w.heap[g]? = some (.cells cs t fr) → RowOwn (putC w g o us) B e v k l
  | [], _, _, _, h, _ => h
  | u :: us, o, w, cs, h, hg => by
    show RowOwn (putC (w.setCell ⟨g, o, none⟩ u) g (o + 1) us) B e v k l
    exact RowOwn.putT hne (h.setO hg hne o u) (set_blk hg o u)
theorem BkOwn.putT {g B : Nat} {t : TypeId} {v : Value} {b : Bk} {fr : Nat × Nat} (ht : t ≠ 82 ∧ t ≠ 84 ∧ t ≠ 86 ∧ t ≠ 88) {us : List Value} {o : Nat} {w : World} {cs : Array Value} (h : BkOwn w B v b) (hg : w.heap[g]? = some (.cells cs t fr)) : BkOwn (putC w g o us) B v b := by
  obtain ⟨vh, vs, vo, vr, rfl, h1, h2, h3, h4⟩ := h
  exact ⟨vh, vs, vo, vr, rfl, h1.putT ht.1.symm hg, h2.putT ht.2.1.symm hg, h3.putT ht.2.2.1.symm hg, h4.putT ht.2.2.2.symm hg⟩
theorem keeps_putC {g : Nat} : ∀ (us : List Value) (o : Nat) (w : World), KeepsOthers w (putC w g o us)
  | [], _, w => KeepsOthers.refl w
  | u :: us, o, w => (KeepsOthers.setCell w _ u).trans (keeps_putC (g := g) us (o + 1) _)
theorem KpF.putC {n0 Bs M g : Nat} {W : World} (hn : n0 ≤ g) (hM : g < M) (hB : g < Bs) (o : Nat) (us : List Value) : KpF n0 Bs M W (putC W g o us) :=
  ⟨putC_below hn (Below.refl _ _), fun k cs t fr hk hr => putC_oth (by omega) hk⟩
theorem keeps_below {A B : World} (hb : Below A.heap.size A B) : KeepsOthers A B := KeepsOthers.of_grownBy (grown_belowF hb none) (fun j o e => by cases e)
end Go.Proofs.YtjcdpmianmgiaaaGreatDoor
namespace Go.Proofs.YtjcdpmianmgiaaaGreatDoor
open Go Go.RowKit Go.Shelf Mon
set_option linter.unusedVariables false
set_option linter.unusedSimpArgs false
attribute [local go_sem] Oper.semAt_some
def rightC (b : Bk) (n : Nat) (rate : Int) : Int :=
  if 65536 < n then 4 else if (b.mayB && (decide (0 ≤ rate) && decide (rate ≤ 1000))) = true then (if 1099511627776 < b.n + n then 11 else 0) else 1
set_option maxRecDepth 100000 in
set_option maxHeartbeats 4000000 in
theorem right_any (v : Value) (b : Bk) (n : Nat) (rate : Int) (w : World) (hb : Hid (BkAt w v b)) (hs : Hid b.Small) (hn : n ≤ 9223372036854775807) :
    Calls Tryz.prog 64 #[v, .int .i64 n, .int .i64 rate] w fun e w' => e = .returned (.int .i64 (rightC b n rate)) ∧ Below w.heap.size w w' := by
  obtain ⟨Ah, ch, As, cs, Ao, co, Ar, cr, rfl⟩ := hb.out.forms
  have HB : Hid (Below w.heap.size w (w.alloc (.cells #[.slice Ah b.h.length ch, .slice As b.s.length cs, .slice Ao b.o.length co, .slice Ar b.r.length cr, .int .i64 b.n] 27))) := below_alloc (Below.refl _ _) (Nat.le_refl _) _
  have k := heap_new w (.cells #[.slice Ah b.h.length ch, .slice As b.s.length cs, .slice Ao b.o.length co, .slice Ar b.r.length cr, .int .i64 b.n] 27)
  have K := zH k
  clear k
  by_cases h1 : 65536 < n
  · have t1 : decide ((65536 : Int) < (n : Int)) = true := decide_eq_true (by omega)
    have hr : rightC b n rate = 4 := if_pos h1
    rw [hr]
    go_enter Tryz.func64, Tryz.ntmps64
    go_wp2_with fail
    go_ret
    exact ⟨rfl, HB.out⟩
  have t1 : decide ((65536 : Int) < (n : Int)) = false := decide_eq_false (by omega)
  have q := zH (fun u wz h => BkMay_any u b wz h hs)
  obtain ⟨M, hM⟩ : ∃ M, b.mayB = M := ⟨_, rfl⟩
  rw [hM] at q
  cases M with
  | false =>
    have hr : rightC b n rate = 1 := by unfold rightC; rw [if_neg h1, hM, if_neg (by simp)]
    rw [hr]
    go_enter Tryz.func64, Tryz.ntmps64
    go_wp2_with fail
    with_reducible refine (q.out _ _ (zH (hb.out.call HB.out))).mono ?_
    rintro r w1 ⟨rfl, hb1⟩
    have HB1 := zB HB hb1
    clear hb1
    go_wp2_with fail
    go_ret
    exact ⟨rfl, HB1.out⟩
  | true =>
  have hf := (Bk.mayB_iff b).1 hM
  have hn0 := hf.n0
  have hn1 := hf.n1
  by_cases h2 : rate < 0
  · have t2 : decide (rate < 0) = true := decide_eq_true h2
    have hr : rightC b n rate = 1 := by unfold rightC; rw [if_neg h1, hM, decide_eq_false (show ¬ 0 ≤ rate by omega), if_neg (by simp)]
    rw [hr]
    clear hf hn0 hn1 h2
    go_enter Tryz.func64, Tryz.ntmps64
    go_wp2_with fail
    with_reducible refine (q.out _ _ (zH (hb.out.call HB.out))).mono ?_
    rintro r w1 ⟨rfl, hb1⟩
    have HB1 := zB HB hb1
    clear hb1
    go_wp2_with fail
    go_ret
    exact ⟨rfl, HB1.out⟩
  have t2 : decide (rate < 0) = false := decide_eq_false h2
  by_cases h3 : 1000 < rate
  · have t3 : decide (1000 < rate) = true := decide_eq_true h3
    have hr : rightC b n rate = 1 := by unfold rightC; rw [if_neg h1, hM, decide_eq_false (show ¬ rate ≤ 1000 by omega), if_neg (by simp)]
    rw [hr]
    clear hf hn0 hn1 h2 h3
    go_enter Tryz.func64, Tryz.ntmps64
    go_wp2_with fail
    with_reducible refine (q.out _ _ (zH (hb.out.call HB.out))).mono ?_
    rintro r w1 ⟨rfl, hb1⟩
    have HB1 := zB HB hb1
    clear hb1
    go_wp2_with fail
    go_ret
    exact ⟨rfl, HB1.out⟩
  have t3 : decide (1000 < rate) = false := decide_eq_false h3
  have hw : IntKind.i64.wrap (b.n + (n : Int)) = b.n + (n : Int) := by rw [IntKind.wrap_i64]; omega
  obtain ⟨D, hD⟩ : ∃ D, decide (1099511627776 < b.n + (n : Int)) = D := ⟨_, rfl⟩
  have hr : rightC b n rate = if D then 11 else 0 := by
    unfold rightC
    rw [if_neg h1, hM, decide_eq_true (show 0 ≤ rate by omega), decide_eq_true (show rate ≤ 1000 by omega), if_pos (by simp), ← hD]
    simp
  rw [hr]
  clear hf hn0 hn1 h1 h2 h3 hr
  go_enter Tryz.func64, Tryz.ntmps64
  go_wp2_with fail
  with_reducible refine (q.out _ _ (zH (hb.out.call HB.out))).mono ?_
  rintro r w1 ⟨rfl, hb1⟩
  have HB1 := zB HB hb1
  have K1 := zK K hb1
  clear hb1
  have c4 := cells_of_blk K1.out 4 _ rfl
  cases D <;> (go_wp2_with fail; go_ret; exact ⟨rfl, HB1.out⟩)
theorem ret_tct {P : Program} {fn : Func} {p s1 s2 : Tmp} {ty : TypeId} (h : fn.results = #[.tmp s1, .cell p ty, .tmp s2]) (tmps : Array Value) (w : World) (g : Nat) (t : TypeId) (cs : Array Value) (d : TypeDesc)
    (hp : tmps.getD p undef = .pointer (some ⟨g, 0, none⟩)) (hg : w.heap[g]? = some (.cells cs t (0, 0)))
    (hu : P.underlying ty = some d) (hd : (match d with | .struct _ | .array _ _ => true | _ => false) = true) (hi : (P.info? ty).map (·.size) = some cs.size)
    (x y : Value) (hx : tmps.getD s1 undef = x) (hy : tmps.getD s2 undef = y) : (results fn tmps).run P w = .ok (.tuple #[x, .agg cs, y]) w := by
  subst hx hy
  have hp' : tmps[p]?.getD undef = .pointer (some ⟨g, 0, none⟩) := by simpa using hp
  simp [results, h, hp', asAddr, run_loadVar_row w g t ty cs (0, 0) d hg hu hd hi]
theorem RowOwn.baseTo {w : World} {B B' : Nat} {e : TypeId} {v : Value} {k : Nat} {l : List (List Int)} (h : RowOwn w B e v k l) (hB : B' ≤ B) : RowOwn w B' e v k l := by
  obtain ⟨⟨hl, ho⟩, h2⟩ := h
  refine ⟨⟨hl, ?_⟩, h2⟩
  rcases ho with h | ⟨g, cap, cur, h1, h3, h4⟩
  · exact .inl h
  · exact .inr ⟨g, cap, cur, h1, Nat.le_trans hB h3, h4⟩
structure IRun (w0 : World) (no nl Bs : Nat) (vl : Value) (b : Bk) (rate : Int) (pre : List Ev) (M : Nat) (W : World) (vo : Value) (bv : Array Value) : Prop where
  below : Below w0.heap.size w0 W
  lbox : W.heap[w0.heap.size + 1]? = some (.cells #[vl] 51 (0, 0))
  res : W.heap[w0.heap.size + 1 + 1]? = some (.cells #[.slice none 0 0, .slice none 0 0, .slice none 0 0, .slice none 0 0, .int .i64 0] 27 (0, 0))
  out : W.heap[no]? = some (.cells #[vo] 52 (0, 0))
  last : W.heap[nl]? = some (.cells bv 27 (0, 0))
  row : RowOwn W (Bs + 3) 111 vo 9 (foldP b rate pre)
  rowM : ∀ q, vo.ownBlock = some q → q < M
  bk : BkOwn W w0.heap.size (.agg bv) (foldB b rate pre)
  bkB : NotIn Bs (.agg bv)
theorem IRun.grow {w0 A B : World} {no nl Bs N M : Nat} {vl vo : Value} {bv : Array Value} {b : Bk} {rate : Int} {pre : List Ev} {row : Option Nat} (h : IRun w0 no nl Bs vl b rate pre M A vo bv) (hg : A.grownBy B row) (hr : ∀ r, row = some r → r = Bs ∨ (N ≤ r ∧ ∃ o : Obj, A.heap[r]? = some o ∧ o.isCells = false))
    (h1 : w0.heap.size + 1 + 1 < Bs ∧ no < Bs ∧ nl < Bs ∧ Bs ≤ N) : IRun w0 no nl Bs vl b rate pre M B vo bv := by
  have fx : ∀ {k : Nat} {cs : Array Value} {t : TypeId} {fr : Nat × Nat}, A.heap[k]? = some (.cells cs t fr) → k < Bs → B.heap[k]? = some (.cells cs t fr) := fun {k cs t fr} hk hlt => (hg.block k (zL hk) fun e => by
    rcases hr k e.symm with h | ⟨h, _⟩ <;> omega).trans hk
  refine ⟨h.below.grown hg h.below.size (fun k e => ?_), fx h.lbox (by omega), fx h.res h1.1, fx h.out h1.2.1, fx h.last h1.2.2.1, h.row.grow hg fun q hq e => ?_, h.rowM, h.bk.grow h.bkB hg hr, h.bkB⟩
  · rcases hr k e with h | ⟨h, _⟩ <;> omega
  · rcases hr q e with h2 | ⟨h2, o, ho, hc⟩
    · have := (h.row.block hq).1
      omega
    · obtain ⟨o', ho', hc'⟩ := h.row.cellsB hq
      rw [ho] at ho'
      cases ho'
      rw [hc] at hc'
      cases hc'
theorem IRun.call {w0 A B : World} {no nl Bs M : Nat} {vl vo : Value} {bv : Array Value} {b : Bk} {rate : Int} {pre : List Ev} (h : IRun w0 no nl Bs vl b rate pre M A vo bv) (hb : Below A.heap.size A B) (h1 : w0.heap.size + 1 + 1 < Bs ∧ no < Bs ∧ nl < Bs) : IRun w0 no nl Bs vl b rate pre M B vo bv :=
  h.grow (N := Bs) (grown_belowF hb none) (fun r e => by cases e) ⟨h1.1, h1.2.1, h1.2.2, Nat.le_refl _⟩
set_option maxRecDepth 100000 in
set_option maxHeartbeats 16000000 in
theorem FoldRun_ok (Ah As Ao Ar AL : Option Addr) (ch cs co cr cL : Nat) (b : Bk) (L : List Ev) (rate : Int) (w : World) (hT : Hid (Law16 w)) (B0 : Hid (BkAt w (.agg #[.slice Ah b.h.length ch, .slice As b.s.length cs, .slice Ao b.o.length co, .slice Ar b.r.length cr, .int .i64 b.n]) b)) (HL : Hid (EvsAt w (.slice AL L.length cL) L)) (hgd : Hid b.Good) (hE : Hid (∀ e ∈ L, e.I64s)) (hr0 : Hid (0 ≤ rate ∧ rate ≤ 1000))
    (hcount : Hid (b.n + L.length ≤ 1099511627776)) (hst : Hid (b.s.length + L.length ≤ 900000)) (hln : L.length ≤ 60000) :
    Calls Tryz.prog 25 #[.agg #[.slice Ah b.h.length ch, .slice As b.s.length cs, .slice Ao b.o.length co, .slice Ar b.r.length cr, .int .i64 b.n], .slice AL L.length cL, .int .i64 rate] w fun r w' => ∃ vp vb, r = .returned (.tuple #[vp, vb, .int .i64 0]) ∧ RowOwn w' w.heap.size 111 vp 9 (foldP b rate L) ∧ BkOwn w' w.heap.size vb (foldB b rate L) ∧ Below w.heap.size w w' := by
  have hsm : Hid b.Small := hgd.out.small (by have := hst.out; omega)
  have q1 : Hid (∀ (v : Value) (wz : World), Hid (BkAt wz v b) → Calls Tryz.prog 64 #[v, .int .i64 L.length, .int .i64 rate] wz fun e w' => e = .returned (.int .i64 0) ∧ Below wz.heap.size wz w') := (show _ from fun v wz hv => by
    have h := right_any v b L.length rate wz hv hsm (by omega)
    rw [show rightC b L.length rate = 0 from by unfold rightC; rw [if_neg (by omega), hgd.out.may, decide_eq_true hr0.out.1, decide_eq_true hr0.out.2, if_pos (by rfl), if_neg (by have := hcount.out; omega)]] at h
    exact h)
  refine (callsIn_wide (n := 3)).1 ?_
  have h1 : 1 ≤ 3 := by omega
  have hro : Fence.wide.round = none := rfl
  obtain ⟨wb, hwb⟩ : ∃ wb : World, ((w.alloc (.cells #[.slice Ah b.h.length ch, .slice As b.s.length cs, .slice Ao b.o.length co, .slice Ar b.r.length cr, .int .i64 b.n] 27)).alloc (.cells #[.slice AL L.length cL] 51)).alloc (.cells #[.slice none 0 0, .slice none 0 0, .slice none 0 0, .slice none 0 0, .int .i64 0] 27) = wb := ⟨_, rfl⟩
  have HB : Hid (Below w.heap.size w wb) := by rw [← hwb]; exact below_alloc (below_alloc (below_alloc (Below.refl _ _) (Nat.le_refl _) _) (by simp) _) (by simp; omega) _
  have K0 : Hid (wb.heap[w.heap.size]? = some (.cells #[.slice Ah b.h.length ch, .slice As b.s.length cs, .slice Ao b.o.length co, .slice Ar b.r.length cr, .int .i64 b.n] 27 (0, 0))) := by rw [← hwb]; exact blk_old (blk_old (heap_new _ _) _) _
  have K1 : Hid (wb.heap[w.heap.size + 1]? = some (.cells #[.slice AL L.length cL] 51 (0, 0))) := by rw [← hwb]; exact blk_old (blk_new _ _ _ (by simp)) _
  have K2 : Hid (wb.heap[w.heap.size + 1 + 1]? = some (.cells #[.slice none 0 0, .slice none 0 0, .slice none 0 0, .slice none 0 0, .int .i64 0] 27 (0, 0))) := by rw [← hwb]; exact blk_new _ _ _ (by simp)
  replace hwb := zH hwb
  have b0 := zC K0.out
  have l0 := cells_of_blk K1.out 0 _ rfl
  rw [← hwb.out] at b0 l0
  refine callsIn_of_wp_marks Tryz.func25 rfl trivial ?_ hro
  simp only [Tryz.ntmps25, List.size_toArray, List.length_cons, List.length_nil, Nat.reduceAdd, Nat.reduceSub, Array.replicate_succ, Array.replicate_zero, List.push_toArray, List.append_toArray, List.nil_append, List.cons_append]
  gi_wp2_with (fail)
  rw [hwb.out]
  refine ⟨trivial, callsIn_wide.2 ((q1.out _ _ (zH (B0.out.call HB.out))).mono ?_)⟩
  rintro r w1 ⟨rfl, hb⟩
  clear b0 l0 hwb q1
  replace K0 := zK K0 hb
  replace K1 := zK K1 hb
  replace K2 := zK K2 hb
  replace HB := zB HB hb
  clear hb
  have b0 := zC K0.out
  have lt0 := zL K0.out
  gi_wp2_with (fail)
  clear b0 lt0
  obtain ⟨wo, hwo⟩ : ∃ wo : World, w1.alloc (.cells #[.slice none 0 0] 52) = wo := ⟨_, rfl⟩
  rw [hwo]
  have hbo : Below w1.heap.size w1 wo := by rw [← hwo]; exact below_alloc (Below.refl _ _) (Nat.le_refl _) _
  have KO : Hid (wo.heap[w1.heap.size]? = some (.cells #[.slice none 0 0] 52 (0, 0))) := by rw [← hwo]; exact heap_new _ _
  have NO : Hid (w.heap.size + 1 + 1 < w1.heap.size) := zL K2.out
  replace K0 := zK K0 hbo
  replace K1 := zK K1 hbo
  replace K2 := zK K2 hbo
  replace HB := zB HB hbo
  have NW := zH HB.out.size
  clear hbo hwo
  refine ⟨trivial, callsIn_wide.2 ((Copy_any _ b _ (zH (B0.out.call HB.out)) hsm).mono ?_)⟩
  rintro r w2 ⟨v6, rfl, hOw, hb⟩
  obtain ⟨C1, d1, C2, d2, C3, d3, C4, d4, hv6⟩ := hOw.at.forms
  subst hv6
  have HO := zH hOw
  replace KO := zK KO hb
  replace K0 := zK K0 hb
  replace K1 := zK K1 hb
  replace K2 := zK K2 hb
  replace HB := zB HB hb
  clear hb hOw
  have b0 := zC K0.out
  have l0 := cells_of_blk K1.out 0 _ rfl
  have lt0 := zL K0.out
  have lt1 := zL K1.out
  gi_wp2_with (fail)
  clear b0 l0 lt0 lt1
  obtain ⟨wl, hwl⟩ : ∃ wl : World, w2.alloc (.cells #[.slice C1 b.h.length d1, .slice C2 b.s.length d2, .slice C3 b.o.length d3, .slice C4 b.r.length d4, .int .i64 b.n] 27) = wl := ⟨_, rfl⟩
  rw [hwl]
  have hbl : Below w2.heap.size w2 wl := by rw [← hwl]; exact below_alloc (Below.refl _ _) (Nat.le_refl _) _
  have KL : Hid (wl.heap[w2.heap.size]? = some (.cells #[.slice C1 b.h.length d1, .slice C2 b.s.length d2, .slice C3 b.o.length d3, .slice C4 b.r.length d4, .int .i64 b.n] 27 (0, 0))) := by rw [← hwl]; exact heap_new _ _
  have NL : Hid (w1.heap.size < w2.heap.size) := zL KO.out
  have NI := zH (fun Bs (h : w2.heap.size ≤ Bs) => HO.out.notIn (.inr h))
  replace KO := zK KO hbl
  replace K1 := zK K1 hbl
  replace K2 := zK K2 hbl
  replace HO := zH (HO.out.kept hbl)
  replace HB := zB HB hbl
  clear hbl hwl K0
  have NB : Hid (w2.heap.size < wl.heap.size) := zL KL.out
  refine ⟨trivial, callsIn_wide.2 ((states_any Ah As Ao Ar AL ch cs co cr L.length cL b rate wl).mono ?_)⟩
  rintro r w3 ⟨rfl, hw3⟩
  have hb3 : Below wl.heap.size wl w3 := by rw [hw3]; exact below_alloc (below_alloc (below_alloc (Below.refl _ _) (Nat.le_refl _) _) (by simp) _) (by simp; omega) _
  have S0 : Hid (w3.heap[wl.heap.size]? = some (.cells #[.slice Ah b.h.length ch, .slice As b.s.length cs, .slice Ao b.o.length co, .slice Ar b.r.length cr, .int .i64 b.n] 27 (0, 0))) := by rw [hw3]; exact blk_old (blk_old (heap_new _ _) _) _
  have S1 : Hid (w3.heap[wl.heap.size + 1]? = some (.cells #[.slice AL L.length cL] 51 (0, 0))) := by rw [hw3]; exact blk_old (blk_new _ _ _ (by simp)) _
  have S2 : Hid (w3.heap[wl.heap.size + 2]? = some (.cells #[.int .i64 rate] 3 (0, 0))) := by rw [hw3]; exact blk_new _ _ _ (by simp)
  replace KO := zK KO hb3
  replace KL := zK KL hb3
  replace K1 := zK K1 hb3
  replace K2 := zK K2 hb3
  replace HO := zH (HO.out.kept hb3)
  replace HB := zB HB hb3
  have N3 : Hid (wl.heap.size + 2 < w3.heap.size) := zL S2.out
  clear hw3 hb3
  gi_wp2_with (fail)
  have hsz : w.heap.size + 1 + 1 < wl.heap.size ∧ w1.heap.size < wl.heap.size ∧ w2.heap.size < wl.heap.size ∧ wl.heap.size + 2 < w3.heap.size ∧ w.heap.size + 1 + 1 < w1.heap.size ∧ w1.heap.size < w2.heap.size := by have h1 := NO.out; have h2 := NL.out; have h3 := NB.out; have h4 := N3.out; omega
  have SZ := zH hsz
  refine rangeFunc_br hro h1 (gf := 122) (lb := #[.pointer (some ⟨wl.heap.size + 1, 0, none⟩), .pointer (some ⟨wl.heap.size, 0, none⟩), .pointer (some ⟨wl.heap.size + 2, 0, none⟩)]) rfl trivial (enters_of Tryz.func122 (by kernel_rfl) rfl)
    (EnF b rate) (KpF w.heap.size wl.heap.size) L wl.heap.size
    (fun pre x args M W h => by obtain ⟨_, _, _, _, _, _, _, _, rfl, _⟩ := h; rfl) (fun h k => h.trans k) (fun M W l o o' hl ho hc => KpF.put o' (by omega) ho hc)
    (states1_in b L rate w w3 wl.heap.size Ah As Ao Ar AL ch cs co cr cL hT B0 HL hgd hE hr0 hcount hst (by omega) HB (zH (by show _ ≤ _; omega)) S0 S1 S2) (by omega)
    (fun pre M W => ∃ vo bv, Hid (IRun w w1.heap.size w2.heap.size wl.heap.size (.slice AL L.length cL) b rate pre M W vo bv)) (fun _ _ _ => False)
    (fun M pre A B row ⟨vo, bv, h⟩ hg hr => ⟨vo, bv, h.out.grow hg hr (by omega)⟩)
    (fun pre M W ⟨vo, bv, h⟩ => ⟨vo, bv, { h.out with rowM := fun q hq => (h.out.row.block hq).2 }⟩)
    (fun c pre A B row h _ _ => h)
    ⟨_, _, zH ⟨HB.out, K1.out, K2.out, KO.out, KL.out, ⟨World.ownsRow_nil _ _ _ _, (show ∀ r ∈ ([] : List (List Int)), r.length = 9 from fun r hr => by simp at hr)⟩, (fun q hq => by cases hq), HO.out.mono NW.out, NI.out _ (by omega)⟩⟩
    (fun pre x M a' W => ∃ (g : Nat) (Y1 : Option Addr) (e1 : Nat) (Y2 : Option Addr) (e2 : Nat) (Y3 : Option Addr) (e3 : Nat) (Y4 : Option Addr) (e4 : Nat), a' = { tmps := #[.agg #[.slice Ah b.h.length ch, .slice As b.s.length cs, .slice Ao b.o.length co, .slice Ar b.r.length cr, .int .i64 b.n], .slice AL L.length cL, .int .i64 rate, .pointer (some ⟨w.heap.size, 0, none⟩), .pointer (some ⟨w.heap.size + 1, 0, none⟩), undef, .slice none 0 0, .pointer (some ⟨w.heap.size + 1 + 1, 0, none⟩), .int .i64 0, .int .i64 0, .pointer (some ⟨w1.heap.size, 0, none⟩), .pointer (some ⟨w2.heap.size, 0, none⟩), .int .i64 (pre.length : Nat), .pointer (some ⟨g, 0, none⟩), .agg #[.slice Ah b.h.length ch, .slice As b.s.length cs, .slice Ao b.o.length co, .slice Ar b.r.length cr, .int .i64 b.n], .slice AL L.length cL, .int .i64 L.length, .int .i64 rate, .int .i64 0, .int .i64 0, .bool false, undef, undef, .agg #[.slice Ah b.h.length ch, .slice As b.s.length cs, .slice Ao b.o.length co, .slice Ar b.r.length cr, .int .i64 b.n], .agg #[.slice C1 b.h.length d1, .slice C2 b.s.length d2, .slice C3 b.o.length d3, .slice C4 b.r.length d4, .int .i64 b.n], .agg #[.slice Ah b.h.length ch, .slice As b.s.length cs, .slice Ao b.o.length co, .slice Ar b.r.length cr, .int .i64 b.n], .slice AL L.length cL, .int .i64 rate, .func (.func 122) #[] #[.pointer (some ⟨wl.heap.size + 1, 0, none⟩), .pointer (some ⟨wl.heap.size, 0, none⟩), .pointer (some ⟨wl.heap.size + 2, 0, none⟩)], .int .i64 (pre.length : Nat), .agg #[.int .i64 (gateV (foldB b rate pre) x rate).1, .int .i64 (gateV (foldB b rate pre) x rate).2, .slice Y1 (foldB b rate (pre ++ [x])).h.length e1, .slice Y2 (foldB b rate (pre ++ [x])).s.length e2, .slice Y3 (foldB b rate (pre ++ [x])).o.length e3, .slice Y4 (foldB b rate (pre ++ [x])).r.length e4, .int .i64 (foldB b rate (pre ++ [x])).n], undef, undef, undef, undef, undef, undef, undef, undef, undef, undef, undef, undef, undef, undef], defers := [] } ∧ M ≤ g ∧ Hid (W.heap[g]? = some (.cells #[.int .i64 (gateV (foldB b rate pre) x rate).1, .int .i64 (gateV (foldB b rate pre) x rate).2, .slice Y1 (foldB b rate (pre ++ [x])).h.length e1, .slice Y2 (foldB b rate (pre ++ [x])).s.length e2, .slice Y3 (foldB b rate (pre ++ [x])).o.length e3, .slice Y4 (foldB b rate (pre ++ [x])).r.length e4, .int .i64 (foldB b rate (pre ++ [x])).n] 117 (0, 0))) ∧ Hid (BkOwn W M (.agg #[.slice Y1 (foldB b rate (pre ++ [x])).h.length e1, .slice Y2 (foldB b rate (pre ++ [x])).s.length e2, .slice Y3 (foldB b rate (pre ++ [x])).o.length e3, .slice Y4 (foldB b rate (pre ++ [x])).r.length e4, .int .i64 (foldB b rate (pre ++ [x])).n]) (foldB b rate (pre ++ [x]))))
    ?hAx ?assign ?body ?done ?stop
  case hAx =>
    rintro pre x M a' W l o o' ⟨g, Y1, e1, Y2, e2, Y3, e3, Y4, e4, rfl, hg, hk, hO⟩ hl ho hc
    have fx : ∀ {k : Nat} {cs : Array Value} {t : TypeId} {fr : Nat × Nat}, W.heap[k]? = some (.cells cs t fr) → (W.putObj l o').heap[k]? = some (.cells cs t fr) := fun {k cs t fr} hk => by
      rw [World.putObj_heap_other (fun e => ?_)]
      · exact hk
      · subst e
        rw [ho] at hk
        cases hk
        cases hc
    exact ⟨g, Y1, e1, Y2, e2, Y3, e3, Y4, e4, rfl, hg, zH (fx hk.out), zH (hO.out.still (by simp) fun q cs t fr hq _ => fx hq)⟩
  case assign =>
    rintro l pre x args M W K hwM hMW ⟨vo, bv, hI⟩ ⟨Y1, e1, Y2, e2, Y3, e3, Y4, e4, rfl, hO⟩ hpre hK
    have hbW : Below W.heap.size W (W.alloc (.cells #[.int .i64 (gateV (foldB b rate pre) x rate).1, .int .i64 (gateV (foldB b rate pre) x rate).2, .slice Y1 (foldB b rate (pre ++ [x])).h.length e1, .slice Y2 (foldB b rate (pre ++ [x])).s.length e2, .slice Y3 (foldB b rate (pre ++ [x])).o.length e3, .slice Y4 (foldB b rate (pre ++ [x])).r.length e4, .int .i64 (foldB b rate (pre ++ [x])).n] 117)) := below_alloc (Below.refl _ _) (Nat.le_refl _) _
    have hK2 := zH (hK _ (W.alloc (.cells #[.int .i64 (gateV (foldB b rate pre) x rate).1, .int .i64 (gateV (foldB b rate pre) x rate).2, .slice Y1 (foldB b rate (pre ++ [x])).h.length e1, .slice Y2 (foldB b rate (pre ++ [x])).s.length e2, .slice Y3 (foldB b rate (pre ++ [x])).o.length e3, .slice Y4 (foldB b rate (pre ++ [x])).r.length e4, .int .i64 (foldB b rate (pre ++ [x])).n] 117)) ((KeepsOthers.alloc _ _).from _) (KpF.of hbW (by omega)) ⟨vo, bv, hI.out.call hbW (by omega)⟩ ⟨W.heap.size, Y1, e1, Y2, e2, Y3, e3, Y4, e4, rfl, hMW, zH (heap_new _ _), zH (hO.kept hbW)⟩)
    clear hK hbW hO hI
    gi_wp2
    exact hK2.out
  case body =>
    rintro l pre x M a' W hwM hMW ⟨vo, bv, hI⟩ ⟨g, Y1, e1, Y2, e2, Y3, e3, Y4, e4, rfl, hMg, hS, hO⟩ hpre
    have hlt : pre.length < L.length := by
      obtain ⟨t, ht⟩ := hpre
      rw [← ht]
      simp
    have hxi : L[pre.length]? = some x := by
      obtain ⟨t, ht⟩ := hpre
      rw [← ht]
      simp
    have HX := zH hxi
    have HEv := zH (HL.out.call hI.out.below)
    have hlenP := zH (foldP_length rate pre b)
    have hsnP := zH (foldP_snoc b rate pre x)
    obtain ⟨nb, hnb⟩ : ∃ nb, foldB b rate (pre ++ [x]) = nb := ⟨_, rfl⟩
    obtain ⟨X1, hX1⟩ : ∃ X1, (gateV (foldB b rate pre) x rate).1 = X1 := ⟨_, rfl⟩
    obtain ⟨X2, hX2⟩ : ∃ X2, (gateV (foldB b rate pre) x rate).2 = X2 := ⟨_, rfl⟩
    have hpc : Hid (pairC x (gateV (foldB b rate pre) x rate) = [x.kind, x.acc, x.ord, x.sym, x.side, x.qty, x.px, X1, X2]) := (show _ = _ by rw [← hX1, ← hX2]; rfl)
    rw [hnb, hX1, hX2] at hS
    rw [hnb] at hO
    simp only [hnb, hX1, hX2]
    have HNB := zH hnb
    clear hpre hxi hnb hX1 hX2
    obtain ⟨bb, oo, rfl, _⟩ := HEv.out.get HX.out
    have hPL : pre.length ≤ 60000 := by omega
    gi_wp2_with (fail)
    obtain ⟨Z1, z1, Z2, z2, Z3, z3, Z4, z4, hbv⟩ := hI.out.bk.at.forms
    injection hbv with hbv
    subst hbv
    refine wpIn_region_D [10] (C := fun wz : World => Hid (wz.heap[w1.heap.size]? = some (.cells #[vo] 52 (0, 0))) ∧ Hid (wz.heap[w.heap.size + 1]? = some (.cells #[.slice (some ⟨bb, oo, none⟩) L.length cL] 51 (0, 0))) ∧ Hid (EvsAt wz (.slice (some ⟨bb, oo, none⟩) L.length cL) L) ∧ Hid (wz.heap[g]? = some (.cells #[.int .i64 X1, .int .i64 X2, .slice Y1 nb.h.length e1, .slice Y2 nb.s.length e2, .slice Y3 nb.o.length e3, .slice Y4 nb.r.length e4, .int .i64 nb.n] 117 (0, 0)))) 11 #[false, false, false, false, false, false, false, false, false, false, false] (by kernel_rfl) (by kernel_rfl) (by kernel_rfl) (by kernel_rfl) ?_
    obtain ⟨wd, hwd⟩ : ∃ wd : World, { W with drawn := W.drawn + 1 } = wd := ⟨_, rfl⟩
    rw [hwd]
    have hb : Below W.heap.size W wd := by rw [← hwd]; exact (Below.refl _ _).drew
    replace hI := zH (hI.out.call hb (by have := SZ.out; omega))
    replace HEv := zH (HEv.out.call hb)
    replace hS := zK hS hb
    replace hO := zH (hO.out.kept hb)
    have hMd := Nat.le_trans hMW hb.size
    have HF : Hid (KpF w.heap.size wl.heap.size M W wd) := KpF.of hb (by have := SZ.out; omega)
    have HK : Hid (KeepsOthers W wd) := keeps_below hb
    clear hwd hb
    refine pure_moreD [0, 1, 2, 3, 4, 5, 6, 7] 3 (L' := #[true, true, true, true, true, true, true, true, false, false, false]) (by kernel_rfl) (by kernel_rfl) ⟨zH hI.out.out, zH hI.out.lbox, HEv, hS⟩ ?_
    simp only [opsAt, List.getElem?_toArray, List.getElem?_cons_zero, List.getElem?_cons_succ]
    refine pure_atG vo rfl (fun wz hC => by have c0 := cells_of_blk hC.1.out 0 _ rfl; unfold execOp; go_simp) ?_
    refine pure_atG (.slice (some ⟨bb, oo, none⟩) L.length cL) rfl (fun wz hC => by have c0 := cells_of_blk hC.2.1.out 0 _ rfl; unfold execOp; go_simp) ?_
    refine pure_moveG rfl rfl ?_
    refine pure_atG (.pointer (some ⟨bb, oo + pre.length * 7, none⟩)) rfl (fun wz _ => by unfold execOp; go_simp) ?_
    refine pure_atG (.agg #[.int .i64 x.kind, .int .i64 x.acc, .int .i64 x.ord, .int .i64 x.sym, .int .i64 x.side, .int .i64 x.qty, .int .i64 x.px]) rfl (fun wz hC => by obtain ⟨_, y0, y1, y2, y3, y4, y5, y6⟩ := hC.2.2.1.out.got HX.out; unfold execOp; go_simp) ?_
    refine pure_atG (.pointer (some ⟨g, 0, none⟩)) rfl (fun wz _ => by unfold execOp; go_simp) ?_
    refine pure_atG (.agg #[.int .i64 X1, .int .i64 X2]) rfl (fun wz hC => by have c0 := cells_of_blk hC.2.2.2.out 0 _ rfl; have c1 := cells_of_blk hC.2.2.2.out 1 _ rfl; unfold execOp; go_simp) ?_
    refine pure_atG (.agg #[.int .i64 x.kind, .int .i64 x.acc, .int .i64 x.ord, .int .i64 x.sym, .int .i64 x.side, .int .i64 x.qty, .int .i64 x.px, .int .i64 X1, .int .i64 X2]) rfl (fun wz _ => by unfold execOp; go_simp) ?_
    unfold wpPure
    go_simp
    refine wpAnyD_one 8 (f := 2) (L' := #[true, true, true, true, true, true, true, true, true, false, false]) (by kernel_rfl) (by kernel_rfl) rfl rfl ?_
    go_wp2_with fail
    rw [StepQ_normal]
    refine ⟨fun _ => ⟨zH (blk_old hI.out.out _), zH (blk_old hI.out.lbox _), zH (HEv.out.call (below_alloc (Below.refl _ _) (Nat.le_refl _) _)), zH (blk_old hS.out _)⟩, ?_⟩
    refine wpAnyD_one 9 (f := 1) (L' := #[true, true, true, true, true, true, true, true, true, true, false]) (by kernel_rfl) (by kernel_rfl) rfl rfl ?_
    have hBle : wl.heap.size + 3 ≤ wd.heap.size := by have := SZ.out; omega
    refine wpList_append_recF (wr := wd) _ _ 52 111 (.agg #[.int .i64 0, .int .i64 0, .int .i64 0, .int .i64 0, .int .i64 0, .int .i64 0, .int .i64 0, .int .i64 0, .int .i64 0]) 9 72 el_Pair [x.kind, x.acc, x.ord, x.sym, x.side, x.qty, x.px, X1, X2] vo (foldP b rate pre) (zH hI.out.row) hBle rfl rfl rfl rfl rfl (by rw [hlenP.out]; omega) (by decide) ?_
    intro v' w9 hown' hg'
    obtain ⟨ko, kb, kk⟩ := grow_keeps hI.out.row hBle hg'.out
    have fx : ∀ {k : Nat} {cs : Array Value} {t : TypeId} {fr : Nat × Nat}, wd.heap[k]? = some (.cells cs t fr) → 111 ≠ t → w9.heap[k]? = some (.cells cs t fr) := fun {k cs t fr} hk hne => (kk k (zL hk) (hI.out.row.neB hk hne)).trans hk
    have k9o := zH (fx hI.out.out (by decide))
    have k9l := zH (fx hI.out.lbox (by decide))
    have k9r := zH (fx hI.out.res (by decide))
    have k9t := zH (fx hI.out.last (by decide))
    have k9s := zH (fx hS.out (by decide))
    have b9 : Hid (BkOwn w9 w.heap.size (.agg #[.slice Z1 (foldB b rate pre).h.length z1, .slice Z2 (foldB b rate pre).s.length z2, .slice Z3 (foldB b rate pre).o.length z3, .slice Z4 (foldB b rate pre).r.length z4, .int .i64 (foldB b rate pre).n]) (foldB b rate pre)) := hI.out.bk.grown hI.out.row (by decide) kb.size kk
    have o9 : Hid (BkOwn w9 M (.agg #[.slice Y1 nb.h.length e1, .slice Y2 nb.s.length e2, .slice Y3 nb.o.length e3, .slice Y4 nb.r.length e4, .int .i64 nb.n]) nb) := hO.out.grown hI.out.row (by decide) kb.size kk
    have w9b : Hid (Below w.heap.size w w9) := hI.out.below.trans (kb.mono (by have := SZ.out; omega))
    have e9 := zH (HL.out.call w9b.out)
    have s9 : M ≤ w9.heap.size := Nat.le_trans hMd kb.size
    have F9 : Hid (KpF w.heap.size wl.heap.size M W w9) := HF.out.trans ⟨kb.mono (by have := SZ.out; omega), fun k cs t fr hk hr => (kk k (zL hk) fun e => by
      have h1 := hI.out.rowM k e
      have h2 := (hI.out.row.block e).1
      omega).trans hk⟩
    have K9 : Hid (KeepsOthers W w9) := HK.out.trans ko
    have bkB := zH hI.out.bkB
    obtain ⟨A', c', hv'⟩ := hown'.out.form
    obtain ⟨nL, hnL⟩ : ∃ nL, (foldP b rate pre ++ [[x.kind, x.acc, x.ord, x.sym, x.side, x.qty, x.px, X1, X2]]).length = nL := ⟨_, rfl⟩
    rw [hnL] at hv'
    subst hv'
    clear hnL
    clear hI HEv hS hO HF HK hg' ko kb kk fx hBle hMd
    go_wp2_with fail
    rw [StepQ_normal]
    refine ⟨fun _ => ⟨k9o, k9l, e9, k9s⟩, ?_⟩
    refine wpAnyD_one 10 (f := 0) (L' := #[true, true, true, true, true, true, true, true, true, true, true]) (by kernel_rfl) (by kernel_rfl) rfl rfl ?_
    have c0 := cells_of_blk k9o.out 0 _ rfl
    have f0 := free_of_blk k9o.out 0
    go_wp2_with fail
    obtain ⟨ws, hws⟩ : ∃ ws : World, w9.setCell ⟨w1.heap.size, 0, none⟩ (.slice A' nL c') = ws := ⟨_, rfl⟩
    rw [hws]
    have E1 : putC w9 w1.heap.size 0 [.slice A' nL c'] = ws := hws
    clear hws c0 f0
    have hz := SZ.out
    have p0 := putC_blk (o := 0) (vs := [.slice A' nL c']) k9o.out
    have pl := putC_oth (g := w1.heap.size) (by omega) (o := 0) (vs := [.slice A' nL c']) k9l.out
    have pr := putC_oth (g := w1.heap.size) (by omega) (o := 0) (vs := [.slice A' nL c']) k9r.out
    have pt := putC_oth (g := w1.heap.size) (by omega) (o := 0) (vs := [.slice A' nL c']) k9t.out
    have ps := putC_oth (g := w1.heap.size) (by omega) (o := 0) (vs := [.slice A' nL c']) k9s.out
    have pb := BkOwn.putT (g := w1.heap.size) (by decide) (o := 0) (us := [.slice A' nL c']) o9.out k9o.out
    have pw := RowOwn.putT (g := w1.heap.size) (t := 52) (by decide) (o := 0) (us := [.slice A' nL c']) hown'.out k9o.out
    have pq := putC_below (g := w1.heap.size) (by omega) (o := 0) (vs := [.slice A' nL c']) w9b.out
    have pf := F9.out.trans (KpF.putC (g := w1.heap.size) (M := M) (n0 := w.heap.size) (Bs := wl.heap.size) (by omega) (by omega) (by omega) 0 [.slice A' nL c'])
    have pk := K9.out.trans (keeps_putC (g := w1.heap.size) [.slice A' nL c'] 0 w9)
    have pz := putC_size (g := w1.heap.size) [.slice A' nL c'] 0 w9
    rw [E1] at p0 pl pr pt ps pb pw pq pf pk pz
    have P0 : Hid (ws.heap[w1.heap.size]? = some (.cells #[.slice A' nL c'] 52 (0, 0))) := p0
    have PL := zH pl; have PR := zH pr; have PT := zH pt; have PS := zH ps; have PB := zH pb; have PW := zH pw; have PQ := zH pq; have PF := zH pf; have PK := zH pk
    have PZ : Hid (M ≤ ws.heap.size) := by show _ ≤ _; omega
    clear p0 pl pr pt ps pb pw pq pf pk pz E1 k9o k9l k9r k9t k9s o9 hown' w9b F9 K9 e9 b9 s9 hz
    rw [StepQ_normal]
    refine ⟨fun h => absurd h (by decide), ?_⟩
    refine ⟨by kernel_rfl, ?_⟩
    rw [OnlyX_normal]
    have s0 := zC PS.out
    have l0 := zC PT.out
    have f0 := zF PT.out
    have ne1 := blk_ne PS.out PT.out (by decide)
    have ne2 := ne1.symm
    have hN : Hid (∀ we : World, putC ws w2.heap.size 0 [(.slice Y1 nb.h.length e1 : Value), .slice Y2 nb.s.length e2, .slice Y3 nb.o.length e3, .slice Y4 nb.r.length e4, .int .i64 nb.n] = we → KeepsFrom w3.heap.size W we ∧ KpF w.heap.size wl.heap.size M W we ∧ ∃ vo bv, Hid (IRun w w1.heap.size w2.heap.size wl.heap.size (.slice (some ⟨bb, oo, none⟩) L.length cL) b rate (pre ++ [x]) we.heap.size we vo bv)) := by
      intro we hwe
      have hz := SZ.out
      have hPZ := PZ.out
      have q0 := putC_oth (g := w2.heap.size) (by omega) (o := 0) (vs := [(.slice Y1 nb.h.length e1 : Value), .slice Y2 nb.s.length e2, .slice Y3 nb.o.length e3, .slice Y4 nb.r.length e4, .int .i64 nb.n]) P0.out
      have ql := putC_oth (g := w2.heap.size) (by omega) (o := 0) (vs := [(.slice Y1 nb.h.length e1 : Value), .slice Y2 nb.s.length e2, .slice Y3 nb.o.length e3, .slice Y4 nb.r.length e4, .int .i64 nb.n]) PL.out
      have qr := putC_oth (g := w2.heap.size) (by omega) (o := 0) (vs := [(.slice Y1 nb.h.length e1 : Value), .slice Y2 nb.s.length e2, .slice Y3 nb.o.length e3, .slice Y4 nb.r.length e4, .int .i64 nb.n]) PR.out
      have qt : (putC ws w2.heap.size 0 [(.slice Y1 nb.h.length e1 : Value), .slice Y2 nb.s.length e2, .slice Y3 nb.o.length e3, .slice Y4 nb.r.length e4, .int .i64 nb.n]).heap[w2.heap.size]? = some (.cells #[.slice Y1 nb.h.length e1, .slice Y2 nb.s.length e2, .slice Y3 nb.o.length e3, .slice Y4 nb.r.length e4, .int .i64 nb.n] 27 (0, 0)) := putC_blk PT.out
      have qb := BkOwn.putT (g := w2.heap.size) (t := 27) (by decide) (o := 0) (us := [(.slice Y1 nb.h.length e1 : Value), .slice Y2 nb.s.length e2, .slice Y3 nb.o.length e3, .slice Y4 nb.r.length e4, .int .i64 nb.n]) PB.out PT.out
      have qw := RowOwn.putT (g := w2.heap.size) (t := 27) (by decide) (o := 0) (us := [(.slice Y1 nb.h.length e1 : Value), .slice Y2 nb.s.length e2, .slice Y3 nb.o.length e3, .slice Y4 nb.r.length e4, .int .i64 nb.n]) PW.out PT.out
      have qq := putC_below (g := w2.heap.size) (by omega) (o := 0) (vs := [(.slice Y1 nb.h.length e1 : Value), .slice Y2 nb.s.length e2, .slice Y3 nb.o.length e3, .slice Y4 nb.r.length e4, .int .i64 nb.n]) PQ.out
      have qf := PF.out.trans (KpF.putC (g := w2.heap.size) (M := M) (n0 := w.heap.size) (Bs := wl.heap.size) (by omega) (by omega) (by omega) 0 [(.slice Y1 nb.h.length e1 : Value), .slice Y2 nb.s.length e2, .slice Y3 nb.o.length e3, .slice Y4 nb.r.length e4, .int .i64 nb.n])
      have qk := PK.out.trans (keeps_putC (g := w2.heap.size) [(.slice Y1 nb.h.length e1 : Value), .slice Y2 nb.s.length e2, .slice Y3 nb.o.length e3, .slice Y4 nb.r.length e4, .int .i64 nb.n] 0 ws)
      rw [hwe] at q0 ql qr qt qb qw qq qf qk
      have hrow : RowOwn we (wl.heap.size + 3) 111 (.slice A' nL c') 9 (foldP b rate (pre ++ [x])) := by
        rw [hsnP.out, hpc.out]
        exact qw
      exact ⟨qk.from _, qf, _, _, zH ⟨qq, ql, qr, q0, qt, hrow, fun q hq => (hrow.block hq).2, by rw [HNB.out]; exact qb.mono (by omega), qb.notIn (.inl (by omega))⟩⟩
    gi_wp2_with (fail)
    exact hN.out _ rfl
  case done =>
    rintro D M W hD ⟨vo, bv, hI⟩ hK
    obtain ⟨Z1, z1, Z2, z2, Z3, z3, Z4, z4, hbv⟩ := hI.out.bk.at.forms
    injection hbv with hbv
    subst hbv
    obtain ⟨A', c', rfl⟩ := hI.out.row.form
    have HK := zH hK
    clear hK
    gi_wp2_with (fail)
    refine wpIn_wide.2 ?_
    obtain ⟨nL, hnL⟩ : ∃ nL, (foldP b rate L).length = nL := ⟨_, rfl⟩
    have ho := zH hI.out.out
    have hrw := zH hI.out.row
    rw [hnL] at ho hrw
    clear hnL
    refine wp_region_D [3] (fun wz : World => Hid (wz.heap[w1.heap.size]? = some (.cells #[.slice A' nL c'] 52 (0, 0))) ∧ Hid (wz.heap[w2.heap.size]? = some (.cells #[.slice Z1 (foldB b rate L).h.length z1, .slice Z2 (foldB b rate L).s.length z2, .slice Z3 (foldB b rate L).o.length z3, .slice Z4 (foldB b rate L).r.length z4, .int .i64 (foldB b rate L).n] 27 (0, 0)))) 5 #[false, false, false, false, false] (by kernel_rfl) (by kernel_rfl) (by kernel_rfl) ?_
    obtain ⟨wd, hwd⟩ : ∃ wd : World, { W with drawn := W.drawn + 1 } = wd := ⟨_, rfl⟩
    rw [hwd]
    have hb : Below W.heap.size W wd := by rw [← hwd]; exact (Below.refl _ _).drew
    replace hI := zH (hI.out.call hb (by have := SZ.out; omega))
    replace ho := zK ho hb
    replace hrw := zH (hrw.out.kept hb)
    replace HK := zK HK hb
    clear hb hwd
    refine pure_moreD [0, 1, 2] 2 (L' := #[true, true, true, false, false]) (by kernel_rfl) (by kernel_rfl) ⟨ho, zH hI.out.last⟩ ?_
    simp only [opsAt, List.getElem?_toArray, List.getElem?_cons_zero, List.getElem?_cons_succ]
    refine pure_atG (.slice A' nL c') rfl (fun wz hC => by have c0 := cells_of_blk hC.1.out 0 _ rfl; unfold execOp; go_simp) ?_
    refine pure_atG (.agg #[.slice Z1 (foldB b rate L).h.length z1, .slice Z2 (foldB b rate L).s.length z2, .slice Z3 (foldB b rate L).o.length z3, .slice Z4 (foldB b rate L).r.length z4, .int .i64 (foldB b rate L).n]) rfl (fun wz hC => by have c0 := cells_of_blk hC.2.out 0 _ rfl; have c1 := cells_of_blk hC.2.out 1 _ rfl; have c2 := cells_of_blk hC.2.out 2 _ rfl; have c3 := cells_of_blk hC.2.out 3 _ rfl; have c4 := cells_of_blk hC.2.out 4 _ rfl; unfold execOp; go_simp) ?_
    refine pure_atG (.slice A' nL c') rfl (fun wz _ => by unfold execOp; go_simp) ?_
    unfold wpPure
    go_simp
    refine wpAnyD_one 3 (f := 1) (L' := #[true, true, true, true, false]) (by kernel_rfl) (by kernel_rfl) rfl rfl ?_
    have r0 := zC hI.out.res
    have f0 := zF hI.out.res
    go_wp2_with fail
    have hE : ∀ we : World, putC wd (w.heap.size + 1 + 1) 0 [(.slice Z1 (foldB b rate L).h.length z1 : Value), .slice Z2 (foldB b rate L).s.length z2, .slice Z3 (foldB b rate L).o.length z3, .slice Z4 (foldB b rate L).r.length z4, .int .i64 (foldB b rate L).n] = we → Hid (we.heap[w1.heap.size]? = some (.cells #[.slice A' nL c'] 52 (0, 0))) ∧ Hid (we.heap[w2.heap.size]? = some (.cells #[.slice Z1 (foldB b rate L).h.length z1, .slice Z2 (foldB b rate L).s.length z2, .slice Z3 (foldB b rate L).o.length z3, .slice Z4 (foldB b rate L).r.length z4, .int .i64 (foldB b rate L).n] 27 (0, 0))) ∧ Hid (we.heap[w.heap.size + 1 + 1]? = some (.cells #[.slice Z1 (foldB b rate L).h.length z1, .slice Z2 (foldB b rate L).s.length z2, .slice Z3 (foldB b rate L).o.length z3, .slice Z4 (foldB b rate L).r.length z4, .int .i64 (foldB b rate L).n] 27 (0, 0))) ∧ Hid (BkOwn we w.heap.size (.agg #[.slice Z1 (foldB b rate L).h.length z1, .slice Z2 (foldB b rate L).s.length z2, .slice Z3 (foldB b rate L).o.length z3, .slice Z4 (foldB b rate L).r.length z4, .int .i64 (foldB b rate L).n]) (foldB b rate L)) ∧ Hid (RowOwn we (wl.heap.size + 3) 111 (.slice A' nL c') 9 (foldP b rate L)) ∧ Hid (Below w.heap.size w we) ∧ Hid (we.heap[D]? = some (.deferred (some []))) := by
      intro we hwe
      have hz := SZ.out
      have q0 := putC_oth (g := w.heap.size + 1 + 1) (by omega) (o := 0) (vs := [(.slice Z1 (foldB b rate L).h.length z1 : Value), .slice Z2 (foldB b rate L).s.length z2, .slice Z3 (foldB b rate L).o.length z3, .slice Z4 (foldB b rate L).r.length z4, .int .i64 (foldB b rate L).n]) ho.out
      have q1 := putC_oth (g := w.heap.size + 1 + 1) (by omega) (o := 0) (vs := [(.slice Z1 (foldB b rate L).h.length z1 : Value), .slice Z2 (foldB b rate L).s.length z2, .slice Z3 (foldB b rate L).o.length z3, .slice Z4 (foldB b rate L).r.length z4, .int .i64 (foldB b rate L).n]) hI.out.last
      have q2 : (putC wd (w.heap.size + 1 + 1) 0 [(.slice Z1 (foldB b rate L).h.length z1 : Value), .slice Z2 (foldB b rate L).s.length z2, .slice Z3 (foldB b rate L).o.length z3, .slice Z4 (foldB b rate L).r.length z4, .int .i64 (foldB b rate L).n]).heap[w.heap.size + 1 + 1]? = some (.cells #[.slice Z1 (foldB b rate L).h.length z1, .slice Z2 (foldB b rate L).s.length z2, .slice Z3 (foldB b rate L).o.length z3, .slice Z4 (foldB b rate L).r.length z4, .int .i64 (foldB b rate L).n] 27 (0, 0)) := putC_blk hI.out.res
      have q3 := BkOwn.putT (g := w.heap.size + 1 + 1) (t := 27) (by decide) (o := 0) (us := [(.slice Z1 (foldB b rate L).h.length z1 : Value), .slice Z2 (foldB b rate L).s.length z2, .slice Z3 (foldB b rate L).o.length z3, .slice Z4 (foldB b rate L).r.length z4, .int .i64 (foldB b rate L).n]) hI.out.bk hI.out.res
      have q4 := RowOwn.putT (g := w.heap.size + 1 + 1) (t := 27) (by decide) (o := 0) (us := [(.slice Z1 (foldB b rate L).h.length z1 : Value), .slice Z2 (foldB b rate L).s.length z2, .slice Z3 (foldB b rate L).o.length z3, .slice Z4 (foldB b rate L).r.length z4, .int .i64 (foldB b rate L).n]) hrw.out hI.out.res
      have q5 := putC_below (g := w.heap.size + 1 + 1) (by omega) (o := 0) (vs := [(.slice Z1 (foldB b rate L).h.length z1 : Value), .slice Z2 (foldB b rate L).s.length z2, .slice Z3 (foldB b rate L).o.length z3, .slice Z4 (foldB b rate L).r.length z4, .int .i64 (foldB b rate L).n]) hI.out.below
      have q6 := putC_oth (g := w.heap.size + 1 + 1) (p := D) (by omega) (o := 0) (vs := [(.slice Z1 (foldB b rate L).h.length z1 : Value), .slice Z2 (foldB b rate L).s.length z2, .slice Z3 (foldB b rate L).o.length z3, .slice Z4 (foldB b rate L).r.length z4, .int .i64 (foldB b rate L).n]) HK.out
      rw [hwe] at q0 q1 q2 q3 q4 q5 q6
      exact ⟨zH q0, zH q1, zH q2, zH q3, zH q4, zH q5, zH q6⟩
    obtain ⟨we, hwe⟩ : ∃ we : World, putC wd (w.heap.size + 1 + 1) 0 [(.slice Z1 (foldB b rate L).h.length z1 : Value), .slice Z2 (foldB b rate L).s.length z2, .slice Z3 (foldB b rate L).o.length z3, .slice Z4 (foldB b rate L).r.length z4, .int .i64 (foldB b rate L).n] = we := ⟨_, rfl⟩
    obtain ⟨e0, e1, e2, e3, e4, e5, e6⟩ := hE we hwe
    rw [show ((((wd.setCell ⟨w.heap.size + 1 + 1, 0, none⟩ (.slice Z1 (foldB b rate L).h.length z1)).setCell ⟨w.heap.size + 1 + 1, 1, none⟩ (.slice Z2 (foldB b rate L).s.length z2)).setCell ⟨w.heap.size + 1 + 1, 2, none⟩ (.slice Z3 (foldB b rate L).o.length z3)).setCell ⟨w.heap.size + 1 + 1, 3, none⟩ (.slice Z4 (foldB b rate L).r.length z4)).setCell ⟨w.heap.size + 1 + 1, 4, none⟩ (.int .i64 (foldB b rate L).n) = we from hwe]
    clear hE hwe r0 f0 hI ho hrw HK
    rw [StepQ_normal]
    refine ⟨fun h => absurd h (by decide), ?_⟩
    refine wpAnyD_one 4 (f := 0) (L' := #[true, true, true, true, true]) (by kernel_rfl) (by kernel_rfl) rfl rfl ?_
    go_wp2_with fail
    rw [StepQ_normal]
    refine ⟨fun _ => ⟨e0, e1⟩, ?_⟩
    refine ⟨by kernel_rfl, ?_⟩
    rw [OnlyN_normal]
    gi_wp2_with (fail)
    have hz := SZ.out
    refine ⟨by simp, .inl ⟨_, _, rfl, run_takeDeferred e6.out, ?_⟩⟩
    have fx : ∀ {k : Nat} {cs : Array Value} {t : TypeId} {fr : Nat × Nat} (o' : Obj), we.heap[k]? = some (.cells cs t fr) → (we.putObj D o').heap[k]? = some (.cells cs t fr) := fun {k cs t fr} o' hk => by
      rw [World.putObj_heap_other (fun e => ?_)]
      · exact hk
      · subst e
        rw [e6.out] at hk
        cases hk
    exact ⟨_, ret_tct rfl _ _ _ _ _ _ rfl (fx _ e2.out) Tryz.underlying27 rfl (by kernel_rfl) _ _ rfl rfl, _, _, rfl, (e4.out.still (by simp) fun q cs t fr hq _ => fx _ hq).baseTo (by omega), e3.out.still (by simp) fun q cs t fr hq _ => fx _ hq, e5.out.trans (belowK_b (w := w) (Nat.le_refl _) we D _ _ (by omega) e6.out rfl rfl)⟩
  case stop =>
    rintro D c pre W _ _ h _
    exact h.elim
end Go.Proofs.YtjcdpmianmgiaaaGreatDoor
namespace Go.Proofs.YtjcdpmianmgiaaaGreatDoor
open Go Go.RowKit Mon
set_option linter.unusedVariables false
set_option linter.unusedSimpArgs false
set_option maxRecDepth 100000 in
set_option maxHeartbeats 4000000 in
theorem pSame_eq (v1 v2 : Value) (l : List (List Int)) (w : World) (h1 : Hid (RowAt w v1 9 l)) (h2 : Hid (RowAt w v2 9 l)) (hn : l.length ≤ 1000000) :
    Calls Tryz.prog 27 #[v1, v2] w fun e w' => e = .returned (.bool true) ∧ Below w.heap.size w w' := by
  obtain ⟨A1, c1, rfl, hi1⟩ := h1.out.rec'
  obtain ⟨A2, c2, rfl, hi2⟩ := h2.out.rec'
  have H1 := zH hi1
  have H2 := zH hi2
  have hg1 : Hid (∀ i : Nat, i < l.length → ∃ r, l[i]? = some r) := fun i hi => ⟨_, List.getElem?_eq_getElem hi⟩
  clear hi1 hi2 h1 h2
  obtain ⟨n, hN⟩ : ∃ n, l.length = n := ⟨_, rfl⟩
  rw [hN] at hg1 hn ⊢
  clear hN
  go_enter Tryz.func27, Tryz.ntmps27
  go_wp2_with fail
  go_loopw [5] (fun iv wr => ∃ i : Nat, iv = .int .i64 i ∧ Hid (i ≤ n) ∧ Hid (∃ d, wr = w.drewN d)) (fun iv _ => n - (intOf iv).toNat)
  case atStart => exact ⟨0, rfl, Nat.zero_le _, ⟨0, rfl⟩⟩
  case round =>
    obtain ⟨i, rfl, hi, hd⟩ := hrel
    obtain ⟨d, rfl⟩ := hd.out
    have hi2 := hi.out
    by_cases hlt : i < n
    · obtain ⟨r, hr⟩ := hg1.out i hlt
      obtain ⟨hk, b1, o1, rfl, hb1, m1⟩ := H1.out i r hr
      obtain ⟨_, b2, o2, rfl, hb2, m2⟩ := H2.out i r hr
      match r, hk, m1, m2 with
      | [y0, y1, y2, y3, y4, y5, y6, y7, y8], _, m1, m2 =>
        have p10 : w.cell? ⟨b1, o1 + i * 9, none⟩ = some (.int .i64 y0) := m1 0 _ rfl
        have p11 : w.cell? ⟨b1, o1 + i * 9 + 1, none⟩ = some (.int .i64 y1) := m1 1 _ rfl
        have p12 : w.cell? ⟨b1, o1 + i * 9 + 2, none⟩ = some (.int .i64 y2) := m1 2 _ rfl
        have p13 : w.cell? ⟨b1, o1 + i * 9 + 3, none⟩ = some (.int .i64 y3) := m1 3 _ rfl
        have p14 : w.cell? ⟨b1, o1 + i * 9 + 4, none⟩ = some (.int .i64 y4) := m1 4 _ rfl
        have p15 : w.cell? ⟨b1, o1 + i * 9 + 5, none⟩ = some (.int .i64 y5) := m1 5 _ rfl
        have p16 : w.cell? ⟨b1, o1 + i * 9 + 6, none⟩ = some (.int .i64 y6) := m1 6 _ rfl
        have p17 : w.cell? ⟨b1, o1 + i * 9 + 7, none⟩ = some (.int .i64 y7) := m1 7 _ rfl
        have p18 : w.cell? ⟨b1, o1 + i * 9 + 8, none⟩ = some (.int .i64 y8) := m1 8 _ rfl
        have p20 : w.cell? ⟨b2, o2 + i * 9, none⟩ = some (.int .i64 y0) := m2 0 _ rfl
        have p21 : w.cell? ⟨b2, o2 + i * 9 + 1, none⟩ = some (.int .i64 y1) := m2 1 _ rfl
        have p22 : w.cell? ⟨b2, o2 + i * 9 + 2, none⟩ = some (.int .i64 y2) := m2 2 _ rfl
        have p23 : w.cell? ⟨b2, o2 + i * 9 + 3, none⟩ = some (.int .i64 y3) := m2 3 _ rfl
        have p24 : w.cell? ⟨b2, o2 + i * 9 + 4, none⟩ = some (.int .i64 y4) := m2 4 _ rfl
        have p25 : w.cell? ⟨b2, o2 + i * 9 + 5, none⟩ = some (.int .i64 y5) := m2 5 _ rfl
        have p26 : w.cell? ⟨b2, o2 + i * 9 + 6, none⟩ = some (.int .i64 y6) := m2 6 _ rfl
        have p27 : w.cell? ⟨b2, o2 + i * 9 + 7, none⟩ = some (.int .i64 y7) := m2 7 _ rfl
        have p28 : w.cell? ⟨b2, o2 + i * 9 + 8, none⟩ = some (.int .i64 y8) := m2 8 _ rfl
        clear m1 m2 hr hi
        go_wp2_with fail
        go_quiet (fail)
        go_wp2_with fail
        go_roundw
        case rel => exact ⟨i + 1, by go_num, by show _ ≤ _; omega, ⟨_, rfl⟩⟩
        case measure => simp [intOf]; omega
    · obtain rfl : i = n := by omega
      go_wp2_with fail
      go_ret
      exact ⟨rfl, below_drewN (Below.refl _ _) _⟩
def NilOk (u : Value) : Prop := u = .slice none 0 0 ∨ ∃ ad n c, u = .slice (some ad) n c
theorem RowOwn.nilOk {w : World} {B : Nat} {e : TypeId} {v : Value} {k : Nat} {l : List (List Int)} (h : RowOwn w B e v k l) : NilOk v := by
  rcases h.1.2 with ⟨rfl, _⟩ | ⟨g, cap, cur, rfl, _⟩
  · exact .inl rfl
  · exact .inr ⟨_, _, _, rfl⟩
section
variable {P : Program} {ops : Array Oper} {rest : List Oper} {o : Oper} {a : Act} {Q : Exit → Act → World → Prop}
theorem wpList_append_recs {wr : World} {B : Nat} (s x : Operand) (t e : TypeId) (z : Value) (k bytes : Nat) (he : Elt P t e z k bytes) (v u : Value) (l m : List (List Int))
    (hown : Hid (RowOwn wr B e v k l)) (hat : Hid (RowAt wr u k m)) (hne : NilOk u) (hB : B ≤ wr.heap.size) (hgd : o.guard = none) (ho : o.op = .call { callee := .builtin .append, args := #[s, x], argTypes := #[t, t] })
    (hs : a.eval s = v) (hx : a.eval x = u) (hn : l.length + m.length ≤ 4000000) (hby : bytes ≤ 256)
    (h : ∀ v' w', Hid (RowOwn w' B e v' k (l ++ m)) → Hid (wr.grownBy w' v.ownBlock) → wpList P ops Q rest (a.put o.dst v') w') :
    wpList P ops Q (o :: rest) a wr := by
  obtain ⟨i, hi, hz, hsz, hbs⟩ := he.info
  obtain ⟨ho', hk⟩ := hown.out
  obtain ⟨A, c, rfl, hkm, hc⟩ := hat.out
  by_cases hm : m = []
  · subst hm
    rcases hne with hne | ⟨ad, n', c', hne⟩
    · rw [hne] at hx
      refine wpList_append_own_none hgd s x t ho B e i k he.und hi v l.length (flatC l) hs ho' hx (h v wr ?_ ?_)
      · rw [List.append_nil]; exact ⟨ho', hk⟩
      · exact ⟨rfl, rfl, rfl, Nat.le_refl _, fun _ _ _ => rfl⟩
    · injection hne with hA hn' hc'
      subst hA hn' hc'
      refine wpList_append_own _ hgd s x t ho B e i z k bytes he.und hi hz hsz hbs he.zs he.pos v l.length (flatC l) hs ho' ad 0 c [] hx (by simp) (fun j u hj => by simp at hj) (fun u hu => by simp at hu) (by unfold maxLen; omega) (by have h1 := Nat.mul_le_mul hn hby; simp at h1 ⊢; omega) hB ?_
      intro v' w' h1 h2 _
      refine h v' w' ⟨?_, ?_⟩ h2
      · rw [List.append_nil]
        simpa using h1
      · rw [List.append_nil]
        exact hk
  · rcases hc with hc | ⟨b, oo, rfl, hb, hcell⟩
    · exact absurd hc hm
    refine wpList_append_own _ hgd s x t ho B e i z k bytes he.und hi hz hsz hbs he.zs he.pos v l.length (flatC l) hs ho' ⟨b, oo, none⟩ m.length c (flatC m) hx (flatC_len hkm) ?_ ?_ ?_ ?_ ?_ ?_
    · intro j y hj
      rw [Addr.add_lit]
      rw [flatC, List.getElem?_map] at hj
      cases hf : m.flatten[j]? with
      | none => rw [hf] at hj; cases hj
      | some q =>
        rw [hf] at hj
        cases hj
        exact hcell j q hf
    · exact flatC_one m
    · unfold maxLen; omega
    · have h1 := Nat.mul_le_mul hn hby; omega
    · exact hB
    · intro v' w' h1 h2 _
      refine h v' w' ⟨?_, ?_⟩ h2
      · rw [List.length_append, flatC_append]
        exact h1
      · intro r hr
        rcases List.mem_append.1 hr with hr | hr
        · exact hk r hr
        · exact hkm r hr
theorem RowOwn.nilAt (w : World) (e : TypeId) (k : Nat) : RowOwn (w.alloc (.cells #[] e)) w.heap.size e (.slice (some ⟨w.heap.size, 0, none⟩) 0 0) k [] := by
  refine ⟨⟨by simp [flatC], .inr ⟨w.heap.size, 0, #[], rfl, Nat.le_refl _, heap_new _ _, ?_⟩⟩, fun r hr => by simp at hr⟩
  simp [flatC]
end
theorem el_Event : Elt Tryz.prog 51 29 (.agg #[.int .i64 0, .int .i64 0, .int .i64 0, .int .i64 0, .int .i64 0, .int .i64 0, .int .i64 0]) 7 56 := Elt.mk' Tryz.underlying51 (by kernel_rfl) rfl (by decide)
theorem bZ_good : bZ.Good := ⟨by decide +kernel, by unfold Bk.I64s bZ; simp, by unfold Bk.Lens bZ; simp⟩
def eZ : Ev := ⟨0, 0, 0, 0, 0, 0, 0⟩
theorem fold_eg : gateV bZ eZ 20 = (1, 0) ∧ (foldB bZ 20 [eZ]).n = 1 := by refine ⟨?_, ?_⟩ <;> decide +kernel
theorem EvsAt.nil (w : World) : EvsAt w (.slice none 0 0) [] := ⟨none, 0, rfl, by simp, .inl rfl⟩
theorem EvsAt.one (w : World) : EvsAt (w.alloc (.cells #[.int .i64 0, .int .i64 0, .int .i64 0, .int .i64 0, .int .i64 0, .int .i64 0, .int .i64 0] 29)) (.slice (some ⟨w.heap.size, 0, none⟩) 1 1) [eZ] := by
  refine ⟨some ⟨w.heap.size, 0, none⟩, 1, rfl, by simp [eZ, Ev.cells], .inr ⟨w.heap.size, 0, rfl, by simp, fun j x hj => ?_⟩⟩
  rw [Nat.zero_add]
  refine cells_of_blk (heap_new w (.cells #[.int .i64 0, .int .i64 0, .int .i64 0, .int .i64 0, .int .i64 0, .int .i64 0, .int .i64 0] 29)) j _ ?_
  have hj : ([0, 0, 0, 0, 0, 0, 0] : List Int)[j]? = some x := hj
  match j with
  | 0 | 1 | 2 | 3 | 4 | 5 | 6 => cases hj; rfl
  | j + 7 => simp at hj
set_option maxRecDepth 100000 in
set_option maxHeartbeats 4000000 in
theorem alive18 (w : World) (hT : Hid (Law16 w)) : Calls Tryz.prog 24 #[] w fun e w' => e = .returned (.bool true) ∧ Below w.heap.size w w' := by
  obtain ⟨g1, g2⟩ := fold_eg
  have z1 : Hid (0 ≤ (20 : Int) ∧ (20 : Int) ≤ 1000) := (show _ ∧ _ by omega)
  have q1 := zH (fun (wz : World) (hz : Hid (Law16 wz)) => FoldRun_ok none none none none none 0 0 0 0 0 bZ [] 20 wz hz (zH (BkAt.zero wz)) (zH (EvsAt.nil wz)) (zH bZ_good) (zH (fun e he => by simp at he)) z1 (zH (by decide)) (zH (by decide)) (by decide))
  have q1 : Hid (∀ wz : World, Hid (Law16 wz) → Calls Tryz.prog 25 #[.agg #[.slice none 0 0, .slice none 0 0, .slice none 0 0, .slice none 0 0, .int .i64 0], .slice none 0 0, .int .i64 20] wz fun r w' => ∃ vp vb, r = .returned (.tuple #[vp, vb, .int .i64 0]) ∧ RowOwn w' wz.heap.size 111 vp 9 [] ∧ BkOwn w' wz.heap.size vb bZ ∧ Below wz.heap.size wz w') := q1
  have q2 := zH (fun (A : Option Addr) (wz : World) (hz : Hid (Law16 wz)) (hv : Hid (EvsAt wz (.slice A 1 1) [eZ])) => FoldRun_ok none none none none A 0 0 0 0 1 bZ [eZ] 20 wz hz (zH (BkAt.zero wz)) hv (zH bZ_good) (zH (fun e he => by simp at he; subst he; exact ⟨i64_lit (by decide), i64_lit (by decide), i64_lit (by decide), i64_lit (by decide), i64_lit (by decide), i64_lit (by decide), i64_lit (by decide)⟩)) z1 (zH (by decide)) (zH (by decide)) (by decide))
  rw [show foldP bZ 20 [eZ] = [[0, 0, 0, 0, 0, 0, 0, 1, 0]] from by unfold foldP foldP pairC; rw [g1]; rfl] at q2
  obtain ⟨nb, hnb⟩ : ∃ nb, foldB bZ 20 [eZ] = nb := ⟨_, rfl⟩
  rw [hnb] at q2 g2
  have q2 : Hid (∀ (A : Option Addr) (wz : World), Hid (Law16 wz) → Hid (EvsAt wz (.slice A 1 1) [eZ]) → Calls Tryz.prog 25 #[.agg #[.slice none 0 0, .slice none 0 0, .slice none 0 0, .slice none 0 0, .int .i64 0], .slice A 1 1, .int .i64 20] wz fun r w' => ∃ vp vb, r = .returned (.tuple #[vp, vb, .int .i64 0]) ∧ RowOwn w' wz.heap.size 111 vp 9 [[0, 0, 0, 0, 0, 0, 0, 1, 0]] ∧ BkOwn w' wz.heap.size vb nb ∧ Below wz.heap.size wz w') := q2
  clear hnb g1
  go_enter Tryz.func24, Tryz.ntmps24
  go_wp2_with fail
  with_reducible refine (q1.out _ hT).mono ?_
  rintro r w1 ⟨vp, vb, rfl, hp, hbk, hb⟩
  obtain ⟨A1, c1, rfl⟩ := hp.form
  obtain ⟨U1, u1, U2, u2, U3, u3, U4, u4, rfl⟩ := hbk.at.forms
  have HB := zH hb
  clear hp hbk hb q1
  have hl0 : ([] : List (List Int)).length = 0 := rfl
  go_wp2_with fail
  obtain ⟨wa, hwa⟩ : ∃ wa : World, w1.alloc (.cells #[.slice U1 bZ.h.length u1, .slice U2 bZ.s.length u2, .slice U3 bZ.o.length u3, .slice U4 bZ.r.length u4, .int .i64 bZ.n] 27) = wa := ⟨_, rfl⟩
  have hza : wa.heap.size = w1.heap.size + 1 := by rw [← hwa]; simp
  have ha : Below w1.heap.size w1 wa := by rw [← hwa]; exact below_alloc (Below.refl _ _) (Nat.le_refl _) _
  have K1 : Hid (wa.heap[w1.heap.size]? = some (.cells #[.slice U1 bZ.h.length u1, .slice U2 bZ.s.length u2, .slice U3 bZ.o.length u3, .slice U4 bZ.r.length u4, .int .i64 bZ.n] 27 (0, 0))) := by rw [← hwa]; exact heap_new _ _
  have hev := EvsAt.one wa
  rw [hza] at hev
  rw [hwa]
  have hbb : Below wa.heap.size wa (wa.alloc (.cells #[.int .i64 0, .int .i64 0, .int .i64 0, .int .i64 0, .int .i64 0, .int .i64 0, .int .i64 0] 29)) := below_alloc (Below.refl _ _) (Nat.le_refl _) _
  generalize wa.alloc (.cells #[.int .i64 0, .int .i64 0, .int .i64 0, .int .i64 0, .int .i64 0, .int .i64 0, .int .i64 0] 29) = wb at *
  replace K1 := zK K1 hbb
  replace HB := zH ((HB.out.trans (ha.mono HB.out.size)).trans (hbb.mono (Nat.le_trans HB.out.size ha.size)))
  clear ha hbb hwa hza
  with_reducible refine (q2.out _ _ (zH (hT.out.call HB.out)) (zH hev)).mono ?_
  rintro r w2 ⟨vp, vb, rfl, hp, hbk, hb⟩
  obtain ⟨A', c', hA, hi⟩ := hp.row.rec'
  obtain ⟨_, bb, o, hAA, hlt, hc⟩ := hi 0 _ rfl
  have c7 : w2.cell? ⟨bb, o + 7, none⟩ = some (.int .i64 1) := by simpa using hc 7 _ rfl
  subst hA
  subst hAA
  obtain ⟨Y1, d1, Y2, d2, Y3, d3, Y4, d4, hvb⟩ := hbk.at.forms
  rw [g2] at hvb
  subst hvb
  have K2 := zK K1 hb
  have HB2 := zB HB hb
  clear hp hi hc hbk hb hev K1 HB q2
  have b4 : w2.cell? ⟨w1.heap.size, 4, none⟩ = some (.int .i64 0) := cells_of_blk K2.out 4 _ rfl
  have lt1 := zL K2.out
  have hl1 : ([[0, 0, 0, 0, 0, 0, 0, 1, 0]] : List (List Int)).length = 1 := rfl
  go_wp2_with fail
  go_ret
  exact ⟨rfl, below_alloc HB2.out HB2.out.size _⟩
end Go.Proofs.YtjcdpmianmgiaaaGreatDoor
namespace Go.Proofs.YtjcdpmianmgiaaaGreatDoor
open Go Go.Lib Go.ChangeShapes Go.WideShapes Go.Deep Go.ChangeAt Go.RowKit
set_option linter.unusedVariables false
set_option linter.unusedSimpArgs false
def evOf : List Int → Ev
  | [a, b, c, d, e, f, g] => ⟨a, b, c, d, e, f, g⟩
  | _ => eZ
theorem evOf_cells {r : List Int} (h : r.length = 7) : (evOf r).cells = r := by
  match r, h with
  | [a, b, c, d, e, f, g], _ => rfl
theorem evOf_i64s {r : List Int} (h : r.length = 7) (hi : ∀ x ∈ r, I64 x) : (evOf r).I64s := by
  match r, h with
  | [a, b, c, d, e, f, g], _ => exact ⟨hi a (by simp), hi b (by simp), hi c (by simp), hi d (by simp), hi e (by simp), hi f (by simp), hi g (by simp)⟩
set_option maxRecDepth 100000 in
theorem open_evs {H : Type} {enc : TypeId × Value → H} {W : World} {r : Reach} {b0 : Nat} {v : Value} {d : DataW H} {ps : List MemPlace} (hv : Value.okWide Tryz.prog W r b0 51 v) (h : DataW.Trod enc Tryz.prog W 0 (fun _ => true) true 51 v d ps) :
    ∃ (A : Option Addr) (c : Nat) (L : List Ev), v = .slice A L.length c ∧ EvsAt W v L ∧ NilOk v ∧ (∀ e ∈ L, e.I64s) ∧ (L = [] ∨ ∃ es sp, d = .slice es sp ∧ es.length = L.length) := by
  obtain ⟨a0, len, cap, rfl⟩ := okWide_slice Tryz.underlying51 hv
  obtain ⟨fuel, hf⟩ := h
  have hf : DataW.trod enc Tryz.prog W 0 (fun _ => true) true fuel 51 [.slice a0 len cap] = some (d, ps) := hf
  obtain ⟨l, hat, _, hi⟩ := open_recs Tryz.underlying51 Tryz.underlying29 (by kernel_rfl) (by kernel_rfl) (by decide) (fun j f hj => intF_spec (P := Tryz.prog) (by kernel_rfl) j f hj) hf
  have hat : RowAt W (.slice a0 len cap) 7 l := hat
  obtain ⟨A', c', hA, h7, hc⟩ := hat
  injection hA with hA hn hcc
  subst hA hn hcc
  have hl : (l.map evOf).map Ev.cells = l := by
    rw [List.map_map]
    conv => rhs; rw [← List.map_id l]
    exact List.map_congr_left fun r hr => evOf_cells (h7 r hr)
  refine ⟨a0, cap, l.map evOf, by rw [List.length_map], ?_, ?_, ?_, ?_⟩
  · show RowAt W _ 7 ((l.map evOf).map Ev.cells)
    rw [hl]
    exact ⟨a0, cap, rfl, h7, hc⟩
  · rcases open_slice Tryz.underlying51 hf with ⟨hcs, _⟩ | ⟨a, len', cap', m, n, D, Pl, hcs, _⟩
    · have := List.cons.inj hcs |>.1
      exact .inl this
    · have := List.cons.inj hcs |>.1
      exact .inr ⟨_, _, _, this⟩
  · intro e he
    obtain ⟨r, hr, rfl⟩ := List.mem_map.1 he
    exact evOf_i64s (h7 r hr) (hi r hr)
  · rcases open_slice Tryz.underlying51 hf with ⟨hcs, _⟩ | ⟨a, len', cap', m, n, D, Pl, hcs, _, _, _, _, hx, _⟩
    · left
      have := List.cons.inj hcs |>.1
      injection this with _ h0 _
      rw [List.map_eq_nil_iff]
      exact List.eq_nil_of_length_eq_zero h0
    · right
      have := List.cons.inj hcs |>.1
      injection this with _ h0 _
      have hx := congrArg Prod.fst hx
      refine ⟨_, _, hx, ?_⟩
      rw [List.length_map, List.length_map, List.length_range, h0]
theorem evs_len {H : Type} {ts : List TypeId} {ds : List (DataW H)} (h : (DataW.weightsEach Tryz.prog ts ds).all (· ≤ reachBytes) = true) {j : Nat} {d : DataW H} {L : List Ev} (ht : ts[j]? = some 51) (hd : ds[j]? = some d) (hl : L = [] ∨ ∃ es sp, d = .slice es sp ∧ es.length = L.length) : L.length ≤ 4611686018427387903 := by
  rcases hl with rfl | ⟨es, sp, rfl, hl⟩
  · simp
  · have h1 := sized_slice h ht hd Tryz.underlying51
    rw [show Tryz.prog.bytesOf 29 = 56 by kernel_rfl] at h1
    unfold reachBytes at h1
    omega
end Go.Proofs.YtjcdpmianmgiaaaGreatDoor
namespace Go.Proofs.YtjcdpmianmgiaaaGreatDoor
open Go Go.RowKit Mon
set_option linter.unusedVariables false
set_option linter.unusedSimpArgs false
theorem wpList_unguard {P : Program} {ops : Array Oper} {rest : List Oper} {o : Oper} {a : Act} {Q : Exit → Act → World → Prop} {w : World} (hw : Region.wanted o (yielded ops a.tmps) = true) (h : wpList P ops Q ({ o with guard := none } :: rest) a w) : wpList P ops Q (o :: rest) a w := by
  unfold wpList at h ⊢
  rw [if_pos hw]
  rw [if_pos (show Region.wanted { o with guard := none } (yielded ops a.tmps) = true from rfl)] at h
  exact h
set_option maxRecDepth 100000 in
set_option maxHeartbeats 16000000 in
theorem FoldParts_walk (Aa Ab : Option Addr) (ca cb : Nat) (La Lb : List Ev) (r : Int) (w0 : World) (hT : Hid (Law16 w0)) (HA : Hid (EvsAt w0 (.slice Aa La.length ca) La)) (HV : Hid (EvsAt w0 (.slice Ab Lb.length cb) Lb)) (nA : Hid (NilOk (.slice Aa La.length ca))) (nB : Hid (NilOk (.slice Ab Lb.length cb)))
    (hEa : Hid (∀ e ∈ La, e.I64s)) (hEb : Hid (∀ e ∈ Lb, e.I64s)) (hla : La.length ≤ 4611686018427387904) (hlb : Lb.length ≤ 4611686018427387903) (hr : 0 ≤ r ∧ r < 65536) :
    Calls Tryz.prog 8 #[.slice Aa La.length ca, .slice Ab Lb.length cb, .int .u16 r] w0 fun e w' => e = .returned (.bool true) ∧ Below w0.heap.size w0 w' := by
  go_enter Tryz.func8, Tryz.ntmps8
  go_wp2_with fail
  have HB : Hid (Below w0.heap.size w0 w0) := Below.refl _ _
  with_reducible refine (alive18 _ hT).mono ?_
  rintro r wc1 ⟨rfl, hb⟩
  replace HB := zB HB hb
  replace HA := zH (HA.out.call hb)
  replace HV := zH (HV.out.call hb)
  clear hb
  by_cases hlen : 60 < La.length + Lb.length
  · have hw : IntKind.i64.wrap ((La.length : Int) + (Lb.length : Int)) = (La.length : Int) + (Lb.length : Int) := by rw [IntKind.wrap_i64]; omega
    have t1 : decide (60 < (La.length : Int) + (Lb.length : Int)) = true := decide_eq_true (by omega)
    go_wp2_with fail
    go_ret
    exact ⟨rfl, HB.out⟩
  have hw : IntKind.i64.wrap ((La.length : Int) + (Lb.length : Int)) = (La.length : Int) + (Lb.length : Int) := by rw [IntKind.wrap_i64]; omega
  have t1 : decide (60 < (La.length : Int) + (Lb.length : Int)) = false := decide_eq_false (by omega)
  obtain ⟨k, hk⟩ : ∃ k : Int, r % 1001 = k := ⟨_, rfl⟩
  have hk0 : Hid (0 ≤ k ∧ k ≤ 1000) := (show _ ∧ _ by omega)
  have hE3 : Hid (∀ e ∈ La ++ Lb, e.I64s) := (show ∀ e ∈ La ++ Lb, e.I64s from fun e he => by
    rcases List.mem_append.1 he with he | he
    · exact hEa.out e he
    · exact hEb.out e he)
  obtain ⟨L3, hL3⟩ : ∃ L3 : List Ev, La ++ Lb = L3 := ⟨_, rfl⟩
  have hl3 : L3.length = La.length + Lb.length := by rw [← hL3, List.length_append]
  obtain ⟨b1, hb1⟩ : ∃ b1, foldB bZ k La = b1 := ⟨_, rfl⟩
  obtain ⟨P1, hP1⟩ : ∃ P1, foldP bZ k La = P1 := ⟨_, rfl⟩
  obtain ⟨b2, hb2⟩ : ∃ b2, foldB b1 k Lb = b2 := ⟨_, rfl⟩
  obtain ⟨P2, hP2⟩ : ∃ P2, foldP b1 k Lb = P2 := ⟨_, rfl⟩
  have z0 : Hid (b1.Good ∧ b1.n = La.length ∧ b1.s.length ≤ La.length) := (show _ ∧ _ ∧ _ by
    have h1 := foldB_good k La bZ bZ_good (by show (0 : Int) + _ ≤ _; omega) hEa.out
    have h2 := foldB_n k La bZ
    have h3 := foldB_stakes k La bZ
    rw [hb1] at h1 h2 h3
    exact ⟨h1, by rw [h2]; show (0 : Int) + _ = _; omega, by simpa [bZ] using h3⟩)
  have z1 : Hid (foldB bZ k L3 = b2 ∧ foldP bZ k L3 = P1 ++ P2 ∧ b2.n = La.length + Lb.length ∧ P1.length = La.length ∧ P2.length = Lb.length ∧ b2.Small) := (show _ ∧ _ ∧ _ ∧ _ ∧ _ ∧ _ by
    have h3 := foldB_n k Lb b1
    have h6 := foldB_good k Lb b1 z0.out.1 (by rw [z0.out.2.1]; omega) hEb.out
    have h7 := foldB_stakes k Lb b1
    rw [hb2] at h6 h7
    have h4 := foldP_length k La bZ
    have h5 := foldP_length k Lb b1
    refine ⟨by rw [← hL3, foldB_app, hb1, hb2], by rw [← hL3, foldP_app, hb1, hP1, hP2], by rw [← hb2, h3, z0.out.2.1], by rw [← hP1, h4], by rw [← hP2, h5], h6.small (by have := z0.out.2.2; omega)⟩)
  have q0 := zH (fun (A : Option Addr) (c : Nat) (wz : World) (hz : Hid (Law16 wz)) (hv : Hid (EvsAt wz (.slice A La.length c) La)) => FoldRun_ok none none none none A 0 0 0 0 c bZ La k wz hz (zH (BkAt.zero wz)) hv (zH bZ_good) hEa hk0 (zH (by show (0 : Int) + _ ≤ _; omega)) (zH (by show 0 + _ ≤ _; omega)) (by omega))
  rw [hb1, hP1] at q0
  have q0 : Hid (∀ (A : Option Addr) (c : Nat) (wz : World), Hid (Law16 wz) → Hid (EvsAt wz (.slice A La.length c) La) → Calls Tryz.prog 25 #[.agg #[.slice none 0 0, .slice none 0 0, .slice none 0 0, .slice none 0 0, .int .i64 0], .slice A La.length c, .int .i64 k] wz fun r w' => ∃ vp vb, r = .returned (.tuple #[vp, vb, .int .i64 0]) ∧ RowOwn w' wz.heap.size 111 vp 9 P1 ∧ BkOwn w' wz.heap.size vb b1 ∧ Below wz.heap.size wz w') := q0
  have q3 := zH (fun (A : Option Addr) (c : Nat) (wz : World) (hz : Hid (Law16 wz)) (hv : Hid (EvsAt wz (.slice A L3.length c) L3)) => FoldRun_ok none none none none A 0 0 0 0 c bZ L3 k wz hz (zH (BkAt.zero wz)) hv (zH bZ_good) (by rw [← hL3]; exact hE3) hk0 (zH (by show (0 : Int) + _ ≤ _; omega)) (zH (by show 0 + _ ≤ _; omega)) (by omega))
  rw [z1.out.1, z1.out.2.1] at q3
  have q3 : Hid (∀ (A : Option Addr) (c : Nat) (wz : World), Hid (Law16 wz) → Hid (EvsAt wz (.slice A L3.length c) L3) → Calls Tryz.prog 25 #[.agg #[.slice none 0 0, .slice none 0 0, .slice none 0 0, .slice none 0 0, .int .i64 0], .slice A L3.length c, .int .i64 k] wz fun r w' => ∃ vp vb, r = .returned (.tuple #[vp, vb, .int .i64 0]) ∧ RowOwn w' wz.heap.size 111 vp 9 (P1 ++ P2) ∧ BkOwn w' wz.heap.size vb b2 ∧ Below wz.heap.size wz w') := q3
  have q1 := zH (fun (A1 A2 A3 A4 A : Option Addr) (c1 c2 c3 c4 c : Nat) (wz : World) (hz : Hid (Law16 wz)) (hB : Hid (BkAt wz (.agg #[.slice A1 b1.h.length c1, .slice A2 b1.s.length c2, .slice A3 b1.o.length c3, .slice A4 b1.r.length c4, .int .i64 b1.n]) b1)) (hv : Hid (EvsAt wz (.slice A Lb.length c) Lb)) => FoldRun_ok A1 A2 A3 A4 A c1 c2 c3 c4 c b1 Lb k wz hz hB hv (zH z0.out.1) hEb hk0 (zH (by rw [z0.out.2.1]; omega)) (zH (by have := z0.out.2.2; omega)) (by omega))
  rw [hb2, hP2] at q1
  have q4 : Hid (∀ (v v' : Value) (wz : World), Hid (BkAt wz v b2) → Hid (BkAt wz v' b2) → Calls Tryz.prog 16 #[v, v'] wz fun r w' => r = .returned (.bool true) ∧ Below wz.heap.size wz w') := (show _ from fun v v' wz h1 h2 => by
    have h := rSame_any v v' b2 b2 wz h1 h2 (zH z1.out.2.2.2.2.2)
    rw [(sameB_iff b2 b2).2 rfl] at h
    exact h)
  replace hb1 := zH hb1
  replace hb2 := zH hb2
  replace hP1 := zH hP1
  replace hP2 := zH hP2
  replace hL3 := zH hL3
  replace hl3 := zH hl3
  go_wp2_with fail
  with_reducible refine (q0.out _ _ _ (zH (hT.out.call HB.out)) HA).mono ?_
  rintro r wc2 ⟨vpa, vba, rfl, hP, hO, hb⟩
  replace HB := zB HB hb
  replace HA := zH (HA.out.call hb)
  replace HV := zH (HV.out.call hb)
  clear hb
  obtain ⟨U1a, u1a, U2a, u2a, U3a, u3a, U4a, u4a, hv5⟩ := hO.at.forms
  subst hv5
  have HOa := zH hO
  have HPa := zH hP
  clear hO hP
  go_wp2_with fail
  obtain ⟨wa3, hwa3⟩ : ∃ wa3 : World, wc2.alloc (.cells #[.slice U1a b1.h.length u1a, .slice U2a b1.s.length u2a, .slice U3a b1.o.length u3a, .slice U4a b1.r.length u4a, .int .i64 b1.n] 27) = wa3 := ⟨_, rfl⟩
  rw [hwa3]
  have hbwa3 : Below wc2.heap.size wc2 wa3 := by rw [← hwa3]; exact below_alloc (Below.refl _ _) (Nat.le_refl _) _
  replace HB := zB HB hbwa3
  replace HA := zH (HA.out.call hbwa3)
  replace HV := zH (HV.out.call hbwa3)
  replace HOa := zH (HOa.out.kept hbwa3)
  replace HPa := zH (HPa.out.kept hbwa3)
  have Kx : Hid (wa3.heap[wc2.heap.size]? = some (.cells #[.slice U1a b1.h.length u1a, .slice U2a b1.s.length u2a, .slice U3a b1.o.length u3a, .slice U4a b1.r.length u4a, .int .i64 b1.n] 27 (0, 0))) := by rw [← hwa3]; exact heap_new _ _
  clear hwa3 hbwa3
  with_reducible refine (q1.out _ _ _ _ _ _ _ _ _ _ _ (zH (hT.out.call HB.out)) (zH HOa.out.at) HV).mono ?_
  rintro r wc4 ⟨vpb, vbb, rfl, hP, hO, hb⟩
  replace Kx := zK Kx hb
  replace HB := zB HB hb
  replace HA := zH (HA.out.call hb)
  replace HV := zH (HV.out.call hb)
  replace HOa := zH (HOa.out.kept hb)
  replace HPa := zH (HPa.out.kept hb)
  clear hb
  obtain ⟨U1b, u1b, U2b, u2b, U3b, u3b, U4b, u4b, hv5⟩ := hO.at.forms
  subst hv5
  have HOb := zH hO
  have HPb := zH hP
  clear hO hP
  obtain ⟨wa5, hwa5⟩ : ∃ wa5 : World, wc4.alloc (.cells #[.slice U1b b2.h.length u1b, .slice U2b b2.s.length u2b, .slice U3b b2.o.length u3b, .slice U4b b2.r.length u4b, .int .i64 b2.n] 27) = wa5 := ⟨_, rfl⟩
  have hswa5 : Hid (wa5.heap.size = wc4.heap.size + 1) := (show _ = _ by rw [← hwa5]; simp)
  have hbwa5 : Below wc4.heap.size wc4 wa5 := by rw [← hwa5]; exact below_alloc (Below.refl _ _) (Nat.le_refl _) _
  replace Kx := zK Kx hbwa5
  replace HB := zB HB hbwa5
  replace HA := zH (HA.out.call hbwa5)
  replace HV := zH (HV.out.call hbwa5)
  replace HOa := zH (HOa.out.kept hbwa5)
  replace HPa := zH (HPa.out.kept hbwa5)
  replace HOb := zH (HOb.out.kept hbwa5)
  replace HPb := zH (HPb.out.kept hbwa5)
  have Ky : Hid (wa5.heap[wc4.heap.size]? = some (.cells #[.slice U1b b2.h.length u1b, .slice U2b b2.s.length u2b, .slice U3b b2.o.length u3b, .slice U4b b2.r.length u4b, .int .i64 b2.n] 27 (0, 0))) := by rw [← hwa5]; exact heap_new _ _
  clear hbwa5
  replace hwa5 := zH hwa5
  have hN := RowOwn.nilAt wa5 29 7
  rw [hswa5.out] at hN
  replace hN := zH hN
  have hA0 : Hid (Below wa5.heap.size wa5 (wa5.alloc (.cells #[] 29))) := zH (below_alloc (Below.refl _ _) (Nat.le_refl _) _)
  have hAt := zH (RowAt.call HA.out hA0.out)
  go_wp2_with (at_builtin; rw [hwa5.out]; refine wpList_unguard (by rfl) ?_; refine wpList_append_recs _ _ 51 29 (.agg #[.int .i64 0, .int .i64 0, .int .i64 0, .int .i64 0, .int .i64 0, .int .i64 0, .int .i64 0]) 7 56 el_Event _ _ [] (La.map Ev.cells) hN hAt nA ?lB rfl rfl rfl rfl ?ln1 (by decide) ?_)
  case lB => have h1 := hswa5.out; have h2 := hA0.out.size; omega
  case ln1 =>
    have hl3' := hl3.out
    try simp only [List.length_nil, List.length_map, List.length_append]
    omega
  intro v1y w1y O1y G1y
  have hB1 : Hid (Below wa5.heap.size wa5 w1y) := zH (hA0.out.grown G1y.out hA0.out.size (fun j e => by have h1 := (hN.out.block e).1; have h2 := hswa5.out; omega))
  replace hAt := zH (RowAt.call HV.out hB1.out)
  clear hN
  go_wp2_with (at_builtin; refine wpList_unguard (by rfl) ?_; refine wpList_append_recs _ _ 51 29 (.agg #[.int .i64 0, .int .i64 0, .int .i64 0, .int .i64 0, .int .i64 0, .int .i64 0, .int .i64 0]) 7 56 el_Event _ _ _ (Lb.map Ev.cells) O1y hAt nB ?lB rfl rfl rfl rfl ?ln1 (by decide) ?_)
  case lB => have h1 := hswa5.out; have h2 := hB1.out.size; omega
  case ln1 =>
    have hl3' := hl3.out
    try simp only [List.length_nil, List.length_map, List.length_append]
    omega
  intro vR wr6 HR G2
  have hb : Below wa5.heap.size wa5 wr6 := hB1.out.trans ((Below.refl _ _).grown G2.out hB1.out.size (fun j e => by have h1 := (O1y.out.block e).1; have h2 := hswa5.out; omega))
  replace Kx := zK Kx hb
  replace Ky := zK Ky hb
  replace HB := zB HB hb
  replace HA := zH (HA.out.call hb)
  replace HV := zH (HV.out.call hb)
  replace HOa := zH (HOa.out.kept hb)
  replace HPa := zH (HPa.out.kept hb)
  replace HOb := zH (HOb.out.kept hb)
  replace HPb := zH (HPb.out.kept hb)
  clear hb hB1 hA0 hAt G2 O1y G1y hwa5 hswa5
  have HL : Hid (EvsAt wr6 vR L3) := (show RowAt _ _ _ _ by
    have h := HR.out.row
    rw [← List.map_append, hL3.out] at h
    exact h)
  obtain ⟨AR, cR, hvR⟩ := HL.out.form
  subst hvR
  clear HR
  go_wp2_with fail
  with_reducible refine (q3.out _ _ _ (zH (hT.out.call HB.out)) HL).mono ?_
  rintro r wc7 ⟨vpc, vbc, rfl, hP, hO, hb⟩
  replace Kx := zK Kx hb
  replace Ky := zK Ky hb
  replace HB := zB HB hb
  replace HA := zH (HA.out.call hb)
  replace HV := zH (HV.out.call hb)
  replace HOa := zH (HOa.out.kept hb)
  replace HPa := zH (HPa.out.kept hb)
  replace HOb := zH (HOb.out.kept hb)
  replace HPb := zH (HPb.out.kept hb)
  clear hb
  obtain ⟨U1c, u1c, U2c, u2c, U3c, u3c, U4c, u4c, hv5⟩ := hO.at.forms
  subst hv5
  have HOc := zH hO
  have HPc := zH hP
  clear hO hP
  obtain ⟨wa8, hwa8⟩ : ∃ wa8 : World, wc7.alloc (.cells #[.slice U1c b2.h.length u1c, .slice U2c b2.s.length u2c, .slice U3c b2.o.length u3c, .slice U4c b2.r.length u4c, .int .i64 b2.n] 27) = wa8 := ⟨_, rfl⟩
  have hswa8 : Hid (wa8.heap.size = wc7.heap.size + 1) := (show _ = _ by rw [← hwa8]; simp)
  have hbwa8 : Below wc7.heap.size wc7 wa8 := by rw [← hwa8]; exact below_alloc (Below.refl _ _) (Nat.le_refl _) _
  replace Kx := zK Kx hbwa8
  replace Ky := zK Ky hbwa8
  replace HB := zB HB hbwa8
  replace HA := zH (HA.out.call hbwa8)
  replace HV := zH (HV.out.call hbwa8)
  replace HOa := zH (HOa.out.kept hbwa8)
  replace HPa := zH (HPa.out.kept hbwa8)
  replace HOb := zH (HOb.out.kept hbwa8)
  replace HPb := zH (HPb.out.kept hbwa8)
  replace HOc := zH (HOc.out.kept hbwa8)
  replace HPc := zH (HPc.out.kept hbwa8)
  have Kz : Hid (wa8.heap[wc7.heap.size]? = some (.cells #[.slice U1c b2.h.length u1c, .slice U2c b2.s.length u2c, .slice U3c b2.o.length u3c, .slice U4c b2.r.length u4c, .int .i64 b2.n] 27 (0, 0))) := by rw [← hwa8]; exact heap_new _ _
  clear hbwa8
  replace hwa8 := zH hwa8
  have hN := RowOwn.nilAt wa8 111 9
  rw [hswa8.out] at hN
  replace hN := zH hN
  have hA0 : Hid (Below wa8.heap.size wa8 (wa8.alloc (.cells #[] 111))) := zH (below_alloc (Below.refl _ _) (Nat.le_refl _) _)
  have hAt := zH (RowAt.call (zH HPa.out.row).out hA0.out)
  go_wp2_with (at_builtin; rw [hwa8.out]; refine wpList_unguard (by rfl) ?_; refine wpList_append_recs _ _ 52 111 (.agg #[.int .i64 0, .int .i64 0, .int .i64 0, .int .i64 0, .int .i64 0, .int .i64 0, .int .i64 0, .int .i64 0, .int .i64 0]) 9 72 el_Pair _ _ [] (P1) hN hAt (zH HPa.out.nilOk) ?lB rfl rfl rfl rfl ?ln1 (by decide) ?_)
  case lB => have h1 := hswa8.out; have h2 := hA0.out.size; omega
  case ln1 =>
    have hz1 := z1.out
    try simp only [List.length_nil, List.length_append]
    omega
  intro v1z w1z O1z G1z
  have hB1 : Hid (Below wa8.heap.size wa8 w1z) := zH (hA0.out.grown G1z.out hA0.out.size (fun j e => by have h1 := (hN.out.block e).1; have h2 := hswa8.out; omega))
  replace hAt := zH (RowAt.call (zH HPb.out.row).out hB1.out)
  clear hN
  go_wp2_with (at_builtin; refine wpList_unguard (by rfl) ?_; refine wpList_append_recs _ _ 52 111 (.agg #[.int .i64 0, .int .i64 0, .int .i64 0, .int .i64 0, .int .i64 0, .int .i64 0, .int .i64 0, .int .i64 0, .int .i64 0]) 9 72 el_Pair _ _ _ (P2) O1z hAt (zH HPb.out.nilOk) ?lB rfl rfl rfl rfl ?ln1 (by decide) ?_)
  case lB => have h1 := hswa8.out; have h2 := hB1.out.size; omega
  case ln1 =>
    have hz1 := z1.out
    try simp only [List.length_nil, List.length_append]
    omega
  intro vR wr9 HR G2
  have hb : Below wa8.heap.size wa8 wr9 := hB1.out.trans ((Below.refl _ _).grown G2.out hB1.out.size (fun j e => by have h1 := (O1z.out.block e).1; have h2 := hswa8.out; omega))
  replace Kx := zK Kx hb
  replace Ky := zK Ky hb
  replace Kz := zK Kz hb
  replace HB := zB HB hb
  replace HA := zH (HA.out.call hb)
  replace HV := zH (HV.out.call hb)
  replace HOa := zH (HOa.out.kept hb)
  replace HPa := zH (HPa.out.kept hb)
  replace HOb := zH (HOb.out.kept hb)
  replace HPb := zH (HPb.out.kept hb)
  replace HOc := zH (HOc.out.kept hb)
  replace HPc := zH (HPc.out.kept hb)
  clear hb hB1 hA0 hAt G2 O1z G1z hwa8 hswa8
  replace HR : Hid (RowAt wr9 vR 9 (P1 ++ P2)) := zH (by have h := HR.out.row; first | exact h | (rw [List.nil_append] at h; exact h))
  have hlp : (P1 ++ P2).length ≤ 1000000 := (by have hz1 := z1.out; rw [List.length_append]; omega)
  go_wp2_with fail
  with_reducible refine (pSame_eq _ _ _ _ HR (zH HPc.out.row) hlp).mono ?_
  rintro r wc10 ⟨rfl, hb⟩
  replace Kx := zK Kx hb
  replace Ky := zK Ky hb
  replace Kz := zK Kz hb
  replace HB := zB HB hb
  replace HA := zH (HA.out.call hb)
  replace HV := zH (HV.out.call hb)
  replace HOa := zH (HOa.out.kept hb)
  replace HPa := zH (HPa.out.kept hb)
  replace HOb := zH (HOb.out.kept hb)
  replace HPb := zH (HPb.out.kept hb)
  replace HOc := zH (HOc.out.kept hb)
  replace HPc := zH (HPc.out.kept hb)
  clear hb
  clear hlp HR
  have c_y_0 := zC Ky.out
  have lt_y := zL Ky.out
  have c_z_0 := zC Kz.out
  have lt_z := zL Kz.out
  go_wp2_with fail
  clear c_y_0 lt_y c_z_0 lt_z
  with_reducible refine (q4.out _ _ _ (zH HOb.out.at) (zH HOc.out.at)).mono ?_
  rintro r wc11 ⟨rfl, hb⟩
  replace Kx := zK Kx hb
  replace Ky := zK Ky hb
  replace Kz := zK Kz hb
  replace HB := zB HB hb
  replace HA := zH (HA.out.call hb)
  replace HV := zH (HV.out.call hb)
  replace HOa := zH (HOa.out.kept hb)
  replace HPa := zH (HPa.out.kept hb)
  replace HOb := zH (HOb.out.kept hb)
  replace HPb := zH (HPb.out.kept hb)
  replace HOc := zH (HOc.out.kept hb)
  replace HPc := zH (HPc.out.kept hb)
  clear hb
  have c_z_0 := zC Kz.out
  have lt_z := zL Kz.out
  have hn2 := z1.out.2.2.1
  go_wp2_with fail
  go_ret
  exact ⟨by first | rfl | simp, HB.out⟩
end Go.Proofs.YtjcdpmianmgiaaaGreatDoor
