/- Part 12 of what the claim rests on. -/
import Derived.Test.YtajogedbacpohaaGreatDoorE00
import Derived.Test.YtajogedbacpohaaGreatDoorE06
import Derived.Test.YtajogedbacpohaaGreatDoorE10
set_option linter.unusedVariables false
set_option linter.unusedSimpArgs false
set_option maxRecDepth 1000000
set_option maxHeartbeats 32000000
namespace Go.Proofs.YtajogedbacpohaaGreatDoor
section
open Go Go.RowKit
theorem zzau (v : Value) (b : Bk) (acc sym : Int) (w : World) (hb : Hid (BkAt w v b)) (hs : Hid b.Small) :
  Calls Tryz.prog 51 #[v, .int .i64 acc, .int .i64 sym] w fun e w' => e = .returned (.bool (thereB b acc sym)) ∧ Below w.heap.size w w' := by
 obtain ⟨vh, vs, vo, vr, rfl, r1, r2, r3, r4⟩ := hb.out;have lh : ∀ r ∈ b.h, r.length = 4 := by obtain ⟨_, _, _, h, _⟩ := r1; exact h
 have lr : ∀ r ∈ b.r, r.length = 2 := by obtain ⟨_, _, _, h, _⟩ := r4; exact h
 obtain ⟨rh, H0, hl1, hx1⟩ := zz16 lh (isId acc);obtain ⟨rr, R0, hl3, hx3⟩ := zz16 lr (isId sym)
 match rh, rr, hl1, hl3, hx1, hx3 with
 | [h0, h1, h2, h3], [p0, p1], _, _, hx1, hx3 =>
 have hres : thereB b acc sym = (H0 && R0) := by unfold thereB; rw [zz0q hx1, zz0q hx3]
 rw [hres];have HB0 : Hid (Below w.heap.size w (w.alloc (.cells #[vh, vs, vo, vr, b.n] 27))) := zBa;have K0 : Hid ((w.alloc (.cells #[vh, vs, vo, vr, b.n] 27)).heap[w.heap.size]? = some (.cells #[vh, vs, vo, vr, b.n] 27 (0, 0))) := zz02 _ _;have B0 : Hid (BkAt (w.alloc (.cells #[vh, vs, vo, vr, b.n] 27)) (.agg #[vh, vs, vo, vr, b.n]) b) := hb.out.call HB0.out;have HX1 := zH hx1;have HX3 := zH hx3;have F1 : b.h.length ≤ 1000000 := by have := hs.out; unfold Bk.Small at this; omega
 have F3 : b.r.length ≤ 1000000 := by have := hs.out; unfold Bk.Small at this; omega
 clear hb r1 r2 r3 r4 lh lr hx1 hx3 hres hs;go_in;go_wp2_with fail;(with_reducible refine (zz1j _ b acc h0 h1 h2 h3 H0 _ B0 F1 HX1).mono ?_);rintro e w1 ⟨rfl, hb⟩;have K1 := zK K0 hb;have hb' := hb.trans ((zz01 (Below.refl w1.heap.size w1) (Nat.le_refl _) (.cells #[h0, h1, h2, h3] 78)).mono hb.size);have B1 := zH (B0.out.call hb');have HB1 := zH (HB0.out.trans (hb'.mono HB0.out.size));clear hb hb';have a0 := zC K1.out;have hgl : w.heap.size < w1.heap.size := zL K1.out;go_wp2_with fail;(with_reducible refine (zz3s _ b sym p0 p1 R0 _ B1 F3 HX3).mono ?_);rintro e w2 ⟨rfl, hb⟩;have HB2 := zB HB1 hb;clear hb a0 hgl;exact zt102
theorem zt47 {p : Prop} (h : p := by
 have hR : Res = false := by rw [← hRes.out, decide_eq_true h]; simp
 subst hR;clear hRes h;go_wp2_with fail;go_ret;exact ⟨rfl, HB2.out⟩) : p := h
theorem zt57 {p : Prop} (h : p := by
 clear h hbadE;have hR : Res = false := by rw [← hRes2.out]; simp [E0.out, E1.out, E2.out, hrest.out, hst.out, hbad]
 subst hR;clear hst hbad hRes2 hrest;go_wp2_with fail;go_ret;exact ⟨rfl, HB2.out.trans (HBX.out.mono HB2.out.size)⟩) : p := h
theorem zt71 {p : Prop} (h : p := by
 have hbad : badH [y0, y1, y2, y3] = true := by show (decide (y2 < 0) || decide (y3 < 0)) = _; simp [h]
 clear h;have hR : Res = false := by rw [← hRes2.out]; simp [hrest.out, hst.out, hbad]
 subst hR;clear hst hbad hRes2 hrest;go_wp2_with fail;go_ret;exact ⟨rfl, HB2.out.trans (hBr.out.mono HB2.out.size)⟩) : p := h
theorem zt73 {p : Prop} (h : p := by
 go_wp2_with fail;go_roundw
 case rel => exact ⟨j + 1, by go_num, by show _ ≤ _; omega, hst2.out, HBq.out⟩
 case measure => simp [intOf]; omega) : p := h
theorem zt88 {p : Prop} (h : p := by
 go_wp2_with fail;(with_reducible refine QT.out.mono ?_);rintro e wq ⟨rfl, hb⟩;have HBq := zB HBX hb;clear hb;go_wp2_with fail;go_ret;exact ⟨rfl, HB2.out.trans (HBq.out.mono HB2.out.size)⟩) : p := h
theorem zt90 {p : Prop} (h : p := by
 refine wpQuiet_nil ?_;rintro wq ⟨y, rfl⟩;have HBq := zH (hBr.out.trans (y.below.mono hBr.out.size));go_wp2_with fail;go_ret;exact ⟨rfl, HB2.out.trans (HBq.out.mono HB2.out.size)⟩) : p := h
theorem zt93 {p : Prop} (h : p := by
 clear hst hbad;go_wp2_with fail;go_roundw
 case rel => exact ⟨j + 1, by go_num, by show _ ≤ _; omega, hst2.out, hBr.out⟩
 case measure => simp [intOf]; omega) : p := h
theorem zzax (v : Value) (b : Bk) (w : World) (hb : Hid (BkAt w v b)) (hs : Hid b.Small) :
  Calls Tryz.prog 17 #[v] w fun e w' => e = .returned (.bool b.mayB) ∧ Below w.heap.size w w' := by
 obtain ⟨vh, vs, vo, vr, rfl, g1, g2, g3, g4⟩ := hb.out;obtain ⟨Ah, ch, rfl, -⟩ := g1;obtain ⟨As, cs, rfl, -⟩ := g2;obtain ⟨Ao, co, rfl, -⟩ := g3;obtain ⟨Ar, cr, rfl, -⟩ := g4;obtain ⟨w1, hw1⟩ : ∃ w1, w.alloc (.cells (BF Ah ch As cs Ao co Ar cr b b.n) 27) = w1 := ⟨_, rfl⟩;have HB : Hid (Below w.heap.size w w1) := by rw [← hw1]; exact zBa
 have K : ZB w1 w.heap.size (BF Ah ch As cs Ao co Ar cr b b.n) 27 := by rw [← hw1]; exact zz02 w _
 have BA : Hid (BkAt w1 (.agg (BF Ah ch As cs Ao co Ar cr b b.n)) b) := hb.out.call HB.out;have hl : b.h.length ≤ 1000000 ∧ b.s.length ≤ 1000000 ∧ b.o.length ≤ 1000000 ∧ b.r.length ≤ 1000000 := by have := hs.out; unfold Bk.Small at this; omega
 obtain ⟨hlh, hls, hlo, hlr⟩ := hl;obtain ⟨Res, hRes⟩ : ∃ Res, b.mayB = Res := ⟨_, rfl⟩;rw [hRes];unfold Bk.mayB Bk.countB Bk.listsB at hRes;replace hRes := zH hRes;replace hw1 := zH hw1;have qr := zH (fun u wz h => rRise_any u b wz h hs)
 have qt := zH (fun u acc sym wz h => zzau u b acc sym wz h hs)
 obtain ⟨RB, hRB⟩ : ∃ RB, b.riseB = RB := ⟨_, rfl⟩;rw [hRB] at hRes qr;clear hb hs hRB;go_in;go_wp2_with fail;rw [hw1.out];(with_reducible refine (qr.out _ _ BA).mono ?_);rintro e w2 ⟨rfl, hb⟩;have K2 := zK K hb;have BA2 := zH (BA.out.call hb);have HB2 := zB HB hb;clear hb qr;have a0 := zC K2.out;cases RB with
 | false =>
  have hR : Res = false := by rw [← hRes.out]; simp
  subst hR;clear hRes;go_wp2_with fail;go_ret;exact ⟨rfl, HB2.out⟩
 | true =>
 by_cases h : 32 < b.h.length
 ·have t : decide ((32 : Int) < (b.h.length : Int)) = true := decide_eq_true zw
  exact zt47
 have t0 : decide ((32 : Int) < (b.h.length : Int)) = false := decide_eq_false zw;have h0 := zH (decide_eq_false h);clear h;by_cases h : 64 < b.o.length
 ·have t : decide ((64 : Int) < (b.o.length : Int)) = true := decide_eq_true zw
  exact zt47
 have t1 : decide ((64 : Int) < (b.o.length : Int)) = false := decide_eq_false zw;have h1 := zH (decide_eq_false h);clear h;by_cases h : 32 < b.r.length
 ·have t : decide ((32 : Int) < (b.r.length : Int)) = true := decide_eq_true zw
  exact zt47
 have t2 : decide ((32 : Int) < (b.r.length : Int)) = false := decide_eq_false zw;have h2 := zH (decide_eq_false h);clear h;by_cases h : b.n < 0
 ·have t : decide (b.n < 0) = true := decide_eq_true zw
  exact zt47
 have t3 : decide (b.n < 0) = false := decide_eq_false zw;have h3 := zH (decide_eq_false h);clear h;by_cases h : 1099511627776 < b.n
 ·have t : decide (1099511627776 < b.n) = true := decide_eq_true zw
  exact zt47
 have t4 : decide (1099511627776 < b.n) = false := decide_eq_false zw;have h4 := zH (decide_eq_false h);clear h;have hRes2 : Hid ((!b.h.any badH && (!b.r.any badR && (!b.s.any (badS b) && !b.o.any (badO b)))) = Res) := (by
  have h := hRes.out;rw [h0.out, h1.out, h2.out, h3.out, h4.out] at h;show _ = _;simpa using h)
 clear hRes h0 h1 h2 h3 h4;obtain ⟨_, _, _, _, hh, g1, g2, g3, g4⟩ := BA2.out;injection hh with hh
 simp only [Array.mk.injEq, List.cons.injEq] at hh;obtain ⟨rfl, rfl, rfl, rfl, _⟩ := hh;have R0 := zH g1.rec';have R1 := zH g2.rec';have R2 := zH g3.rec';have R3 := zH g4.rec';clear g1 g2 g3 g4;go_wp2_with fail;clear t0 t1 t2 t3 t4 a0;go_loopw [3] (fun s6 wr => ∃ j : Nat, s6 = .int .i64 (j : Int) ∧ Hid (j ≤ b.h.length) ∧ Hid (b.h.any (badH) = (b.h.drop j).any (badH)) ∧ Hid (Below w2.heap.size w2 wr)) (fun s6 _ => b.h.length - (intOf s6).toNat)
 case atStart => exact ⟨0, rfl, Nat.zero_le _, rfl, Below.refl _ _⟩
 case round =>
  obtain ⟨j, rfl, hjl, hrest, hBr⟩ := hrel;replace hjl := hjl.out;have lK := Nat.lt_of_lt_of_le (zL K2.out) hBr.out.size;have cb := zz00 (zK K2 hBr.out).out 0 _ rfl;by_cases hin : j < b.h.length
  ·have tn : decide ((j : Int) < (b.h.length : Int)) = true := decide_eq_true zw
   have hge : b.h[j]? = some b.h[j] := List.getElem?_eq_getElem hin;obtain ⟨A', c', hA', hi⟩ := R0.out;injection hA' with hA1 hA2 hA3
   subst hA1 hA3;obtain ⟨hk, b0, o0, hA0, hbl, hc⟩ := hi j _ hge;subst hA0;have hst : Hid ((b.h.drop j).any (badH) = (badH b.h[j] || (b.h.drop (j + 1)).any (badH))) := (show _ = _ from by rw [List.drop_eq_getElem_cons hin, List.any_cons])
   clear hge hA2 hi;generalize b.h[j] = r at *;obtain ⟨y0, y1, y2, y3, rfl⟩ : ∃ y0 y1 y2 y3, r = [y0, y1, y2, y3] := by
    match r, hk with
    | [y0, y1, y2, y3], _ => exact ⟨y0, y1, y2, y3, rfl⟩
   have hb3 : (j : Int) < (b.h.length : Int) := by omega
   have hb4 : (0 : Int) ≤ (j : Int) := by omega
   have hbl3 : b0 < wr.heap.size := Nat.lt_of_lt_of_le hbl hBr.out.size;obtain ⟨c0, c1, c2, c3⟩ := zR4 hBr.out hbl hc;clear hc hk;by_cases h : y2 < 0
   ·have t : decide (y2 < 0) = true := decide_eq_true h
    exact zt71
   have uy2 : decide (y2 < 0) = false := decide_eq_false h;have huy2 : ¬ (y2 < 0) := h;clear h;by_cases h : y3 < 0
   ·have t : decide (y3 < 0) = true := decide_eq_true h
    exact zt71
   have uy3 : decide (y3 < 0) = false := decide_eq_false h;have huy3 : ¬ (y3 < 0) := h;clear h;have hbad : badH [y0, y1, y2, y3] = false := by show (decide (y2 < 0) || decide (y3 < 0)) = _; simp [huy2, huy3]
   clear huy2 huy3;have hst2 : Hid (b.h.any (badH) = (b.h.drop (j + 1)).any (badH)) := (show _ = _ from by rw [hrest.out, hst.out, hbad, Bool.false_or])
   exact zt93
  ·have tn : decide ((j : Int) < (b.h.length : Int)) = false := decide_eq_false zw
   have E0 : Hid (b.h.any (badH) = false) := (show _ = _ from by rw [hrest.out, List.drop_eq_nil_of_le zw]; rfl)
   have hBr0 := hBr;clear hrest hBr hjl;go_wp2_with fail;go_loopw [4] (fun s6 wr => ∃ j : Nat, s6 = .int .i64 (j : Int) ∧ Hid (j ≤ b.r.length) ∧ Hid (b.r.any (badR) = (b.r.drop j).any (badR)) ∧ Hid (Below w2.heap.size w2 wr)) (fun s6 _ => b.r.length - (intOf s6).toNat)
   case atStart => exact ⟨0, rfl, Nat.zero_le _, rfl, hBr0.out⟩
   case round =>
    obtain ⟨j, rfl, hjl, hrest, hBr⟩ := hrel;replace hjl := hjl.out;have lK := Nat.lt_of_lt_of_le (zL K2.out) hBr.out.size;have cb := zz00 (zK K2 hBr.out).out 3 _ rfl;by_cases hin : j < b.r.length
    ·have tn : decide ((j : Int) < (b.r.length : Int)) = true := decide_eq_true zw
     have hge : b.r[j]? = some b.r[j] := List.getElem?_eq_getElem hin;obtain ⟨A', c', hA', hi⟩ := R3.out;injection hA' with hA1 hA2 hA3
     subst hA1 hA3;obtain ⟨hk, b0, o0, hA0, hbl, hc⟩ := hi j _ hge;subst hA0;have hst : Hid ((b.r.drop j).any (badR) = (badR b.r[j] || (b.r.drop (j + 1)).any (badR))) := (show _ = _ from by rw [List.drop_eq_getElem_cons hin, List.any_cons])
     clear hge hA2 hi;generalize b.r[j] = r at *;obtain ⟨y0, y1, rfl⟩ : ∃ y0 y1, r = [y0, y1] := by
      match r, hk with
      | [y0, y1], _ => exact ⟨y0, y1, rfl⟩
     have hb3 : (j : Int) < (b.r.length : Int) := by omega
     have hb4 : (0 : Int) ≤ (j : Int) := by omega
     have hbl3 : b0 < wr.heap.size := Nat.lt_of_lt_of_le hbl hBr.out.size;obtain ⟨c0, c1⟩ := zR2 hBr.out hbl hc;clear hc hk;by_cases h : y1 < 1
     ·have t : decide (y1 < 1) = true := decide_eq_true h
      have hbad : badR [y0, y1] = true := by show (decide (y1 < 1)) = _; simp [h]
      clear h;have hR : Res = false := by rw [← hRes2.out]; simp [E0.out, hrest.out, hst.out, hbad]
      subst hR;clear hst hbad hRes2 hrest;go_wp2_with fail;go_ret;exact ⟨rfl, HB2.out.trans (hBr.out.mono HB2.out.size)⟩
     have uy1 : decide (y1 < 1) = false := decide_eq_false h;have huy1 : ¬ (y1 < 1) := h;clear h;have hbad : badR [y0, y1] = false := by show (decide (y1 < 1)) = _; simp [huy1]
     clear huy1;have hst2 : Hid (b.r.any (badR) = (b.r.drop (j + 1)).any (badR)) := (show _ = _ from by rw [hrest.out, hst.out, hbad, Bool.false_or])
     exact zt93
    ·have tn : decide ((j : Int) < (b.r.length : Int)) = false := decide_eq_false zw
     have E1 : Hid (b.r.any (badR) = false) := (show _ = _ from by rw [hrest.out, List.drop_eq_nil_of_le zw]; rfl)
     have hBr1 := hBr;clear hrest hBr hjl;go_wp2_with fail;go_loopw [5] (fun s6 wr => ∃ j : Nat, s6 = .int .i64 (j : Int) ∧ Hid (j ≤ b.s.length) ∧ Hid (b.s.any (badS b) = (b.s.drop j).any (badS b)) ∧ Hid (Below w2.heap.size w2 wr)) (fun s6 _ => b.s.length - (intOf s6).toNat)
     case atStart => exact ⟨0, rfl, Nat.zero_le _, rfl, hBr1.out⟩
     case round =>
      obtain ⟨j, rfl, hjl, hrest, hBr⟩ := hrel;replace hjl := hjl.out;have lK := Nat.lt_of_lt_of_le (zL K2.out) hBr.out.size;have cb := zz00 (zK K2 hBr.out).out 1 _ rfl;by_cases hin : j < b.s.length
      ·have tn : decide ((j : Int) < (b.s.length : Int)) = true := decide_eq_true zw
       have hge : b.s[j]? = some b.s[j] := List.getElem?_eq_getElem hin;obtain ⟨A', c', hA', hi⟩ := R1.out;injection hA' with hA1 hA2 hA3
       subst hA1 hA3;obtain ⟨hk, b0, o0, hA0, hbl, hc⟩ := hi j _ hge;subst hA0;have hst : Hid ((b.s.drop j).any (badS b) = (badS b b.s[j] || (b.s.drop (j + 1)).any (badS b))) := (show _ = _ from by rw [List.drop_eq_getElem_cons hin, List.any_cons])
       clear hge hA2 hi;generalize b.s[j] = r at *;obtain ⟨y0, y1, y2, rfl⟩ : ∃ y0 y1 y2, r = [y0, y1, y2] := by
        match r, hk with
        | [y0, y1, y2], _ => exact ⟨y0, y1, y2, rfl⟩
       have hb3 : (j : Int) < (b.s.length : Int) := by omega
       have hb4 : (0 : Int) ≤ (j : Int) := by omega
       have hbl3 : b0 < wr.heap.size := Nat.lt_of_lt_of_le hbl hBr.out.size;obtain ⟨c0, c1, c2⟩ := zR3 hBr.out hbl hc;clear hc hk;have BAr := zH (BA2.out.call hBr.out);have a0 := zC (zK K2 hBr.out).out;have hbadE : badS b [y0, y1, y2] = (decide (y2 = 0) || !thereB b y0 y1) := rfl
       by_cases h : y2 = 0
       ·have t : (y2 == 0) = true := by simp [h]
        have hbad : badS b [y0, y1, y2] = true := by rw [hbadE, decide_eq_true h]; rfl
        clear h hbadE;have hR : Res = false := by rw [← hRes2.out]; simp [E0.out, E1.out, hrest.out, hst.out, hbad]
        subst hR;clear hst hbad hRes2 hrest;go_wp2_with fail;refine zz0r zk zk ?_
        repeat (go_big_quiet_step (fail))
        exact zt90
       have t : (y2 == 0) = false := by simp [h]
       rw [decide_eq_false h, Bool.false_or] at hbadE;clear h;have QT : Hid (∀ x : ExtOf wr, Calls _ _ _ x.w _) := fun x : ExtOf wr => qt.out _ y0 y1 x.w (BAr.out.call x.below)
       cases hth : thereB b y0 y1 with
       | false =>
        rw [hth] at QT;have hbad : badS b [y0, y1, y2] = true := by rw [hbadE, hth]; rfl
        clear hth hbadE;have hR : Res = false := by rw [← hRes2.out]; simp [E0.out, E1.out, hrest.out, hst.out, hbad]
        subst hR;clear hst hbad hRes2 hrest;go_wp2_with fail;refine zz0r zk zk ?_
        repeat (go_big_quiet_step (with_reducible exact zz1r (QT.out _)))
        exact zt90
       | true =>
        rw [hth] at QT;have hbad : badS b [y0, y1, y2] = false := by rw [hbadE, hth]; rfl
        clear hth hbadE;have hst2 : Hid (b.s.any (badS b) = (b.s.drop (j + 1)).any (badS b)) := (show _ = _ from by rw [hrest.out, hst.out, hbad, Bool.false_or])
        clear hst hbad;go_wp2_with fail;refine zz0r zk zk ?_
        repeat (go_big_quiet_step (with_reducible exact zz1r (QT.out _)))
        refine wpQuiet_nil ?_;rintro wq ⟨y, rfl⟩;have HBq := zH (hBr.out.trans (y.below.mono hBr.out.size));exact zt73
      ·have tn : decide ((j : Int) < (b.s.length : Int)) = false := decide_eq_false zw
       have E2 : Hid (b.s.any (badS b) = false) := (show _ = _ from by rw [hrest.out, List.drop_eq_nil_of_le zw]; rfl)
       have hBr2 := hBr;clear hrest hBr hjl;go_wp2_with fail;go_loopw [6] (fun s6 wr => ∃ j : Nat, s6 = .int .i64 (j : Int) ∧ Hid (j ≤ b.o.length) ∧ Hid (b.o.any (badO b) = (b.o.drop j).any (badO b)) ∧ Hid (Below w2.heap.size w2 wr)) (fun s6 _ => b.o.length - (intOf s6).toNat)
       case atStart => exact ⟨0, rfl, Nat.zero_le _, rfl, hBr2.out⟩
       case round =>
        obtain ⟨j, rfl, hjl, hrest, hBr⟩ := hrel;replace hjl := hjl.out;have lK := Nat.lt_of_lt_of_le (zL K2.out) hBr.out.size;have cb := zz00 (zK K2 hBr.out).out 2 _ rfl;by_cases hin : j < b.o.length
        ·have tn : decide ((j : Int) < (b.o.length : Int)) = true := decide_eq_true zw
         have hge : b.o[j]? = some b.o[j] := List.getElem?_eq_getElem hin;obtain ⟨A', c', hA', hi⟩ := R2.out;injection hA' with hA1 hA2 hA3
         subst hA1 hA3;obtain ⟨hk, b0, o0, hA0, hbl, hc⟩ := hi j _ hge;subst hA0;have hst : Hid ((b.o.drop j).any (badO b) = (badO b b.o[j] || (b.o.drop (j + 1)).any (badO b))) := (show _ = _ from by rw [List.drop_eq_getElem_cons hin, List.any_cons])
         clear hge hA2 hi;generalize b.o[j] = r at *;obtain ⟨y0, y1, y2, y3, y4, y5, rfl⟩ : ∃ y0 y1 y2 y3 y4 y5, r = [y0, y1, y2, y3, y4, y5] := by
          match r, hk with
          | [y0, y1, y2, y3, y4, y5], _ => exact ⟨y0, y1, y2, y3, y4, y5, rfl⟩
         have hb3 : (j : Int) < (b.o.length : Int) := by omega
         have hb4 : (0 : Int) ≤ (j : Int) := by omega
         have hbl3 : b0 < wr.heap.size := Nat.lt_of_lt_of_le hbl hBr.out.size;obtain ⟨c0, c1, c2, c3, c4, c5⟩ := zR6 hBr.out hbl hc;clear hc hk;have BAr := zH (BA2.out.call hBr.out);have a0 := zC (zK K2 hBr.out).out;have hbx : Below w2.heap.size w2 (wr.alloc (.cells #[y0, y1, y2, y3, y4, y5] 82)) := zz01 hBr.out hBr.out.size _;have HBX := zH hbx;have BAx := zH (BA2.out.call hbx);clear hbx;have hbadE : badO b [y0, y1, y2, y3, y4, y5] = (decide (y4 < 1) || (decide (y5 < 1) || (decide (y3 < 0) || (decide (1 < y3) || !thereB b y1 y2)))) := rfl
         by_cases h : y4 < 1
         ·have t : decide (y4 < 1) = true := decide_eq_true h
          have hbad : badO b [y0, y1, y2, y3, y4, y5] = true := by rw [hbadE]; simp [h]
          exact zt57
         have uy4 : decide (y4 < 1) = false := decide_eq_false h;rw [decide_eq_false h, Bool.false_or] at hbadE;clear h;by_cases h : y5 < 1
         ·have t : decide (y5 < 1) = true := decide_eq_true h
          have hbad : badO b [y0, y1, y2, y3, y4, y5] = true := by rw [hbadE]; simp [h]
          exact zt57
         have uy5 : decide (y5 < 1) = false := decide_eq_false h;rw [decide_eq_false h, Bool.false_or] at hbadE;clear h;by_cases h : y3 ≠ 0 ∧ y3 ≠ 1
         ·have ta : (y3 != 0) = true := by simp [h.1]
          have tb : (y3 != 1) = true := by simp [h.2]
          have hbad : badO b [y0, y1, y2, y3, y4, y5] = true := by
           rw [hbadE];by_cases h3 : y3 < 0
           ·simp [h3]
           ·have h4 : 1 < y3 := by omega
            simp [h4]
          exact zt57
         have hbadE2 : badO b [y0, y1, y2, y3, y4, y5] = !thereB b y1 y2 := by
          rw [hbadE, decide_eq_false (show ¬ y3 < 0 by omega), decide_eq_false (show ¬ 1 < y3 by omega)]
          rfl
         clear hbadE;have QT := zH (qt.out _ y1 y2 _ BAx);have h33 : y3 = 0 ∨ y3 = 1 := by omega
         clear h;generalize thereB b y1 y2 = TT at *;cases TT with
         | false =>
          have hbad : badO b [y0, y1, y2, y3, y4, y5] = true := hbadE2;clear hbadE2;have hR : Res = false := by rw [← hRes2.out]; simp [E0.out, E1.out, E2.out, hrest.out, hst.out, hbad]
          subst hR;clear hst hbad hRes2 hrest;rcases h33 with rfl | rfl
          ·have ta : ((0 : Int) != 0) = false := rfl
           exact zt88
          ·have ta : ((1 : Int) != 0) = true := rfl
           have tb : ((1 : Int) != 1) = false := rfl;exact zt88
         | true =>
          have hbad : badO b [y0, y1, y2, y3, y4, y5] = false := hbadE2;clear hbadE2;have hst2 : Hid (b.o.any (badO b) = (b.o.drop (j + 1)).any (badO b)) := (show _ = _ from by rw [hrest.out, hst.out, hbad, Bool.false_or])
          clear hst hbad;rcases h33 with rfl | rfl
          ·have ta : ((0 : Int) != 0) = false := rfl
           go_wp2_with fail;(with_reducible refine QT.out.mono ?_);rintro e wq ⟨rfl, hb⟩;have HBq := zB HBX hb;clear hb;exact zt73
          ·have ta : ((1 : Int) != 0) = true := rfl
           have tb : ((1 : Int) != 1) = false := rfl;go_wp2_with fail;(with_reducible refine QT.out.mono ?_);rintro e wq ⟨rfl, hb⟩;have HBq := zB HBX hb;clear hb;exact zt73
        ·have tn : decide ((j : Int) < (b.o.length : Int)) = false := decide_eq_false zw
         have E3 : Hid (b.o.any (badO b) = false) := (show _ = _ from by rw [hrest.out, List.drop_eq_nil_of_le zw]; rfl)
         have hBr3 := hBr;clear hrest hBr hjl;go_wp2_with fail;have hR : Res = true := by rw [← hRes2.out, E0.out, E1.out, E2.out, E3.out]; rfl
         subst hR;go_ret;exact ⟨rfl, HB2.out.trans (hBr3.out.mono HB2.out.size)⟩
end
section

section
open Go Go.RowKit Bg Mon
theorem bigB {X : Int} (h : X.natAbs ≤ 4000000 * 85070591730234615865843651857942052864) : X.natAbs < 10000 ^ 40 := small40 zw
theorem zz47 (a b : Int) (ha : I64 a) (hb : I64 b) (w : World) :
  Calls Tryz.prog 110 #[.int .i64 a, .int .i64 b] w fun e w' => (∃ v, e = .returned v ∧ BigAt w' v (a * b)) ∧ Below w.heap.size w w' := by
 have b1 : a.natAbs < 10000 ^ 40 := bigB (by unfold I64 at ha; omega)
 have b2 : b.natAbs < 10000 ^ 40 := bigB (by unfold I64 at hb; omega)
 have fP := zH (fun w => zz33 a ha w)
 have fQ := zH (fun w => zz33 b hb w)
 have fM := zH (fun x y w h1 h2 => zz8c x y a b w h1 h2 b1 b2)
 have HB0 : Hid (Below w.heap.size w (w.alloc (.cells #[.bool false, .slice none 0 0] 143))) := zBa;have K0 : Hid (BigBlk (w.alloc (.cells #[.bool false, .slice none 0 0] 143)) w.heap.size false (.slice none 0 0)) := BigBlk.mk w w.heap.size false (.slice none 0 0) rfl;clear b1 b2;go_in;go_wp2_with fail;(with_reducible refine (fP.out _).mono ?_);rintro e w1 ⟨⟨v1, rfl, hv1⟩, hb1⟩;have V1 := zH hv1;have K1 := zH (K0.out.call hb1);have HB1 := zB HB0 hb1;clear hv1 hb1;go_wp2_with fail;(with_reducible refine (fQ.out _).mono ?_);rintro e w2 ⟨⟨v2, rfl, hv2⟩, hb2⟩;have V2 := zH hv2;have V1' := zH (V1.out.call hb2);have K2 := zH (K1.out.call hb2);have HB2 := zB HB1 hb2;clear hv2 hb2;go_wp2_with fail;(with_reducible refine (fM.out _ _ _ V1' V2).mono ?_);rintro e w3 ⟨⟨v3, rfl, hv3⟩, hb3⟩;obtain ⟨t, A, n, c, rfl⟩ := hv3.form;have V3 := zH hv3;have K3 := zH (K2.out.call hb3);have HB3 := zB HB2 hb3;clear hv3 hb3;have e0 := K3.out.c0;have e1 := K3.out.c1;have e2 := K3.out.z 0;have e3 := K3.out.z 1;go_wp2_with fail;have KV := zH (V3.out.store K3.out);have K4 := zH ((K3.out.set0 t).set1 (.slice A n c));have HB4 := zH ((HB3.out.setCell (p := ⟨w.heap.size, 0, none⟩) (Nat.le_refl _) (.bool t)).setCell (p := ⟨w.heap.size, 1, none⟩) (Nat.le_refl _) (.slice A n c));have g0 := K4.out.c0;have g1 := K4.out.c1;refine bodyPost_ret (v := .agg #[.bool t, .slice A n c]) ?_ rfl ⟨⟨_, rfl, KV.out⟩, HB4.out⟩;simp [results, Tryz.results110, go_sem, g0, g1]
theorem zz1m {k : Nat} {l : List (List Int)} {E : List Int → Bool} {r : List Int} {F : Bool} (hl : ∀ r ∈ l, ∀ x ∈ r, I64 x) (h : recOf k (l.find? E) = (r, F)) : ∀ x ∈ r, I64 x := by
 intro x hx;cases hf : l.find? E with
 | none =>
  rw [hf] at h;injection h with e1 e2
  rw [← e1] at hx;rw [List.eq_of_mem_replicate hx]; unfold I64; omega
 | some q =>
  rw [hf] at h;injection h with e1 e2
  subst e1;exact hl _ (List.mem_of_find?_eq_some hf) x hx
theorem zt21 {p : Prop} (h : p := by
 go_roundw
 case rel => exact ⟨j + 1, Z, t, B, m, d, by go_num, by show _ ≤ _; omega, KX.out, KV.out, HS2.out, HZ2.out, KB.out, hBr.out⟩
 case measure => simp [intOf]; omega) : p := h
theorem zt30 {p : Prop} (h : p := by
 go_wp2_with fail;refine zQs (fun h => absurd h zx) ?_
 refine ⟨by kernel_rfl, ?_⟩
 rw [zz1e];have KV := zH (V6.out.store KX.out);replace KX := zH ((KX.out.set0 t6).set1 (.slice B6 m6 d6));replace KB : Hid ((((wc2.setCell ⟨G, 0, none⟩ (.bool t6)).setCell ⟨G, 1, none⟩ (.slice B6 m6 d6))).heap[w.heap.size]? = _) := zz09 (zz09 KB.out _ _ (by have := HGw.out; omega)) _ _ (by have := HGw.out; omega)
 replace hBr := zH ((hBr.out.setCell (p := ⟨G, 0, none⟩) (by have := HGw.out; show w.heap.size ≤ G; omega) (.bool t6)).setCell (p := ⟨G, 1, none⟩) (by have := HGw.out; show w.heap.size ≤ G; omega) (.slice B6 m6 d6))
 clear V6 e0 e1 e2 e3;go_wp2_with fail;go_roundw
 case rel => exact ⟨j + 1, _, _, _, _, _, by go_num, by show _ ≤ _; omega, KX.out, KV.out, HS2.out, HZ2.out, KB.out, hBr.out⟩
 case measure => simp [intOf]; omega) : p := h
theorem zz9n (v : Value) (b : Bk) (acc : Int) (w : World) (hb : Hid (BkAt w v b)) (hs : Hid b.Small) (hi : Hid b.I64s) :
  Calls Tryz.prog 107 #[v, .int .i64 acc] w fun e w' => e = .returned (.tuple #[.int .i64 (fitsP (cashOf b acc + sumQ (heldP b acc b.s))).1, .bool (fitsP (cashOf b acc + sumQ (heldP b acc b.s))).2]) ∧ Below w.heap.size w w' := by
 obtain ⟨vh, vs, vo, vr, rfl, g1, g2, g3, g4⟩ := hb.out;have LH : Hid (∀ r ∈ b.h, r.length = 4) := (by obtain ⟨_, _, _, h, _⟩ := g1; exact h)
 have LR : Hid (∀ r ∈ b.r, r.length = 2) := (by obtain ⟨_, _, _, h, _⟩ := g4; exact h)
 obtain ⟨A2, c2, rfl, hi2⟩ := g2.rec';have HI := zH hi2;clear g1 g2 g3 g4 hi2;have HB1 : Hid (Below w.heap.size w (w.alloc (.cells #[vh, .slice A2 b.s.length c2, vo, vr, b.n] 27))) := zBa;have K1 : Hid ((w.alloc (.cells #[vh, .slice A2 b.s.length c2, vo, vr, b.n] 27)).heap[w.heap.size]? = some (.cells #[vh, .slice A2 b.s.length c2, vo, vr, b.n] 27 (0, 0))) := zz02 _ _;have B1 : Hid (BkAt (w.alloc (.cells #[vh, .slice A2 b.s.length c2, vo, vr, b.n] 27)) (.agg #[vh, .slice A2 b.s.length c2, vo, vr, b.n]) b) := hb.out.call HB1.out;have hls : b.s.length ≤ 999998 := by have := hs.out; unfold Bk.Small at this; omega
 have hlh : b.h.length ≤ 1000000 := by have := hs.out; unfold Bk.Small at this; omega
 have hlr : b.r.length ≤ 1000000 := by have := hs.out; unfold Bk.Small at this; omega
 obtain ⟨rh, F, hl1, hx1⟩ := zz16 LH.out (isId acc)
 match rh, hl1, hx1 with
 | [h0, h1, h2, h3], _, hx1 =>
 have hc : cashOf b acc = h1 := by unfold cashOf; rw [hx1]; rfl
 have hI1 : I64 h1 := zz1m hi.out.1 hx1 h1 (by simp)
 rw [hc];obtain ⟨X, hX⟩ : ∃ X, h1 + sumQ (heldP b acc b.s) = X := ⟨_, rfl⟩;rw [hX];have HX := zH hX;have qh := zH (zz1j _ b acc h0 h1 h2 h3 F _ B1 hlh hx1);have qo := zH (fun w => zz33 h1 hI1 w)
 have BO := hb;have HI1 := zH hI1;clear hb hx1 hc hX hI1 B1;go_in;go_wp2_with fail;(with_reducible refine qh.out.mono ?_);rintro e w2 ⟨rfl, hb2⟩;have hb' := hb2.trans ((zz01 (Below.refl w2.heap.size w2) (Nat.le_refl _) (.cells #[h0, h1, h2, h3] 78)).mono hb2.size);have K2 := zH (zz06 K1.out hb');have HB2 := zH (HB1.out.trans (hb'.mono HB1.out.size));clear hb2 hb' qh;go_wp2_with fail;(with_reducible refine (qo.out _).mono ?_);rintro e w3 ⟨⟨v3, rfl, hv3⟩, hb3⟩;obtain ⟨t, B, m, d, rfl⟩ := hv3.form;have V3 := zH hv3;have K3 := zK K2 hb3;have HB3 := zB HB2 hb3;clear hv3 hb3 qo;obtain ⟨G, hG⟩ : ∃ G, w3.heap.size = G := ⟨_, rfl⟩;have hbx : Below w3.heap.size w3 (w3.alloc (.cells #[.bool t, .slice B m d] 143)) := zBa;have K4 := zK K3 hbx;have HB4 := zB HB3 hbx;have V4 := zH (V3.out.call hbx);have X4 := zH (BigBlk.mk w3 G t (.slice B m d) hG);have HGw : Hid (w.heap.size < G) := (show _ < _ from by have := (zL K3.out); omega)
 clear hbx V3 K3 HB3;go_wp2_with fail;generalize w3.alloc (.cells #[.bool t, .slice B m d] 143) = w4 at *;clear hG;go_loopw [9, 10, 11] (fun s9 _ _ wr => ∃ (j : Nat) (Z : Int) (t : Bool) (B : Option Addr) (m d : Nat), s9 = .int .i64 (j : Int) ∧ Hid (j ≤ b.s.length) ∧ Hid (BigBlk wr G t (.slice B m d)) ∧ Hid (BigAt wr (.agg #[.bool t, .slice B m d]) Z) ∧ Hid (Z + sumQ (heldP b acc (b.s.drop j)) = X) ∧ Hid (Z.natAbs ≤ (j + 1) * 85070591730234615865843651857942052864) ∧ ZB wr w.heap.size #[vh, .slice A2 b.s.length c2, vo, vr, b.n] 27 ∧ Hid (Below w.heap.size w wr)) (fun s9 _ _ _ => b.s.length - (intOf s9).toNat)
 case atStart => exact ⟨0, h1, t, B, m, d, rfl, Nat.zero_le _, X4.out, V4.out, HX.out, by have := HI1.out; unfold I64 at this; show _ ≤ _; omega, K4.out, HB4.out⟩
 case round =>
  clear X4 V4 K4 HB4;obtain ⟨j, Z, t, B, m, d, rfl, hjl, KX, KV, hrest, hZ, KB, hBr⟩ := hrel;replace hjl := hjl.out;have cb := zz00 KB.out 1 _ rfl;have lK := zL KB.out;by_cases hin : j < b.s.length
  ·have tn : decide ((j : Int) < (b.s.length : Int)) = true := decide_eq_true zw
   have hge : b.s[j]? = some b.s[j] := List.getElem?_eq_getElem hin;obtain ⟨hk, b0, o0, hA0, hbl, hc⟩ := HI.out j _ hge;subst hA0;have HS := zH (zz4l (b := b) (acc := acc) hge);have HM : Hid (∀ x ∈ b.s[j], I64 x) := (show ∀ x ∈ b.s[j], I64 x from hi.out.2.1 _ (List.getElem_mem hin))
   clear hge;generalize b.s[j] = r at *;obtain ⟨y0, y1, y2, rfl⟩ : ∃ y0 y1 y2, r = [y0, y1, y2] := by
    match r, hk with
    | [y0, y1, y2], _ => exact ⟨y0, y1, y2, rfl⟩
   have hb3 : (j : Int) < (b.s.length : Int) := by omega
   have hb4 : (0 : Int) ≤ (j : Int) := by omega
   have hbl3 : b0 < wr.heap.size := Nat.lt_of_lt_of_le hbl hBr.out.size;have HCC := zH hc;obtain ⟨d0, d1, d2⟩ := zR3 hBr.out hbl hc;clear hc hk;by_cases hq : y0 = acc
   ·have tq : (y0 == acc) = true := by simp [hq]
    obtain ⟨rr, R0, hl3, hx3⟩ := zz16 LR.out (isId y1)
    match rr, hl3, hx3 with
    | [p0, p1], _, hx3 =>
    have hpr : priceOf b y1 = p1 := by unfold priceOf; rw [hx3]; rfl
    have HP1 : Hid (I64 p1) := zz1m hi.out.2.2.2 hx3 p1 (by simp)
    have HQ2 : Hid (I64 y2) := HM.out y2 (by simp)
    have HS2 : Hid (Z + y2 * p1 + sumQ (heldP b acc (b.s.drop (j + 1))) = X) := (show _ = _ from by
     rw [← hrest.out, HS.out, if_pos (show ([y0, y1, y2] : List Int).headD 0 = acc from hq)]
     show _ = Z + (y2 * priceOf b y1 + _);rw [hpr]; omega)
    have HZ2 : Hid ((Z + y2 * p1).natAbs ≤ (j + 1 + 1) * 85070591730234615865843651857942052864) := (show _ ≤ _ from by
     have h1' := hZ.out;have h2' := prodB HQ2.out HP1.out;omega)
    have hjj : (j + 1 + 1) * 85070591730234615865843651857942052864 ≤ 1000000 * 85070591730234615865843651857942052864 := Nat.mul_le_mul_right _ zw;have bZ : Z.natAbs < 10000 ^ 40 := bigB (Nat.le_trans hZ.out (Nat.mul_le_mul_right _ zw));have bY : (y2 * p1).natAbs < 10000 ^ 40 := bigB (by have := prodB HQ2.out HP1.out; omega)
    have HX3 := zH hx3;have BR := zH (BO.out.call hBr.out);have QR : Hid (∀ x : ExtOf wr, Calls _ _ _ x.w _) := fun x : ExtOf wr => zz3s _ b y1 p0 p1 R0 x.w (BR.out.call x.below) hlr HX3
    have fm := zH (fun w => zz47 y2 p1 HQ2.out HP1.out w)
    have fa := zH (fun x y w h1 h2 => zz1t x y Z (y2 * p1) w h1 h2 bZ bY)
    have a0 := zC KB.out;clear hq hx3 hpr HS HM hjj bZ bY;go_wp2_with fail;refine zz0r zk zk ?_
    repeat (go_big_quiet_step (with_reducible exact zz1r (QR.out _)))
    refine wpQuiet_nil ?_;rintro wq ⟨y, rfl⟩;replace KX := zH (KX.out.call y.below);replace KV := zH (KV.out.call y.below);replace KB := zH (zz06 KB.out y.below);replace hBr := zH (hBr.out.trans (y.below.mono hBr.out.size));clear a0 cb d0 d1 d2 hbl3 lK QR BR;generalize y.w = wq at *;clear y;have cb := zz00 KB.out 1 _ rfl;have lK := zL KB.out;have lG := KX.out.lt;have e0 := KX.out.c0;have e1 := KX.out.c1;have hbl3 : b0 < wq.heap.size := Nat.lt_of_lt_of_le hbl hBr.out.size;have d2 : wq.cell? ⟨b0, o0 + j * 3 + 2, none⟩ = some (.int .i64 y2) := (hBr.out.cell (p := ⟨b0, o0 + j * 3 + 2, none⟩) hbl).trans (HCC.out 2 _ rfl);go_wp2_with fail;have HC : ∃ x : ExtOf wq, wq.drew = x.w := ⟨⟨_, (Below.refl _ _).drew⟩, rfl⟩;have HCb : Hid (Below wq.heap.size wq wq.drew) := (Below.refl _ _).drew;refine zz07 [10] (fun wz => ∃ x : ExtOf wq, wz = x.w) 11 (zb 11 0) zk zk zk ?_
    refine zM [0, 1, 2, 3, 4, 5, 6, 7] 3 HC ?_;simp only [opsAt, zA];refine zz08 (.agg #[.bool t, .slice B m d]) rfl (fun wz hC => by obtain ⟨x, rfl⟩ := hC; unfold execOp; go_simp) ?_
    refine zp ?_;refine zz08 (.slice (some ⟨b0, o0, none⟩) b.s.length c2) rfl (fun wz hC => by obtain ⟨x, rfl⟩ := hC; unfold execOp; go_simp) ?_
    iterate 3 refine zp ?_
    refine zz08 (.int .i64 y2) rfl (fun wz hC => by obtain ⟨x, rfl⟩ := hC; unfold execOp; go_simp) ?_
    refine zp ?_;unfold wpPure;go_simp;refine zW 8 ?_;go_wp2_with fail;(with_reducible refine (fm.out _).mono ?_);rintro e wc1 ⟨⟨v5, rfl, hv5⟩, hb⟩;have V5 := zH hv5;clear hv5;replace HCb : Hid (Below wq.heap.size wq wc1) := HCb.out.trans (hb.mono HCb.out.size);have HC : ∃ x : ExtOf wq, wc1 = x.w := ⟨⟨_, HCb.out⟩, rfl⟩;clear hb;go_wp2_with fail;refine zQs (fun _ => HC) ?_
    refine zW 9 ?_;go_wp2_with fail;(with_reducible refine (fa.out _ _ _ (zH (KV.out.call HCb.out)) V5).mono ?_);rintro e wc2 ⟨⟨v6, rfl, hv6⟩, hb⟩;obtain ⟨t6, B6, m6, d6, rfl⟩ := hv6.form;have V6 := zH hv6;clear hv6;replace HCb : Hid (Below wq.heap.size wq wc2) := HCb.out.trans (hb.mono HCb.out.size);have HC : ∃ x : ExtOf wq, wc2 = x.w := ⟨⟨_, HCb.out⟩, rfl⟩;clear hb;go_wp2_with fail;refine zQs (fun _ => HC) ?_
    replace KX := zH (KX.out.call HCb.out);replace KB := zH (zz06 KB.out HCb.out);replace hBr := zH (hBr.out.trans (HCb.out.mono hBr.out.size));clear e0 e1 cb lK lG hbl3 d2 V5 KV HCb HC;have e0 := KX.out.c0;have e1 := KX.out.c1;have e2 := KX.out.z 0;have e3 := KX.out.z 1;refine zW 10 ?_;exact zt30
   ·have tq : (y0 == acc) = false := by simp [hq]
    have HS2 : Hid (Z + sumQ (heldP b acc (b.s.drop (j + 1))) = X) := (show _ = _ from by rw [← hrest.out, HS.out, if_neg (show ¬ ([y0, y1, y2] : List Int).headD 0 = acc from hq)])
    have HZ2 : Hid (Z.natAbs ≤ (j + 1 + 1) * 85070591730234615865843651857942052864) := (Nat.le_trans hZ.out (Nat.mul_le_mul_right _ zw));clear hq HS HM;go_wp2_with fail;exact zt21
  ·have tn : decide ((j : Int) < (b.s.length : Int)) = false := decide_eq_false zw
   have hZX : Z = X := by rw [← hrest.out, List.drop_eq_nil_of_le zw]; simp [heldP, sumQ]
   have hjj : (j + 1) * 85070591730234615865843651857942052864 ≤ 1000000 * 85070591730234615865843651857942052864 := Nat.mul_le_mul_right _ zw;have bX : X.natAbs < 10000 ^ 40 := bigB (by rw [← hZX]; exact Nat.le_trans hZ.out (Nat.mul_le_mul_right _ zw))
   rw [hZX] at KV;have qf := zH (fun x w h => zz2f x X w h bX)
   have e0 := KX.out.c0;have e1 := KX.out.c1;clear hrest hZ hZX hjj bX;go_wp2_with fail;(with_reducible refine (qf.out _ _ KV).mono ?_);rintro e w5 ⟨rfl, hb5⟩;have HB5 := zB hBr hb5;clear hb5;go_wp2_with fail;go_ret2;exact ⟨rfl, HB5.out⟩
end
section
open Go Go.RowKit Bg Mon
theorem BigAt.absN {w : World} {z : Int} {t : Bool} {A : Option Addr} {n c : Nat} (h : BigAt w (.agg #[.bool t, .slice A n c]) z) : BigAt w (.agg #[.bool false, .slice A n c]) z.natAbs := by
 obtain ⟨A', n', c', f, e, h1, h2, h3, h4⟩ := h;injection e with e
 simp only [Array.mk.injEq, List.cons.injEq, Value.slice.injEq] at e;obtain ⟨-, ⟨rfl, rfl, rfl⟩, -⟩ := e;refine ⟨_, _, _, f, ?_, h1, by simpa using h2, h3, h4⟩
 rw [decide_eq_false zw]
theorem BigAt.negB {w : World} {z : Int} {t : Bool} {A : Option Addr} {n c : Nat} (h : BigAt w (.agg #[.bool t, .slice A n c]) z) : t = decide (z < 0) := by
 obtain ⟨A', n', c', f, e, _⟩ := h;cases e
 rfl
theorem absQ_one {q p : Int} (hp : 0 ≤ p) : ((q * p).natAbs : Int) = if q < 0 then q * -p else q * p := by
 by_cases h : q < 0
 ·rw [if_pos h, Int.mul_neg]
  have : q * p ≤ 0 := Int.mul_nonpos_of_nonpos_of_nonneg zw hp;omega
 ·rw [if_neg h]
  have : 0 ≤ q * p := Int.mul_nonneg zw hp;omega
theorem rNeed_any (v : Value) (b : Bk) (acc qty price rate : Int) (w : World) (hb : Hid (BkAt w v b)) (hs : Hid b.Small) (hi : Hid b.I64s) (hp : Hid (∀ sym, 0 ≤ priceOf b sym)) (hq1 : Hid (I64 qty)) (hq2 : Hid (I64 price)) (hq3 : Hid (I64 rate)) :
  Calls Tryz.prog 106 #[v, .int .i64 acc, .int .i64 qty, .int .i64 price, .int .i64 rate] w fun e w' => e = .returned (.tuple #[.int .i64 (needR (needX b acc qty price) rate).1, .bool (needR (needX b acc qty price) rate).2]) ∧ Below w.heap.size w w' := by
 obtain ⟨vh, vs, vo, vr, rfl, g1, g2, g3, g4⟩ := hb.out;have LR : Hid (∀ r ∈ b.r, r.length = 2) := (by obtain ⟨_, _, _, h, _⟩ := g4; exact h)
 obtain ⟨A2, c2, rfl, hi2⟩ := g2.rec';obtain ⟨A3, c3, rfl, hi3⟩ := g3.rec';have HI := zH hi2;have HI3 := zH hi3;clear g1 g2 g3 g4 hi2 hi3;have HB1 : Hid (Below w.heap.size w (w.alloc (.cells #[vh, .slice A2 b.s.length c2, .slice A3 b.o.length c3, vr, b.n] 27))) := zBa;have K1 : Hid ((w.alloc (.cells #[vh, .slice A2 b.s.length c2, .slice A3 b.o.length c3, vr, b.n] 27)).heap[w.heap.size]? = some (.cells #[vh, .slice A2 b.s.length c2, .slice A3 b.o.length c3, vr, b.n] 27 (0, 0))) := zz02 _ _;have hls : b.s.length ≤ 999998 := by have := hs.out; unfold Bk.Small at this; omega
 have hlo : b.o.length ≤ 999998 := by have := hs.out; unfold Bk.Small at this; omega
 have hlr : b.r.length ≤ 1000000 := by have := hs.out; unfold Bk.Small at this; omega
 obtain ⟨FP, hFP⟩ : ∃ FP, needR (needX b acc qty price) rate = FP := ⟨_, rfl⟩;rw [hFP];have HFP := zH hFP;have qo := zH (fun w => zz47 qty price hq1.out hq2.out w)
 have BO := hb;clear hb hFP;go_in;go_wp2_with fail;(with_reducible refine (qo.out _).mono ?_);rintro e w3 ⟨⟨v3, rfl, hv3⟩, hb3⟩;obtain ⟨t, B, m, d, rfl⟩ := hv3.form;have V3 := zH hv3;have K3 := zK K1 hb3;have HB3 := zB HB1 hb3;clear hv3 hb3 qo;obtain ⟨G, hG⟩ : ∃ G, w3.heap.size = G := ⟨_, rfl⟩;have hbx : Below w3.heap.size w3 (w3.alloc (.cells #[.bool t, .slice B m d] 143)) := zBa;have K4 := zK K3 hbx;have HB4 := zB HB3 hbx;have V4 := zH (V3.out.call hbx);have X4 := zH (BigBlk.mk w3 G t (.slice B m d) hG);have HGw : Hid (w.heap.size < G) := (show _ < _ from by have := (zL K3.out); omega)
 clear hbx V3 K3 HB3;go_wp2_with fail;generalize w3.alloc (.cells #[.bool t, .slice B m d] 143) = w4 at *;clear hG;go_loopw [13, 14, 15, 16] (fun s9 _ _ _ wr => ∃ (j : Nat) (Z : Int) (t : Bool) (B : Option Addr) (m d : Nat), s9 = .int .i64 (j : Int) ∧ Hid (j ≤ b.s.length) ∧ Hid (BigBlk wr G t (.slice B m d)) ∧ Hid (BigAt wr (.agg #[.bool t, .slice B m d]) Z) ∧ Hid (Z + absQ (heldP b acc (b.s.drop j)) = qty * price + absQ (heldP b acc b.s)) ∧ Hid (Z.natAbs ≤ (j + 1) * 85070591730234615865843651857942052864) ∧ ZB wr w.heap.size #[vh, .slice A2 b.s.length c2, .slice A3 b.o.length c3, vr, b.n] 27 ∧ Hid (Below w.heap.size w wr)) (fun s9 _ _ _ _ => b.s.length - (intOf s9).toNat)
 case atStart => exact ⟨0, qty * price, t, B, m, d, rfl, Nat.zero_le _, X4.out, V4.out, rfl, by have := prodB hq1.out hq2.out; show _ ≤ _; omega, K4.out, HB4.out⟩
 case round =>
  clear X4 V4 K4 HB4;obtain ⟨j, Z, t, B, m, d, rfl, hjl, KX, KV, hrest, hZ, KB, hBr⟩ := hrel;replace hjl := hjl.out;have cb := zz00 KB.out 1 _ rfl;have lK := zL KB.out;by_cases hin : j < b.s.length
  ·have tn : decide ((j : Int) < (b.s.length : Int)) = true := decide_eq_true zw
   have hge : b.s[j]? = some b.s[j] := List.getElem?_eq_getElem hin;obtain ⟨hk, b0, o0, hA0, hbl, hc⟩ := HI.out j _ hge;subst hA0;have HS := zH (zz4l (b := b) (acc := acc) hge);have HM : Hid (∀ x ∈ b.s[j], I64 x) := (show ∀ x ∈ b.s[j], I64 x from hi.out.2.1 _ (List.getElem_mem hin))
   clear hge;generalize b.s[j] = r at *;obtain ⟨y0, y1, y2, rfl⟩ : ∃ y0 y1 y2, r = [y0, y1, y2] := by
    match r, hk with
    | [y0, y1, y2], _ => exact ⟨y0, y1, y2, rfl⟩
   have hb3 : (j : Int) < (b.s.length : Int) := by omega
   have hb4 : (0 : Int) ≤ (j : Int) := by omega
   have hbl3 : b0 < wr.heap.size := Nat.lt_of_lt_of_le hbl hBr.out.size;have HCC := zH hc;obtain ⟨d0, d1, d2⟩ := zR3 hBr.out hbl hc;clear hc hk;by_cases hq : y0 = acc
   ·have tq : (y0 == acc) = true := by simp [hq]
    obtain ⟨rr, R0, hl3, hx3⟩ := zz16 LR.out (isId y1)
    match rr, hl3, hx3 with
    | [p0, p1], _, hx3 =>
    have hpr : priceOf b y1 = p1 := by unfold priceOf; rw [hx3]; rfl
    have hp0 : 0 ≤ p1 := by rw [← hpr]; exact hp.out y1
    have HP1 : Hid (I64 p1) := zz1m hi.out.2.2.2 hx3 p1 (by simp)
    have HQ2 : Hid (I64 y2) := HM.out y2 (by simp)
    have HS2 : Hid (Z + ((y2 * p1).natAbs : Int) + absQ (heldP b acc (b.s.drop (j + 1))) = qty * price + absQ (heldP b acc b.s)) := (show _ = _ from by
     rw [← hrest.out, HS.out, if_pos (show ([y0, y1, y2] : List Int).headD 0 = acc from hq), absQ_one hp0]
     show _ = Z + ((if y2 < 0 then y2 * -priceOf b y1 else y2 * priceOf b y1) + _)
     rw [hpr]; omega)
    have HZ2 : Hid ((Z + ((y2 * p1).natAbs : Int)).natAbs ≤ (j + 1 + 1) * 85070591730234615865843651857942052864) := (show _ ≤ _ from by
     have h1' := hZ.out;have h2' := prodB HQ2.out HP1.out;omega)
    have bZ : Z.natAbs < 10000 ^ 40 := bigB (Nat.le_trans hZ.out (Nat.mul_le_mul_right _ zw));have bY : ((y2 * p1).natAbs : Int).natAbs < 10000 ^ 40 := bigB (by have := prodB HQ2.out HP1.out; omega)
    have HX3 := zH hx3;have BR := zH (BO.out.call hBr.out);have QR : Hid (∀ x : ExtOf wr, Calls _ _ _ x.w _) := fun x : ExtOf wr => zz3s _ b y1 p0 p1 R0 x.w (BR.out.call x.below) hlr HX3
    have fm := zH (fun w => zz47 y2 p1 HQ2.out HP1.out w)
    have fa := zH (fun x y w h1 h2 => zz1t x y Z (y2 * p1).natAbs w h1 h2 bZ bY)
    have a0 := zC KB.out;clear hq hx3 hpr HS HM bZ bY hp0;go_wp2_with fail;refine zz0r zk zk ?_
    repeat (go_big_quiet_step (with_reducible exact zz1r (QR.out _)))
    refine wpQuiet_nil ?_;rintro wq ⟨y, rfl⟩;replace KX := zH (KX.out.call y.below);replace KV := zH (KV.out.call y.below);replace KB := zH (zz06 KB.out y.below);replace hBr := zH (hBr.out.trans (y.below.mono hBr.out.size));clear a0 cb d0 d1 d2 hbl3 lK QR BR;generalize y.w = wq at *;clear y;have cb := zz00 KB.out 1 _ rfl;have lK := zL KB.out;have hbl3 : b0 < wq.heap.size := Nat.lt_of_lt_of_le hbl hBr.out.size;have d2 : wq.cell? ⟨b0, o0 + j * 3 + 2, none⟩ = some (.int .i64 y2) := (hBr.out.cell (p := ⟨b0, o0 + j * 3 + 2, none⟩) hbl).trans (HCC.out 2 _ rfl);have lGq := KX.out.lt;go_wp2_with fail;(with_reducible refine (fm.out _).mono ?_);rintro e w5 ⟨⟨v5, rfl, hv5⟩, hb5⟩;obtain ⟨t5, B5, m5, d5, rfl⟩ := hv5.form;have hbx : Below w5.heap.size w5 (w5.alloc (.cells #[.bool false, .slice B5 m5 d5] 143)) := zBa;have hby := hb5.trans (hbx.mono hb5.size);have lG5 : G < w5.heap.size := Nat.lt_of_lt_of_le lGq hb5.size;have V5 := zH (hv5.absN.call hbx);have KX5 := KX.out.call hb5;replace KX := zH (KX.out.call hby);replace KV := zH (KV.out.call hby);replace KB := zK KB hby;replace hBr := zB hBr hby;have e0 := KX5.c0;have e1 := KX5.c1;clear hv5 hb5 hbx hby cb lK hbl3 d2 KX5 lGq;go_wp2_with fail;(with_reducible refine (fa.out _ _ _ KV V5).mono ?_);rintro e w6 ⟨⟨v6, rfl, hv6⟩, hb6⟩;obtain ⟨t6, B6, m6, d6, rfl⟩ := hv6.form;have V6 := zH hv6;replace KX := zH (KX.out.call hb6);replace KB := zK KB hb6;replace hBr := zB hBr hb6;clear hv6 hb6 e0 e1 lG5 V5 KV;have e0 := KX.out.c0;have e1 := KX.out.c1;have e2 := KX.out.z 0;have e3 := KX.out.z 1;go_wp2_with fail;have KV := zH (V6.out.store KX.out);replace KX := zH ((KX.out.set0 t6).set1 (.slice B6 m6 d6));replace KB : Hid ((((w6.setCell ⟨G, 0, none⟩ (.bool t6)).setCell ⟨G, 1, none⟩ (.slice B6 m6 d6))).heap[w.heap.size]? = _) := zz09 (zz09 KB.out _ _ (by have := HGw.out; omega)) _ _ (by have := HGw.out; omega)
    replace hBr := zH ((hBr.out.setCell (p := ⟨G, 0, none⟩) (by have := HGw.out; show w.heap.size ≤ G; omega) (.bool t6)).setCell (p := ⟨G, 1, none⟩) (by have := HGw.out; show w.heap.size ≤ G; omega) (.slice B6 m6 d6))
    clear V6 e0 e1 e2 e3;go_roundw
    case rel => exact ⟨j + 1, _, _, _, _, _, by go_num, by show _ ≤ _; omega, KX.out, KV.out, HS2.out, HZ2.out, KB.out, hBr.out⟩
    case measure => simp [intOf]; omega
   ·have tq : (y0 == acc) = false := by simp [hq]
    have HS2 : Hid (Z + absQ (heldP b acc (b.s.drop (j + 1))) = qty * price + absQ (heldP b acc b.s)) := (show _ = _ from by rw [← hrest.out, HS.out, if_neg (show ¬ ([y0, y1, y2] : List Int).headD 0 = acc from hq)])
    have HZ2 : Hid (Z.natAbs ≤ (j + 1 + 1) * 85070591730234615865843651857942052864) := (Nat.le_trans hZ.out (Nat.mul_le_mul_right _ zw));clear hq HS HM;go_wp2_with fail;exact zt21
  ·have tn : decide ((j : Int) < (b.s.length : Int)) = false := decide_eq_false zw
   have HZ1 : Hid (Z = qty * price + absQ (heldP b acc b.s)) := (show _ = _ from by rw [← hrest.out, List.drop_eq_nil_of_le zw]; simp [heldP, absQ])
   have HZb : Hid (Z.natAbs ≤ 1000000 * 85070591730234615865843651857942052864) := (Nat.le_trans hZ.out (Nat.mul_le_mul_right _ zw));clear hrest hZ;go_wp2_with fail;clear cb lK;go_loopw [17] (fun s9 wr => ∃ (j : Nat) (Y : Int) (t : Bool) (B : Option Addr) (m d : Nat), s9 = .int .i64 (j : Int) ∧ Hid (j ≤ b.o.length) ∧ Hid (BigBlk wr G t (.slice B m d)) ∧ Hid (BigAt wr (.agg #[.bool t, .slice B m d]) Y) ∧ Hid (Y + sumL (opensP acc (b.o.drop j)) = Z + sumL (opensP acc b.o)) ∧ Hid (Y.natAbs ≤ (1000000 + j) * 85070591730234615865843651857942052864) ∧ ZB wr w.heap.size #[vh, .slice A2 b.s.length c2, .slice A3 b.o.length c3, vr, b.n] 27 ∧ Hid (Below w.heap.size w wr)) (fun s9 _ => b.o.length - (intOf s9).toNat)
   case atStart => exact ⟨0, Z, t, B, m, d, rfl, Nat.zero_le _, KX.out, KV.out, rfl, by have := HZb.out; show _ ≤ _; omega, KB.out, hBr.out⟩
   case round =>
    clear KX KV KB hBr hjl hin tn HZb;obtain ⟨j, Y, t, B, m, d, rfl, hjl, KX, KV, hrest, hZ, KB, hBr⟩ := hrel;replace hjl := hjl.out;have cb := zz00 KB.out 2 _ rfl;have lK := zL KB.out;by_cases hin : j < b.o.length
    ·have tn : decide ((j : Int) < (b.o.length : Int)) = true := decide_eq_true zw
     have hge : b.o[j]? = some b.o[j] := List.getElem?_eq_getElem hin;obtain ⟨hk, b0, o0, hA0, hbl, hc⟩ := HI3.out j _ hge;subst hA0;have HS := zH (zz3f (acc := acc) hge);have HM : Hid (∀ x ∈ b.o[j], I64 x) := (show ∀ x ∈ b.o[j], I64 x from hi.out.2.2.1 _ (List.getElem_mem hin))
     clear hge;generalize b.o[j] = r at *;obtain ⟨y0, y1, y2, y3, y4, y5, rfl⟩ : ∃ y0 y1 y2 y3 y4 y5, r = [y0, y1, y2, y3, y4, y5] := by
      match r, hk with
      | [y0, y1, y2, y3, y4, y5], _ => exact ⟨y0, y1, y2, y3, y4, y5, rfl⟩
     have hb3 : (j : Int) < (b.o.length : Int) := by omega
     have hb4 : (0 : Int) ≤ (j : Int) := by omega
     have hbl3 : b0 < wr.heap.size := Nat.lt_of_lt_of_le hbl hBr.out.size;have d1 : wr.cell? ⟨b0, o0 + j * 6 + 1, none⟩ = some (.int .i64 y1) := (hBr.out.cell (p := ⟨b0, o0 + j * 6 + 1, none⟩) hbl).trans (hc 1 _ rfl);have d4 : wr.cell? ⟨b0, o0 + j * 6 + 4, none⟩ = some (.int .i64 y4) := (hBr.out.cell (p := ⟨b0, o0 + j * 6 + 4, none⟩) hbl).trans (hc 4 _ rfl);have d5 : wr.cell? ⟨b0, o0 + j * 6 + 5, none⟩ = some (.int .i64 y5) := (hBr.out.cell (p := ⟨b0, o0 + j * 6 + 5, none⟩) hbl).trans (hc 5 _ rfl);clear hc hk;by_cases hq : y1 = acc
     ·have tq : (y1 == acc) = true := by simp [hq]
      have HQ4 : Hid (I64 y4) := HM.out y4 (by simp)
      have HQ5 : Hid (I64 y5) := HM.out y5 (by simp)
      have HS2 : Hid (Y + y4 * y5 + sumL (opensP acc (b.o.drop (j + 1))) = Z + sumL (opensP acc b.o)) := (show _ = _ from by
       rw [← hrest.out, HS.out, if_pos (show ([y0, y1, y2, y3, y4, y5] : List Int).getD 1 0 = acc from hq)]
       show _ = Y + (y4 * y5 + _);omega)
      have HZ2 : Hid ((Y + y4 * y5).natAbs ≤ (1000000 + (j + 1)) * 85070591730234615865843651857942052864) := (show _ ≤ _ from by
       have h1' := hZ.out;have h2' := prodB HQ4.out HQ5.out;omega)
      have bZ : Y.natAbs < 10000 ^ 40 := bigB (Nat.le_trans hZ.out (Nat.mul_le_mul_right _ zw));have bY : (y4 * y5).natAbs < 10000 ^ 40 := bigB (by have := prodB HQ4.out HQ5.out; omega)
      have fm := zH (fun w => zz47 y4 y5 HQ4.out HQ5.out w)
      have fa := zH (fun x y w h1 h2 => zz1t x y Y (y4 * y5) w h1 h2 bZ bY)
      have lG := KX.out.lt;have e0 := KX.out.c0;have e1 := KX.out.c1;clear hq HS HM bZ bY;go_wp2_with fail;have HC : ∃ x : ExtOf wr, wr.drew = x.w := ⟨⟨_, (Below.refl _ _).drew⟩, rfl⟩;have HCb : Hid (Below wr.heap.size wr wr.drew) := (Below.refl _ _).drew;refine zz07 [15] (fun wz => ∃ x : ExtOf wr, wz = x.w) 16 (zb 16 0) zk zk zk ?_
      refine zM [0, 1, 2, 3, 4, 5, 6, 7, 8, 9, 10, 11, 12] 3 HC ?_;simp only [opsAt, zA];refine zz08 (.agg #[.bool t, .slice B m d]) rfl (fun wz hC => by obtain ⟨x, rfl⟩ := hC; unfold execOp; go_simp) ?_
      refine zp ?_;refine zz08 (.slice (some ⟨b0, o0, none⟩) b.o.length c3) rfl (fun wz hC => by obtain ⟨x, rfl⟩ := hC; unfold execOp; go_simp) ?_
      iterate 3 refine zp ?_
      refine zz08 (.int .i64 y4) rfl (fun wz hC => by obtain ⟨x, rfl⟩ := hC; unfold execOp; go_simp) ?_
      refine zp ?_;refine zz08 (.slice (some ⟨b0, o0, none⟩) b.o.length c3) rfl (fun wz hC => by obtain ⟨x, rfl⟩ := hC; unfold execOp; go_simp) ?_
      iterate 3 refine zp ?_
      refine zz08 (.int .i64 y5) rfl (fun wz hC => by obtain ⟨x, rfl⟩ := hC; unfold execOp; go_simp) ?_
      unfold wpPure;go_simp;refine zW 13 ?_;go_wp2_with fail;(with_reducible refine (fm.out _).mono ?_);rintro e wc1 ⟨⟨v5, rfl, hv5⟩, hb⟩;have V5 := zH hv5;clear hv5;replace HCb : Hid (Below wr.heap.size wr wc1) := HCb.out.trans (hb.mono HCb.out.size);have HC : ∃ x : ExtOf wr, wc1 = x.w := ⟨⟨_, HCb.out⟩, rfl⟩;clear hb;go_wp2_with fail;refine zQs (fun _ => HC) ?_
      refine zW 14 ?_;go_wp2_with fail;(with_reducible refine (fa.out _ _ _ (zH (KV.out.call HCb.out)) V5).mono ?_);rintro e wc2 ⟨⟨v6, rfl, hv6⟩, hb⟩;obtain ⟨t6, B6, m6, d6, rfl⟩ := hv6.form;have V6 := zH hv6;clear hv6;replace HCb : Hid (Below wr.heap.size wr wc2) := HCb.out.trans (hb.mono HCb.out.size);have HC : ∃ x : ExtOf wr, wc2 = x.w := ⟨⟨_, HCb.out⟩, rfl⟩;clear hb;go_wp2_with fail;refine zQs (fun _ => HC) ?_
      replace KX := zH (KX.out.call HCb.out);replace KB := zH (zz06 KB.out HCb.out);replace hBr := zH (hBr.out.trans (HCb.out.mono hBr.out.size));clear e0 e1 cb lK lG hbl3 d1 d4 d5 V5 KV HCb HC;have e0 := KX.out.c0;have e1 := KX.out.c1;have e2 := KX.out.z 0;have e3 := KX.out.z 1;refine zW 15 ?_;exact zt30
     ·have tq : (y1 == acc) = false := by simp [hq]
      have HS2 : Hid (Y + sumL (opensP acc (b.o.drop (j + 1))) = Z + sumL (opensP acc b.o)) := (show _ = _ from by rw [← hrest.out, HS.out, if_neg (show ¬ ([y0, y1, y2, y3, y4, y5] : List Int).getD 1 0 = acc from hq)])
      have HZ2 : Hid (Y.natAbs ≤ (1000000 + (j + 1)) * 85070591730234615865843651857942052864) := (Nat.le_trans hZ.out (Nat.mul_le_mul_right _ zw));clear hq HS HM;go_wp2_with fail;go_roundw
      case rel => exact ⟨j + 1, Y, t, B, m, d, by go_num, by show _ ≤ _; omega, KX.out, KV.out, HS2.out, HZ2.out, KB.out, hBr.out⟩
      case measure => simp [intOf]; omega
    ·have tn : decide ((j : Int) < (b.o.length : Int)) = false := decide_eq_false zw
     have hYX : Y = needX b acc qty price := by
      have h1' := hrest.out;rw [List.drop_eq_nil_of_le zw, HZ1.out] at h1';simp only [opensP, sumL] at h1';unfold needX;omega
     rw [hYX] at KV hZ;have HXb : Hid ((needX b acc qty price).natAbs ≤ 2000000 * 85070591730234615865843651857942052864) := (Nat.le_trans hZ.out (Nat.mul_le_mul_right _ zw));generalize needX b acc qty price = X at *;have htd := KV.out.negB;have e0 := KX.out.c0;have e1 := KX.out.c1;clear hrest hZ hYX HZ1;by_cases hX0 : X < 0
     ·rw [decide_eq_true hX0] at htd
      subst htd;have hF : FP = (0, false) := by rw [← HFP.out]; unfold needR; rw [if_pos (.inl hX0)]
      subst hF;clear hX0 HFP;go_wp2_with fail;go_ret2;exact ⟨rfl, hBr.out⟩
     rw [decide_eq_false hX0] at htd;subst htd;by_cases hr0 : rate < 0
     ·have tr : decide (rate < 0) = true := decide_eq_true hr0
      have hF : FP = (0, false) := by rw [← HFP.out]; unfold needR; rw [if_pos (.inr (.inl hr0))]
      subst hF;clear hX0 HFP hr0;go_wp2_with fail;go_ret2;exact ⟨rfl, hBr.out⟩
     have tr0 : decide (rate < 0) = false := decide_eq_false hr0;by_cases hr1 : 1000 < rate
     ·have tr : decide (1000 < rate) = true := decide_eq_true hr1
      have hF : FP = (0, false) := by rw [← HFP.out]; unfold needR; rw [if_pos (.inr (.inr hr1))]
      subst hF;clear hX0 HFP hr0 hr1;go_wp2_with fail;go_ret2;exact ⟨rfl, hBr.out⟩
     have tr1 : decide (1000 < rate) = false := decide_eq_false hr1;have HF : Hid (fitsP (up100 (X * rate)) = FP) := (show _ = _ from by rw [← HFP.out]; unfold needR; rw [if_neg zw])
     have hyr0 : 0 ≤ X * rate := Int.mul_nonneg zw zw;have hyr1 : X * rate ≤ (2000000 * 85070591730234615865843651857942052864) * 1000 := Int.mul_le_mul (by have := HXb.out; omega) zw zw zx
     have hyr2 : (X * rate).natAbs < 10000 ^ 39 := by
      have h1 : (10000 : Nat) ^ 39 = 10000 ^ 19 * 10000 ^ 20 := by rw [← Nat.pow_add]
      have h2 : (10000 : Nat) ^ 19 = 10000000000000000000000000000000000000000000000000000000000000000000000000000 := by decide
      have h3 : 1 ≤ (10000 : Nat) ^ 20 := Nat.pow_pos zx;have h4 : (10000 : Nat) ^ 19 * 1 ≤ 10000 ^ 19 * 10000 ^ 20 := Nat.mul_le_mul_left _ h3;rw [h1]; omega
     have hup : (up100 (X * rate)).natAbs < 10000 ^ 40 := small40 (by unfold up100; omega)
     have bX : X.natAbs < 10000 ^ 40 := bigB (by have := HXb.out; omega)
     have br : rate.natAbs < 10000 ^ 40 := bigB zw;have fR := zH (fun w => zz33 rate hq3.out w)
     have fM := zH (fun x y w h1 h2 => zz8c x y X rate w h1 h2 bX br)
     have fU := zH (fun x w h1 => UpBy_any x (X * rate) w h1 hyr2 hyr0)
     have fF := zH (fun x w h1 => zz2f x (up100 (X * rate)) w h1 hup)
     rw [HF.out] at fF;have lG := KX.out.lt;clear hX0 hr0 hr1 hyr0 hyr1 hyr2 hup bX br HFP HF;go_wp2_with fail;have HC : ∃ x : ExtOf wr, wr.drew = x.w := ⟨⟨_, (Below.refl _ _).drew⟩, rfl⟩;have HCb : Hid (Below wr.heap.size wr wr.drew) := (Below.refl _ _).drew;refine zz07 [] (fun wz => ∃ x : ExtOf wr, wz = x.w) 10 (zb 10 0) zk zk zk ?_
     refine zM [0, 1] 8 HC ?_;simp only [opsAt, zA];refine zz08 (.agg #[.bool false, .slice B m d]) rfl (fun wz hC => by obtain ⟨x, rfl⟩ := hC; unfold execOp; go_simp) ?_
     refine zp ?_;unfold wpPure;go_simp;refine zW 2 ?_;go_wp2_with fail;(with_reducible refine (fR.out _).mono ?_);rintro e wc1 ⟨⟨v5, rfl, hv5⟩, hb⟩;have V5 := zH hv5;clear hv5;replace HCb : Hid (Below wr.heap.size wr wc1) := HCb.out.trans (hb.mono HCb.out.size);have HC : ∃ x : ExtOf wr, wc1 = x.w := ⟨⟨_, HCb.out⟩, rfl⟩;clear hb;go_wp2_with fail;refine zQs (fun _ => HC) ?_
     refine zW 3 ?_;go_wp2_with fail;(with_reducible refine (fM.out _ _ _ (zH (KV.out.call HCb.out)) V5).mono ?_);rintro e wc2 ⟨⟨v6, rfl, hv6⟩, hb⟩;have V6 := zH hv6;clear hv6;replace HCb : Hid (Below wr.heap.size wr wc2) := HCb.out.trans (hb.mono HCb.out.size);have HC : ∃ x : ExtOf wr, wc2 = x.w := ⟨⟨_, HCb.out⟩, rfl⟩;clear hb;go_wp2_with fail;refine zQs (fun _ => HC) ?_
     refine zW 4 ?_;go_wp2_with fail;(with_reducible refine (fU.out _ _ V6).mono ?_);rintro e wc3 ⟨⟨v7, rfl, hv7⟩, hb⟩;have V7 := zH hv7;clear hv7;replace HCb : Hid (Below wr.heap.size wr wc3) := HCb.out.trans (hb.mono HCb.out.size);have HC : ∃ x : ExtOf wr, wc3 = x.w := ⟨⟨_, HCb.out⟩, rfl⟩;clear hb;go_wp2_with fail;refine zQs (fun _ => HC) ?_
     refine zW 5 ?_;go_wp2_with fail;(with_reducible refine (fF.out _ _ V7).mono ?_);rintro e wc4 ⟨rfl, hb⟩;replace HCb : Hid (Below wr.heap.size wr wc4) := HCb.out.trans (hb.mono HCb.out.size);have HC : ∃ x : ExtOf wr, wc4 = x.w := ⟨⟨_, HCb.out⟩, rfl⟩;clear hb;go_wp2_with fail;refine zQs (fun _ => HC) ?_
     refine zM [6, 7, 8, 9] 0 HC ?_;simp only [opsAt, zA]
     iterate 4 refine zp ?_
     unfold wpPure;go_simp;refine ⟨by kernel_rfl, ?_⟩
     rw [zz1e];have HE := zH (hBr.out.trans (HCb.out.mono hBr.out.size));go_wp2_with fail;go_ret2;exact ⟨rfl, HE.out⟩
end
section
open Go Go.RowKit Bg Mon
end
end
end Go.Proofs.YtajogedbacpohaaGreatDoor
