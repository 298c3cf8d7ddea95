/- Part 7 of what the claim rests on. -/
import Derived.Test.YtajogedbacpohaaGreatDoorR00
import Derived.Test.YtajogedbacpohaaGreatDoorR05
import Derived.Laws.Bits64b
import Derived.Laws.Externs
import Derived.Lib.Mul64
import Derived.Test.YtajogedbacpohaaGreatDoorChecked
set_option linter.unusedVariables false
set_option linter.unusedSimpArgs false
set_option maxRecDepth 1000000
set_option maxHeartbeats 32000000
namespace Go.Proofs.YtajogedbacpohaaGreatDoor
section
open Go Go.RowKit
def thereB (b : Bk) (acc sym : Int) : Bool := (b.h.find? (isId acc)).isSome && (b.r.find? (isId sym)).isSome
def badH (r : List Int) : Bool := decide (r.getD 2 0 < 0) || decide (r.getD 3 0 < 0)
def badR (r : List Int) : Bool := decide (r.getD 1 0 < 1)
def badS (b : Bk) (r : List Int) : Bool := decide (r.getD 2 0 = 0) || !thereB b (r.getD 0 0) (r.getD 1 0)
def badO (b : Bk) (r : List Int) : Bool := decide (r.getD 4 0 < 1) || (decide (r.getD 5 0 < 1) || (decide (r.getD 3 0 < 0) || (decide (1 < r.getD 3 0) || !thereB b (r.getD 1 0) (r.getD 2 0))))
def Bk.listsB (b : Bk) : Bool := !decide (32 < b.h.length) && (!decide (64 < b.o.length) && (!decide (32 < b.r.length) && b.riseB))
def Bk.countB (b : Bk) : Bool := !decide (b.n < 0) && !decide (1099511627776 < b.n)
def Bk.mayB (b : Bk) : Bool := b.listsB && (b.countB && (!b.h.any badH && (!b.r.any badR && (!b.s.any (badS b) && !b.o.any (badO b)))))
theorem zz0n {k : Nat} {o : Option (List Int)} {r : List Int} {F : Bool} (h : recOf k o = (r, F)) : F = o.isSome := by
 cases o with
 | none => exact (congrArg Prod.snd h).symm
 | some x => exact (congrArg Prod.snd h).symm
theorem May2_any (x0 x1 x2 x3 : Int) (w : World) : Calls Tryz.prog 65 #[.agg #[x0, x1, x2, x3]] w fun e w' => e = .returned (.bool (badH [x0, x1, x2, x3])) ∧ Below w.heap.size w w' := by
 have hv : badH [x0, x1, x2, x3] = (decide (x2 < 0) || decide (x3 < 0)) := rfl
 rw [hv];clear hv;by_cases h2 : x2 < 0
 ·have t2 : decide (x2 < 0) = true := decide_eq_true h2
  rw [t2];clear h2;go_in;go_wp2_with fail;go_ret;exact ⟨rfl, zBa⟩
 ·have t2 : decide (x2 < 0) = false := decide_eq_false h2
  rw [t2];clear h2;go_in;go_wp2_with fail;go_ret;exact ⟨rfl, zBa⟩
theorem May3_any (x0 x1 : Int) (w : World) : Calls Tryz.prog 66 #[.agg #[x0, x1]] w fun e w' => e = .returned (.bool (badR [x0, x1])) ∧ Below w.heap.size w w' := by
 have hv : badR [x0, x1] = decide (x1 < 1) := rfl;rw [hv];clear hv;go_in;go_wp2_with fail;go_ret;exact ⟨rfl, zBa⟩
theorem zt103 {p : Prop} (h : p := by
 cases H0 with
 | false =>
  go_wp2_with fail;go_ret;exact ⟨rfl, HB2.out⟩
 | true =>
  go_wp2_with fail;go_ret;exact ⟨rfl, HB2.out⟩) : p := h
theorem zz97 (v : Value) (b : Bk) (g : Nat) (acc sym : Int) (w : World) (hb : Hid (BkAt w v b)) (hg : Hid (∃ cs, v = .agg cs ∧ w.heap[g]? = some (.cells cs 27 (0, 0)))) (hs : Hid b.Small) (hr : Hid b.Rise) :
  Calls Tryz.prog 62 #[.int .i64 acc, .int .i64 sym, .pointer (some ⟨g, 0, none⟩)] w fun e w' => e = .returned (.bool (thereB b acc sym)) ∧ Below w.heap.size w w' := by
 obtain ⟨vh, vs, vo, vr, rfl, r1, r2, r3, r4⟩ := hb.out;obtain ⟨_, he, hg'⟩ := hg.out;injection he with he
 subst he;have K0 := zH hg';have lh : ∀ r ∈ b.h, r.length = 4 := by obtain ⟨_, _, _, h, _⟩ := r1; exact h
 have lr : ∀ r ∈ b.r, r.length = 2 := by obtain ⟨_, _, _, h, _⟩ := r4; exact h
 obtain ⟨rh, H0, hl1, hx1⟩ := zz13 lh (isId acc);obtain ⟨rr, R0, hl3, hx3⟩ := zz13 lr (isId sym)
 match rh, rr, hl1, hl3, hx1, hx3 with
 | [h0, h1, h2, h3], [p0, p1], _, _, hx1, hx3 =>
 have hres : thereB b acc sym = (H0 && R0) := by unfold thereB; rw [zz0n hx1, zz0n hx3]
 rw [hres];have B0 : Hid (BkAt w (.agg #[vh, vs, vo, vr, b.n]) b) := hb;have HX1 := zH hx1;have HX3 := zH hx3;have F1 : b.h.length ≤ 1000000 := by have := hs.out; unfold Bk.Small at this; omega
 have F3 : b.r.length ≤ 1000000 := by have := hs.out; unfold Bk.Small at this; omega
 have HR1 := zH hr.out.1;have HR3 := zH hr.out.2.2.1;clear hb hg hg' r1 r2 r3 r4 lh lr hx1 hx3 hres hs hr;have a0 := zC K0.out;go_in;go_wp2_with fail;(with_reducible refine (zz2f _ b acc h0 h1 h2 h3 H0 _ B0 F1 HR1 HX1).mono ?_);rintro e w1 ⟨rfl, hb⟩;have K1 := zK K0 hb;have hb' := hb.trans ((zz01 (Below.refl w1.heap.size w1) (Nat.le_refl _) (.cells #[h0, h1, h2, h3] 78)).mono hb.size);have B1 := zH (B0.out.call hb');have HB1 := zH hb';clear hb hb' a0;have a0 := zC K1.out;have hgl : g < w1.heap.size := zL K1.out;go_wp2_with fail;(with_reducible refine (zz4w _ b sym p0 p1 R0 _ B1 F3 HR3 HX3).mono ?_);rintro e w2 ⟨rfl, hb⟩;have HB2 := zB HB1 hb;clear hb;exact zt103
theorem zt51 {p : Prop} (h : p := by
 go_in;go_wp2_with fail;(with_reducible refine q.out.mono ?_);rintro e w2 ⟨rfl, hb⟩;have HB2 := zB HB0 hb;clear hb;go_wp2_with fail;go_ret;exact ⟨by simp, HB2.out⟩) : p := h
theorem May4_any (v : Value) (b : Bk) (g p : Nat) (x0 x1 x2 : Int) (w : World) (hb : Hid (BkAt w v b)) (hg : Hid (∃ cs, v = .agg cs ∧ w.heap[g]? = some (.cells cs 27 (0, 0)))) (hp : ZB w p #[.func (.func 62) #[] #[.pointer (some ⟨g, 0, none⟩)]] 114) (hs : Hid b.Small) (hr : Hid b.Rise) :
  Calls Tryz.prog 67 #[.agg #[x0, x1, x2], .pointer (some ⟨p, 0, none⟩)] w fun e w' => e = .returned (.bool (badS b [x0, x1, x2])) ∧ Below w.heap.size w w' := by
 have hv : badS b [x0, x1, x2] = (decide (x2 = 0) || !thereB b x0 x1) := rfl
 rw [hv];clear hv;have HB0 : Hid (Below w.heap.size w (w.alloc (.cells #[x0, x1, x2] 80))) := zBa;have q := zH (zz97 v b g x0 x1 (w.alloc (.cells #[x0, x1, x2] 80)) (hb.out.call HB0.out) (by obtain ⟨cs, h1, h2⟩ := hg.out; exact ⟨cs, h1, zz06 h2 HB0.out⟩) hs hr)
 have c0 := zz00 hp.out 0 _ rfl;have hpl : p < w.heap.size := zL hp.out;obtain ⟨T, hT⟩ : ∃ T, thereB b x0 x1 = T := ⟨_, rfl⟩;rw [hT] at q ⊢;clear hT hb hg hs hr hp;by_cases h : x2 = 0
 ·have t0 : (x2 == 0) = true := by simp [h]
  rw [decide_eq_true h];clear h;go_in;go_wp2_with fail;go_ret;exact ⟨by simp, HB0.out⟩
 ·have tb : (x2 == 0) = false := by simp [h]
  rw [decide_eq_false h];clear h;cases T with
  | true =>
   exact zt51
  | false =>
   exact zt51
theorem May5_any (v : Value) (b : Bk) (g p : Nat) (x0 x1 x2 x3 x4 x5 : Int) (w : World) (hb : Hid (BkAt w v b)) (hg : Hid (∃ cs, v = .agg cs ∧ w.heap[g]? = some (.cells cs 27 (0, 0)))) (hp : ZB w p #[.func (.func 62) #[] #[.pointer (some ⟨g, 0, none⟩)]] 114) (hs : Hid b.Small) (hr : Hid b.Rise) :
  Calls Tryz.prog 68 #[.agg #[x0, x1, x2, x3, x4, x5], .pointer (some ⟨p, 0, none⟩)] w fun e w' => e = .returned (.bool (badO b [x0, x1, x2, x3, x4, x5])) ∧ Below w.heap.size w w' := by
 have hv : badO b [x0, x1, x2, x3, x4, x5] = (decide (x4 < 1) || (decide (x5 < 1) || (decide (x3 < 0) || (decide (1 < x3) || !thereB b x1 x2)))) := rfl
 rw [hv];clear hv;have HB0 : Hid (Below w.heap.size w (w.alloc (.cells #[x0, x1, x2, x3, x4, x5] 82))) := zBa;have q := zH (zz97 v b g x1 x2 (w.alloc (.cells #[x0, x1, x2, x3, x4, x5] 82)) (hb.out.call HB0.out) (by obtain ⟨cs, h1, h2⟩ := hg.out; exact ⟨cs, h1, zz06 h2 HB0.out⟩) hs hr)
 have c0 := zz00 hp.out 0 _ rfl;have hpl : p < w.heap.size := zL hp.out;obtain ⟨T, hT⟩ : ∃ T, thereB b x1 x2 = T := ⟨_, rfl⟩;rw [hT] at q ⊢;clear hT hb hg hs hr hp;by_cases h : x4 < 1
 ·have t0 : decide (x4 < 1) = true := decide_eq_true h
  rw [decide_eq_true h];clear h;go_in;go_wp2_with fail;go_ret;exact ⟨by simp, HB0.out⟩
 ·have tb : decide (x4 < 1) = false := decide_eq_false h
  rw [decide_eq_false h];clear h;by_cases h : x5 < 1
  ·have t0 : decide (x5 < 1) = true := decide_eq_true h
   rw [decide_eq_true h];clear h;go_in;go_wp2_with fail;go_ret;exact ⟨by simp, HB0.out⟩
  ·have tc : decide (x5 < 1) = false := decide_eq_false h
   rw [decide_eq_false h];clear h;by_cases h : x3 < 0
   ·have t0 : decide (x3 < 0) = true := decide_eq_true h
    rw [decide_eq_true h];clear h;go_in;go_wp2_with fail;go_ret;exact ⟨by simp, HB0.out⟩
   ·have td : decide (x3 < 0) = false := decide_eq_false h
    rw [decide_eq_false h];clear h;by_cases h : 1 < x3
    ·have t0 : decide (1 < x3) = true := decide_eq_true h
     rw [decide_eq_true h];clear h;go_in;go_wp2_with fail;go_ret;exact ⟨by simp, HB0.out⟩
    ·have te : decide (1 < x3) = false := decide_eq_false h
     rw [decide_eq_false h];clear h;cases T with
     | true =>
      exact zt51
     | false =>
      exact zt51
theorem zt54 {p : Prop} (h : p := by
 rw [decide_eq_true h] at hRes;have hR : Res = false := by rw [← hRes]; simp
 subst hR;clear h hRes;rw [← hw1'.out] at a0 a1 a2 a3 a4;go_in;go_wp2_with fail;go_ret;exact ⟨rfl, by have := HB.out; rw [← hw1'.out] at this; exact this⟩) : p := h
theorem lists_any (v : Value) (b : Bk) (w : World) (hb : Hid (BkAt w v b)) (hs : Hid b.Small) :
  Calls Tryz.prog 61 #[v] w fun e w' => e = .returned (.bool b.listsB) ∧ Below w.heap.size w w' := by
 obtain ⟨vh, vs, vo, vr, rfl, g1, g2, g3, g4⟩ := hb.out;obtain ⟨Ah, ch, rfl, _⟩ := g1;obtain ⟨As, cs, rfl, _⟩ := g2;obtain ⟨Ao, co, rfl, _⟩ := g3;obtain ⟨Ar, cr, rfl, _⟩ := g4;obtain ⟨w1, hw1⟩ : ∃ w1, w.alloc (.cells (BF Ah ch As cs Ao co Ar cr b b.n) 27) = w1 := ⟨_, rfl⟩;have HB : Hid (Below w.heap.size w w1) := by rw [← hw1]; exact zBa
 have K : ZB w1 w.heap.size (BF Ah ch As cs Ao co Ar cr b b.n) 27 := by rw [← hw1]; exact zz02 w _
 obtain ⟨_, _, _, _, hh, g1, g2, g3, g4⟩ := hb.out.call HB.out;injection hh with hh
 simp only [Array.mk.injEq, List.cons.injEq] at hh;obtain ⟨rfl, rfl, rfl, rfl, _⟩ := hh;have hl : b.h.length ≤ 1000000 ∧ b.s.length ≤ 1000000 ∧ b.o.length ≤ 1000000 ∧ b.r.length ≤ 1000000 := by have := hs.out; unfold Bk.Small at this; omega
 obtain ⟨hlh, hls, hlo, hlr⟩ := hl;have R1 := zH g1;have R2 := zH g3;have R3 := zH g4;have R4 := zH g2;obtain ⟨Res, hRes⟩ : ∃ Res, b.listsB = Res := ⟨_, rfl⟩;rw [hRes];unfold Bk.listsB Bk.riseB at hRes;have Q1 := zH (fun wz v hv => zz4g v b.h wz hv hlh)
 have Q2 := zH (fun wz v hv => zz5o v b.o wz hv hlo)
 have Q3 := zH (fun wz v hv => zz5n v b.r wz hv hlr)
 have Q4 := zH (fun wz v hv => zz53 v b.s wz hv hls)
 generalize riseHB b.h = rh at *;generalize riseHB b.o = ro at *;generalize riseHB b.r = rr at *;generalize riseSB b.s = rs at *;have hs1 := zL K.out;have hw1' := zH hw1;clear hb g1 g2 g3 g4 hw1 hs;have a0 := zz00 K.out 0 _ rfl;have a1 := zz00 K.out 1 _ rfl;have a2 := zz00 K.out 2 _ rfl;have a3 := zz00 K.out 3 _ rfl;have a4 := zz00 K.out 4 _ rfl;by_cases h : 32 < b.h.length
 ·have t0 : decide ((32 : Int) < (b.h.length : Int)) = true := decide_eq_true zw
  exact zt54
 have t0 : decide ((32 : Int) < (b.h.length : Int)) = false := decide_eq_false zw;rw [decide_eq_false h] at hRes;clear h;by_cases h : 64 < b.o.length
 ·have t0 : decide ((64 : Int) < (b.o.length : Int)) = true := decide_eq_true zw
  exact zt54
 have t1 : decide ((64 : Int) < (b.o.length : Int)) = false := decide_eq_false zw;rw [decide_eq_false h] at hRes;clear h;by_cases h : 32 < b.r.length
 ·have t0 : decide ((32 : Int) < (b.r.length : Int)) = true := decide_eq_true zw
  exact zt54
 have t2 : decide ((32 : Int) < (b.r.length : Int)) = false := decide_eq_false zw;rw [decide_eq_false h] at hRes;clear h;rw [Bool.not_false, Bool.true_and, Bool.true_and, Bool.true_and] at hRes;replace hRes := zH hRes;rw [← hw1'.out] at a0 a1 a2 a3 a4;go_in;go_wp2_with fail;clear t0 t1 t2;rw [hw1'.out] at a0 a1 a2 a3 a4 ⊢;(with_reducible refine (Q1.out _ _ (zH R1.out.rec')).mono ?_);rintro e w2 ⟨rfl, hb⟩;have K2 := zK K hb;have HB2 := zB HB hb;replace R2 := zH (R2.out.call hb);replace R3 := zH (R3.out.call hb);replace R4 := zH (R4.out.call hb);clear hb a0 a1 a2 a3 a4;cases rh with
 | false =>
  have hR : Res = false := by rw [← hRes.out]; simp
  subst hR;clear hRes;go_wp2_with fail;go_ret;exact ⟨rfl, HB2.out⟩
 | true =>
 have a0 := zC K2.out;go_wp2_with fail;(with_reducible refine (Q2.out _ _ (zH R2.out.rec')).mono ?_);rintro e w3 ⟨rfl, hb⟩;have K3 := zK K2 hb;have HB3 := zB HB2 hb;replace R3 := zH (R3.out.call hb);replace R4 := zH (R4.out.call hb);clear hb a0;cases ro with
 | false =>
  have hR : Res = false := by rw [← hRes.out]; simp
  subst hR;clear hRes;go_wp2_with fail;go_ret;exact ⟨rfl, HB3.out⟩
 | true =>
 have a0 := zC K3.out;go_wp2_with fail;(with_reducible refine (Q3.out _ _ (zH R3.out.rec')).mono ?_);rintro e w4 ⟨rfl, hb⟩;have K4 := zK K3 hb;have HB4 := zB HB3 hb;replace R4 := zH (R4.out.call hb);clear hb a0;cases rr with
 | false =>
  have hR : Res = false := by rw [← hRes.out]; simp
  subst hR;clear hRes;go_wp2_with fail;go_ret;exact ⟨rfl, HB4.out⟩
 | true =>
 have a0 := zC K4.out;go_wp2_with fail;(with_reducible refine (Q4.out _ _ (zH R4.out.rec')).mono ?_);rintro e w5 ⟨rfl, hb⟩;have K5 := zK K4 hb;have HB5 := zB HB4 hb;clear hb a0;have hR : Res = rs := by rw [← hRes.out]; simp
 subst hR;clear hRes;go_wp2_with fail;go_ret;exact ⟨rfl, HB5.out⟩
theorem badH_pred (b : Bk) (w : World) (hk : ∀ r ∈ b.h, r.length = 4) : PredOn 65 #[] b.h badH w := fun W r hr hB => by
 match r, hk r hr with
 | [x0, x1, x2, x3], _ => exact May2_any x0 x1 x2 x3 W
theorem badR_pred (b : Bk) (w : World) (hk : ∀ r ∈ b.r, r.length = 2) : PredOn 66 #[] b.r badR w := fun W r hr hB => by
 match r, hk r hr with
 | [x0, x1], _ => exact May3_any x0 x1 W
theorem badS_pred (v : Value) (b : Bk) (g p : Nat) (w : World) (hb : Hid (BkAt w v b)) (hg : Hid (∃ cs, v = .agg cs ∧ w.heap[g]? = some (.cells cs 27 (0, 0)))) (hp : ZB w p #[.func (.func 62) #[] #[.pointer (some ⟨g, 0, none⟩)]] 114) (hs : Hid b.Small) (hr : Hid b.Rise) (hk : ∀ r ∈ b.s, r.length = 3) :
  PredOn 67 #[.pointer (some ⟨p, 0, none⟩)] b.s (badS b) w := fun W r hr' hB => by
 match r, hk r hr' with
 | [x0, x1, x2], _ => exact May4_any v b g p x0 x1 x2 W (hb.out.call hB) (by obtain ⟨cs, h1, h2⟩ := hg.out; exact ⟨cs, h1, zz06 h2 hB⟩) (zz06 hp.out hB) hs hr
theorem badO_pred (v : Value) (b : Bk) (g p : Nat) (w : World) (hb : Hid (BkAt w v b)) (hg : Hid (∃ cs, v = .agg cs ∧ w.heap[g]? = some (.cells cs 27 (0, 0)))) (hp : ZB w p #[.func (.func 62) #[] #[.pointer (some ⟨g, 0, none⟩)]] 114) (hs : Hid b.Small) (hr : Hid b.Rise) (hk : ∀ r ∈ b.o, r.length = 6) :
  PredOn 68 #[.pointer (some ⟨p, 0, none⟩)] b.o (badO b) w := fun W r hr' hB => by
 match r, hk r hr' with
 | [x0, x1, x2, x3, x4, x5], _ => exact May5_any v b g p x0 x1 x2 x3 x4 x5 W (hb.out.call hB) (by obtain ⟨cs, h1, h2⟩ := hg.out; exact ⟨cs, h1, zz06 h2 hB⟩) (zz06 hp.out hB) hs hr
theorem zz5d {b : Bk} (h : b.listsB = true) : b.Rise := by
 unfold Bk.listsB at h;simp only [Bool.and_eq_true] at h;exact (Bk.riseB_iff b).1 h.2.2.2
theorem zz2n (v : Value) (b : Bk) (w : World) (hb : Hid (BkAt w v b)) (hs : Hid b.Small) :
  Calls Tryz.prog 27 #[v] w fun e w' => e = .returned (.bool b.mayB) ∧ Below w.heap.size w w' := by
 obtain ⟨vh, vs, vo, vr, rfl, g1, g2, g3, g4⟩ := hb.out;obtain ⟨Ah, ch, rfl, kh, _⟩ := g1;obtain ⟨As, cs, rfl, ks, _⟩ := g2;obtain ⟨Ao, co, rfl, ko, _⟩ := g3;obtain ⟨Ar, cr, rfl, kr, _⟩ := g4;obtain ⟨w1, hw1⟩ : ∃ w1, w.alloc (.cells (BF Ah ch As cs Ao co Ar cr b b.n) 27) = w1 := ⟨_, rfl⟩;have HB : Hid (Below w.heap.size w w1) := by rw [← hw1]; exact zBa
 have K : ZB w1 w.heap.size (BF Ah ch As cs Ao co Ar cr b b.n) 27 := by rw [← hw1]; exact zz02 w _
 have BA := zH (hb.out.call HB.out);have hl : b.h.length ≤ 1000000 ∧ b.s.length ≤ 1000000 ∧ b.o.length ≤ 1000000 ∧ b.r.length ≤ 1000000 := by have := hs.out; unfold Bk.Small at this; omega
 obtain ⟨hlh, hls, hlo, hlr⟩ := hl;have KH := zH kh;have KS := zH ks;have KO := zH ko;have KR := zH kr;obtain ⟨Res, hRes⟩ : ∃ Res, b.mayB = Res := ⟨_, rfl⟩;rw [hRes];unfold Bk.mayB Bk.countB at hRes;replace hRes := zH hRes;replace hw1 := zH hw1;clear hb kh ks ko kr;have a0 := zz00 K.out 0 _ rfl;have a1 := zz00 K.out 1 _ rfl;have a2 := zz00 K.out 2 _ rfl;have a3 := zz00 K.out 3 _ rfl;have a4 := zz00 K.out 4 _ rfl;rw [← hw1.out] at a0 a1 a2 a3 a4;go_in;go_wp2_with fail;rw [hw1.out] at a0 a1 a2 a3 a4 ⊢;(with_reducible refine (lists_any _ b _ BA hs).mono ?_);rintro e w2 ⟨rfl, hb⟩;have K2 := zK K hb;have BA2 := zH (BA.out.call hb);have HB2 := zB HB hb;clear hb a0 a1 a2 a3 a4;have a0 := zC K2.out;have l2 := zL K2.out;cases hL : b.listsB with
 | false =>
  have hR : Res = false := by rw [← hRes.out, hL]; simp
  subst hR;clear hRes hL;go_wp2_with fail;go_ret;exact ⟨rfl, HB2.out⟩
 | true =>
 have HR := zH (zz5d hL);rw [hL, Bool.true_and] at hRes;clear hL;by_cases h0 : b.n < 0
 ·have t0 : decide (b.n < 0) = true := decide_eq_true h0
  have hR : Res = false := by rw [← hRes.out, t0]; simp
  subst hR;clear hRes h0;go_wp2_with fail;go_ret;exact ⟨rfl, HB2.out⟩
 have t0 : decide (b.n < 0) = false := decide_eq_false h0;by_cases h1 : 1099511627776 < b.n
 ·have t1 : decide (1099511627776 < b.n) = true := decide_eq_true h1
  have hR : Res = false := by rw [← hRes.out, t1]; simp
  subst hR;clear hRes h0 h1;go_wp2_with fail;go_ret;exact ⟨rfl, HB2.out⟩
 have t1 : decide (1099511627776 < b.n) = false := decide_eq_false h1;rw [t0, t1, Bool.not_false, Bool.true_and, Bool.true_and] at hRes;clear h0 h1;obtain ⟨w3, hw3⟩ : ∃ w3, w2.alloc (.cells #[.func (.func 62) #[] #[.pointer (some ⟨w.heap.size, 0, none⟩)]] 114) = w3 := ⟨_, rfl⟩;have hb := zM0 hw3;have K3 := zK K2 hb;have BA3 := zH (BA2.out.call hb);have HB3 := zB HB2 hb;have P3 : ZB w3 w2.heap.size #[.func (.func 62) #[] #[.pointer (some ⟨w.heap.size, 0, none⟩)]] 114 := by rw [← hw3]; exact zz02 _ _
 replace hw3 := zH hw3;clear hb;have hst := fun (a : Addr) (c : Array Value) (wz : World) => run_store Tryz.prog wz a (.func (.func 62) #[] c) .plain rfl
 go_wp2_with fail;rw [hw3.out];clear a0 t0 t1;have hrow : Hid (RecAt w3 (.slice Ah b.h.length ch) 4 b.h) := by
  obtain ⟨_, _, _, _, hh, r1, r2, r3, r4⟩ := BA3.out;injection hh with hh
  simp only [Array.mk.injEq, List.cons.injEq] at hh;obtain ⟨rfl, rfl, rfl, rfl, _⟩ := hh;exact r1.rec'
 have q := zH (zz3q 65 #[] (enters_of Tryz.func65 zk rfl) (.slice Ah b.h.length ch) b.h (badH) w3 hrow hlh (badH_pred b _ KH.out));have a0 := zC K3.out;obtain ⟨F, hF⟩ : ∃ F, b.h.any (badH) = F := ⟨_, rfl⟩;rw [hF] at q hRes;clear hF hrow;go_wp2_with fail;(with_reducible refine q.out.mono ?_);rintro e w4 ⟨rfl, hb⟩;have K4 := zK K3 hb;have P4 := zK P3 hb;have BA4 := zH (BA3.out.call hb);have HB4 := zB HB3 hb;clear hb q a0;cases F with
 | true =>
  have hR : Res = false := by rw [← hRes.out]; simp
  subst hR;clear hRes;go_wp2_with fail;go_ret;exact ⟨rfl, HB4.out⟩
 | false =>
 rw [Bool.not_false, Bool.true_and] at hRes;have hrow : Hid (RecAt w4 (.slice Ar b.r.length cr) 2 b.r) := by
  obtain ⟨_, _, _, _, hh, r1, r2, r3, r4⟩ := BA4.out;injection hh with hh
  simp only [Array.mk.injEq, List.cons.injEq] at hh;obtain ⟨rfl, rfl, rfl, rfl, _⟩ := hh;exact r4.rec'
 have q := zH (zz51 66 #[] (enters_of Tryz.func66 zk rfl) (.slice Ar b.r.length cr) b.r (badR) w4 hrow hlr (badR_pred b _ KR.out));have a0 := zC K4.out;obtain ⟨F, hF⟩ : ∃ F, b.r.any (badR) = F := ⟨_, rfl⟩;rw [hF] at q hRes;clear hF hrow;go_wp2_with fail;(with_reducible refine q.out.mono ?_);rintro e w5 ⟨rfl, hb⟩;have K5 := zK K4 hb;have P5 := zK P4 hb;have BA5 := zH (BA4.out.call hb);have HB5 := zB HB4 hb;clear hb q a0;cases F with
 | true =>
  have hR : Res = false := by rw [← hRes.out]; simp
  subst hR;clear hRes;go_wp2_with fail;go_ret;exact ⟨rfl, HB5.out⟩
 | false =>
 rw [Bool.not_false, Bool.true_and] at hRes;have hrow : Hid (RecAt w5 (.slice As b.s.length cs) 3 b.s) := by
  obtain ⟨_, _, _, _, hh, r1, r2, r3, r4⟩ := BA5.out;injection hh with hh
  simp only [Array.mk.injEq, List.cons.injEq] at hh;obtain ⟨rfl, rfl, rfl, rfl, _⟩ := hh;exact r2.rec'
 have q := zH (zz3w 67 #[.pointer (some ⟨w2.heap.size, 0, none⟩)] (enters_of Tryz.func67 zk rfl) (.slice As b.s.length cs) b.s (badS b) w5 hrow hls (badS_pred _ b _ _ _ BA5 ⟨_, rfl, K5.out⟩ P5 hs HR KS.out));have a0 := zC K5.out;obtain ⟨F, hF⟩ : ∃ F, b.s.any (badS b) = F := ⟨_, rfl⟩;rw [hF] at q hRes;clear hF hrow;go_wp2_with fail;(with_reducible refine q.out.mono ?_);rintro e w6 ⟨rfl, hb⟩;have K6 := zK K5 hb;have P6 := zK P5 hb;have BA6 := zH (BA5.out.call hb);have HB6 := zB HB5 hb;clear hb q a0;cases F with
 | true =>
  have hR : Res = false := by rw [← hRes.out]; simp
  subst hR;clear hRes;go_wp2_with fail;go_ret;exact ⟨rfl, HB6.out⟩
 | false =>
 rw [Bool.not_false, Bool.true_and] at hRes;have hrow : Hid (RecAt w6 (.slice Ao b.o.length co) 6 b.o) := by
  obtain ⟨_, _, _, _, hh, r1, r2, r3, r4⟩ := BA6.out;injection hh with hh
  simp only [Array.mk.injEq, List.cons.injEq] at hh;obtain ⟨rfl, rfl, rfl, rfl, _⟩ := hh;exact r3.rec'
 have q := zH (zz52 68 #[.pointer (some ⟨w2.heap.size, 0, none⟩)] (enters_of Tryz.func68 zk rfl) (.slice Ao b.o.length co) b.o (badO b) w6 hrow hlo (badO_pred _ b _ _ _ BA6 ⟨_, rfl, K6.out⟩ P6 hs HR KO.out));have a0 := zC K6.out;obtain ⟨F, hF⟩ : ∃ F, b.o.any (badO b) = F := ⟨_, rfl⟩;rw [hF] at q hRes;clear hF hrow;go_wp2_with fail;(with_reducible refine q.out.mono ?_);rintro e w7 ⟨rfl, hb⟩;have K7 := zK K6 hb;have P7 := zK P6 hb;have BA7 := zH (BA6.out.call hb);have HB7 := zB HB6 hb;clear hb q a0;cases F with
 | true =>
  have hR : Res = false := by rw [← hRes.out]; rfl
  subst hR;clear hRes;go_wp2_with fail;go_ret;exact ⟨rfl, HB7.out⟩
 | false =>
  have hR : Res = true := by rw [← hRes.out]; rfl
  subst hR;clear hRes;go_wp2_with fail;go_ret;exact ⟨rfl, HB7.out⟩
end
end Go.Proofs.YtajogedbacpohaaGreatDoor
namespace Go.Proofs.YtajogedbacpohaaGreatDoor
open Go
namespace Bg
def pv (f : Nat → Nat) : Nat → Nat
 | 0 => 0
 | n + 1 => pv f n + f n * 10000 ^ n
structure Dg (f : Nat → Nat) (n : Nat) : Prop where
 lt : ∀ i, f i < 10000
 zero : ∀ i, n ≤ i → f i = 0
structure Canon (f : Nat → Nat) (n : Nat) : Prop extends Dg f n where
 top : n = 0 ∨ f (n - 1) ≠ 0
theorem zz3n {f g : Nat → Nat} : ∀ n, (∀ i, i < n → f i = g i) → pv f n = pv g n
 | 0, _ => rfl
 | n + 1, h => by unfold pv; rw [zz3n n (fun i hi => h i zw), h n zw]
theorem zz29 {f : Nat → Nat} {n : Nat} (h : ∀ i, n ≤ i → f i = 0) : ∀ m, n ≤ m → pv f m = pv f n
 | 0, hm => by obtain rfl : n = 0 := by omega
               rfl
 | m + 1, hm => by
  by_cases e : n = m + 1
  ·rw [e]
  ·show pv f m + f m * 10000 ^ m = _
   rw [zz29 h m zw, h m zw]; omega
theorem pv_lt {f : Nat → Nat} : ∀ n, (∀ i, i < n → f i < 10000) → pv f n < 10000 ^ n
 | 0, _ => Nat.one_pos
 | n + 1, h => by
  have h1 := pv_lt n (fun i hi => h i zw)
  have h2 := h n zw;have h3 : f n * 10000 ^ n ≤ 9999 * 10000 ^ n := Nat.mul_le_mul_right _ zw;show pv f n + f n * 10000 ^ n < 10000 ^ (n + 1);rw [Nat.pow_succ]; omega
theorem zzay {a b : Nat → Nat} {i : Nat} (ha : ∀ i, a i < 10000) (hi : a i < b i) : ∀ n, i < n → (∀ j, i < j → j < n → a j = b j) → pv a n < pv b n
 | 0, h, _ => by omega
 | n + 1, h, he => by
  show pv a n + a n * 10000 ^ n < pv b n + b n * 10000 ^ n;by_cases e : i = n
  ·subst e
   have h1 := pv_lt i (fun j _ => ha j)
   have h2 : (a i + 1) * 10000 ^ i ≤ b i * 10000 ^ i := Nat.mul_le_mul_right _ hi;rw [Nat.add_mul] at h2;omega
  ·have := zzay ha hi n zw (fun j h1 h2 => he j h1 zw)
   rw [he n zw zw];omega
theorem pv_top {f : Nat → Nat} {n : Nat} (h : Canon f n) (hn : 0 < n) : 10000 ^ (n - 1) ≤ pv f n := by
 obtain ⟨k, rfl⟩ : ∃ k, n = k + 1 := ⟨n - 1, by omega⟩
 have h1 := h.top;simp only [Nat.add_sub_cancel] at h1 ⊢;have h2 : 1 * 10000 ^ k ≤ f k * 10000 ^ k := Nat.mul_le_mul_right _ zw;show _ ≤ pv f k + f k * 10000 ^ k;omega
theorem zz1p {f : Nat → Nat} {n k : Nat} (h : Canon f n) (hv : pv f n < 10000 ^ k) : n ≤ k := by
 by_cases hn : n = 0
 ·omega
 ·have h1 := pv_top h zw
  have h2 : 10000 ^ (n - 1) < 10000 ^ k := by omega
  have h3 := (Nat.pow_lt_pow_iff_right (by decide : 1 < 10000)).1 h2
  omega
theorem canon_pos {f : Nat → Nat} {n : Nat} (h : Canon f n) : pv f n = 0 ↔ n = 0 := by
 constructor
 ·intro h0
  by_cases hn : n = 0
  ·exact hn
  ·have h1 := pv_top h zw
   have h2 : 0 < 10000 ^ (n - 1) := Nat.pow_pos zx;omega
 ·intro h0; subst h0; rfl
def dg (ds : List Nat) (i : Nat) : Nat := ds.getD i 0
def vl (ds : List Nat) : Nat := pv (dg ds) ds.length
theorem zz83 (ds : List Nat) (d i : Nat) (h : i < ds.length) : dg (ds ++ [d]) i = dg ds i := by
 unfold dg; simp [List.getD, List.getElem?_append_left h]
theorem zz4s (ds : List Nat) (d : Nat) : dg (ds ++ [d]) ds.length = d := by
 unfold dg; simp [List.getD]
theorem zz3x (ds : List Nat) (d : Nat) : vl (ds ++ [d]) = vl ds + d * 10000 ^ ds.length := by
 unfold vl;rw [List.length_append];show pv _ ds.length + _ = _;rw [zz4s, zz3n ds.length (fun i hi => zz83 ds d i hi)]
theorem vl_nil : vl [] = 0 := rfl
theorem dg_zero (ds : List Nat) (i : Nat) (h : ds.length ≤ i) : dg ds i = 0 := by
 unfold dg; simp [List.getD, List.getElem?_eq_none h]
theorem dg_dg {ds : List Nat} (h : ∀ d ∈ ds, d < 10000) : Dg (dg ds) ds.length := ⟨fun i => by
 by_cases hi : i < ds.length
 ·unfold dg; simp only [List.getD, List.getElem?_eq_getElem hi, Option.getD_some]; exact h _ (List.getElem_mem hi)
 ·rw [dg_zero ds i zw]; decide, dg_zero ds⟩
def cut (f : Nat → Nat) (m i : Nat) : Nat := if i < m then f i else 0
theorem dg_cut {f : Nat → Nat} {n m : Nat} (h : Dg f n) : Dg (cut f m) m := ⟨fun i => by unfold cut; split; exact h.lt i; decide, fun i hi => by unfold cut; rw [if_neg zw]⟩
theorem pv_cut (f : Nat → Nat) (m : Nat) : pv (cut f m) m = pv f m := zz3n m fun i hi => by unfold cut; rw [if_pos hi]
theorem add_step {o A B c q x y : Nat} (h : o + c * q = A + B) : o + (x + y + c) % 10000 * q + (x + y + c) / 10000 * (q * 10000) = A + x * q + (B + y * q) := by
 have h1 := Nat.div_add_mod (x + y + c) 10000;generalize (x + y + c) % 10000 = m at *;generalize (x + y + c) / 10000 = d at *;have h2 : (10000 * d + m) * q = (x + y + c) * q := by rw [h1]
 grind
theorem zzad {o A B c q x y : Nat} (h : o + B = A + c * q) (hc : c ≤ 1) (hx : x < 10000) (hy : y < 10000) :
  (y + c ≤ x → o + (x - y - c) * q + (B + y * q) = A + x * q + 0 * (q * 10000)) ∧ (x < y + c → o + (x + 10000 - y - c) * q + (B + y * q) = A + x * q + 1 * (q * 10000)) := by
 constructor
 ·intro h1
  obtain ⟨t, ht⟩ : ∃ t, x = t + y + c := ⟨x - y - c, by omega⟩
  rw [show x - y - c = t by omega, ht]
  grind
 ·intro h1
  obtain ⟨t, ht⟩ : ∃ t, x + 10000 = t + y + c := ⟨x + 10000 - y - c, by omega⟩
  rw [show x + 10000 - y - c = t by omega]
  have h2 : (x + 10000) * q = (t + y + c) * q := by rw [ht]
  grind
end Bg
end Go.Proofs.YtajogedbacpohaaGreatDoor
namespace Go.Proofs.YtajogedbacpohaaGreatDoor
open Go
namespace Mon
abbrev M : Int := 18446744073709551616
abbrev M3 : Int := 6277101735386680763835789423207666416102355444464034512896
def w0 (V : Int) : Int := V % M
def w1 (V : Int) : Int := V / M % M
def w2 (V : Int) : Int := V / M / M
def Ok (V : Int) : Prop := 0 ≤ V ∧ V < M3
def sg (V : Int) : Int := if V < 3138550867693340381917894711603833208051177722232017256448 then V else V - M3
def fits (x : Int) : Bool := decide (-9223372036854775808 ≤ x) && decide (x ≤ 9223372036854775807)
def total (V : Int) : Int × Bool := if fits (sg V) then (sg V, true) else (0, false)
def share (V r : Int) : Int × Bool :=
 if V < 3138550867693340381917894711603833208051177722232017256448 ∧ 0 ≤ r ∧ r ≤ 1000 then
  (if ((V * r) % M3 + 99) % M3 / 100 ≤ 9223372036854775807 then (((V * r) % M3 + 99) % M3 / 100, true) else (0, false))
 else (0, false)
theorem w_ok {V : Int} (h : Ok V) : (0 ≤ w0 V ∧ w0 V < M) ∧ (0 ≤ w1 V ∧ w1 V < M) ∧ (0 ≤ w2 V ∧ w2 V < M) := by
 obtain ⟨a, b⟩ := h;unfold w0 w1 w2 M M3 at *;omega
theorem w_back {V : Int} (h : Ok V) : w0 V + w1 V * M + w2 V * (M * M) = V := by
 obtain ⟨a, b⟩ := h;unfold w0 w1 w2 M M3 at *;omega
theorem w_of {V a b c : Int} (ha : 0 ≤ a ∧ a < M) (hb : 0 ≤ b ∧ b < M) (hc : 0 ≤ c ∧ c < M) (h : V = a + b * M + c * (M * M)) : w0 V = a ∧ w1 V = b ∧ w2 V = c ∧ Ok V := by
 unfold w0 w1 w2 Ok M M3 at *;omega
theorem add_words {a b c d e f : Int} (ha : 0 ≤ a ∧ a < M) (hb : 0 ≤ b ∧ b < M) (hc : 0 ≤ c ∧ c < M) (hd : 0 ≤ d ∧ d < M) (he : 0 ≤ e ∧ e < M) (hf : 0 ≤ f ∧ f < M) :
  (a + b * M + c * (M * M) + (d + e * M + f * (M * M))) % M3 =
   (a + d) % M + ((b + e + (a + d) / M) % M) * M + ((c + f + (b + e + (a + d) / M) / M) % M) * (M * M) := by
 unfold M M3 at *;omega
theorem neg_words {a b c : Int} (ha : 0 ≤ a ∧ a < M) (hb : 0 ≤ b ∧ b < M) (hc : 0 ≤ c ∧ c < M) :
  (M3 - (a + b * M + c * (M * M))) % M3 =
   (M - 1 - a + 1) % M + ((M - 1 - b + (M - 1 - a + 1) / M) % M) * M + ((M - 1 - c + (M - 1 - b + (M - 1 - a + 1) / M) / M) % M) * (M * M) := by
 unfold M M3 at *;omega
theorem div_words {a b c : Int} (ha : 0 ≤ a ∧ a < M) (hb : 0 ≤ b ∧ b < M) (hc : 0 ≤ c ∧ c < M) :
  (a + b * M + c * (M * M)) / 100 = (((c % 100) * M + b) % 100 * M + a) / 100 + (((c % 100) * M + b) / 100) * M + (c / 100) * (M * M) := by
 unfold M at *;omega
end Mon
section
open Go Go.RowKit Mon
theorem add64 (x y c : Int) (hx : 0 ≤ x) (hy : 0 ≤ y) (hc0 : 0 ≤ c) (hc : c ≤ 1) (w : World) : (callFunc 184 #[.int .u64 x, .int .u64 y, .int .u64 c]).run Tryz.prog w =
  .ok (.value (.tuple #[.int .u64 ((x + y + c) % 18446744073709551616), .int .u64 ((x + y + c) / 18446744073709551616)])) w := by
 rw [run_callFunc_extern Tryz.func184 zk zk zk (e := add64Entry) zk, run_add64 x y c hx hy hc0 hc]
 rfl
theorem zz77 (x y : Int) (hx : 0 ≤ x) (hy : 0 ≤ y) (w : World) : (callFunc 184 #[.int .u64 x, .int .u64 y, .int .u64 0]).run Tryz.prog w =
  .ok (.value (.tuple #[.int .u64 ((x + y) % 18446744073709551616), .int .u64 ((x + y) / 18446744073709551616)])) w := by
 simpa using add64 x y 0 hx hy (Int.le_refl 0) zx w
namespace Mul64
theorem maskN (a : Nat) (ha : a < 18446744073709551616) : bits .and .u64 (a : Int) 4294967295 = ((a % 4294967296 : Nat) : Int) := by
 have h := bits_and_u64_nat a 4294967295 ha zw;have e : a &&& 4294967295 = a % 4294967296 := Nat.and_two_pow_sub_one_eq_mod a 32;rw [e] at h;exact h
theorem divN (a : Nat) : (a : Int) / 4294967296 = ((a / 4294967296 : Nat) : Int) := by omega
theorem mulN (a b : Nat) : (a : Int) * (b : Int) = ((a * b : Nat) : Int) := (Int.natCast_mul a b).symm
theorem addN (a b : Nat) : (a : Int) + (b : Int) = ((a + b : Nat) : Int) := (Int.natCast_add a b).symm
theorem wrapN (a : Nat) (ha : a < 18446744073709551616) : IntKind.u64.wrap (a : Int) = (a : Int) := by rw [IntKind.wrap_u64]; omega
theorem wrapM (a : Nat) : IntKind.u64.wrap (a : Int) = ((a % 18446744073709551616 : Nat) : Int) := by rw [IntKind.wrap_u64]; omega
end Mul64
theorem mul64_nat (x y : Nat) (hx : x < 18446744073709551616) (hy : y < 18446744073709551616) (w : World) :
  Calls Tryz.prog 176 #[.int .u64 x, .int .u64 y] w fun e w' => e = .returned (.tuple #[.int .u64 ((x * y / 18446744073709551616 : Nat) : Int), .int .u64 ((x * y % 18446744073709551616 : Nat) : Int)]) ∧ w' = w := by
 obtain ⟨bd, bt, bw, hhi⟩ := Lib.mul64_hi x y hx hy;have ba := Lib.half_mul_le (a := x / 4294967296) (b := y / 4294967296) zw zw;have bb := Lib.half_mul_le (a := x / 4294967296) (b := y % 4294967296) zw zw;have bc := Lib.half_mul_le (a := x % 4294967296) (b := y / 4294967296) zw zw;have ba' : x / 4294967296 * (y / 4294967296) < 18446744073709551616 := by omega
 have bb' : x / 4294967296 * (y % 4294967296) < 18446744073709551616 := by omega
 have bc' : x % 4294967296 * (y / 4294967296) < 18446744073709551616 := by omega
 have bh1 : x / 4294967296 * (y / 4294967296) + (x / 4294967296 * (y % 4294967296) + x % 4294967296 * (y % 4294967296) / 4294967296) / 4294967296 < 18446744073709551616 := by omega
 have bh : x / 4294967296 * (y / 4294967296) + (x / 4294967296 * (y % 4294967296) + x % 4294967296 * (y % 4294967296) / 4294967296) / 4294967296 + ((x / 4294967296 * (y % 4294967296) + x % 4294967296 * (y % 4294967296) / 4294967296) % 4294967296 + x % 4294967296 * (y / 4294967296)) / 4294967296 < 18446744073709551616 := by omega
 go_in;go_wp2;simp only [Mul64.maskN x hx, Mul64.maskN y hy, Mul64.divN, Mul64.mulN, Mul64.addN, Mul64.wrapN _ bd, Mul64.wrapN _ bb', Mul64.wrapN _ bt, Mul64.maskN _ bt, Mul64.wrapN _ bc', Mul64.wrapN _ bw, Mul64.wrapN _ ba', Mul64.wrapN _ bh1, Mul64.wrapN _ bh, Mul64.wrapM (x * y)];rw [hhi];go_ret2;exact ⟨rfl, rfl⟩
theorem mul64 (x y : Int) (hx : 0 ≤ x ∧ x < M) (hy : 0 ≤ y ∧ y < M) (w : World) :
  Calls Tryz.prog 176 #[.int .u64 x, .int .u64 y] w fun e w' => e = .returned (.tuple #[.int .u64 (x * y / 18446744073709551616), .int .u64 (x * y % 18446744073709551616)]) ∧ w' = w := by
 obtain ⟨a, rfl⟩ := Int.eq_ofNat_of_zero_le hx.1;obtain ⟨b, rfl⟩ := Int.eq_ofNat_of_zero_le hy.1;have := mul64_nat a b (by unfold M at hx; omega) (by unfold M at hy; omega) w
 simpa using this
theorem len64_100 (w : World) : Calls Tryz.prog 192 #[.int .u64 100] w fun e w' => e = .returned (.int .i64 7) ∧ w' = w := by
 go_in;go_wp2;go_ret;exact ⟨by kernel_rfl, rfl⟩
theorem zzb8 (w : World) : Calls Tryz.prog 203 #[.int .u64 100] w fun e w' => e = .returned (.int .i64 57) ∧ w' = w := by
 go_in;go_wp2_with (go_at_call 192; refine (len64_100 _).mono ?_; rintro e w' ⟨rfl, rfl⟩);go_ret;exact ⟨rfl, rfl⟩
theorem div_or (hi lo : Int) (hh : 0 ≤ hi ∧ hi < 100) (hl : 0 ≤ lo ∧ lo < M) : bits .or .u64 (hi * 144115188075855872) (lo / 128) = hi * 144115188075855872 + lo / 128 := by
 obtain ⟨a, rfl⟩ := Int.eq_ofNat_of_zero_le hh.1;obtain ⟨b, rfl⟩ := Int.eq_ofNat_of_zero_le hl.1;have e1 : ((a : Int) * 144115188075855872) = ((a * 144115188075855872 : Nat) : Int) := by omega
 have e2 : ((b : Int) / 128) = ((b / 128 : Nat) : Int) := by omega
 have hb : b / 128 < 2 ^ 57 := by unfold M at hl; omega
 rw [e1, e2, bits_or_u64_nat _ _ zw (by unfold M at hl; omega)]
 have := Nat.two_pow_add_eq_or_of_lt hb a;rw [show 2 ^ 57 * a = a * 144115188075855872 by omega] at this
 rw [← this]; omega
theorem div_and (lo : Int) (hl : 0 ≤ lo ∧ lo < M) : bits .and .u64 (lo % 128 * 144115188075855872) 4294967295 = 0 := by
 obtain ⟨b, rfl⟩ := Int.eq_ofNat_of_zero_le hl.1;have e1 : ((b : Int) % 128 * 144115188075855872) = ((b % 128 * 144115188075855872 : Nat) : Int) := by omega
 rw [e1, Mul64.maskN _ zw];omega
theorem zz5y (hi lo : Int) (hh : 0 ≤ hi ∧ hi < 100) (hl : 0 ≤ lo ∧ lo < M) (w : World) :
  Calls Tryz.prog 185 #[.int .u64 hi, .int .u64 lo, .int .u64 100] w fun e w' => e = .returned (.tuple #[.int .u64 ((hi * 18446744073709551616 + lo) / 100), .int .u64 ((hi * 18446744073709551616 + lo) % 100)]) ∧ ∃ n, w' = w.drewN n := by
 have h1 : ¬ (100 ≤ hi) := by omega
 by_cases h0 : hi = 0
 ·subst h0
  go_in;go_wp2;go_quiet (fail);go_wp2;go_ret2;have e1 : IntKind.u64.wrap (lo.tdiv 100) = lo / 100 := by rw [Int.tdiv_eq_ediv_of_nonneg hl.1, IntKind.wrap_u64]; unfold M at hl; omega
  have e2 : IntKind.u64.wrap (lo.tmod 100) = lo % 100 := by rw [Int.tmod_eq_emod_of_nonneg hl.1, IntKind.wrap_u64]; unfold M at hl; omega
  refine ⟨?_, _, rfl⟩;rw [Int.zero_mul, Int.zero_add, ← e1, ← e2]
  rfl
 ·have h2 : ¬ ((hi == 0) = true) := by simpa using h0
  go_in;go_wp2_with (go_at_call 203; refine (zzb8 _).mono ?_; rintro e w' ⟨rfl, rfl⟩);have hor : bits .or .u64 (hi * 144115188075855872) (lo / 128) = hi * 144115188075855872 + lo / 128 := div_or hi lo hh hl;have hand : bits .and .u64 14411518807585587200 4294967295 = 0 := by decide +kernel
  have hw : IntKind.u64.wrap (lo * 144115188075855872) = lo % 128 * 144115188075855872 := by rw [IntKind.wrap_u64]; omega
  have hand2 : bits .and .u64 (lo % 128 * 144115188075855872) 4294967295 = 0 := div_and lo hl;have htd : (hi * 144115188075855872 + lo / 128).tdiv 3355443200 = (hi * 144115188075855872 + lo / 128) / 3355443200 := Int.tdiv_eq_ediv_of_nonneg (by unfold M at hl; omega)
  have hq0 : IntKind.u64.wrap ((hi * 144115188075855872 + lo / 128) / 3355443200) = (hi * 144115188075855872 + lo / 128) / 3355443200 := by rw [IntKind.wrap_u64]; unfold M at hl; omega
  have hq1 : IntKind.u64.wrap ((hi * 144115188075855872 + lo / 128) / 3355443200 * 3355443200) = (hi * 144115188075855872 + lo / 128) / 3355443200 * 3355443200 := by rw [IntKind.wrap_u64]; unfold M at hl; omega
  have hr : IntKind.u64.wrap (hi * 144115188075855872 + lo / 128 - (hi * 144115188075855872 + lo / 128) / 3355443200 * 3355443200) = (hi * 144115188075855872 + lo / 128) % 3355443200 := by rw [IntKind.wrap_u64]; unfold M at hl; omega
  have hun : lo % 128 * 144115188075855872 / 4294967296 = lo % 128 * 33554432 := by omega
  simp only [hor, hand, hw, hand2, htd, hq0, hq1, hr, hun];obtain ⟨u, hu⟩ : ∃ u : Int, hi * 144115188075855872 + lo / 128 = u := ⟨_, rfl⟩;obtain ⟨q, hq⟩ : ∃ q : Int, u / 3355443200 = q := ⟨_, rfl⟩;obtain ⟨r, hr'⟩ : ∃ r : Int, u % 3355443200 = r := ⟨_, rfl⟩;obtain ⟨v, hv⟩ : ∃ v : Int, lo % 128 * 33554432 = v := ⟨_, rfl⟩;rw [hu, hq, hr', hv];have H := zH (And.intro hu (And.intro hq (And.intro hr' hv)));have q0 : 0 ≤ q := by unfold M at hl; omega
  have q1 : q < 4294967296 := by unfold M at hl; omega
  have r0 : 0 ≤ r := by omega
  have r1 : r < 3355443200 := by omega
  have u0 : 0 ≤ u := by unfold M at hl; omega
  have u1 : u < 14411518807585587200 := by unfold M at hl; omega
  have v0 : 0 ≤ v := by omega
  have v1 : v < 4294967296 := by omega
  have q2 : ¬ (4294967296 ≤ q) := by omega
  clear hor hand hw hand2 htd hq0 hq1 hr hun hu hq hr' hv;go_loopw [15, 16] (fun s15 s16 wr => s15 = .int .u64 q ∧ s16 = .int .u64 r ∧ wr = w') (fun _ _ _ => 0)
  case atStart => exact ⟨rfl, rfl, rfl⟩
  case round =>
   obtain ⟨rfl, rfl, rfl⟩ := hrel;go_wp2;have f1 : IntKind.u64.wrap (IntKind.u64.wrap (IntKind.u64.wrap (u * 4294967296) + v) - IntKind.u64.wrap (q * 14411518807585587200)) = r * 4294967296 + v := by
    simp only [IntKind.wrap_u64]; have := H.out; omega
   simp only [f1];obtain ⟨n, hn⟩ : ∃ n : Int, r * 4294967296 + v = n := ⟨_, rfl⟩;rw [hn];have n0 : 0 ≤ n := by omega
   have n1 : n < 14411518807585587200 := by omega
   have htd : n.tdiv 3355443200 = n / 3355443200 := Int.tdiv_eq_ediv_of_nonneg n0;have hq0 : IntKind.u64.wrap (n / 3355443200) = n / 3355443200 := by rw [IntKind.wrap_u64]; omega
   have hq1 : IntKind.u64.wrap (n / 3355443200 * 3355443200) = n / 3355443200 * 3355443200 := by rw [IntKind.wrap_u64]; omega
   have hr : IntKind.u64.wrap (n - n / 3355443200 * 3355443200) = n % 3355443200 := by rw [IntKind.wrap_u64]; omega
   simp only [htd, hq0, hq1, hr];obtain ⟨k, hk⟩ : ∃ k : Int, n / 3355443200 = k := ⟨_, rfl⟩;obtain ⟨s, hs⟩ : ∃ s : Int, n % 3355443200 = s := ⟨_, rfl⟩;rw [hk, hs];have H2 := zH (And.intro hn (And.intro hk hs));have k0 : 0 ≤ k := by omega
   have k1 : k < 4294967296 := by omega
   have k2 : ¬ (4294967296 ≤ k) := by omega
   have s0 : 0 ≤ s := by omega
   have s1 : s < 3355443200 := by omega
   clear htd hq0 hq1 hr hn hk hs f1;go_loopw [16, 18] (fun s16 s18 wr' => s16 = .int .u64 s ∧ s18 = .int .u64 k ∧ wr' = wr) (fun _ _ _ => 0)
   case atStart => exact ⟨rfl, rfl, rfl⟩
   case round =>
    obtain ⟨rfl, rfl, rfl⟩ := hrel;go_wp2;have e1 : IntKind.u64.wrap (IntKind.u64.wrap (q * 4294967296) + k) = (hi * 18446744073709551616 + lo) / 100 := by
     simp only [IntKind.wrap_u64]; have := H.out; have := H2.out; omega
    have e2 : IntKind.u64.wrap (IntKind.u64.wrap (IntKind.u64.wrap (n * 4294967296)) - IntKind.u64.wrap (k * 14411518807585587200)) / 144115188075855872 = (hi * 18446744073709551616 + lo) % 100 := by
     simp only [IntKind.wrap_u64]; have := H.out; have := H2.out; omega
    go_ret2;refine ⟨?_, 0, rfl⟩;rw [← e2, ← e1, show IntKind.u64.wrap (IntKind.u64.wrap (q * 4294967296) + k) = q * 4294967296 + k by simp only [IntKind.wrap_u64]; omega]
    rfl
end
end Go.Proofs.YtajogedbacpohaaGreatDoor
namespace Go.Proofs.YtajogedbacpohaaGreatDoor
open Go
namespace Mon
theorem zz2r (x y : Int) : (x % M3 + y) % M3 = (x + y) % M3 := by
 unfold M3; omega
theorem zz27 (x : Int) : Ok (x % M3) := by unfold Ok M3; omega
end Mon
section
open Go Go.RowKit Mon
theorem add64_0' (x : Int) (w : World) (hx : 0 ≤ x) : (callFunc 184 #[.int .u64 x, .int .u64 0, .int .u64 1]).run Tryz.prog w =
  .ok (.value (.tuple #[.int .u64 ((x + 1) % 18446744073709551616), .int .u64 ((x + 1) / 18446744073709551616)])) w := by
 simpa using add64 x 0 1 hx (Int.le_refl 0) zx zx w
theorem add64_0'' (x c : Int) (w : World) (hx : 0 ≤ x) (hc : 0 ≤ c) (hc1 : c ≤ 1) : (callFunc 184 #[.int .u64 x, .int .u64 0, .int .u64 c]).run Tryz.prog w =
  .ok (.value (.tuple #[.int .u64 ((x + c) % 18446744073709551616), .int .u64 ((x + c) / 18446744073709551616)])) w := by
 simpa using add64 x 0 c hx (Int.le_refl 0) hc hc1 w
def ab (a : Int) : Int := if a < 0 then -a else a
theorem zz95 {a : Int} (h : I64 a) : 0 ≤ ab a ∧ ab a < M := by unfold I64 at h; unfold ab M; split <;> omega
theorem zzag (a : Int) (h : I64 a) (w : World) : Calls Tryz.prog 177 #[.int .i64 a] w fun e w' => e = .returned (.int .u64 (ab a)) ∧ w' = w := by
 unfold I64 at h;by_cases h0 : a < 0
 ·have e1 : IntKind.u64.wrap (-IntKind.u64.wrap a) = ab a := by unfold ab; rw [if_pos h0]; simp only [IntKind.wrap_u64]; omega
  go_in;go_wp2;go_ret;exact ⟨by rw [← e1]; rfl, rfl⟩
 ·have e1 : IntKind.u64.wrap a = ab a := by unfold ab; rw [if_neg h0]; simp only [IntKind.wrap_u64]; omega
  go_in;go_wp2;go_ret;exact ⟨by rw [← e1]; rfl, rfl⟩
def adW (a b c d e f : Int) : Nat → Array Value
 | 0 => #[.int .u64 a, .int .u64 b, .int .u64 c]
 | 1 => #[.int .u64 ((a + d) % M), .int .u64 b, .int .u64 c]
 | 2 => #[.int .u64 ((a + d) % M), .int .u64 ((b + e + (a + d) / M) % M), .int .u64 c]
 | _ => #[.int .u64 ((a + d) % M), .int .u64 ((b + e + (a + d) / M) % M), .int .u64 ((c + f + (b + e + (a + d) / M) / M) % M)]
theorem zz3l (x : Int) (h : 0 ≤ x ∧ x < M) : bits .xor .u64 IntKind.u64.max x = 18446744073709551615 - x := by
 have e : IntKind.u64.max = 18446744073709551615 := by decide +kernel
 rw [e, ← zz7f x h];unfold M at h;obtain ⟨a, rfl⟩ := Int.eq_ofNat_of_zero_le h.1;have e : (18446744073709551615 : Int) = ((18446744073709551615 : Nat) : Int) := rfl;rw [e, u64_xor_nat a _ zw zx, u64_xor_nat _ a zx zw, Nat.xor_comm]
theorem three (k : Nat) (h : k ≤ 3) : k = 0 ∨ k = 1 ∨ k = 2 ∨ k = 3 := by omega
def ngC (x y z : Int) : Nat → Int
 | 0 => 1
 | 1 => (x + 1) / 18446744073709551616
 | 2 => (y + (x + 1) / 18446744073709551616) / 18446744073709551616
 | _ => (z + (y + (x + 1) / 18446744073709551616) / 18446744073709551616) / 18446744073709551616
def ngW (a b c x y z : Int) : Nat → Array Value
 | 0 => #[.int .u64 a, .int .u64 b, .int .u64 c]
 | 1 => #[.int .u64 ((x + 1) % 18446744073709551616), .int .u64 b, .int .u64 c]
 | 2 => #[.int .u64 ((x + 1) % 18446744073709551616), .int .u64 ((y + (x + 1) / 18446744073709551616) % 18446744073709551616), .int .u64 c]
 | _ => #[.int .u64 ((x + 1) % 18446744073709551616), .int .u64 ((y + (x + 1) / 18446744073709551616) % 18446744073709551616), .int .u64 ((z + (y + (x + 1) / 18446744073709551616) / 18446744073709551616) % 18446744073709551616)]
theorem neg_any (a b c : Int) (ha : 0 ≤ a ∧ a < M) (hb : 0 ≤ b ∧ b < M) (hc : 0 ≤ c ∧ c < M) (w : World) :
  Calls Tryz.prog 178 #[.agg #[.int .u64 a, .int .u64 b, .int .u64 c]] w fun e w' =>
   e = .returned (.agg (ngW a b c (18446744073709551615 - a) (18446744073709551615 - b) (18446744073709551615 - c) 3)) ∧ Below w.heap.size w w' := by
 go_in;go_wp2;go_loopw [3, 4, 5] (fun s3 s4 s5 wr => ∃ k : Nat, k ≤ 3 ∧ s3 = .int .u64 (ngC (18446744073709551615 - a) (18446744073709551615 - b) (18446744073709551615 - c) k) ∧ s5 = .int .i64 k ∧
  ZB wr w.heap.size (ngW a b c (18446744073709551615 - a) (18446744073709551615 - b) (18446744073709551615 - c) k) 194 ∧ ZB wr (w.heap.size + 1) #[.int .u64 0, .int .u64 0, .int .u64 0] 194 ∧ Hid (Below w.heap.size w wr)) (fun _ _ s5 _ => 3 - (intOf s5).toNat)
 case atStart => exact ⟨0, by decide, rfl, rfl, zz05 (zz02 _ _) _, by have := zz02 (w.alloc (.cells #[.int .u64 a, .int .u64 b, .int .u64 c] 194)) (.cells #[.int .u64 0, .int .u64 0, .int .u64 0] 194); rw [World.size_alloc] at this; exact this, (zz01 zBa (by simp) _)⟩
 case round =>
  obtain ⟨k, hk, rfl, rfl, H0, H1, HB⟩ := hrel;have hsg : IntKind.u64.signed = false := rfl;have xa := zz3l a ha;have xb := zz3l b hb;have xc := zz3l c hc;obtain ⟨x, hx⟩ : ∃ x : Int, 18446744073709551615 - a = x := ⟨_, rfl⟩;obtain ⟨y, hy⟩ : ∃ y : Int, 18446744073709551615 - b = y := ⟨_, rfl⟩;obtain ⟨z, hz⟩ : ∃ z : Int, 18446744073709551615 - c = z := ⟨_, rfl⟩;rw [hx] at xa H0;rw [hy] at xb H0;rw [hz] at xc H0;simp only [hx, hy, hz];have x0 : 0 ≤ x := by unfold M at ha; omega
  have x1 : x < 18446744073709551616 := by unfold M at ha; omega
  have y0 : 0 ≤ y := by unfold M at hb; omega
  have y1 : y < 18446744073709551616 := by unfold M at hb; omega
  have z0 : 0 ≤ z := by unfold M at hc; omega
  have z1 : z < 18446744073709551616 := by unfold M at hc; omega
  have HX := zH hx; have HY := zH hy; have HZ := zH hz;clear hx hy hz;have hblt : w.heap.size < wr.heap.size := zL H0.out;rcases three k hk with rfl | rfl | rfl | rfl
  ·have c0 : wr.cell? ⟨w.heap.size, 0, none⟩ = some (.int .u64 a) := zz00 H0.out 0 _ rfl
   have f0 := zz04 H0.out 0;have q := fun w => add64_0' x w x0
   simp only [ngC];go_wp2;go_roundw
   case rel => exact ⟨1, by decide, rfl, rfl, zz0c H0.out _ _, zz09 H1.out _ _ zw, HB.out.setCell (Nat.le_refl _) _⟩
   case measure => simp [intOf]
  ·have c0 : wr.cell? ⟨w.heap.size, 1, none⟩ = some (.int .u64 b) := zz00 H0.out 1 _ rfl
   have f0 := zz04 H0.out 1;have q := fun w => add64_0'' y ((x + 1) / 18446744073709551616) w y0 zw zw
   simp only [ngC];go_wp2;go_roundw
   case rel => exact ⟨2, by decide, rfl, rfl, zz0c H0.out _ _, zz09 H1.out _ _ zw, HB.out.setCell (Nat.le_refl _) _⟩
   case measure => simp [intOf]
  ·have c0 : wr.cell? ⟨w.heap.size, 2, none⟩ = some (.int .u64 c) := zz00 H0.out 2 _ rfl
   have f0 := zz04 H0.out 2;have q := fun w => add64_0'' z ((y + (x + 1) / 18446744073709551616) / 18446744073709551616) w z0 zw zw
   simp only [ngC];go_wp2;go_roundw
   case rel => exact ⟨3, by decide, rfl, rfl, zz0c H0.out _ _, zz09 H1.out _ _ zw, HB.out.setCell (Nat.le_refl _) _⟩
   case measure => simp [intOf]
  ·have c0 : wr.cell? ⟨w.heap.size, 0, none⟩ = some (.int .u64 ((x + 1) % 18446744073709551616)) := zz00 H0.out 0 _ rfl
   have c1 : wr.cell? ⟨w.heap.size, 1, none⟩ = some (.int .u64 ((y + (x + 1) / 18446744073709551616) % 18446744073709551616)) := zz00 H0.out 1 _ rfl;have c2 : wr.cell? ⟨w.heap.size, 2, none⟩ = some (.int .u64 ((z + (y + (x + 1) / 18446744073709551616) / 18446744073709551616) % 18446744073709551616)) := zz00 H0.out 2 _ rfl;have d0 : wr.cell? ⟨w.heap.size + 1, 0, none⟩ = some (.int .u64 0) := zz00 H1.out 0 _ rfl;have d1 : wr.cell? ⟨w.heap.size + 1, 1, none⟩ = some (.int .u64 0) := zz00 H1.out 1 _ rfl;have d2 : wr.cell? ⟨w.heap.size + 1, 2, none⟩ = some (.int .u64 0) := zz00 H1.out 2 _ rfl;have f0 := zz04 H1.out 0;have f1 := zz04 H1.out 1;have f2 := zz04 H1.out 2;simp only [ngC];go_wp2;refine bodyPost_ret (v := .agg #[.int .u64 ((x + 1) % 18446744073709551616), .int .u64 ((y + (x + 1) / 18446744073709551616) % 18446744073709551616), .int .u64 ((z + (y + (x + 1) / 18446744073709551616) / 18446744073709551616) % 18446744073709551616)]) ?_ rfl ⟨?_, ?_⟩
   ·simp [results, Tryz.results178, go_sem, d0, d1, d2]
   ·rw [HX.out, HY.out, HZ.out]; rfl
   ·exact ((HB.out.setCell (Nat.le_succ _) _).setCell (Nat.le_succ _) _).setCell (Nat.le_succ _) _
end
section
open Go Go.RowKit Bg
def DigAt (w : World) (A : Option Addr) (n : Nat) (f : Nat → Nat) : Prop :=
 ∀ i, i < n → ∃ b o, A = some ⟨b, o, none⟩ ∧ b < w.heap.size ∧ w.cell? ⟨b, o + i, none⟩ = some (.int .i64 (f i))
theorem DigAt.call {w w' : World} {A : Option Addr} {n : Nat} {f : Nat → Nat} (h : DigAt w A n f) (hb : Below w.heap.size w w') : DigAt w' A n f := fun i hi => by
 obtain ⟨b, o, e, hlt, hc⟩ := h i hi;exact ⟨b, o, e, Nat.lt_of_lt_of_le hlt hb.size, (hb.cell (p := ⟨b, o + i, none⟩) hlt).trans hc⟩
def BigAt (w : World) (v : Value) (z : Int) : Prop :=
 ∃ A n c f, v = .agg #[.bool (decide (z < 0)), .slice A n c] ∧ Canon f n ∧ pv f n = z.natAbs ∧ DigAt w A n f ∧ n ≤ c
theorem BigAt.call {w w' : World} {v : Value} {z : Int} (h : BigAt w v z) (hb : Below w.heap.size w w') : BigAt w' v z := by
 obtain ⟨A, n, c, f, e, hc, hv, hd, hn⟩ := h;exact ⟨A, n, c, f, e, hc, hv, hd.call hb, hn⟩
theorem zzbw (A : Option Addr) (n c : Nat) (f : Nat → Nat) (i : Nat) (w : World) (hd : Hid (DigAt w A n f)) (hf : Hid (Dg f n)) (hi : i ≤ 1099511627776) (hn : n ≤ 1099511627776) :
  Calls Tryz.prog 158 #[.slice A n c, .int .i64 i] w fun e w' => e = .returned (.int .i64 (f i)) ∧ w = w' := by
 by_cases h : i < n
 ·obtain ⟨b, o, rfl, hlt, hc⟩ := hd.out i h
  have h' : (i : Int) < n := by omega
  go_in;go_wp2;go_ret;exact ⟨rfl, rfl⟩
 ·have h' : ¬ ((i : Int) < n) := by omega
  rw [hf.out.zero i zw];go_in;go_wp2;go_ret;exact ⟨rfl, rfl⟩
theorem zt67 {p : Prop} (h : p := by
 rw [← hfg] at q2;clear hfg hk0 ej hb1 hb2 qA qB;go_wp2_with (go_at_call 158; first | (with_reducible refine q1.out.mono ?_; rintro e w' ⟨rfl, rfl⟩) | (with_reducible refine q2.out.mono ?_; rintro e w' ⟨rfl, rfl⟩))
 go_roundw
 case rel => exact ⟨j, by omega, rfl, HE3.out, trivial⟩
 case measure => simp [intOf]) : p := h
theorem zt75 {p : Prop} (h : p := by
 have HD := zH hd;clear hd hfg hk0 ej hb1 hb2 qA qB HE HE2;go_wp2_with (go_at_call 158; first | (with_reducible refine q1.out.mono ?_; rintro e w' ⟨rfl, rfl⟩) | (with_reducible refine q2.out.mono ?_; rintro e w' ⟨rfl, rfl⟩))
 go_ret;exact ⟨by rw [HD.out]; rfl, rfl⟩) : p := h
theorem zz5p (A B : Option Addr) (n m c d : Nat) (f g : Nat → Nat) (w : World) (hA : Hid (DigAt w A n f)) (hB : Hid (DigAt w B m g)) (hf : Hid (Dg f n)) (hg : Hid (Dg g m)) (hn : n ≤ 1000000) (hm : m ≤ 1000000) :
  Calls Tryz.prog 157 #[.slice A n c, .slice B m d] w fun e w' => e = .returned (.bool (decide (pv f n < pv g m))) ∧ w = w' := by
 have qA := zH (fun i h => zzbw A n c f i w hA hf h zw)
 have qB := zH (fun i h => zzbw B m d g i w hB hg h zw)
 obtain ⟨N, hN⟩ : ∃ N, (if n < m then m else n) = N := ⟨_, rfl⟩
 have hN1 : n ≤ N := by rw [← hN]; split <;> omega
 have hN2 : m ≤ N := by rw [← hN]; split <;> omega
 have e1 := zz29 hf.out.zero N hN1;have e2 := zz29 hg.out.zero N hN2;rw [← e1, ← e2];clear e1 e2;by_cases hnm : n < m
 ·have hnm' : (n : Int) < m := by omega
  obtain rfl : m = N := by rw [← hN, if_pos hnm]
  clear hN;go_in;go_wp2_with fail;go_loopw [6] (fun s6 wr => ∃ k : Nat, k ≤ m ∧ s6 = .int .i64 ((k : Int) - 1) ∧ Hid (∀ j, k ≤ j → j < m → f j = g j) ∧ wr = w) (fun s6 _ => (intOf s6 + 1).toNat)
  case atStart => exact ⟨m, Nat.le_refl _, rfl, fun j h1 h2 => by omega, rfl⟩
  case round =>
   obtain ⟨k, hk, rfl, HE, rfl⟩ := hrel;by_cases hk0 : k = 0
   ·subst hk0
    have hd : decide (pv f m < pv g m) = false := decide_eq_false (by rw [zz3n m (fun i hi => HE.out i (Nat.zero_le _) hi)]; omega)
    have HD := zH hd;clear hd;go_wp2_with fail;go_ret;exact ⟨by rw [HD.out]; rfl, rfl⟩
   ·obtain ⟨j, rfl⟩ : ∃ j, k = j + 1 := ⟨k - 1, by omega⟩
    have ej : ((j + 1 : Nat) : Int) - 1 = (j : Int) := by omega
    rw [ej];have q1 := zH (qA.out j zw);have q2 := zH (qB.out j zw);have HE2 : Hid (∀ i, j < i → i < m → f i = g i) := fun i h1 h2 => HE.out i h1 h2
    have hb1 := hf.out.lt;have hb2 := hg.out.lt;by_cases hfg : f j = g j
    ·have HE3 : Hid (∀ i, j ≤ i → i < m → f i = g i) := fun i h1 h2 => by
      by_cases e : i = j
      ·rw [e]; exact hfg
      ·exact HE.out i zw h2
     exact zt67
    ·have hne : (((f j : Nat) : Int) != ((g j : Nat) : Int)) = true := by simp; omega
     have hd : decide (pv f m < pv g m) = decide (f j < g j) := by
      by_cases hlt : f j < g j
      ·rw [decide_eq_true (zzay hb1 hlt m zw HE2.out), decide_eq_true zw]
      ·have := zzay hb2 (show g j < f j by omega) m zw (fun i h1 h2 => (HE2.out i h1 h2).symm)
       rw [decide_eq_false zw, decide_eq_false zw]
     exact zt75
 ·have hnm' : ¬ ((n : Int) < m) := by omega
  obtain rfl : n = N := by rw [← hN, if_neg hnm]
  clear hN;go_in;go_wp2_with fail;go_loopw [6] (fun s6 wr => ∃ k : Nat, k ≤ n ∧ s6 = .int .i64 ((k : Int) - 1) ∧ Hid (∀ j, k ≤ j → j < n → f j = g j) ∧ wr = w) (fun s6 _ => (intOf s6 + 1).toNat)
  case atStart => exact ⟨n, Nat.le_refl _, rfl, fun j h1 h2 => by omega, rfl⟩
  case round =>
   obtain ⟨k, hk, rfl, HE, rfl⟩ := hrel;by_cases hk0 : k = 0
   ·subst hk0
    have hd : decide (pv f n < pv g n) = false := decide_eq_false (by rw [zz3n n (fun i hi => HE.out i (Nat.zero_le _) hi)]; omega)
    have HD := zH hd;clear hd;go_wp2_with fail;go_ret;exact ⟨by rw [HD.out]; rfl, rfl⟩
   ·obtain ⟨j, rfl⟩ : ∃ j, k = j + 1 := ⟨k - 1, by omega⟩
    have ej : ((j + 1 : Nat) : Int) - 1 = (j : Int) := by omega
    rw [ej];have q1 := zH (qA.out j zw);have q2 := zH (qB.out j zw);have HE2 : Hid (∀ i, j < i → i < n → f i = g i) := fun i h1 h2 => HE.out i h1 h2
    have hb1 := hf.out.lt;have hb2 := hg.out.lt;by_cases hfg : f j = g j
    ·have HE3 : Hid (∀ i, j ≤ i → i < n → f i = g i) := fun i h1 h2 => by
      by_cases e : i = j
      ·rw [e]; exact hfg
      ·exact HE.out i zw h2
     exact zt67
    ·have hne : (((f j : Nat) : Int) != ((g j : Nat) : Int)) = true := by simp; omega
     have hd : decide (pv f n < pv g n) = decide (f j < g j) := by
      by_cases hlt : f j < g j
      ·rw [decide_eq_true (zzay hb1 hlt n zw HE2.out), decide_eq_true zw]
      ·have := zzay hb2 (show g j < f j by omega) n zw (fun i h1 h2 => (HE2.out i h1 h2).symm)
       rw [decide_eq_false zw, decide_eq_false zw]
     exact zt75
def sgn (s : Bool) (n : Nat) : Int := if s then -(n : Int) else n
def sliceLen : Option Value → Nat
 | some (.slice _ m _) => m
 | _ => 0
theorem big_of {w : World} {A : Option Addr} {m c n : Nat} {f : Nat → Nat} {s t : Bool} (hf : Dg f n) (hm : m ≤ n) (hz : ∀ i, m ≤ i → f i = 0) (htop : m = 0 ∨ f (m - 1) ≠ 0) (hd : DigAt w A n f) (hc : m ≤ c)
  (ht : t = if m = 0 then false else s) : BigAt w (.agg #[.bool t, .slice A m c]) (sgn s (pv f n)) := by
 have hcan : Canon (cut f m) m := ⟨dg_cut hf, by
  rcases htop with h | h
  ·exact .inl h
  ·refine .inr ?_
   unfold cut;by_cases e : m = 0
   ·subst e; simp at h; exact absurd (hz 0 (Nat.le_refl _)) h
   ·rw [if_pos zw]; exact h⟩
 have hv : pv f n = pv (cut f m) m := by rw [pv_cut, zz29 hz n hm]
 refine ⟨A, m, c, cut f m, ?_, hcan, ?_, fun i hi => ?_, hc⟩
 ·have e : decide (sgn s (pv f n) < 0) = t := by
   rw [ht];by_cases h0 : m = 0
   ·rw [if_pos h0]
    have : pv f n = 0 := by rw [hv, h0]; rfl
    rw [this]; unfold sgn; cases s <;> rfl
   ·rw [if_neg h0]
    have h1 : ¬ pv (cut f m) m = 0 := fun h => h0 ((canon_pos hcan).1 h)
    rw [← hv] at h1;unfold sgn;cases s
    ·simp
    ·simp; omega
  rw [e]
 ·rw [← hv]; unfold sgn; cases s <;> simp
 ·have := hd i zw
  unfold cut;rw [if_pos hi]; exact this
theorem zz1x (s : Bool) (A : Option Addr) (n c : Nat) (f : Nat → Nat) (w : World) (hA : Hid (DigAt w A n f)) (hf : Hid (Dg f n)) (hn : n ≤ 1000000) (hc : n ≤ c) :
  Calls Tryz.prog 159 #[.agg #[.bool s, .slice A n c]] w fun e w' => (∃ v, e = .returned v ∧ BigAt w' v (sgn s (pv f n))) ∧ Below w.heap.size w w' := by
 go_in;go_wp2_with fail;go_loopw [] (fun wr => ∃ m : Nat, m ≤ n ∧ ZB wr w.heap.size #[.bool s, .slice A m c] 143 ∧ ZB wr (w.heap.size + 1) #[.bool false, .slice none 0 0] 143 ∧
  Hid (∀ i, m ≤ i → f i = 0) ∧ Hid (Below w.heap.size w wr)) (fun wr => sliceLen (wr.cell? ⟨w.heap.size, 1, none⟩))
 case atStart =>
  refine ⟨n, Nat.le_refl _, zz05 (zz02 _ _) _, ?_, hf.out.zero, zz01 zBa (by rw [World.size_alloc]; omega) _⟩
  have := zz02 (w.alloc (.cells #[.bool s, .slice A n c] 143)) (.cells #[.bool false, .slice none 0 0] 143);rw [World.size_alloc] at this;exact this
 case round =>
  obtain ⟨m, hm, H0, H1, HZ, HB⟩ := hrel;have c1 : wr.cell? ⟨w.heap.size, 1, none⟩ = some (.slice A m c) := zz00 H0.out 1 _ rfl;have f1 := zz04 H0.out 1;have c0 : wr.cell? ⟨w.heap.size, 0, none⟩ = some (.bool s) := zz00 H0.out 0 _ rfl;have f0 := zz04 H0.out 0;have d0 : wr.cell? ⟨w.heap.size + 1, 0, none⟩ = some (.bool false) := zz00 H1.out 0 _ rfl;have d1 : wr.cell? ⟨w.heap.size + 1, 1, none⟩ = some (.slice none 0 0) := zz00 H1.out 1 _ rfl;have g0 := zz04 H1.out 0;have g1 := zz04 H1.out 1;by_cases hm0 : m = 0
  ·subst hm0
   go_wp2_with fail;refine bodyPost_ret (v := .agg #[.bool false, .slice A 0 c]) ?_ rfl ⟨⟨_, rfl, ?_⟩, ?_⟩
   ·simp [results, Tryz.results159, go_sem, d0, d1]
   ·have hb2 : Below w.heap.size w (((wr.setCell ⟨w.heap.size, 0, none⟩ (.bool false)).setCell ⟨w.heap.size + 1, 0, none⟩ (.bool false)).setCell ⟨w.heap.size + 1, 1, none⟩ (.slice A 0 c)) := ((HB.out.setCell (Nat.le_refl _) _).setCell (Nat.le_succ _) _).setCell (Nat.le_succ _) _
    exact big_of hf.out (Nat.zero_le _) HZ.out (.inl rfl) (hA.out.call hb2) (Nat.zero_le _) rfl
   ·exact ((HB.out.setCell (Nat.le_refl _) _).setCell (Nat.le_succ _) _).setCell (Nat.le_succ _) _
  ·obtain ⟨k, rfl⟩ : ∃ k, m = k + 1 := ⟨m - 1, by omega⟩
   obtain ⟨b, o, rfl, hlt, hck⟩ := hA.out k zw;have ck := (HB.out.cell (p := ⟨b, o + k, none⟩) hlt).trans hck;have hbr : b < wr.heap.size := Nat.lt_of_lt_of_le hlt HB.out.size;have ek : ((k + 1 : Nat) : Int) - 1 = (k : Int) := by omega
   by_cases hfk : f k = 0
   ·have t1 : (((f k : Nat) : Int) == 0) = true := by simp [hfk]
    have HZ2 : Hid (∀ i, k ≤ i → f i = 0) := fun i hi => by
     by_cases e : i = k
     ·rw [e]; exact hfk
     ·exact HZ.out i zw
    go_wp2_with fail;go_roundw
    case rel => exact ⟨k, by omega, zz0c H0.out _ _, zz09 H1.out _ _ zw, HZ2.out, HB.out.setCell (Nat.le_refl _) _⟩
    case measure => rw [World.cell?_setCell_same _ _ _ c1, c1]; exact Nat.lt_succ_self k
   ·have t1 : (((f k : Nat) : Int) == 0) = false := by simp; omega
    go_wp2_with fail;refine bodyPost_ret (v := .agg #[.bool s, .slice (some ⟨b, o, none⟩) (k + 1) c]) ?_ rfl ⟨⟨_, rfl, ?_⟩, ?_⟩
    ·simp [results, Tryz.results159, go_sem, d0, d1]
    ·have hb2 : Below w.heap.size w ((wr.setCell ⟨w.heap.size + 1, 0, none⟩ (.bool s)).setCell ⟨w.heap.size + 1, 1, none⟩ (.slice (some ⟨b, o, none⟩) (k + 1) c)) := (HB.out.setCell (Nat.le_succ _) _).setCell (Nat.le_succ _) _
     exact big_of hf.out hm HZ.out (.inr hfk) (hA.out.call hb2) zw (by rw [if_neg zw])
    ·exact (HB.out.setCell (Nat.le_succ _) _).setCell (Nat.le_succ _) _
theorem el_int : Elt Tryz.prog 141 3 (.int .i64 0) 1 8 := Elt.mk' Tryz.underlying141 zk rfl zx
theorem zz0x {w : World} {B : Nat} {v : Value} {ds : List Nat} (h : w.ownsRow B 3 1 v ds.length (ds.map fun d => .int .i64 (d : Nat))) : ∃ A c, v = .slice A ds.length c ∧ DigAt w A ds.length (dg ds) ∧ ds.length ≤ c ∧ c ≤ maxLen ∧ (∀ a, A = some a → B ≤ a.block) := by
 rcases h.2 with ⟨rfl, hn⟩ | ⟨g, cap, cur, rfl, hb, hg, hnc, hcm, hcs, htk⟩
 ·rw [hn]; exact ⟨none, 0, rfl, fun i hi => by omega, Nat.le_refl _, Nat.zero_le _, fun a ha => by cases ha⟩
 ·refine ⟨some ⟨g, 0, none⟩, cap, rfl, fun i hi => ⟨g, 0, rfl, (zL hg), ?_⟩, hnc, hcm, fun a ha => by cases ha; exact hb⟩
  rw [cell_of_row w g (0 + i) cur _ _ hg, Nat.zero_add];have h1 : (cur.toList.take (ds.length * 1))[i]? = some (.int .i64 (dg ds i : Nat)) := by
   rw [htk, List.getElem?_map, List.getElem?_eq_getElem hi];unfold dg; simp [List.getD, hi]
  rw [List.getElem?_take] at h1;rw [if_pos zw] at h1;simpa using h1
theorem zzaz {n q N : Nat} (h : 1 ≤ q) (hN : N ≤ 9223372036854775808) (he : q * 10000 ^ n ≤ N) : n ≤ 4 := by
 by_cases hn : n ≤ 4
 ·exact hn
 ·have h1 : 10000 ^ 5 ≤ 10000 ^ n := Nat.pow_le_pow_right zx zw
  have h2 : 1 * 10000 ^ n ≤ q * 10000 ^ n := Nat.mul_le_mul_right _ h;have h3 : (10000 : Nat) ^ 5 = 100000000000000000000 := by decide
  omega
structure OfInv (N : Nat) (ds : List Nat) (q : Nat) : Prop where
 lt : ∀ d ∈ ds, d < 10000
 val : vl ds + q * 10000 ^ ds.length = N
 top : q = 0 → ds.length = 0 ∨ dg ds (ds.length - 1) ≠ 0
theorem OfInv.step {N : Nat} {ds : List Nat} {q : Nat} (h : OfInv N ds q) (hq : q ≠ 0) : OfInv N (ds ++ [q % 10000]) (q / 10000) := by
 refine ⟨fun d hd => ?_, ?_, fun h0 => .inr ?_⟩
 ·rcases List.mem_append.1 hd with h1 | h1
  ·exact h.lt d h1
  ·simp at h1; omega
 ·rw [zz3x, List.length_append, ← h.val]
  show vl ds + q % 10000 * 10000 ^ ds.length + q / 10000 * 10000 ^ (ds.length + 1) = _;rw [Nat.pow_succ];have h1 := Nat.div_add_mod q 10000;generalize q % 10000 = m at *;generalize q / 10000 = d at *;rw [← h1]
  grind
 ·rw [List.length_append]
  show dg _ (ds.length + 1 - 1) ≠ 0;rw [Nat.add_sub_cancel, zz4s];omega
theorem zt12 {p : Prop} (h : p := by
 have K1 := zz00 ((hb4.block (w.heap.size + 1) zw).trans H1.out) 1 v rfl;have L1 := zz04 ((hb4.block (w.heap.size + 1) zw).trans H1.out) 1;have H0b := zH ((hb4.block w.heap.size zw).trans H0.out);have H1b := zH ((hb4.block (w.heap.size + 1) zw).trans H1.out);have HBb := zH (HB.out.trans (hb4.mono (show w.heap.size ≤ w.heap.size + 2 by omega)))
 have HBz := zH hb4.size;clear hb4 HR H0 H1 HB;go_wp2_with fail;go_roundw
 case rel => exact ⟨ds ++ [m], d, _, rfl, hstep.out, zz09 H0b.out _ _ zw, zz0c H1b.out _ _, by rw [show (ds ++ [m]).length = ds.length + 1 by simp] at hown4 ⊢; exact ownsRow_setCell_below hown4.out (a := ⟨w.heap.size + 1, 1, none⟩) (Nat.lt_succ_self _) _, HBb.out.setCell (Nat.le_succ _) _, by show _ ≤ _; simpa [World.setCell] using hB4⟩
 case measure => simp [intOf]; omega) : p := h
theorem zt100 {p : Prop} (h : p := by
 injection hs' with hA' _ _
 subst hA';exact ⟨A, ds.length, c, dg ds, by rw [e1], ⟨dg_dg HI.out.lt, HI.out.top rfl⟩, hv.trans hN.symm, hd', hlc⟩) : p := h
theorem zz3g (n : Int) (h : I64 n) (w : World) :
  Calls Tryz.prog 103 #[.int .i64 n] w fun e w' => (∃ v, e = .returned v ∧ BigAt w' v n) ∧ Below w.heap.size w w' := by
 unfold I64 at h;obtain ⟨N, hN⟩ : ∃ N, n.natAbs = N := ⟨_, rfl⟩;have hN2 : N ≤ 9223372036854775808 := by omega
 by_cases hs : n < 0
 ·have e1 : decide (n < 0) = true := decide_eq_true hs
  go_in;go_wp2_with fail;go_loopw [0, 4] (fun s0 s4 wr => ∃ (ds : List Nat) (q : Nat) (v : Value), s0 = .int .i64 (-(q : Int)) ∧ Hid (OfInv N ds q) ∧ ZB wr w.heap.size #[.bool false, .slice none 0 0] 143 ∧
   ZB wr (w.heap.size + 1) #[.bool true, v] 143 ∧ Hid (wr.ownsRow (w.heap.size + 2) 3 1 v ds.length (ds.map fun d => .int .i64 (d : Nat))) ∧ Hid (Below w.heap.size w wr) ∧ Hid (w.heap.size + 2 ≤ wr.heap.size)) (fun s0 _ _ => (intOf s0).natAbs)
  case atStart =>
   refine ⟨[], N, .slice none 0 0, ?_, ⟨fun d hd => by simp at hd, by rw [vl_nil]; simp, fun _ => .inl rfl⟩, zz05 (zz02 _ _) _, ?_, World.ownsRow_nil _ _ _ _, zz01 zBa (by rw [World.size_alloc]; omega) _, by show _ ≤ _; simp⟩
   ·congr 1; omega
   ·have := zz02 (w.alloc (.cells #[.bool false, .slice none 0 0] 143)) (.cells #[.bool true, .slice none 0 0] 143)
    rw [World.size_alloc] at this;exact this
  case round =>
   obtain ⟨ds, q, v, rfl, HI, H0, H1, HR, HB, HSZ⟩ := hrel;have c0 : wr.cell? ⟨w.heap.size + 1, 0, none⟩ = some (.bool true) := zz00 H1.out 0 _ rfl;have c1 : wr.cell? ⟨w.heap.size + 1, 1, none⟩ = some v := zz00 H1.out 1 _ rfl;have f0 := zz04 H1.out 0;have f1 := zz04 H1.out 1;have d0 : wr.cell? ⟨w.heap.size, 0, none⟩ = some (.bool false) := zz00 H0.out 0 _ rfl;have d1 : wr.cell? ⟨w.heap.size, 1, none⟩ = some (.slice none 0 0) := zz00 H0.out 1 _ rfl;have g0 := zz04 H0.out 0;have g1 := zz04 H0.out 1;by_cases hq : q = 0
   ·subst hq
    have t1 : (((0 : Nat) : Int) != 0) = false := rfl;obtain ⟨A, c, rfl, hd, hlc, _, hAB⟩ := zz0x HR.out;go_wp2_with fail;refine bodyPost_ret (v := .agg #[.bool true, .slice A ds.length c]) ?_ rfl ⟨⟨_, rfl, ?_⟩, ?_⟩
    ·simp [results, Tryz.results103, go_sem, d0, d1]
    ·have hv := HI.out.val
     rw [Nat.zero_mul, Nat.add_zero] at hv;obtain ⟨A', c', hs', hd', _, _, _⟩ := zz0x (ownsRow_setCell_below (ownsRow_setCell_below HR.out (a := ⟨w.heap.size, 0, none⟩) (by show w.heap.size < _; omega) (.bool true)) (a := ⟨w.heap.size, 1, none⟩) (by show w.heap.size < _; omega) (.slice A ds.length c))
     exact zt100
    ·exact (HB.out.setCell (Nat.le_refl _) _).setCell (Nat.le_refl _) _
   ·have t1 : ((-(q : Int)) != 0) = true := by simp; omega
    have e2 : (-(q : Int)).tmod 10000 = -((q % 10000 : Nat) : Int) := by rw [Int.neg_tmod, Int.tmod_eq_emod_of_nonneg zw]; omega
    have e3 : (-(q : Int)).tdiv 10000 = -((q / 10000 : Nat) : Int) := by rw [Int.neg_tdiv, Int.tdiv_eq_ediv_of_nonneg zw]; omega
    have hl := zzaz (n := ds.length) (show 1 ≤ q by omega) hN2 (by have := HI.out.val; omega)
    have hB2 : Hid (w.heap.size + 2 ≤ wr.heap.size) := HSZ.out;have hstep := zH (HI.out.step hq);obtain ⟨m, hm⟩ : ∃ m, q % 10000 = m := ⟨_, rfl⟩;obtain ⟨d, hd⟩ : ∃ d, q / 10000 = d := ⟨_, rfl⟩;rw [hm] at hstep e2;rw [hd] at hstep e3;have hm1 : m < 10000 := by omega
    have hdq : d < q := by omega
    have hqN : q ≤ N := by have h1 := HI.out.val; have h2 : q * 1 ≤ q * 10000 ^ ds.length := Nat.mul_le_mul_left _ (Nat.pow_pos zx); omega
    have hd9 : d ≤ 922337203685478 := by omega
    have e5 : wrap64 (-(d : Int)) = -(d : Int) := by unfold wrap64; omega
    clear hm hd;by_cases hm0 : m = 0
    ·have e4 : (-(q : Int)).tmod 10000 = (m : Int) := by rw [e2]; omega
     have u1 : ¬ ((m : Int) < 0) := by omega
     clear e2 hm0;go_wp2_with (at_builtin; refine zz0j _ _ _ _ _ _ el_int (fun d : Nat => Value.int .i64 (d : Int)) m _ _ _ (Below.refl _ wr) HR hB2.out rfl rfl rfl rfl rfl zw zx ?_; intro v4 w4 hown4 hb4 hB4; refine Hid.out ?_)
     refine zH ?_;obtain ⟨A4, c4, rfl, _, _, _, _⟩ := zz0x (ds := ds ++ [m]) (by rw [List.length_append]; exact hown4.out)
     have K0 := zz00 ((hb4.block (w.heap.size + 1) zw).trans H1.out) 0 (.bool true) rfl;exact zt12
    ·have u1 : (-((m : Nat) : Int) < 0) := by omega
     go_wp2_with (at_builtin; refine zz0j _ _ _ _ _ _ el_int (fun d : Nat => Value.int .i64 (d : Int)) m _ _ _ (Below.refl _ wr) HR hB2.out rfl rfl rfl rfl rfl zw zx ?_; intro v4 w4 hown4 hb4 hB4; refine Hid.out ?_)
     refine zH ?_;obtain ⟨A4, c4, rfl, _, _, _, _⟩ := zz0x (ds := ds ++ [m]) (by rw [List.length_append]; exact hown4.out)
     have K0 := zz00 ((hb4.block (w.heap.size + 1) zw).trans H1.out) 0 (.bool true) rfl;exact zt12
 ·have e1 : decide (n < 0) = false := decide_eq_false hs
  go_in;go_wp2_with fail;go_loopw [0, 4] (fun s0 s4 wr => ∃ (ds : List Nat) (q : Nat) (v : Value), s0 = .int .i64 ((q : Int)) ∧ Hid (OfInv N ds q) ∧ ZB wr w.heap.size #[.bool false, .slice none 0 0] 143 ∧
   ZB wr (w.heap.size + 1) #[.bool false, v] 143 ∧ Hid (wr.ownsRow (w.heap.size + 2) 3 1 v ds.length (ds.map fun d => .int .i64 (d : Nat))) ∧ Hid (Below w.heap.size w wr) ∧ Hid (w.heap.size + 2 ≤ wr.heap.size)) (fun s0 _ _ => (intOf s0).natAbs)
  case atStart =>
   refine ⟨[], N, .slice none 0 0, ?_, ⟨fun d hd => by simp at hd, by rw [vl_nil]; simp, fun _ => .inl rfl⟩, zz05 (zz02 _ _) _, ?_, World.ownsRow_nil _ _ _ _, zz01 zBa (by rw [World.size_alloc]; omega) _, by show _ ≤ _; simp⟩
   ·congr 1; omega
   ·have := zz02 (w.alloc (.cells #[.bool false, .slice none 0 0] 143)) (.cells #[.bool false, .slice none 0 0] 143)
    rw [World.size_alloc] at this;exact this
  case round =>
   obtain ⟨ds, q, v, rfl, HI, H0, H1, HR, HB, HSZ⟩ := hrel;have c0 : wr.cell? ⟨w.heap.size + 1, 0, none⟩ = some (.bool false) := zz00 H1.out 0 _ rfl;have c1 : wr.cell? ⟨w.heap.size + 1, 1, none⟩ = some v := zz00 H1.out 1 _ rfl;have f0 := zz04 H1.out 0;have f1 := zz04 H1.out 1;have d0 : wr.cell? ⟨w.heap.size, 0, none⟩ = some (.bool false) := zz00 H0.out 0 _ rfl;have d1 : wr.cell? ⟨w.heap.size, 1, none⟩ = some (.slice none 0 0) := zz00 H0.out 1 _ rfl;have g0 := zz04 H0.out 0;have g1 := zz04 H0.out 1;by_cases hq : q = 0
   ·subst hq
    have t1 : (((0 : Nat) : Int) != 0) = false := rfl;obtain ⟨A, c, rfl, hd, hlc, _, hAB⟩ := zz0x HR.out;go_wp2_with fail;refine bodyPost_ret (v := .agg #[.bool false, .slice A ds.length c]) ?_ rfl ⟨⟨_, rfl, ?_⟩, ?_⟩
    ·simp [results, Tryz.results103, go_sem, d0, d1]
    ·have hv := HI.out.val
     rw [Nat.zero_mul, Nat.add_zero] at hv;obtain ⟨A', c', hs', hd', _, _, _⟩ := zz0x (ownsRow_setCell_below (ownsRow_setCell_below HR.out (a := ⟨w.heap.size, 0, none⟩) (by show w.heap.size < _; omega) (.bool false)) (a := ⟨w.heap.size, 1, none⟩) (by show w.heap.size < _; omega) (.slice A ds.length c))
     exact zt100
    ·exact (HB.out.setCell (Nat.le_refl _) _).setCell (Nat.le_refl _) _
   ·have t1 : (((q : Int)) != 0) = true := by simp; omega
    have e2 : (q : Int).tmod 10000 = ((q % 10000 : Nat) : Int) := by rw [Int.tmod_eq_emod_of_nonneg zw]; omega
    have e3 : (q : Int).tdiv 10000 = ((q / 10000 : Nat) : Int) := by rw [Int.tdiv_eq_ediv_of_nonneg zw]; omega
    have hl := zzaz (n := ds.length) (show 1 ≤ q by omega) hN2 (by have := HI.out.val; omega)
    have hB2 : Hid (w.heap.size + 2 ≤ wr.heap.size) := HSZ.out;have hstep := zH (HI.out.step hq);obtain ⟨m, hm⟩ : ∃ m, q % 10000 = m := ⟨_, rfl⟩;obtain ⟨d, hd⟩ : ∃ d, q / 10000 = d := ⟨_, rfl⟩;rw [hm] at hstep e2;rw [hd] at hstep e3;have hm1 : m < 10000 := by omega
    have hdq : d < q := by omega
    have hqN : q ≤ N := by have h1 := HI.out.val; have h2 : q * 1 ≤ q * 10000 ^ ds.length := Nat.mul_le_mul_left _ (Nat.pow_pos zx); omega
    have hd9 : d ≤ 922337203685478 := by omega
    have e5 : wrap64 (d : Int) = (d : Int) := by unfold wrap64; omega
    clear hm hd;go_wp2_with (at_builtin; refine zz0j _ _ _ _ _ _ el_int (fun d : Nat => Value.int .i64 (d : Int)) m _ _ _ (Below.refl _ wr) HR hB2.out rfl rfl rfl rfl rfl zw zx ?_; intro v4 w4 hown4 hb4 hB4; refine Hid.out ?_)
    refine zH ?_;obtain ⟨A4, c4, rfl, _, _, _, _⟩ := zz0x (ds := ds ++ [m]) (by rw [List.length_append]; exact hown4.out)
    have K0 := zz00 ((hb4.block (w.heap.size + 1) zw).trans H1.out) 0 (.bool false) rfl;exact zt12
end
end Go.Proofs.YtajogedbacpohaaGreatDoor
