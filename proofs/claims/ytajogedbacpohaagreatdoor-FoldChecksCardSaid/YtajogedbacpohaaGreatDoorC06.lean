/- Part 7 of what the claim rests on. -/
import Derived.Test.YtajogedbacpohaaGreatDoorC00
import Derived.Test.YtajogedbacpohaaGreatDoorC05
import Derived.Laws.Bits64b
import Derived.Laws.Externs
import Derived.Lib.Mul64
import Derived.Shelf.GgClosure.Gives
import Derived.Test.YtajogedbacpohaaGreatDoorChecked
set_option linter.unusedVariables false
set_option linter.unusedSimpArgs false
set_option maxRecDepth 1000000
set_option maxHeartbeats 32000000
namespace Go.Proofs.YtajogedbacpohaaGreatDoor
section
open Go Go.RowKit Go.Shelf
def rowV (r : List Int) : Value := .agg (r.map (Value.int .i64)).toArray
def PredOn (g : Nat) (lb : Array Value) (l : List (List Int)) (p : List Int → Bool) (w : World) : Prop :=
 ∀ (W : World) (r : List Int), r ∈ l → Below w.heap.size w W → Calls Tryz.prog g (#[rowV r] ++ lb) W fun e w' => e = .returned (.bool (p r)) ∧ Below W.heap.size W w'
theorem zt10 {p : Prop} (h : p := by
 rw [hF] at hcall2 hst;clear hc hk hcall hF;cases F with
 | true =>
  go_wp2_with (go_at_fn g; refine hcall2.out.mono ?_; rintro e w2 ⟨rfl, hb2⟩);go_ret;have hR : Res = true := hRes.out.symm.trans (hrest.out.trans hst.out);subst hR;exact ⟨_, rfl, by simp, hBr.out.trans (hb2.mono hBr.out.size)⟩
 | false =>
  have hst2 := zH (hrest.out.trans hst.out);go_wp2_with (go_at_fn g; refine hcall2.out.mono ?_; rintro e w2 ⟨rfl, hb2⟩);have HB2 := zB hBr hb2;clear hb2;go_roundw
  case rel => exact ⟨j + 1, by go_num, by show _ ≤ _; omega, hst2.out, HB2.out⟩
  case measure => simp [intOf]; omega) : p := h
theorem zt36 {p : Prop} (h : p := by
 have tn : decide ((j : Int) < (l.length : Int)) = false := decide_eq_false zw;have hR : Res = false := hRes.out.symm.trans (hrest.out.trans (by rw [List.drop_eq_nil_of_le zw]; rfl))
 subst hR;clear hrest hjl hRes;go_wp2_with fail;go_ret;exact ⟨_, rfl, rfl, hBr.out⟩) : p := h
theorem zz55 (g : Nat) (lb : Array Value) (eg : ∀ args w, (callFunc g args).run Tryz.prog w = .ok (.enter g args) w) (v : Value) (l : List (List Int)) (p : List Int → Bool) (w : World) (hv : Hid (RecAt w v 4 l)) (hl : l.length ≤ 1000000) (hp : Hid (PredOn g lb l p w)) :
  Calls Tryz.prog 137 #[v, .func (.func g) #[] lb] w fun e w' => ∃ i : Int, e = .returned (.int .i64 i) ∧ decide (0 ≤ i) = l.any p ∧ Below w.heap.size w w' := by
 obtain ⟨A, c, rfl, hi⟩ := hv.out;have HI := zH hi;clear hi hv;obtain ⟨Res, hRes⟩ : ∃ Res, l.any p = Res := ⟨_, rfl⟩;rw [hRes];replace hRes := zH hRes;go_in;go_wp2_with fail;go_loopw [5, 8] (fun _ s8 wr => ∃ j : Nat, s8 = .int .i64 (j : Int) ∧ Hid (j ≤ l.length) ∧ Hid (l.any p = (l.drop j).any p) ∧ Hid (Below w.heap.size w wr)) (fun _ s8 _ => l.length - (intOf s8).toNat)
 case atStart => exact ⟨0, rfl, Nat.zero_le _, rfl, Below.refl _ _⟩
 case round =>
  obtain ⟨j, rfl, hjl, hrest, hBr⟩ := hrel;replace hjl := hjl.out;by_cases hin : j < l.length
  ·have tn : decide ((j : Int) < (l.length : Int)) = true := decide_eq_true zw
   have hge : l[j]? = some l[j] := List.getElem?_eq_getElem hin;obtain ⟨hk, b0, o0, hA0, hbl, hc⟩ := HI.out j _ hge;subst hA0;have hst : Hid ((l.drop j).any p = (p l[j] || (l.drop (j + 1)).any p)) := (show _ = _ from by rw [List.drop_eq_getElem_cons hin, List.any_cons])
   have hcall := hp.out wr l[j] (List.getElem_mem hin) hBr.out;clear hge;generalize l[j] = r at *;obtain ⟨y0, y1, y2, y3, rfl⟩ : ∃ y0 y1 y2 y3, r = [y0, y1, y2, y3] := by
    match r, hk with
    | [y0, y1, y2, y3], _ => exact ⟨y0, y1, y2, y3, rfl⟩
   obtain ⟨c0, c1, c2, c3⟩ := zR4 hBr.out hbl hc;have hcall : Calls Tryz.prog g (#[.agg #[y0, y1, y2, y3]] ++ lb) wr _ := hcall;have hcall2 := zH hcall;obtain ⟨F, hF⟩ : ∃ F, p [y0, y1, y2, y3] = F := ⟨_, rfl⟩;exact zt10
  ·exact zt36
theorem zt32 {p : Prop} (h : p := by
 obtain ⟨A, c, rfl, hi⟩ := hv.out;clear hv hp hi;go_in;go_wp2_with fail;(with_reducible refine q.out.mono ?_);rintro e w2 ⟨i, rfl, hi', hb⟩;have hi := zH hi';clear hi';go_wp2_with fail;go_ret;refine ⟨?_, hb⟩;show Ending.returned (.bool (decide (0 ≤ i))) = _;rw [hi.out]) : p := h
theorem zz3q (g : Nat) (lb : Array Value) (eg : ∀ args w, (callFunc g args).run Tryz.prog w = .ok (.enter g args) w) (v : Value) (l : List (List Int)) (p : List Int → Bool) (w : World) (hv : Hid (RecAt w v 4 l)) (hl : l.length ≤ 1000000) (hp : Hid (PredOn g lb l p w)) :
  Calls Tryz.prog 69 #[v, .func (.func g) #[] lb] w fun e w' => e = .returned (.bool (l.any p)) ∧ Below w.heap.size w w' := by
 have q := zH (zz55 g lb eg v l p w hv hl hp);exact zt32
theorem zz7d (g : Nat) (lb : Array Value) (eg : ∀ args w, (callFunc g args).run Tryz.prog w = .ok (.enter g args) w) (v : Value) (l : List (List Int)) (p : List Int → Bool) (w : World) (hv : Hid (RecAt w v 6 l)) (hl : l.length ≤ 1000000) (hp : Hid (PredOn g lb l p w)) :
  Calls Tryz.prog 140 #[v, .func (.func g) #[] lb] w fun e w' => ∃ i : Int, e = .returned (.int .i64 i) ∧ decide (0 ≤ i) = l.any p ∧ Below w.heap.size w w' := by
 obtain ⟨A, c, rfl, hi⟩ := hv.out;have HI := zH hi;clear hi hv;obtain ⟨Res, hRes⟩ : ∃ Res, l.any p = Res := ⟨_, rfl⟩;rw [hRes];replace hRes := zH hRes;go_in;go_wp2_with fail;go_loopw [5, 8] (fun _ s8 wr => ∃ j : Nat, s8 = .int .i64 (j : Int) ∧ Hid (j ≤ l.length) ∧ Hid (l.any p = (l.drop j).any p) ∧ Hid (Below w.heap.size w wr)) (fun _ s8 _ => l.length - (intOf s8).toNat)
 case atStart => exact ⟨0, rfl, Nat.zero_le _, rfl, Below.refl _ _⟩
 case round =>
  obtain ⟨j, rfl, hjl, hrest, hBr⟩ := hrel;replace hjl := hjl.out;by_cases hin : j < l.length
  ·have tn : decide ((j : Int) < (l.length : Int)) = true := decide_eq_true zw
   have hge : l[j]? = some l[j] := List.getElem?_eq_getElem hin;obtain ⟨hk, b0, o0, hA0, hbl, hc⟩ := HI.out j _ hge;subst hA0;have hst : Hid ((l.drop j).any p = (p l[j] || (l.drop (j + 1)).any p)) := (show _ = _ from by rw [List.drop_eq_getElem_cons hin, List.any_cons])
   have hcall := hp.out wr l[j] (List.getElem_mem hin) hBr.out;clear hge;generalize l[j] = r at *;obtain ⟨y0, y1, y2, y3, y4, y5, rfl⟩ : ∃ y0 y1 y2 y3 y4 y5, r = [y0, y1, y2, y3, y4, y5] := by
    match r, hk with
    | [y0, y1, y2, y3, y4, y5], _ => exact ⟨y0, y1, y2, y3, y4, y5, rfl⟩
   obtain ⟨c0, c1, c2, c3, c4, c5⟩ := zR6 hBr.out hbl hc;have hcall : Calls Tryz.prog g (#[.agg #[y0, y1, y2, y3, y4, y5]] ++ lb) wr _ := hcall;have hcall2 := zH hcall;obtain ⟨F, hF⟩ : ∃ F, p [y0, y1, y2, y3, y4, y5] = F := ⟨_, rfl⟩;exact zt10
  ·exact zt36
theorem zz52 (g : Nat) (lb : Array Value) (eg : ∀ args w, (callFunc g args).run Tryz.prog w = .ok (.enter g args) w) (v : Value) (l : List (List Int)) (p : List Int → Bool) (w : World) (hv : Hid (RecAt w v 6 l)) (hl : l.length ≤ 1000000) (hp : Hid (PredOn g lb l p w)) :
  Calls Tryz.prog 72 #[v, .func (.func g) #[] lb] w fun e w' => e = .returned (.bool (l.any p)) ∧ Below w.heap.size w w' := by
 have q := zH (zz7d g lb eg v l p w hv hl hp);exact zt32
theorem zz7c (g : Nat) (lb : Array Value) (eg : ∀ args w, (callFunc g args).run Tryz.prog w = .ok (.enter g args) w) (v : Value) (l : List (List Int)) (p : List Int → Bool) (w : World) (hv : Hid (RecAt w v 2 l)) (hl : l.length ≤ 1000000) (hp : Hid (PredOn g lb l p w)) :
  Calls Tryz.prog 138 #[v, .func (.func g) #[] lb] w fun e w' => ∃ i : Int, e = .returned (.int .i64 i) ∧ decide (0 ≤ i) = l.any p ∧ Below w.heap.size w w' := by
 obtain ⟨A, c, rfl, hi⟩ := hv.out;have HI := zH hi;clear hi hv;obtain ⟨Res, hRes⟩ : ∃ Res, l.any p = Res := ⟨_, rfl⟩;rw [hRes];replace hRes := zH hRes;go_in;go_wp2_with fail;go_loopw [5, 8] (fun _ s8 wr => ∃ j : Nat, s8 = .int .i64 (j : Int) ∧ Hid (j ≤ l.length) ∧ Hid (l.any p = (l.drop j).any p) ∧ Hid (Below w.heap.size w wr)) (fun _ s8 _ => l.length - (intOf s8).toNat)
 case atStart => exact ⟨0, rfl, Nat.zero_le _, rfl, Below.refl _ _⟩
 case round =>
  obtain ⟨j, rfl, hjl, hrest, hBr⟩ := hrel;replace hjl := hjl.out;by_cases hin : j < l.length
  ·have tn : decide ((j : Int) < (l.length : Int)) = true := decide_eq_true zw
   have hge : l[j]? = some l[j] := List.getElem?_eq_getElem hin;obtain ⟨hk, b0, o0, hA0, hbl, hc⟩ := HI.out j _ hge;subst hA0;have hst : Hid ((l.drop j).any p = (p l[j] || (l.drop (j + 1)).any p)) := (show _ = _ from by rw [List.drop_eq_getElem_cons hin, List.any_cons])
   have hcall := hp.out wr l[j] (List.getElem_mem hin) hBr.out;clear hge;generalize l[j] = r at *;obtain ⟨y0, y1, rfl⟩ : ∃ y0 y1, r = [y0, y1] := by
    match r, hk with
    | [y0, y1], _ => exact ⟨y0, y1, rfl⟩
   obtain ⟨c0, c1⟩ := zR2 hBr.out hbl hc;have hcall : Calls Tryz.prog g (#[.agg #[y0, y1]] ++ lb) wr _ := hcall;have hcall2 := zH hcall;obtain ⟨F, hF⟩ : ∃ F, p [y0, y1] = F := ⟨_, rfl⟩;exact zt10
  ·exact zt36
theorem zz51 (g : Nat) (lb : Array Value) (eg : ∀ args w, (callFunc g args).run Tryz.prog w = .ok (.enter g args) w) (v : Value) (l : List (List Int)) (p : List Int → Bool) (w : World) (hv : Hid (RecAt w v 2 l)) (hl : l.length ≤ 1000000) (hp : Hid (PredOn g lb l p w)) :
  Calls Tryz.prog 70 #[v, .func (.func g) #[] lb] w fun e w' => e = .returned (.bool (l.any p)) ∧ Below w.heap.size w w' := by
 have q := zH (zz7c g lb eg v l p w hv hl hp);exact zt32
theorem zz68 (g : Nat) (lb : Array Value) (eg : ∀ args w, (callFunc g args).run Tryz.prog w = .ok (.enter g args) w) (v : Value) (l : List (List Int)) (p : List Int → Bool) (w : World) (hv : Hid (RecAt w v 3 l)) (hl : l.length ≤ 1000000) (hp : Hid (PredOn g lb l p w)) :
  Calls Tryz.prog 139 #[v, .func (.func g) #[] lb] w fun e w' => ∃ i : Int, e = .returned (.int .i64 i) ∧ decide (0 ≤ i) = l.any p ∧ Below w.heap.size w w' := by
 obtain ⟨A, c, rfl, hi⟩ := hv.out;have HI := zH hi;clear hi hv;obtain ⟨Res, hRes⟩ : ∃ Res, l.any p = Res := ⟨_, rfl⟩;rw [hRes];replace hRes := zH hRes;go_in;go_wp2_with fail;go_loopw [5, 8] (fun _ s8 wr => ∃ j : Nat, s8 = .int .i64 (j : Int) ∧ Hid (j ≤ l.length) ∧ Hid (l.any p = (l.drop j).any p) ∧ Hid (Below w.heap.size w wr)) (fun _ s8 _ => l.length - (intOf s8).toNat)
 case atStart => exact ⟨0, rfl, Nat.zero_le _, rfl, Below.refl _ _⟩
 case round =>
  obtain ⟨j, rfl, hjl, hrest, hBr⟩ := hrel;replace hjl := hjl.out;by_cases hin : j < l.length
  ·have tn : decide ((j : Int) < (l.length : Int)) = true := decide_eq_true zw
   have hge : l[j]? = some l[j] := List.getElem?_eq_getElem hin;obtain ⟨hk, b0, o0, hA0, hbl, hc⟩ := HI.out j _ hge;subst hA0;have hst : Hid ((l.drop j).any p = (p l[j] || (l.drop (j + 1)).any p)) := (show _ = _ from by rw [List.drop_eq_getElem_cons hin, List.any_cons])
   have hcall := hp.out wr l[j] (List.getElem_mem hin) hBr.out;clear hge;generalize l[j] = r at *;obtain ⟨y0, y1, y2, rfl⟩ : ∃ y0 y1 y2, r = [y0, y1, y2] := by
    match r, hk with
    | [y0, y1, y2], _ => exact ⟨y0, y1, y2, rfl⟩
   obtain ⟨c0, c1, c2⟩ := zR3 hBr.out hbl hc;have hcall : Calls Tryz.prog g (#[.agg #[y0, y1, y2]] ++ lb) wr _ := hcall;have hcall2 := zH hcall;obtain ⟨F, hF⟩ : ∃ F, p [y0, y1, y2] = F := ⟨_, rfl⟩;exact zt10
  ·exact zt36
theorem zz3x (g : Nat) (lb : Array Value) (eg : ∀ args w, (callFunc g args).run Tryz.prog w = .ok (.enter g args) w) (v : Value) (l : List (List Int)) (p : List Int → Bool) (w : World) (hv : Hid (RecAt w v 3 l)) (hl : l.length ≤ 1000000) (hp : Hid (PredOn g lb l p w)) :
  Calls Tryz.prog 71 #[v, .func (.func g) #[] lb] w fun e w' => e = .returned (.bool (l.any p)) ∧ Below w.heap.size w w' := by
 have q := zH (zz68 g lb eg v l p w hv hl hp);exact zt32
end
section
open Go Go.RowKit
theorem BkOwn.form {w : World} {B : Nat} {v : Value} {b : Bk} (h : BkOwn w B v b) : ∃ A1 c1 A2 c2 A3 c3 A4 c4, v = .agg (BF A1 c1 A2 c2 A3 c3 A4 c4 b b.n) := by
 obtain ⟨vh, vs, vo, vr, rfl, h1, h2, h3, h4⟩ := h;obtain ⟨A1, c1, rfl⟩ := h1.form;obtain ⟨A2, c2, rfl⟩ := h2.form;obtain ⟨A3, c3, rfl⟩ := h3.form;obtain ⟨A4, c4, rfl⟩ := h4.form;exact ⟨A1, c1, A2, c2, A3, c3, A4, c4, rfl⟩
theorem zz15 {k : Nat} {l : List (List Int)} (h : ∀ r ∈ l, r.length = k) (E : List Int → Bool) : ∃ r F, r.length = k ∧ recOf k (l.find? E) = (r, F) := by
 cases hf : l.find? E with
 | none => exact ⟨_, _, List.length_replicate, rfl⟩
 | some r => exact ⟨r, true, h r (List.mem_of_find?_eq_some hf), rfl⟩
def thereB (b : Bk) (acc sym : Int) : Bool := (b.h.find? (isId acc)).isSome && (b.r.find? (isId sym)).isSome
def badH (r : List Int) : Bool := decide (r.getD 2 0 < 0) || decide (r.getD 3 0 < 0)
def badR (r : List Int) : Bool := decide (r.getD 1 0 < 1)
def badS (b : Bk) (r : List Int) : Bool := decide (r.getD 2 0 = 0) || !thereB b (r.getD 0 0) (r.getD 1 0)
def badO (b : Bk) (r : List Int) : Bool := decide (r.getD 4 0 < 1) || (decide (r.getD 5 0 < 1) || (decide (r.getD 3 0 < 0) || (decide (1 < r.getD 3 0) || !thereB b (r.getD 1 0) (r.getD 2 0))))
def Bk.listsB (b : Bk) : Bool := !decide (32 < b.h.length) && (!decide (64 < b.o.length) && (!decide (32 < b.r.length) && b.riseB))
def Bk.countB (b : Bk) : Bool := !decide (b.n < 0) && !decide (1099511627776 < b.n)
def Bk.mayB (b : Bk) : Bool := b.listsB && (b.countB && (!b.h.any badH && (!b.r.any badR && (!b.s.any (badS b) && !b.o.any (badO b)))))
theorem zz0p {k : Nat} {o : Option (List Int)} {r : List Int} {F : Bool} (h : recOf k o = (r, F)) : F = o.isSome := by
 cases o with
 | none => exact (congrArg Prod.snd h).symm
 | some x => exact (congrArg Prod.snd h).symm
theorem May2_any (x0 x1 x2 x3 : Int) (w : World) : Calls Tryz.prog 65 #[.agg #[x0, x1, x2, x3]] w fun e w' => e = .returned (.bool (badH [x0, x1, x2, x3])) ∧ Below w.heap.size w w' := by
 have hv : badH [x0, x1, x2, x3] = (decide (x2 < 0) || decide (x3 < 0)) := rfl
 rw [hv];clear hv;by_cases h2 : x2 < 0
 ·have t2 : decide (x2 < 0) = true := decide_eq_true h2
  rw [t2];clear h2;go_in;go_wp2_with fail;go_ret;exact ⟨rfl, zBa⟩
 ·have t2 : decide (x2 < 0) = false := decide_eq_false h2
  rw [t2];clear h2;go_in;go_wp2_with fail;go_ret;exact ⟨rfl, zBa⟩
theorem May3_any (x0 x1 : Int) (w : World) : Calls Tryz.prog 66 #[.agg #[x0, x1]] w fun e w' => e = .returned (.bool (badR [x0, x1])) ∧ Below w.heap.size w w' := by
 have hv : badR [x0, x1] = decide (x1 < 1) := rfl;rw [hv];clear hv;go_in;go_wp2_with fail;go_ret;exact ⟨rfl, zBa⟩
theorem zz9a (v : Value) (b : Bk) (g : Nat) (acc sym : Int) (w : World) (hb : Hid (BkAt w v b)) (hg : Hid (∃ cs, v = .agg cs ∧ w.heap[g]? = some (.cells cs 27 (0, 0)))) (hs : Hid b.Small) (hr : Hid b.Rise) :
  Calls Tryz.prog 62 #[.int .i64 acc, .int .i64 sym, .pointer (some ⟨g, 0, none⟩)] w fun e w' => e = .returned (.bool (thereB b acc sym)) ∧ Below w.heap.size w w' := by
 obtain ⟨vh, vs, vo, vr, rfl, r1, r2, r3, r4⟩ := hb.out;obtain ⟨_, he, hg'⟩ := hg.out;injection he with he
 subst he;have K0 := zH hg';have lh : ∀ r ∈ b.h, r.length = 4 := by obtain ⟨_, _, _, h, _⟩ := r1; exact h
 have lr : ∀ r ∈ b.r, r.length = 2 := by obtain ⟨_, _, _, h, _⟩ := r4; exact h
 obtain ⟨rh, H0, hl1, hx1⟩ := zz15 lh (isId acc);obtain ⟨rr, R0, hl3, hx3⟩ := zz15 lr (isId sym)
 match rh, rr, hl1, hl3, hx1, hx3 with
 | [h0, h1, h2, h3], [p0, p1], _, _, hx1, hx3 =>
 have hres : thereB b acc sym = (H0 && R0) := by unfold thereB; rw [zz0p hx1, zz0p hx3]
 rw [hres];have B0 : Hid (BkAt w (.agg #[vh, vs, vo, vr, b.n]) b) := hb;have HX1 := zH hx1;have HX3 := zH hx3;have F1 : b.h.length ≤ 1000000 := by have := hs.out; unfold Bk.Small at this; omega
 have F3 : b.r.length ≤ 1000000 := by have := hs.out; unfold Bk.Small at this; omega
 have HR1 := zH hr.out.1;have HR3 := zH hr.out.2.2.1;clear hb hg hg' r1 r2 r3 r4 lh lr hx1 hx3 hres hs hr;have a0 := zC K0.out;go_in;go_wp2_with fail;(with_reducible refine (zz2d _ b acc h0 h1 h2 h3 H0 _ B0 F1 HR1 HX1).mono ?_);rintro e w1 ⟨rfl, hb⟩;have K1 := zK K0 hb;have hb' := hb.trans ((zz01 (Below.refl w1.heap.size w1) (Nat.le_refl _) (.cells #[h0, h1, h2, h3] 78)).mono hb.size);have B1 := zH (B0.out.call hb');have HB1 := zH hb';clear hb hb' a0;have a0 := zC K1.out;have hgl : g < w1.heap.size := zL K1.out;go_wp2_with fail;(with_reducible refine (zz4w _ b sym p0 p1 R0 _ B1 F3 HR3 HX3).mono ?_);rintro e w2 ⟨rfl, hb⟩;have HB2 := zB HB1 hb;clear hb;cases H0 with
 | false =>
  go_wp2_with fail;go_ret;exact ⟨rfl, HB2.out⟩
 | true =>
  go_wp2_with fail;go_ret;exact ⟨rfl, HB2.out⟩
theorem zt46 {p : Prop} (h : p := by
 go_in;go_wp2_with fail;(with_reducible refine q.out.mono ?_);rintro e w2 ⟨rfl, hb⟩;have HB2 := zB HB0 hb;clear hb;go_wp2_with fail;go_ret;exact ⟨by simp, HB2.out⟩) : p := h
theorem May4_any (v : Value) (b : Bk) (g p : Nat) (x0 x1 x2 : Int) (w : World) (hb : Hid (BkAt w v b)) (hg : Hid (∃ cs, v = .agg cs ∧ w.heap[g]? = some (.cells cs 27 (0, 0)))) (hp : ZB w p #[.func (.func 62) #[] #[.pointer (some ⟨g, 0, none⟩)]] 114) (hs : Hid b.Small) (hr : Hid b.Rise) :
  Calls Tryz.prog 67 #[.agg #[x0, x1, x2], .pointer (some ⟨p, 0, none⟩)] w fun e w' => e = .returned (.bool (badS b [x0, x1, x2])) ∧ Below w.heap.size w w' := by
 have hv : badS b [x0, x1, x2] = (decide (x2 = 0) || !thereB b x0 x1) := rfl
 rw [hv];clear hv;have HB0 : Hid (Below w.heap.size w (w.alloc (.cells #[x0, x1, x2] 80))) := zBa;have q := zH (zz9a v b g x0 x1 (w.alloc (.cells #[x0, x1, x2] 80)) (hb.out.call HB0.out) (by obtain ⟨cs, h1, h2⟩ := hg.out; exact ⟨cs, h1, zz06 h2 HB0.out⟩) hs hr)
 have c0 := zz00 hp.out 0 _ rfl;have hpl : p < w.heap.size := zL hp.out;obtain ⟨T, hT⟩ : ∃ T, thereB b x0 x1 = T := ⟨_, rfl⟩;rw [hT] at q ⊢;clear hT hb hg hs hr hp;by_cases h : x2 = 0
 ·have t0 : (x2 == 0) = true := by simp [h]
  rw [decide_eq_true h];clear h;go_in;go_wp2_with fail;go_ret;exact ⟨by simp, HB0.out⟩
 ·have tb : (x2 == 0) = false := by simp [h]
  rw [decide_eq_false h];clear h;cases T with
  | true =>
   exact zt46
  | false =>
   exact zt46
theorem May5_any (v : Value) (b : Bk) (g p : Nat) (x0 x1 x2 x3 x4 x5 : Int) (w : World) (hb : Hid (BkAt w v b)) (hg : Hid (∃ cs, v = .agg cs ∧ w.heap[g]? = some (.cells cs 27 (0, 0)))) (hp : ZB w p #[.func (.func 62) #[] #[.pointer (some ⟨g, 0, none⟩)]] 114) (hs : Hid b.Small) (hr : Hid b.Rise) :
  Calls Tryz.prog 68 #[.agg #[x0, x1, x2, x3, x4, x5], .pointer (some ⟨p, 0, none⟩)] w fun e w' => e = .returned (.bool (badO b [x0, x1, x2, x3, x4, x5])) ∧ Below w.heap.size w w' := by
 have hv : badO b [x0, x1, x2, x3, x4, x5] = (decide (x4 < 1) || (decide (x5 < 1) || (decide (x3 < 0) || (decide (1 < x3) || !thereB b x1 x2)))) := rfl
 rw [hv];clear hv;have HB0 : Hid (Below w.heap.size w (w.alloc (.cells #[x0, x1, x2, x3, x4, x5] 82))) := zBa;have q := zH (zz9a v b g x1 x2 (w.alloc (.cells #[x0, x1, x2, x3, x4, x5] 82)) (hb.out.call HB0.out) (by obtain ⟨cs, h1, h2⟩ := hg.out; exact ⟨cs, h1, zz06 h2 HB0.out⟩) hs hr)
 have c0 := zz00 hp.out 0 _ rfl;have hpl : p < w.heap.size := zL hp.out;obtain ⟨T, hT⟩ : ∃ T, thereB b x1 x2 = T := ⟨_, rfl⟩;rw [hT] at q ⊢;clear hT hb hg hs hr hp;by_cases h : x4 < 1
 ·have t0 : decide (x4 < 1) = true := decide_eq_true h
  rw [decide_eq_true h];clear h;go_in;go_wp2_with fail;go_ret;exact ⟨by simp, HB0.out⟩
 ·have tb : decide (x4 < 1) = false := decide_eq_false h
  rw [decide_eq_false h];clear h;by_cases h : x5 < 1
  ·have t0 : decide (x5 < 1) = true := decide_eq_true h
   rw [decide_eq_true h];clear h;go_in;go_wp2_with fail;go_ret;exact ⟨by simp, HB0.out⟩
  ·have tc : decide (x5 < 1) = false := decide_eq_false h
   rw [decide_eq_false h];clear h;by_cases h : x3 < 0
   ·have t0 : decide (x3 < 0) = true := decide_eq_true h
    rw [decide_eq_true h];clear h;go_in;go_wp2_with fail;go_ret;exact ⟨by simp, HB0.out⟩
   ·have td : decide (x3 < 0) = false := decide_eq_false h
    rw [decide_eq_false h];clear h;by_cases h : 1 < x3
    ·have t0 : decide (1 < x3) = true := decide_eq_true h
     rw [decide_eq_true h];clear h;go_in;go_wp2_with fail;go_ret;exact ⟨by simp, HB0.out⟩
    ·have te : decide (1 < x3) = false := decide_eq_false h
     rw [decide_eq_false h];clear h;cases T with
     | true =>
      exact zt46
     | false =>
      exact zt46
theorem zt49 {p : Prop} (h : p := by
 rw [decide_eq_true h] at hRes;have hR : Res = false := by rw [← hRes]; simp
 subst hR;clear h hRes;rw [← hw1'.out] at a0 a1 a2 a3 a4;go_in;go_wp2_with fail;go_ret;exact ⟨rfl, by have := HB.out; rw [← hw1'.out] at this; exact this⟩) : p := h
theorem lists_any (v : Value) (b : Bk) (w : World) (hb : Hid (BkAt w v b)) (hs : Hid b.Small) :
  Calls Tryz.prog 61 #[v] w fun e w' => e = .returned (.bool b.listsB) ∧ Below w.heap.size w w' := by
 obtain ⟨vh, vs, vo, vr, rfl, g1, g2, g3, g4⟩ := hb.out;obtain ⟨Ah, ch, rfl, _⟩ := g1;obtain ⟨As, cs, rfl, _⟩ := g2;obtain ⟨Ao, co, rfl, _⟩ := g3;obtain ⟨Ar, cr, rfl, _⟩ := g4;obtain ⟨w1, hw1⟩ : ∃ w1, w.alloc (.cells (BF Ah ch As cs Ao co Ar cr b b.n) 27) = w1 := ⟨_, rfl⟩;have HB : Hid (Below w.heap.size w w1) := by rw [← hw1]; exact zBa
 have K : ZB w1 w.heap.size (BF Ah ch As cs Ao co Ar cr b b.n) 27 := by rw [← hw1]; exact zz02 w _
 obtain ⟨_, _, _, _, hh, g1, g2, g3, g4⟩ := hb.out.call HB.out;injection hh with hh
 simp only [Array.mk.injEq, List.cons.injEq] at hh;obtain ⟨rfl, rfl, rfl, rfl, _⟩ := hh;have hl : b.h.length ≤ 1000000 ∧ b.s.length ≤ 1000000 ∧ b.o.length ≤ 1000000 ∧ b.r.length ≤ 1000000 := by have := hs.out; unfold Bk.Small at this; omega
 obtain ⟨hlh, hls, hlo, hlr⟩ := hl;have R1 := zH g1;have R2 := zH g3;have R3 := zH g4;have R4 := zH g2;obtain ⟨Res, hRes⟩ : ∃ Res, b.listsB = Res := ⟨_, rfl⟩;rw [hRes];unfold Bk.listsB Bk.riseB at hRes;have Q1 := zH (fun wz v hv => zz4e v b.h wz hv hlh)
 have Q2 := zH (fun wz v hv => zz5q v b.o wz hv hlo)
 have Q3 := zH (fun wz v hv => zz5p v b.r wz hv hlr)
 have Q4 := zH (fun wz v hv => zz53 v b.s wz hv hls)
 generalize riseHB b.h = rh at *;generalize riseHB b.o = ro at *;generalize riseHB b.r = rr at *;generalize riseSB b.s = rs at *;have hs1 := zL K.out;have hw1' := zH hw1;clear hb g1 g2 g3 g4 hw1 hs;have a0 := zz00 K.out 0 _ rfl;have a1 := zz00 K.out 1 _ rfl;have a2 := zz00 K.out 2 _ rfl;have a3 := zz00 K.out 3 _ rfl;have a4 := zz00 K.out 4 _ rfl;by_cases h : 32 < b.h.length
 ·have t0 : decide ((32 : Int) < (b.h.length : Int)) = true := decide_eq_true zw
  exact zt49
 have t0 : decide ((32 : Int) < (b.h.length : Int)) = false := decide_eq_false zw;rw [decide_eq_false h] at hRes;clear h;by_cases h : 64 < b.o.length
 ·have t0 : decide ((64 : Int) < (b.o.length : Int)) = true := decide_eq_true zw
  exact zt49
 have t1 : decide ((64 : Int) < (b.o.length : Int)) = false := decide_eq_false zw;rw [decide_eq_false h] at hRes;clear h;by_cases h : 32 < b.r.length
 ·have t0 : decide ((32 : Int) < (b.r.length : Int)) = true := decide_eq_true zw
  exact zt49
 have t2 : decide ((32 : Int) < (b.r.length : Int)) = false := decide_eq_false zw;rw [decide_eq_false h] at hRes;clear h;rw [Bool.not_false, Bool.true_and, Bool.true_and, Bool.true_and] at hRes;replace hRes := zH hRes;rw [← hw1'.out] at a0 a1 a2 a3 a4;go_in;go_wp2_with fail;clear t0 t1 t2;rw [hw1'.out] at a0 a1 a2 a3 a4 ⊢;(with_reducible refine (Q1.out _ _ (zH R1.out.rec')).mono ?_);rintro e w2 ⟨rfl, hb⟩;have K2 := zK K hb;have HB2 := zB HB hb;replace R2 := zH (R2.out.call hb);replace R3 := zH (R3.out.call hb);replace R4 := zH (R4.out.call hb);clear hb a0 a1 a2 a3 a4;cases rh with
 | false =>
  have hR : Res = false := by rw [← hRes.out]; simp
  subst hR;clear hRes;go_wp2_with fail;go_ret;exact ⟨rfl, HB2.out⟩
 | true =>
 have a0 := zC K2.out;go_wp2_with fail;(with_reducible refine (Q2.out _ _ (zH R2.out.rec')).mono ?_);rintro e w3 ⟨rfl, hb⟩;have K3 := zK K2 hb;have HB3 := zB HB2 hb;replace R3 := zH (R3.out.call hb);replace R4 := zH (R4.out.call hb);clear hb a0;cases ro with
 | false =>
  have hR : Res = false := by rw [← hRes.out]; simp
  subst hR;clear hRes;go_wp2_with fail;go_ret;exact ⟨rfl, HB3.out⟩
 | true =>
 have a0 := zC K3.out;go_wp2_with fail;(with_reducible refine (Q3.out _ _ (zH R3.out.rec')).mono ?_);rintro e w4 ⟨rfl, hb⟩;have K4 := zK K3 hb;have HB4 := zB HB3 hb;replace R4 := zH (R4.out.call hb);clear hb a0;cases rr with
 | false =>
  have hR : Res = false := by rw [← hRes.out]; simp
  subst hR;clear hRes;go_wp2_with fail;go_ret;exact ⟨rfl, HB4.out⟩
 | true =>
 have a0 := zC K4.out;go_wp2_with fail;(with_reducible refine (Q4.out _ _ (zH R4.out.rec')).mono ?_);rintro e w5 ⟨rfl, hb⟩;have K5 := zK K4 hb;have HB5 := zB HB4 hb;clear hb a0;have hR : Res = rs := by rw [← hRes.out]; simp
 subst hR;clear hRes;go_wp2_with fail;go_ret;exact ⟨rfl, HB5.out⟩
theorem badH_pred (b : Bk) (w : World) (hk : ∀ r ∈ b.h, r.length = 4) : PredOn 65 #[] b.h badH w := fun W r hr hB => by
 match r, hk r hr with
 | [x0, x1, x2, x3], _ => exact May2_any x0 x1 x2 x3 W
theorem badR_pred (b : Bk) (w : World) (hk : ∀ r ∈ b.r, r.length = 2) : PredOn 66 #[] b.r badR w := fun W r hr hB => by
 match r, hk r hr with
 | [x0, x1], _ => exact May3_any x0 x1 W
theorem badS_pred (v : Value) (b : Bk) (g p : Nat) (w : World) (hb : Hid (BkAt w v b)) (hg : Hid (∃ cs, v = .agg cs ∧ w.heap[g]? = some (.cells cs 27 (0, 0)))) (hp : ZB w p #[.func (.func 62) #[] #[.pointer (some ⟨g, 0, none⟩)]] 114) (hs : Hid b.Small) (hr : Hid b.Rise) (hk : ∀ r ∈ b.s, r.length = 3) :
  PredOn 67 #[.pointer (some ⟨p, 0, none⟩)] b.s (badS b) w := fun W r hr' hB => by
 match r, hk r hr' with
 | [x0, x1, x2], _ => exact May4_any v b g p x0 x1 x2 W (hb.out.call hB) (by obtain ⟨cs, h1, h2⟩ := hg.out; exact ⟨cs, h1, zz06 h2 hB⟩) (zz06 hp.out hB) hs hr
theorem badO_pred (v : Value) (b : Bk) (g p : Nat) (w : World) (hb : Hid (BkAt w v b)) (hg : Hid (∃ cs, v = .agg cs ∧ w.heap[g]? = some (.cells cs 27 (0, 0)))) (hp : ZB w p #[.func (.func 62) #[] #[.pointer (some ⟨g, 0, none⟩)]] 114) (hs : Hid b.Small) (hr : Hid b.Rise) (hk : ∀ r ∈ b.o, r.length = 6) :
  PredOn 68 #[.pointer (some ⟨p, 0, none⟩)] b.o (badO b) w := fun W r hr' hB => by
 match r, hk r hr' with
 | [x0, x1, x2, x3, x4, x5], _ => exact May5_any v b g p x0 x1 x2 x3 x4 x5 W (hb.out.call hB) (by obtain ⟨cs, h1, h2⟩ := hg.out; exact ⟨cs, h1, zz06 h2 hB⟩) (zz06 hp.out hB) hs hr
theorem zz5e {b : Bk} (h : b.listsB = true) : b.Rise := by
 unfold Bk.listsB at h;simp only [Bool.and_eq_true] at h;exact (Bk.riseB_iff b).1 h.2.2.2
theorem zz2m (v : Value) (b : Bk) (w : World) (hb : Hid (BkAt w v b)) (hs : Hid b.Small) :
  Calls Tryz.prog 27 #[v] w fun e w' => e = .returned (.bool b.mayB) ∧ Below w.heap.size w w' := by
 obtain ⟨vh, vs, vo, vr, rfl, g1, g2, g3, g4⟩ := hb.out;obtain ⟨Ah, ch, rfl, kh, _⟩ := g1;obtain ⟨As, cs, rfl, ks, _⟩ := g2;obtain ⟨Ao, co, rfl, ko, _⟩ := g3;obtain ⟨Ar, cr, rfl, kr, _⟩ := g4;obtain ⟨w1, hw1⟩ : ∃ w1, w.alloc (.cells (BF Ah ch As cs Ao co Ar cr b b.n) 27) = w1 := ⟨_, rfl⟩;have HB : Hid (Below w.heap.size w w1) := by rw [← hw1]; exact zBa
 have K : ZB w1 w.heap.size (BF Ah ch As cs Ao co Ar cr b b.n) 27 := by rw [← hw1]; exact zz02 w _
 have BA := zH (hb.out.call HB.out);have hl : b.h.length ≤ 1000000 ∧ b.s.length ≤ 1000000 ∧ b.o.length ≤ 1000000 ∧ b.r.length ≤ 1000000 := by have := hs.out; unfold Bk.Small at this; omega
 obtain ⟨hlh, hls, hlo, hlr⟩ := hl;have KH := zH kh;have KS := zH ks;have KO := zH ko;have KR := zH kr;obtain ⟨Res, hRes⟩ : ∃ Res, b.mayB = Res := ⟨_, rfl⟩;rw [hRes];unfold Bk.mayB Bk.countB at hRes;replace hRes := zH hRes;replace hw1 := zH hw1;clear hb kh ks ko kr;have a0 := zz00 K.out 0 _ rfl;have a1 := zz00 K.out 1 _ rfl;have a2 := zz00 K.out 2 _ rfl;have a3 := zz00 K.out 3 _ rfl;have a4 := zz00 K.out 4 _ rfl;rw [← hw1.out] at a0 a1 a2 a3 a4;go_in;go_wp2_with fail;rw [hw1.out] at a0 a1 a2 a3 a4 ⊢;(with_reducible refine (lists_any _ b _ BA hs).mono ?_);rintro e w2 ⟨rfl, hb⟩;have K2 := zK K hb;have BA2 := zH (BA.out.call hb);have HB2 := zB HB hb;clear hb a0 a1 a2 a3 a4;have a0 := zC K2.out;have l2 := zL K2.out;cases hL : b.listsB with
 | false =>
  have hR : Res = false := by rw [← hRes.out, hL]; simp
  subst hR;clear hRes hL;go_wp2_with fail;go_ret;exact ⟨rfl, HB2.out⟩
 | true =>
 have HR := zH (zz5e hL);rw [hL, Bool.true_and] at hRes;clear hL;by_cases h0 : b.n < 0
 ·have t0 : decide (b.n < 0) = true := decide_eq_true h0
  have hR : Res = false := by rw [← hRes.out, t0]; simp
  subst hR;clear hRes h0;go_wp2_with fail;go_ret;exact ⟨rfl, HB2.out⟩
 have t0 : decide (b.n < 0) = false := decide_eq_false h0;by_cases h1 : 1099511627776 < b.n
 ·have t1 : decide (1099511627776 < b.n) = true := decide_eq_true h1
  have hR : Res = false := by rw [← hRes.out, t1]; simp
  subst hR;clear hRes h0 h1;go_wp2_with fail;go_ret;exact ⟨rfl, HB2.out⟩
 have t1 : decide (1099511627776 < b.n) = false := decide_eq_false h1;rw [t0, t1, Bool.not_false, Bool.true_and, Bool.true_and] at hRes;clear h0 h1;obtain ⟨w3, hw3⟩ : ∃ w3, w2.alloc (.cells #[.func (.func 62) #[] #[.pointer (some ⟨w.heap.size, 0, none⟩)]] 114) = w3 := ⟨_, rfl⟩;have hb := zM0 hw3;have K3 := zK K2 hb;have BA3 := zH (BA2.out.call hb);have HB3 := zB HB2 hb;have P3 : ZB w3 w2.heap.size #[.func (.func 62) #[] #[.pointer (some ⟨w.heap.size, 0, none⟩)]] 114 := by rw [← hw3]; exact zz02 _ _
 replace hw3 := zH hw3;clear hb;have hst := fun (a : Addr) (c : Array Value) (wz : World) => run_store Tryz.prog wz a (.func (.func 62) #[] c) .plain rfl
 go_wp2_with fail;rw [hw3.out];clear a0 t0 t1;have hrow : Hid (RecAt w3 (.slice Ah b.h.length ch) 4 b.h) := by
  obtain ⟨_, _, _, _, hh, r1, r2, r3, r4⟩ := BA3.out;injection hh with hh
  simp only [Array.mk.injEq, List.cons.injEq] at hh;obtain ⟨rfl, rfl, rfl, rfl, _⟩ := hh;exact r1.rec'
 have q := zH (zz3q 65 #[] (enters_of Tryz.func65 zk rfl) (.slice Ah b.h.length ch) b.h (badH) w3 hrow hlh (badH_pred b _ KH.out));have a0 := zC K3.out;obtain ⟨F, hF⟩ : ∃ F, b.h.any (badH) = F := ⟨_, rfl⟩;rw [hF] at q hRes;clear hF hrow;go_wp2_with fail;(with_reducible refine q.out.mono ?_);rintro e w4 ⟨rfl, hb⟩;have K4 := zK K3 hb;have P4 := zK P3 hb;have BA4 := zH (BA3.out.call hb);have HB4 := zB HB3 hb;clear hb q a0;cases F with
 | true =>
  have hR : Res = false := by rw [← hRes.out]; simp
  subst hR;clear hRes;go_wp2_with fail;go_ret;exact ⟨rfl, HB4.out⟩
 | false =>
 rw [Bool.not_false, Bool.true_and] at hRes;have hrow : Hid (RecAt w4 (.slice Ar b.r.length cr) 2 b.r) := by
  obtain ⟨_, _, _, _, hh, r1, r2, r3, r4⟩ := BA4.out;injection hh with hh
  simp only [Array.mk.injEq, List.cons.injEq] at hh;obtain ⟨rfl, rfl, rfl, rfl, _⟩ := hh;exact r4.rec'
 have q := zH (zz51 66 #[] (enters_of Tryz.func66 zk rfl) (.slice Ar b.r.length cr) b.r (badR) w4 hrow hlr (badR_pred b _ KR.out));have a0 := zC K4.out;obtain ⟨F, hF⟩ : ∃ F, b.r.any (badR) = F := ⟨_, rfl⟩;rw [hF] at q hRes;clear hF hrow;go_wp2_with fail;(with_reducible refine q.out.mono ?_);rintro e w5 ⟨rfl, hb⟩;have K5 := zK K4 hb;have P5 := zK P4 hb;have BA5 := zH (BA4.out.call hb);have HB5 := zB HB4 hb;clear hb q a0;cases F with
 | true =>
  have hR : Res = false := by rw [← hRes.out]; simp
  subst hR;clear hRes;go_wp2_with fail;go_ret;exact ⟨rfl, HB5.out⟩
 | false =>
 rw [Bool.not_false, Bool.true_and] at hRes;have hrow : Hid (RecAt w5 (.slice As b.s.length cs) 3 b.s) := by
  obtain ⟨_, _, _, _, hh, r1, r2, r3, r4⟩ := BA5.out;injection hh with hh
  simp only [Array.mk.injEq, List.cons.injEq] at hh;obtain ⟨rfl, rfl, rfl, rfl, _⟩ := hh;exact r2.rec'
 have q := zH (zz3x 67 #[.pointer (some ⟨w2.heap.size, 0, none⟩)] (enters_of Tryz.func67 zk rfl) (.slice As b.s.length cs) b.s (badS b) w5 hrow hls (badS_pred _ b _ _ _ BA5 ⟨_, rfl, K5.out⟩ P5 hs HR KS.out));have a0 := zC K5.out;obtain ⟨F, hF⟩ : ∃ F, b.s.any (badS b) = F := ⟨_, rfl⟩;rw [hF] at q hRes;clear hF hrow;go_wp2_with fail;(with_reducible refine q.out.mono ?_);rintro e w6 ⟨rfl, hb⟩;have K6 := zK K5 hb;have P6 := zK P5 hb;have BA6 := zH (BA5.out.call hb);have HB6 := zB HB5 hb;clear hb q a0;cases F with
 | true =>
  have hR : Res = false := by rw [← hRes.out]; simp
  subst hR;clear hRes;go_wp2_with fail;go_ret;exact ⟨rfl, HB6.out⟩
 | false =>
 rw [Bool.not_false, Bool.true_and] at hRes;have hrow : Hid (RecAt w6 (.slice Ao b.o.length co) 6 b.o) := by
  obtain ⟨_, _, _, _, hh, r1, r2, r3, r4⟩ := BA6.out;injection hh with hh
  simp only [Array.mk.injEq, List.cons.injEq] at hh;obtain ⟨rfl, rfl, rfl, rfl, _⟩ := hh;exact r3.rec'
 have q := zH (zz52 68 #[.pointer (some ⟨w2.heap.size, 0, none⟩)] (enters_of Tryz.func68 zk rfl) (.slice Ao b.o.length co) b.o (badO b) w6 hrow hlo (badO_pred _ b _ _ _ BA6 ⟨_, rfl, K6.out⟩ P6 hs HR KO.out));have a0 := zC K6.out;obtain ⟨F, hF⟩ : ∃ F, b.o.any (badO b) = F := ⟨_, rfl⟩;rw [hF] at q hRes;clear hF hrow;go_wp2_with fail;(with_reducible refine q.out.mono ?_);rintro e w7 ⟨rfl, hb⟩;have K7 := zK K6 hb;have P7 := zK P6 hb;have BA7 := zH (BA6.out.call hb);have HB7 := zB HB6 hb;clear hb q a0;cases F with
 | true =>
  have hR : Res = false := by rw [← hRes.out]; rfl
  subst hR;clear hRes;go_wp2_with fail;go_ret;exact ⟨rfl, HB7.out⟩
 | false =>
  have hR : Res = true := by rw [← hRes.out]; rfl
  subst hR;clear hRes;go_wp2_with fail;go_ret;exact ⟨rfl, HB7.out⟩
end
end Go.Proofs.YtajogedbacpohaaGreatDoor
namespace Go.Proofs.YtajogedbacpohaaGreatDoor
open Go
namespace Bg
def pv (f : Nat → Nat) : Nat → Nat
 | 0 => 0
 | n + 1 => pv f n + f n * 10000 ^ n
structure Dg (f : Nat → Nat) (n : Nat) : Prop where
 lt : ∀ i, f i < 10000
 zero : ∀ i, n ≤ i → f i = 0
structure Canon (f : Nat → Nat) (n : Nat) : Prop extends Dg f n where
 top : n = 0 ∨ f (n - 1) ≠ 0
theorem zz3m {f g : Nat → Nat} : ∀ n, (∀ i, i < n → f i = g i) → pv f n = pv g n
 | 0, _ => rfl
 | n + 1, h => by unfold pv; rw [zz3m n (fun i hi => h i zw), h n zw]
theorem zz26 {f : Nat → Nat} {n : Nat} (h : ∀ i, n ≤ i → f i = 0) : ∀ m, n ≤ m → pv f m = pv f n
 | 0, hm => by obtain rfl : n = 0 := by omega
               rfl
 | m + 1, hm => by
  by_cases e : n = m + 1
  ·rw [e]
  ·show pv f m + f m * 10000 ^ m = _
   rw [zz26 h m zw, h m zw]; omega
theorem pv_lt {f : Nat → Nat} : ∀ n, (∀ i, i < n → f i < 10000) → pv f n < 10000 ^ n
 | 0, _ => Nat.one_pos
 | n + 1, h => by
  have h1 := pv_lt n (fun i hi => h i zw)
  have h2 := h n zw;have h3 : f n * 10000 ^ n ≤ 9999 * 10000 ^ n := Nat.mul_le_mul_right _ zw;show pv f n + f n * 10000 ^ n < 10000 ^ (n + 1);rw [Nat.pow_succ]; omega
theorem zzb1 {a b : Nat → Nat} {i : Nat} (ha : ∀ i, a i < 10000) (hi : a i < b i) : ∀ n, i < n → (∀ j, i < j → j < n → a j = b j) → pv a n < pv b n
 | 0, h, _ => by omega
 | n + 1, h, he => by
  show pv a n + a n * 10000 ^ n < pv b n + b n * 10000 ^ n;by_cases e : i = n
  ·subst e
   have h1 := pv_lt i (fun j _ => ha j)
   have h2 : (a i + 1) * 10000 ^ i ≤ b i * 10000 ^ i := Nat.mul_le_mul_right _ hi;rw [Nat.add_mul] at h2;omega
  ·have := zzb1 ha hi n zw (fun j h1 h2 => he j h1 zw)
   rw [he n zw zw];omega
theorem pv_top {f : Nat → Nat} {n : Nat} (h : Canon f n) (hn : 0 < n) : 10000 ^ (n - 1) ≤ pv f n := by
 obtain ⟨k, rfl⟩ : ∃ k, n = k + 1 := ⟨n - 1, by omega⟩
 have h1 := h.top;simp only [Nat.add_sub_cancel] at h1 ⊢;have h2 : 1 * 10000 ^ k ≤ f k * 10000 ^ k := Nat.mul_le_mul_right _ zw;show _ ≤ pv f k + f k * 10000 ^ k;omega
theorem zz1o {f : Nat → Nat} {n k : Nat} (h : Canon f n) (hv : pv f n < 10000 ^ k) : n ≤ k := by
 by_cases hn : n = 0
 ·omega
 ·have h1 := pv_top h zw
  have h2 : 10000 ^ (n - 1) < 10000 ^ k := by omega
  have h3 := (Nat.pow_lt_pow_iff_right (by decide : 1 < 10000)).1 h2
  omega
theorem canon_pos {f : Nat → Nat} {n : Nat} (h : Canon f n) : pv f n = 0 ↔ n = 0 := by
 constructor
 ·intro h0
  by_cases hn : n = 0
  ·exact hn
  ·have h1 := pv_top h zw
   have h2 : 0 < 10000 ^ (n - 1) := Nat.pow_pos zx;omega
 ·intro h0; subst h0; rfl
def dg (ds : List Nat) (i : Nat) : Nat := ds.getD i 0
def vl (ds : List Nat) : Nat := pv (dg ds) ds.length
theorem zz85 (ds : List Nat) (d i : Nat) (h : i < ds.length) : dg (ds ++ [d]) i = dg ds i := by
 unfold dg; simp [List.getD, List.getElem?_append_left h]
theorem zz4s (ds : List Nat) (d : Nat) : dg (ds ++ [d]) ds.length = d := by
 unfold dg; simp [List.getD]
theorem zz3y (ds : List Nat) (d : Nat) : vl (ds ++ [d]) = vl ds + d * 10000 ^ ds.length := by
 unfold vl;rw [List.length_append];show pv _ ds.length + _ = _;rw [zz4s, zz3m ds.length (fun i hi => zz85 ds d i hi)]
theorem vl_nil : vl [] = 0 := rfl
theorem dg_zero (ds : List Nat) (i : Nat) (h : ds.length ≤ i) : dg ds i = 0 := by
 unfold dg; simp [List.getD, List.getElem?_eq_none h]
theorem dg_dg {ds : List Nat} (h : ∀ d ∈ ds, d < 10000) : Dg (dg ds) ds.length := ⟨fun i => by
 by_cases hi : i < ds.length
 ·unfold dg; simp only [List.getD, List.getElem?_eq_getElem hi, Option.getD_some]; exact h _ (List.getElem_mem hi)
 ·rw [dg_zero ds i zw]; decide, dg_zero ds⟩
def cut (f : Nat → Nat) (m i : Nat) : Nat := if i < m then f i else 0
theorem dg_cut {f : Nat → Nat} {n m : Nat} (h : Dg f n) : Dg (cut f m) m := ⟨fun i => by unfold cut; split; exact h.lt i; decide, fun i hi => by unfold cut; rw [if_neg zw]⟩
theorem pv_cut (f : Nat → Nat) (m : Nat) : pv (cut f m) m = pv f m := zz3m m fun i hi => by unfold cut; rw [if_pos hi]
theorem add_step {o A B c q x y : Nat} (h : o + c * q = A + B) : o + (x + y + c) % 10000 * q + (x + y + c) / 10000 * (q * 10000) = A + x * q + (B + y * q) := by
 have h1 := Nat.div_add_mod (x + y + c) 10000;generalize (x + y + c) % 10000 = m at *;generalize (x + y + c) / 10000 = d at *;have h2 : (10000 * d + m) * q = (x + y + c) * q := by rw [h1]
 grind
theorem zzag {o A B c q x y : Nat} (h : o + B = A + c * q) (hc : c ≤ 1) (hx : x < 10000) (hy : y < 10000) :
  (y + c ≤ x → o + (x - y - c) * q + (B + y * q) = A + x * q + 0 * (q * 10000)) ∧ (x < y + c → o + (x + 10000 - y - c) * q + (B + y * q) = A + x * q + 1 * (q * 10000)) := by
 constructor
 ·intro h1
  obtain ⟨t, ht⟩ : ∃ t, x = t + y + c := ⟨x - y - c, by omega⟩
  rw [show x - y - c = t by omega, ht]
  grind
 ·intro h1
  obtain ⟨t, ht⟩ : ∃ t, x + 10000 = t + y + c := ⟨x + 10000 - y - c, by omega⟩
  rw [show x + 10000 - y - c = t by omega]
  have h2 : (x + 10000) * q = (t + y + c) * q := by rw [ht]
  grind
end Bg
end Go.Proofs.YtajogedbacpohaaGreatDoor
namespace Go.Proofs.YtajogedbacpohaaGreatDoor
open Go
namespace Mon
abbrev M : Int := 18446744073709551616
abbrev M3 : Int := 6277101735386680763835789423207666416102355444464034512896
def w0 (V : Int) : Int := V % M
def w1 (V : Int) : Int := V / M % M
def w2 (V : Int) : Int := V / M / M
def Ok (V : Int) : Prop := 0 ≤ V ∧ V < M3
def sg (V : Int) : Int := if V < 3138550867693340381917894711603833208051177722232017256448 then V else V - M3
def fits (x : Int) : Bool := decide (-9223372036854775808 ≤ x) && decide (x ≤ 9223372036854775807)
def total (V : Int) : Int × Bool := if fits (sg V) then (sg V, true) else (0, false)
def share (V r : Int) : Int × Bool :=
 if V < 3138550867693340381917894711603833208051177722232017256448 ∧ 0 ≤ r ∧ r ≤ 1000 then
  (if ((V * r) % M3 + 99) % M3 / 100 ≤ 9223372036854775807 then (((V * r) % M3 + 99) % M3 / 100, true) else (0, false))
 else (0, false)
theorem w_ok {V : Int} (h : Ok V) : (0 ≤ w0 V ∧ w0 V < M) ∧ (0 ≤ w1 V ∧ w1 V < M) ∧ (0 ≤ w2 V ∧ w2 V < M) := by
 obtain ⟨a, b⟩ := h;unfold w0 w1 w2 M M3 at *;omega
theorem w_back {V : Int} (h : Ok V) : w0 V + w1 V * M + w2 V * (M * M) = V := by
 obtain ⟨a, b⟩ := h;unfold w0 w1 w2 M M3 at *;omega
theorem w_of {V a b c : Int} (ha : 0 ≤ a ∧ a < M) (hb : 0 ≤ b ∧ b < M) (hc : 0 ≤ c ∧ c < M) (h : V = a + b * M + c * (M * M)) : w0 V = a ∧ w1 V = b ∧ w2 V = c ∧ Ok V := by
 unfold w0 w1 w2 Ok M M3 at *;omega
theorem add_words {a b c d e f : Int} (ha : 0 ≤ a ∧ a < M) (hb : 0 ≤ b ∧ b < M) (hc : 0 ≤ c ∧ c < M) (hd : 0 ≤ d ∧ d < M) (he : 0 ≤ e ∧ e < M) (hf : 0 ≤ f ∧ f < M) :
  (a + b * M + c * (M * M) + (d + e * M + f * (M * M))) % M3 =
   (a + d) % M + ((b + e + (a + d) / M) % M) * M + ((c + f + (b + e + (a + d) / M) / M) % M) * (M * M) := by
 unfold M M3 at *;omega
theorem neg_words {a b c : Int} (ha : 0 ≤ a ∧ a < M) (hb : 0 ≤ b ∧ b < M) (hc : 0 ≤ c ∧ c < M) :
  (M3 - (a + b * M + c * (M * M))) % M3 =
   (M - 1 - a + 1) % M + ((M - 1 - b + (M - 1 - a + 1) / M) % M) * M + ((M - 1 - c + (M - 1 - b + (M - 1 - a + 1) / M) / M) % M) * (M * M) := by
 unfold M M3 at *;omega
theorem div_words {a b c : Int} (ha : 0 ≤ a ∧ a < M) (hb : 0 ≤ b ∧ b < M) (hc : 0 ≤ c ∧ c < M) :
  (a + b * M + c * (M * M)) / 100 = (((c % 100) * M + b) % 100 * M + a) / 100 + (((c % 100) * M + b) / 100) * M + (c / 100) * (M * M) := by
 unfold M at *;omega
end Mon
section
open Go Go.RowKit Mon
theorem add64 (x y c : Int) (hx : 0 ≤ x) (hy : 0 ≤ y) (hc0 : 0 ≤ c) (hc : c ≤ 1) (w : World) : (callFunc 184 #[.int .u64 x, .int .u64 y, .int .u64 c]).run Tryz.prog w =
  .ok (.value (.tuple #[.int .u64 ((x + y + c) % 18446744073709551616), .int .u64 ((x + y + c) / 18446744073709551616)])) w := by
 rw [run_callFunc_extern Tryz.func184 zk zk zk (e := add64Entry) zk, run_add64 x y c hx hy hc0 hc]
 rfl
theorem zz7a (x y : Int) (hx : 0 ≤ x) (hy : 0 ≤ y) (w : World) : (callFunc 184 #[.int .u64 x, .int .u64 y, .int .u64 0]).run Tryz.prog w =
  .ok (.value (.tuple #[.int .u64 ((x + y) % 18446744073709551616), .int .u64 ((x + y) / 18446744073709551616)])) w := by
 simpa using add64 x y 0 hx hy (Int.le_refl 0) zx w
namespace Mul64
theorem maskN (a : Nat) (ha : a < 18446744073709551616) : bits .and .u64 (a : Int) 4294967295 = ((a % 4294967296 : Nat) : Int) := by
 have h := bits_and_u64_nat a 4294967295 ha zw;have e : a &&& 4294967295 = a % 4294967296 := Nat.and_two_pow_sub_one_eq_mod a 32;rw [e] at h;exact h
theorem divN (a : Nat) : (a : Int) / 4294967296 = ((a / 4294967296 : Nat) : Int) := by omega
theorem mulN (a b : Nat) : (a : Int) * (b : Int) = ((a * b : Nat) : Int) := (Int.natCast_mul a b).symm
theorem addN (a b : Nat) : (a : Int) + (b : Int) = ((a + b : Nat) : Int) := (Int.natCast_add a b).symm
theorem wrapN (a : Nat) (ha : a < 18446744073709551616) : IntKind.u64.wrap (a : Int) = (a : Int) := by rw [IntKind.wrap_u64]; omega
theorem wrapM (a : Nat) : IntKind.u64.wrap (a : Int) = ((a % 18446744073709551616 : Nat) : Int) := by rw [IntKind.wrap_u64]; omega
end Mul64
theorem mul64_nat (x y : Nat) (hx : x < 18446744073709551616) (hy : y < 18446744073709551616) (w : World) :
  Calls Tryz.prog 176 #[.int .u64 x, .int .u64 y] w fun e w' => e = .returned (.tuple #[.int .u64 ((x * y / 18446744073709551616 : Nat) : Int), .int .u64 ((x * y % 18446744073709551616 : Nat) : Int)]) ∧ w' = w := by
 obtain ⟨bd, bt, bw, hhi⟩ := Lib.mul64_hi x y hx hy;have ba := Lib.half_mul_le (a := x / 4294967296) (b := y / 4294967296) zw zw;have bb := Lib.half_mul_le (a := x / 4294967296) (b := y % 4294967296) zw zw;have bc := Lib.half_mul_le (a := x % 4294967296) (b := y / 4294967296) zw zw;have ba' : x / 4294967296 * (y / 4294967296) < 18446744073709551616 := by omega
 have bb' : x / 4294967296 * (y % 4294967296) < 18446744073709551616 := by omega
 have bc' : x % 4294967296 * (y / 4294967296) < 18446744073709551616 := by omega
 have bh1 : x / 4294967296 * (y / 4294967296) + (x / 4294967296 * (y % 4294967296) + x % 4294967296 * (y % 4294967296) / 4294967296) / 4294967296 < 18446744073709551616 := by omega
 have bh : x / 4294967296 * (y / 4294967296) + (x / 4294967296 * (y % 4294967296) + x % 4294967296 * (y % 4294967296) / 4294967296) / 4294967296 + ((x / 4294967296 * (y % 4294967296) + x % 4294967296 * (y % 4294967296) / 4294967296) % 4294967296 + x % 4294967296 * (y / 4294967296)) / 4294967296 < 18446744073709551616 := by omega
 go_in;go_wp2;simp only [Mul64.maskN x hx, Mul64.maskN y hy, Mul64.divN, Mul64.mulN, Mul64.addN, Mul64.wrapN _ bd, Mul64.wrapN _ bb', Mul64.wrapN _ bt, Mul64.maskN _ bt, Mul64.wrapN _ bc', Mul64.wrapN _ bw, Mul64.wrapN _ ba', Mul64.wrapN _ bh1, Mul64.wrapN _ bh, Mul64.wrapM (x * y)];rw [hhi];go_ret2;exact ⟨rfl, rfl⟩
theorem mul64 (x y : Int) (hx : 0 ≤ x ∧ x < M) (hy : 0 ≤ y ∧ y < M) (w : World) :
  Calls Tryz.prog 176 #[.int .u64 x, .int .u64 y] w fun e w' => e = .returned (.tuple #[.int .u64 (x * y / 18446744073709551616), .int .u64 (x * y % 18446744073709551616)]) ∧ w' = w := by
 obtain ⟨a, rfl⟩ := Int.eq_ofNat_of_zero_le hx.1;obtain ⟨b, rfl⟩ := Int.eq_ofNat_of_zero_le hy.1;have := mul64_nat a b (by unfold M at hx; omega) (by unfold M at hy; omega) w
 simpa using this
theorem len64_100 (w : World) : Calls Tryz.prog 192 #[.int .u64 100] w fun e w' => e = .returned (.int .i64 7) ∧ w' = w := by
 go_in;go_wp2;go_ret;exact ⟨by kernel_rfl, rfl⟩
theorem zzbc (w : World) : Calls Tryz.prog 203 #[.int .u64 100] w fun e w' => e = .returned (.int .i64 57) ∧ w' = w := by
 go_in;go_wp2_with (go_at_call 192; refine (len64_100 _).mono ?_; rintro e w' ⟨rfl, rfl⟩);go_ret;exact ⟨rfl, rfl⟩
theorem div_or (hi lo : Int) (hh : 0 ≤ hi ∧ hi < 100) (hl : 0 ≤ lo ∧ lo < M) : bits .or .u64 (hi * 144115188075855872) (lo / 128) = hi * 144115188075855872 + lo / 128 := by
 obtain ⟨a, rfl⟩ := Int.eq_ofNat_of_zero_le hh.1;obtain ⟨b, rfl⟩ := Int.eq_ofNat_of_zero_le hl.1;have e1 : ((a : Int) * 144115188075855872) = ((a * 144115188075855872 : Nat) : Int) := by omega
 have e2 : ((b : Int) / 128) = ((b / 128 : Nat) : Int) := by omega
 have hb : b / 128 < 2 ^ 57 := by unfold M at hl; omega
 rw [e1, e2, bits_or_u64_nat _ _ zw (by unfold M at hl; omega)]
 have := Nat.two_pow_add_eq_or_of_lt hb a;rw [show 2 ^ 57 * a = a * 144115188075855872 by omega] at this
 rw [← this]; omega
theorem div_and (lo : Int) (hl : 0 ≤ lo ∧ lo < M) : bits .and .u64 (lo % 128 * 144115188075855872) 4294967295 = 0 := by
 obtain ⟨b, rfl⟩ := Int.eq_ofNat_of_zero_le hl.1;have e1 : ((b : Int) % 128 * 144115188075855872) = ((b % 128 * 144115188075855872 : Nat) : Int) := by omega
 rw [e1, Mul64.maskN _ zw];omega
theorem zz61 (hi lo : Int) (hh : 0 ≤ hi ∧ hi < 100) (hl : 0 ≤ lo ∧ lo < M) (w : World) :
  Calls Tryz.prog 185 #[.int .u64 hi, .int .u64 lo, .int .u64 100] w fun e w' => e = .returned (.tuple #[.int .u64 ((hi * 18446744073709551616 + lo) / 100), .int .u64 ((hi * 18446744073709551616 + lo) % 100)]) ∧ ∃ n, w' = w.drewN n := by
 have h1 : ¬ (100 ≤ hi) := by omega
 by_cases h0 : hi = 0
 ·subst h0
  go_in;go_wp2;go_quiet (fail);go_wp2;go_ret2;have e1 : IntKind.u64.wrap (lo.tdiv 100) = lo / 100 := by rw [Int.tdiv_eq_ediv_of_nonneg hl.1, IntKind.wrap_u64]; unfold M at hl; omega
  have e2 : IntKind.u64.wrap (lo.tmod 100) = lo % 100 := by rw [Int.tmod_eq_emod_of_nonneg hl.1, IntKind.wrap_u64]; unfold M at hl; omega
  refine ⟨?_, _, rfl⟩;rw [Int.zero_mul, Int.zero_add, ← e1, ← e2]
  rfl
 ·have h2 : ¬ ((hi == 0) = true) := by simpa using h0
  go_in;go_wp2_with (go_at_call 203; refine (zzbc _).mono ?_; rintro e w' ⟨rfl, rfl⟩);have hor : bits .or .u64 (hi * 144115188075855872) (lo / 128) = hi * 144115188075855872 + lo / 128 := div_or hi lo hh hl;have hand : bits .and .u64 14411518807585587200 4294967295 = 0 := by decide +kernel
  have hw : IntKind.u64.wrap (lo * 144115188075855872) = lo % 128 * 144115188075855872 := by rw [IntKind.wrap_u64]; omega
  have hand2 : bits .and .u64 (lo % 128 * 144115188075855872) 4294967295 = 0 := div_and lo hl;have htd : (hi * 144115188075855872 + lo / 128).tdiv 3355443200 = (hi * 144115188075855872 + lo / 128) / 3355443200 := Int.tdiv_eq_ediv_of_nonneg (by unfold M at hl; omega)
  have hq0 : IntKind.u64.wrap ((hi * 144115188075855872 + lo / 128) / 3355443200) = (hi * 144115188075855872 + lo / 128) / 3355443200 := by rw [IntKind.wrap_u64]; unfold M at hl; omega
  have hq1 : IntKind.u64.wrap ((hi * 144115188075855872 + lo / 128) / 3355443200 * 3355443200) = (hi * 144115188075855872 + lo / 128) / 3355443200 * 3355443200 := by rw [IntKind.wrap_u64]; unfold M at hl; omega
  have hr : IntKind.u64.wrap (hi * 144115188075855872 + lo / 128 - (hi * 144115188075855872 + lo / 128) / 3355443200 * 3355443200) = (hi * 144115188075855872 + lo / 128) % 3355443200 := by rw [IntKind.wrap_u64]; unfold M at hl; omega
  have hun : lo % 128 * 144115188075855872 / 4294967296 = lo % 128 * 33554432 := by omega
  simp only [hor, hand, hw, hand2, htd, hq0, hq1, hr, hun];obtain ⟨u, hu⟩ : ∃ u : Int, hi * 144115188075855872 + lo / 128 = u := ⟨_, rfl⟩;obtain ⟨q, hq⟩ : ∃ q : Int, u / 3355443200 = q := ⟨_, rfl⟩;obtain ⟨r, hr'⟩ : ∃ r : Int, u % 3355443200 = r := ⟨_, rfl⟩;obtain ⟨v, hv⟩ : ∃ v : Int, lo % 128 * 33554432 = v := ⟨_, rfl⟩;rw [hu, hq, hr', hv];have H := zH (And.intro hu (And.intro hq (And.intro hr' hv)));have q0 : 0 ≤ q := by unfold M at hl; omega
  have q1 : q < 4294967296 := by unfold M at hl; omega
  have r0 : 0 ≤ r := by omega
  have r1 : r < 3355443200 := by omega
  have u0 : 0 ≤ u := by unfold M at hl; omega
  have u1 : u < 14411518807585587200 := by unfold M at hl; omega
  have v0 : 0 ≤ v := by omega
  have v1 : v < 4294967296 := by omega
  have q2 : ¬ (4294967296 ≤ q) := by omega
  clear hor hand hw hand2 htd hq0 hq1 hr hun hu hq hr' hv;go_loopw [15, 16] (fun s15 s16 wr => s15 = .int .u64 q ∧ s16 = .int .u64 r ∧ wr = w') (fun _ _ _ => 0)
  case atStart => exact ⟨rfl, rfl, rfl⟩
  case round =>
   obtain ⟨rfl, rfl, rfl⟩ := hrel;go_wp2;have f1 : IntKind.u64.wrap (IntKind.u64.wrap (IntKind.u64.wrap (u * 4294967296) + v) - IntKind.u64.wrap (q * 14411518807585587200)) = r * 4294967296 + v := by
    simp only [IntKind.wrap_u64]; have := H.out; omega
   simp only [f1];obtain ⟨n, hn⟩ : ∃ n : Int, r * 4294967296 + v = n := ⟨_, rfl⟩;rw [hn];have n0 : 0 ≤ n := by omega
   have n1 : n < 14411518807585587200 := by omega
   have htd : n.tdiv 3355443200 = n / 3355443200 := Int.tdiv_eq_ediv_of_nonneg n0;have hq0 : IntKind.u64.wrap (n / 3355443200) = n / 3355443200 := by rw [IntKind.wrap_u64]; omega
   have hq1 : IntKind.u64.wrap (n / 3355443200 * 3355443200) = n / 3355443200 * 3355443200 := by rw [IntKind.wrap_u64]; omega
   have hr : IntKind.u64.wrap (n - n / 3355443200 * 3355443200) = n % 3355443200 := by rw [IntKind.wrap_u64]; omega
   simp only [htd, hq0, hq1, hr];obtain ⟨k, hk⟩ : ∃ k : Int, n / 3355443200 = k := ⟨_, rfl⟩;obtain ⟨s, hs⟩ : ∃ s : Int, n % 3355443200 = s := ⟨_, rfl⟩;rw [hk, hs];have H2 := zH (And.intro hn (And.intro hk hs));have k0 : 0 ≤ k := by omega
   have k1 : k < 4294967296 := by omega
   have k2 : ¬ (4294967296 ≤ k) := by omega
   have s0 : 0 ≤ s := by omega
   have s1 : s < 3355443200 := by omega
   clear htd hq0 hq1 hr hn hk hs f1;go_loopw [16, 18] (fun s16 s18 wr' => s16 = .int .u64 s ∧ s18 = .int .u64 k ∧ wr' = wr) (fun _ _ _ => 0)
   case atStart => exact ⟨rfl, rfl, rfl⟩
   case round =>
    obtain ⟨rfl, rfl, rfl⟩ := hrel;go_wp2;have e1 : IntKind.u64.wrap (IntKind.u64.wrap (q * 4294967296) + k) = (hi * 18446744073709551616 + lo) / 100 := by
     simp only [IntKind.wrap_u64]; have := H.out; have := H2.out; omega
    have e2 : IntKind.u64.wrap (IntKind.u64.wrap (IntKind.u64.wrap (n * 4294967296)) - IntKind.u64.wrap (k * 14411518807585587200)) / 144115188075855872 = (hi * 18446744073709551616 + lo) % 100 := by
     simp only [IntKind.wrap_u64]; have := H.out; have := H2.out; omega
    go_ret2;refine ⟨?_, 0, rfl⟩;rw [← e2, ← e1, show IntKind.u64.wrap (IntKind.u64.wrap (q * 4294967296) + k) = q * 4294967296 + k by simp only [IntKind.wrap_u64]; omega]
    rfl
end
end Go.Proofs.YtajogedbacpohaaGreatDoor
namespace Go.Proofs.YtajogedbacpohaaGreatDoor
open Go
namespace Mon
theorem zz2q (x y : Int) : (x % M3 + y) % M3 = (x + y) % M3 := by
 unfold M3; omega
theorem zz24 (x : Int) : Ok (x % M3) := by unfold Ok M3; omega
end Mon
section
open Go Go.RowKit Mon
theorem add64_0' (x : Int) (w : World) (hx : 0 ≤ x) : (callFunc 184 #[.int .u64 x, .int .u64 0, .int .u64 1]).run Tryz.prog w =
  .ok (.value (.tuple #[.int .u64 ((x + 1) % 18446744073709551616), .int .u64 ((x + 1) / 18446744073709551616)])) w := by
 simpa using add64 x 0 1 hx (Int.le_refl 0) zx zx w
theorem add64_0'' (x c : Int) (w : World) (hx : 0 ≤ x) (hc : 0 ≤ c) (hc1 : c ≤ 1) : (callFunc 184 #[.int .u64 x, .int .u64 0, .int .u64 c]).run Tryz.prog w =
  .ok (.value (.tuple #[.int .u64 ((x + c) % 18446744073709551616), .int .u64 ((x + c) / 18446744073709551616)])) w := by
 simpa using add64 x 0 c hx (Int.le_refl 0) hc hc1 w
def ab (a : Int) : Int := if a < 0 then -a else a
theorem zz98 {a : Int} (h : I64 a) : 0 ≤ ab a ∧ ab a < M := by unfold I64 at h; unfold ab M; split <;> omega
theorem zzai (a : Int) (h : I64 a) (w : World) : Calls Tryz.prog 177 #[.int .i64 a] w fun e w' => e = .returned (.int .u64 (ab a)) ∧ w' = w := by
 unfold I64 at h;by_cases h0 : a < 0
 ·have e1 : IntKind.u64.wrap (-IntKind.u64.wrap a) = ab a := by unfold ab; rw [if_pos h0]; simp only [IntKind.wrap_u64]; omega
  go_in;go_wp2;go_ret;exact ⟨by rw [← e1]; rfl, rfl⟩
 ·have e1 : IntKind.u64.wrap a = ab a := by unfold ab; rw [if_neg h0]; simp only [IntKind.wrap_u64]; omega
  go_in;go_wp2;go_ret;exact ⟨by rw [← e1]; rfl, rfl⟩
def adW (a b c d e f : Int) : Nat → Array Value
 | 0 => #[.int .u64 a, .int .u64 b, .int .u64 c]
 | 1 => #[.int .u64 ((a + d) % M), .int .u64 b, .int .u64 c]
 | 2 => #[.int .u64 ((a + d) % M), .int .u64 ((b + e + (a + d) / M) % M), .int .u64 c]
 | _ => #[.int .u64 ((a + d) % M), .int .u64 ((b + e + (a + d) / M) % M), .int .u64 ((c + f + (b + e + (a + d) / M) / M) % M)]
theorem zz3j (x : Int) (h : 0 ≤ x ∧ x < M) : bits .xor .u64 IntKind.u64.max x = 18446744073709551615 - x := by
 have e : IntKind.u64.max = 18446744073709551615 := by decide +kernel
 rw [e, ← zz7h x h];unfold M at h;obtain ⟨a, rfl⟩ := Int.eq_ofNat_of_zero_le h.1;have e : (18446744073709551615 : Int) = ((18446744073709551615 : Nat) : Int) := rfl;rw [e, u64_xor_nat a _ zw zx, u64_xor_nat _ a zx zw, Nat.xor_comm]
theorem three (k : Nat) (h : k ≤ 3) : k = 0 ∨ k = 1 ∨ k = 2 ∨ k = 3 := by omega
def ngC (x y z : Int) : Nat → Int
 | 0 => 1
 | 1 => (x + 1) / 18446744073709551616
 | 2 => (y + (x + 1) / 18446744073709551616) / 18446744073709551616
 | _ => (z + (y + (x + 1) / 18446744073709551616) / 18446744073709551616) / 18446744073709551616
def ngW (a b c x y z : Int) : Nat → Array Value
 | 0 => #[.int .u64 a, .int .u64 b, .int .u64 c]
 | 1 => #[.int .u64 ((x + 1) % 18446744073709551616), .int .u64 b, .int .u64 c]
 | 2 => #[.int .u64 ((x + 1) % 18446744073709551616), .int .u64 ((y + (x + 1) / 18446744073709551616) % 18446744073709551616), .int .u64 c]
 | _ => #[.int .u64 ((x + 1) % 18446744073709551616), .int .u64 ((y + (x + 1) / 18446744073709551616) % 18446744073709551616), .int .u64 ((z + (y + (x + 1) / 18446744073709551616) / 18446744073709551616) % 18446744073709551616)]
theorem neg_any (a b c : Int) (ha : 0 ≤ a ∧ a < M) (hb : 0 ≤ b ∧ b < M) (hc : 0 ≤ c ∧ c < M) (w : World) :
  Calls Tryz.prog 178 #[.agg #[.int .u64 a, .int .u64 b, .int .u64 c]] w fun e w' =>
   e = .returned (.agg (ngW a b c (18446744073709551615 - a) (18446744073709551615 - b) (18446744073709551615 - c) 3)) ∧ Below w.heap.size w w' := by
 go_in;go_wp2;go_loopw [3, 4, 5] (fun s3 s4 s5 wr => ∃ k : Nat, k ≤ 3 ∧ s3 = .int .u64 (ngC (18446744073709551615 - a) (18446744073709551615 - b) (18446744073709551615 - c) k) ∧ s5 = .int .i64 k ∧
  ZB wr w.heap.size (ngW a b c (18446744073709551615 - a) (18446744073709551615 - b) (18446744073709551615 - c) k) 194 ∧ ZB wr (w.heap.size + 1) #[.int .u64 0, .int .u64 0, .int .u64 0] 194 ∧ Hid (Below w.heap.size w wr)) (fun _ _ s5 _ => 3 - (intOf s5).toNat)
 case atStart => exact ⟨0, by decide, rfl, rfl, zz05 (zz02 _ _) _, by have := zz02 (w.alloc (.cells #[.int .u64 a, .int .u64 b, .int .u64 c] 194)) (.cells #[.int .u64 0, .int .u64 0, .int .u64 0] 194); rw [World.size_alloc] at this; exact this, (zz01 zBa (by simp) _)⟩
 case round =>
  obtain ⟨k, hk, rfl, rfl, H0, H1, HB⟩ := hrel;have hsg : IntKind.u64.signed = false := rfl;have xa := zz3j a ha;have xb := zz3j b hb;have xc := zz3j c hc;obtain ⟨x, hx⟩ : ∃ x : Int, 18446744073709551615 - a = x := ⟨_, rfl⟩;obtain ⟨y, hy⟩ : ∃ y : Int, 18446744073709551615 - b = y := ⟨_, rfl⟩;obtain ⟨z, hz⟩ : ∃ z : Int, 18446744073709551615 - c = z := ⟨_, rfl⟩;rw [hx] at xa H0;rw [hy] at xb H0;rw [hz] at xc H0;simp only [hx, hy, hz];have x0 : 0 ≤ x := by unfold M at ha; omega
  have x1 : x < 18446744073709551616 := by unfold M at ha; omega
  have y0 : 0 ≤ y := by unfold M at hb; omega
  have y1 : y < 18446744073709551616 := by unfold M at hb; omega
  have z0 : 0 ≤ z := by unfold M at hc; omega
  have z1 : z < 18446744073709551616 := by unfold M at hc; omega
  have HX := zH hx; have HY := zH hy; have HZ := zH hz;clear hx hy hz;have hblt : w.heap.size < wr.heap.size := zL H0.out;rcases three k hk with rfl | rfl | rfl | rfl
  ·have c0 : wr.cell? ⟨w.heap.size, 0, none⟩ = some (.int .u64 a) := zz00 H0.out 0 _ rfl
   have f0 := zz04 H0.out 0;have q := fun w => add64_0' x w x0
   simp only [ngC];go_wp2;go_roundw
   case rel => exact ⟨1, by decide, rfl, rfl, zz0b H0.out _ _, zz09 H1.out _ _ zw, HB.out.setCell (Nat.le_refl _) _⟩
   case measure => simp [intOf]
  ·have c0 : wr.cell? ⟨w.heap.size, 1, none⟩ = some (.int .u64 b) := zz00 H0.out 1 _ rfl
   have f0 := zz04 H0.out 1;have q := fun w => add64_0'' y ((x + 1) / 18446744073709551616) w y0 zw zw
   simp only [ngC];go_wp2;go_roundw
   case rel => exact ⟨2, by decide, rfl, rfl, zz0b H0.out _ _, zz09 H1.out _ _ zw, HB.out.setCell (Nat.le_refl _) _⟩
   case measure => simp [intOf]
  ·have c0 : wr.cell? ⟨w.heap.size, 2, none⟩ = some (.int .u64 c) := zz00 H0.out 2 _ rfl
   have f0 := zz04 H0.out 2;have q := fun w => add64_0'' z ((y + (x + 1) / 18446744073709551616) / 18446744073709551616) w z0 zw zw
   simp only [ngC];go_wp2;go_roundw
   case rel => exact ⟨3, by decide, rfl, rfl, zz0b H0.out _ _, zz09 H1.out _ _ zw, HB.out.setCell (Nat.le_refl _) _⟩
   case measure => simp [intOf]
  ·have c0 : wr.cell? ⟨w.heap.size, 0, none⟩ = some (.int .u64 ((x + 1) % 18446744073709551616)) := zz00 H0.out 0 _ rfl
   have c1 : wr.cell? ⟨w.heap.size, 1, none⟩ = some (.int .u64 ((y + (x + 1) / 18446744073709551616) % 18446744073709551616)) := zz00 H0.out 1 _ rfl;have c2 : wr.cell? ⟨w.heap.size, 2, none⟩ = some (.int .u64 ((z + (y + (x + 1) / 18446744073709551616) / 18446744073709551616) % 18446744073709551616)) := zz00 H0.out 2 _ rfl;have d0 : wr.cell? ⟨w.heap.size + 1, 0, none⟩ = some (.int .u64 0) := zz00 H1.out 0 _ rfl;have d1 : wr.cell? ⟨w.heap.size + 1, 1, none⟩ = some (.int .u64 0) := zz00 H1.out 1 _ rfl;have d2 : wr.cell? ⟨w.heap.size + 1, 2, none⟩ = some (.int .u64 0) := zz00 H1.out 2 _ rfl;have f0 := zz04 H1.out 0;have f1 := zz04 H1.out 1;have f2 := zz04 H1.out 2;simp only [ngC];go_wp2;refine bodyPost_ret (v := .agg #[.int .u64 ((x + 1) % 18446744073709551616), .int .u64 ((y + (x + 1) / 18446744073709551616) % 18446744073709551616), .int .u64 ((z + (y + (x + 1) / 18446744073709551616) / 18446744073709551616) % 18446744073709551616)]) ?_ rfl ⟨?_, ?_⟩
   ·simp [results, Tryz.results178, go_sem, d0, d1, d2]
   ·rw [HX.out, HY.out, HZ.out]; rfl
   ·exact ((HB.out.setCell (Nat.le_succ _) _).setCell (Nat.le_succ _) _).setCell (Nat.le_succ _) _
end
section
open Go Go.RowKit Bg
def DigAt (w : World) (A : Option Addr) (n : Nat) (f : Nat → Nat) : Prop :=
 ∀ i, i < n → ∃ b o, A = some ⟨b, o, none⟩ ∧ b < w.heap.size ∧ w.cell? ⟨b, o + i, none⟩ = some (.int .i64 (f i))
theorem DigAt.call {w w' : World} {A : Option Addr} {n : Nat} {f : Nat → Nat} (h : DigAt w A n f) (hb : Below w.heap.size w w') : DigAt w' A n f := fun i hi => by
 obtain ⟨b, o, e, hlt, hc⟩ := h i hi;exact ⟨b, o, e, Nat.lt_of_lt_of_le hlt hb.size, (hb.cell (p := ⟨b, o + i, none⟩) hlt).trans hc⟩
def BigAt (w : World) (v : Value) (z : Int) : Prop :=
 ∃ A n c f, v = .agg #[.bool (decide (z < 0)), .slice A n c] ∧ Canon f n ∧ pv f n = z.natAbs ∧ DigAt w A n f ∧ n ≤ c
theorem BigAt.call {w w' : World} {v : Value} {z : Int} (h : BigAt w v z) (hb : Below w.heap.size w w') : BigAt w' v z := by
 obtain ⟨A, n, c, f, e, hc, hv, hd, hn⟩ := h;exact ⟨A, n, c, f, e, hc, hv, hd.call hb, hn⟩
theorem zzbz (A : Option Addr) (n c : Nat) (f : Nat → Nat) (i : Nat) (w : World) (hd : Hid (DigAt w A n f)) (hf : Hid (Dg f n)) (hi : i ≤ 1099511627776) (hn : n ≤ 1099511627776) :
  Calls Tryz.prog 158 #[.slice A n c, .int .i64 i] w fun e w' => e = .returned (.int .i64 (f i)) ∧ w = w' := by
 by_cases h : i < n
 ·obtain ⟨b, o, rfl, hlt, hc⟩ := hd.out i h
  have h' : (i : Int) < n := by omega
  go_in;go_wp2;go_ret;exact ⟨rfl, rfl⟩
 ·have h' : ¬ ((i : Int) < n) := by omega
  rw [hf.out.zero i zw];go_in;go_wp2;go_ret;exact ⟨rfl, rfl⟩
theorem zt62 {p : Prop} (h : p := by
 rw [← hfg] at q2;clear hfg hk0 ej hb1 hb2 qA qB;go_wp2_with (go_at_call 158; first | (with_reducible refine q1.out.mono ?_; rintro e w' ⟨rfl, rfl⟩) | (with_reducible refine q2.out.mono ?_; rintro e w' ⟨rfl, rfl⟩))
 go_roundw
 case rel => exact ⟨j, by omega, rfl, HE3.out, trivial⟩
 case measure => simp [intOf]) : p := h
theorem zt68 {p : Prop} (h : p := by
 have HD := zH hd;clear hd hfg hk0 ej hb1 hb2 qA qB HE HE2;go_wp2_with (go_at_call 158; first | (with_reducible refine q1.out.mono ?_; rintro e w' ⟨rfl, rfl⟩) | (with_reducible refine q2.out.mono ?_; rintro e w' ⟨rfl, rfl⟩))
 go_ret;exact ⟨by rw [HD.out]; rfl, rfl⟩) : p := h
theorem zz5t (A B : Option Addr) (n m c d : Nat) (f g : Nat → Nat) (w : World) (hA : Hid (DigAt w A n f)) (hB : Hid (DigAt w B m g)) (hf : Hid (Dg f n)) (hg : Hid (Dg g m)) (hn : n ≤ 1000000) (hm : m ≤ 1000000) :
  Calls Tryz.prog 157 #[.slice A n c, .slice B m d] w fun e w' => e = .returned (.bool (decide (pv f n < pv g m))) ∧ w = w' := by
 have qA := zH (fun i h => zzbz A n c f i w hA hf h zw)
 have qB := zH (fun i h => zzbz B m d g i w hB hg h zw)
 obtain ⟨N, hN⟩ : ∃ N, (if n < m then m else n) = N := ⟨_, rfl⟩
 have hN1 : n ≤ N := by rw [← hN]; split <;> omega
 have hN2 : m ≤ N := by rw [← hN]; split <;> omega
 have e1 := zz26 hf.out.zero N hN1;have e2 := zz26 hg.out.zero N hN2;rw [← e1, ← e2];clear e1 e2;by_cases hnm : n < m
 ·have hnm' : (n : Int) < m := by omega
  obtain rfl : m = N := by rw [← hN, if_pos hnm]
  clear hN;go_in;go_wp2_with fail;go_loopw [6] (fun s6 wr => ∃ k : Nat, k ≤ m ∧ s6 = .int .i64 ((k : Int) - 1) ∧ Hid (∀ j, k ≤ j → j < m → f j = g j) ∧ wr = w) (fun s6 _ => (intOf s6 + 1).toNat)
  case atStart => exact ⟨m, Nat.le_refl _, rfl, fun j h1 h2 => by omega, rfl⟩
  case round =>
   obtain ⟨k, hk, rfl, HE, rfl⟩ := hrel;by_cases hk0 : k = 0
   ·subst hk0
    have hd : decide (pv f m < pv g m) = false := decide_eq_false (by rw [zz3m m (fun i hi => HE.out i (Nat.zero_le _) hi)]; omega)
    have HD := zH hd;clear hd;go_wp2_with fail;go_ret;exact ⟨by rw [HD.out]; rfl, rfl⟩
   ·obtain ⟨j, rfl⟩ : ∃ j, k = j + 1 := ⟨k - 1, by omega⟩
    have ej : ((j + 1 : Nat) : Int) - 1 = (j : Int) := by omega
    rw [ej];have q1 := zH (qA.out j zw);have q2 := zH (qB.out j zw);have HE2 : Hid (∀ i, j < i → i < m → f i = g i) := fun i h1 h2 => HE.out i h1 h2
    have hb1 := hf.out.lt;have hb2 := hg.out.lt;by_cases hfg : f j = g j
    ·have HE3 : Hid (∀ i, j ≤ i → i < m → f i = g i) := fun i h1 h2 => by
      by_cases e : i = j
      ·rw [e]; exact hfg
      ·exact HE.out i zw h2
     exact zt62
    ·have hne : (((f j : Nat) : Int) != ((g j : Nat) : Int)) = true := by simp; omega
     have hd : decide (pv f m < pv g m) = decide (f j < g j) := by
      by_cases hlt : f j < g j
      ·rw [decide_eq_true (zzb1 hb1 hlt m zw HE2.out), decide_eq_true zw]
      ·have := zzb1 hb2 (show g j < f j by omega) m zw (fun i h1 h2 => (HE2.out i h1 h2).symm)
       rw [decide_eq_false zw, decide_eq_false zw]
     exact zt68
 ·have hnm' : ¬ ((n : Int) < m) := by omega
  obtain rfl : n = N := by rw [← hN, if_neg hnm]
  clear hN;go_in;go_wp2_with fail;go_loopw [6] (fun s6 wr => ∃ k : Nat, k ≤ n ∧ s6 = .int .i64 ((k : Int) - 1) ∧ Hid (∀ j, k ≤ j → j < n → f j = g j) ∧ wr = w) (fun s6 _ => (intOf s6 + 1).toNat)
  case atStart => exact ⟨n, Nat.le_refl _, rfl, fun j h1 h2 => by omega, rfl⟩
  case round =>
   obtain ⟨k, hk, rfl, HE, rfl⟩ := hrel;by_cases hk0 : k = 0
   ·subst hk0
    have hd : decide (pv f n < pv g n) = false := decide_eq_false (by rw [zz3m n (fun i hi => HE.out i (Nat.zero_le _) hi)]; omega)
    have HD := zH hd;clear hd;go_wp2_with fail;go_ret;exact ⟨by rw [HD.out]; rfl, rfl⟩
   ·obtain ⟨j, rfl⟩ : ∃ j, k = j + 1 := ⟨k - 1, by omega⟩
    have ej : ((j + 1 : Nat) : Int) - 1 = (j : Int) := by omega
    rw [ej];have q1 := zH (qA.out j zw);have q2 := zH (qB.out j zw);have HE2 : Hid (∀ i, j < i → i < n → f i = g i) := fun i h1 h2 => HE.out i h1 h2
    have hb1 := hf.out.lt;have hb2 := hg.out.lt;by_cases hfg : f j = g j
    ·have HE3 : Hid (∀ i, j ≤ i → i < n → f i = g i) := fun i h1 h2 => by
      by_cases e : i = j
      ·rw [e]; exact hfg
      ·exact HE.out i zw h2
     exact zt62
    ·have hne : (((f j : Nat) : Int) != ((g j : Nat) : Int)) = true := by simp; omega
     have hd : decide (pv f n < pv g n) = decide (f j < g j) := by
      by_cases hlt : f j < g j
      ·rw [decide_eq_true (zzb1 hb1 hlt n zw HE2.out), decide_eq_true zw]
      ·have := zzb1 hb2 (show g j < f j by omega) n zw (fun i h1 h2 => (HE2.out i h1 h2).symm)
       rw [decide_eq_false zw, decide_eq_false zw]
     exact zt68
end
end Go.Proofs.YtajogedbacpohaaGreatDoor
