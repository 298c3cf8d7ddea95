/- Part 6 of what the claim rests on. -/
import Derived.Test.YtajogedbacpohaaGreatDoorC00
import Derived.Test.YtajogedbacpohaaGreatDoorC04
set_option linter.unusedVariables false
set_option linter.unusedSimpArgs false
set_option maxRecDepth 1000000
set_option maxHeartbeats 32000000
namespace Go.Proofs.YtajogedbacpohaaGreatDoor
section
open Go Go.RowKit
def setK (ge ne : List Int → Bool) (x : List Int) : Bool → List (List Int) → List (List Int)
 | done, [] => if done then [] else [x]
 | done, r :: t => (if !done && ge r then [x] else []) ++ ((if ne r then [r] else []) ++ setK ge ne x (done || ge r) t)
theorem zz8e {ge ne : List Int → Bool} {x : List Int} : ∀ {l : List (List Int)}, (∀ r ∈ l, ne r = true) → setK ge ne x true l = l
 | [], _ => rfl
 | r :: t, h => by
  rw [setK, h r (by simp)]
  simp only [Bool.not_true, Bool.false_and, Bool.true_or, if_true, Bool.false_eq_true, if_false, List.nil_append, List.singleton_append];rw [zz8e (fun r hr => h r (by simp [hr]))]
theorem zzam {ge ne : List Int → Bool} {x : List Int} (out : Bool) : ∀ {l : List (List Int)} {p : Nat}, p ≤ l.length → (∀ (h : Nat) (r : List Int), l[h]? = some r → (ge r = false ↔ h < p)) → (∀ (h : Nat) (r : List Int), l[h]? = some r → ne r = false → h = p) →
  setK ge ne x out l = l.take p ++ ((if out then [] else [x]) ++ l.drop (if (l[p]?).any (fun r => !ne r) then p + 1 else p))
 | [], p, hp, _, _ => by
  obtain rfl : p = 0 := by simpa using hp
  cases out <;> rfl
 | r :: t, 0, hp, h1, h2 => by
  have hg : ge r = true := by
   cases hg : ge r with
   | true => rfl
   | false => exact absurd ((h1 0 r rfl).1 hg) (Nat.lt_irrefl _)
  have ht : setK ge ne x true t = t := zz8e (fun u hu => by
   obtain ⟨k, hk⟩ := List.getElem?_of_mem hu;cases hn : ne u with
   | true => rfl
   | false => exact absurd (h2 (k + 1) u (by simpa using hk) hn) zw)
  rw [setK, hg, Bool.or_true, ht];cases out <;> cases hn : ne r <;> simp [hn]
 | r :: t, p + 1, hp, h1, h2 => by
  have hg : ge r = false := (h1 0 r rfl).2 zw;have hn : ne r = true := by
   cases hn : ne r with
   | true => rfl
   | false => exact absurd (h2 0 r rfl hn) zw
  have ih := zzam (ge := ge) (ne := ne) (x := x) out (l := t) (p := p) (by simpa using hp) (fun h u hu => by rw [h1 (h + 1) u (by simpa using hu)]; omega) (fun h u hu hn => by have := h2 (h + 1) u (by simpa using hu) hn; omega)
  rw [setK, hg, hn, Bool.or_false, ih];by_cases hc : (t[p]?).any (fun r => !ne r) = true
  ·simp [hc]
  ·simp [hc]
def setH (id : Int) (x : List Int) (out : Bool) (l : List (List Int)) : List (List Int) := setK (fun r => !decide (r.headD 0 < id)) (fun r => !isId id r) x out l
def setS (kx ky : Int) (x : List Int) (out : Bool) (l : List (List Int)) : List (List Int) := setK (fun r => !decide (r.headD 0 < kx ∨ r.headD 0 = kx ∧ r.tail.headD 0 < ky)) (fun r => !isKey kx ky r) x out l
theorem zzb5 {α : Type} {B E : α → Bool} {l : List α} {p : Nat} (hp : l.Pairwise (fun a b => E b = true → B a = true)) (hE : ∀ r ∈ l, E r = true → B r = false) (hlt : ∀ (h : Nat) (r : α), l[h]? = some r → (B r = true ↔ h < p)) (h : Nat) (r : α) (hr : l[h]? = some r) (he : E r = true) : h = p := by
 have hh := (List.getElem?_eq_some_iff.1 hr);obtain ⟨hl, hr'⟩ := hh;have h1 : ¬ h < p := fun hlt' => by
  have := (hlt h r hr).2 hlt';rw [hE r (List.mem_of_getElem? hr) he] at this;cases this
 by_cases h2 : p < h
 ·have := (List.pairwise_iff_getElem.1 hp) p h zw hl h2 (by rw [hr']; exact he)
  have := (hlt p _ (List.getElem?_eq_getElem zw)).1 this;omega
 ·omega
theorem any_not {l : List (List Int)} {p : Nat} (E : List Int → Bool) : (l[p]?).any (fun r => !(!E r)) = (match l[p]? with | some r => E r | none => false) := by
 cases l[p]? <;> simp
theorem zz34 (id : Int) (x : List Int) (out : Bool) {l : List (List Int)} {p : Nat} (hr : riseH l) (hp : p ≤ l.length) (hlt : ∀ (h : Nat) (r : List Int), l[h]? = some r → (r.headD 0 < id ↔ h < p)) :
  setH id x out l = l.take p ++ ((if out then [] else [x]) ++ l.drop (if (match l[p]? with | some r => decide (r.headD 0 = id) | none => false) then p + 1 else p)) := by
 rw [setH, zzam out hp (fun h r hh => by have := hlt h r hh; simpa using this) (fun h r hh hn => zzb5 (B := fun r : List Int => decide (r.headD 0 < id)) (E := isId id) (p := p) (l := l)
  (hr.imp fun {a b} hab => by simp only [isId, decide_eq_true_eq]; intro _; omega) (fun r _ hr => by simp only [isId, decide_eq_true_eq] at hr; simp only [decide_eq_false_iff_not]; omega) (fun h r hh => by have := hlt h r hh; simpa using this) h r hh (by simpa using hn)), any_not]
 rfl
theorem zz6n (kx ky : Int) (x : List Int) (out : Bool) {l : List (List Int)} {p : Nat} (hr : riseS l) (hp : p ≤ l.length) (hlt : ∀ (h : Nat) (r : List Int), l[h]? = some r → (stLt r kx ky ↔ h < p)) :
  setS kx ky x out l = l.take p ++ ((if out then [] else [x]) ++ l.drop (if (match l[p]? with | some r => decide (r.headD 0 = kx ∧ r.tail.headD 0 = ky) | none => false) then p + 1 else p)) := by
 unfold stLt at hlt;rw [setS, zzam out hp (fun h r hh => by rw [← hlt h r hh, Bool.not_eq_false', decide_eq_true_eq]) (fun h r hh hn => zzb5 (B := fun r : List Int => decide (r.headD 0 < kx ∨ r.headD 0 = kx ∧ r.tail.headD 0 < ky)) (E := isKey kx ky) (p := p) (l := l)
  (hr.imp fun {a b} hab => by unfold stLt at hab; simp only [isKey, decide_eq_true_eq]; intro _; omega) (fun r _ hr => by simp only [isKey, decide_eq_true_eq] at hr; simp only [decide_eq_false_iff_not]; omega) (fun h r hh => by rw [decide_eq_true_eq]; exact hlt h r hh) h r hh (by simpa using hn)), any_not]
 rfl
theorem zt43 {p : Prop} (h : p := by
 cases hlp : l[p]? with
 | none => rw [hlp] at hF; cases hF
 | some r => exact (List.getElem?_eq_some_iff.1 hlp).1) : p := h
theorem zz6y (v : Value) (l : List (List Int)) (x0 x1 x2 x3 id : Int) (w : World) (hv : Hid (RowAt w v 4 l)) (hl : l.length ≤ 999999) (hr : Hid (riseH l)) :
  Calls Tryz.prog 141 #[v, .agg #[x0, x1, x2, x3], .int .i64 id, .func (.func 125) #[] #[], .bool false] w fun e w' => ∃ v', e = .returned v' ∧ RowOwn w' w.heap.size 78 v' 4 (setH id [x0, x1, x2, x3] false l) ∧ Below w.heap.size w w' := by
 obtain ⟨p, hp, hlt, _⟩ := placeH id hr.out;cases hF : (match l[p]? with | some r => decide (r.headD 0 = id) | none => false) with
 | false =>
  replace hF := hF.symm;have e := (show setH id [x0, x1, x2, x3] false l = l.take p ++ [x0, x1, x2, x3] :: l.drop p by rw [zz34 id [x0, x1, x2, x3] false hr.out hp hlt, ← hF]; simp)
  refine (zz6x v l x0 x1 x2 x3 id p w hv hl hp hlt hF).mono ?_;rintro x w' ⟨v', rfl, h1, h2⟩;exact ⟨v', rfl, by rw [e]; exact h1, h2⟩
 | true =>
  have hpl : p < l.length := by
   exact zt43
  replace hF := hF.symm;have e := (show setH id [x0, x1, x2, x3] false l = l.take p ++ [x0, x1, x2, x3] :: l.drop (p + 1) by rw [zz34 id [x0, x1, x2, x3] false hr.out hp hlt, ← hF]; simp)
  refine (zz6w v l x0 x1 x2 x3 id p w hv hl hpl hlt hF).mono ?_;rintro x w' ⟨v', rfl, h1, h2⟩;exact ⟨v', rfl, by rw [e]; exact h1, h2⟩
theorem zt26 {p : Prop} (h : p := by
 have hl2 : w.heap.size + 2 < w0.heap.size := by have := HS0.out; omega
 exact BkOwn.mono (BkOwn.setBelow (a := ⟨_, _, _⟩) (BkOwn.setBelow (a := ⟨_, _, _⟩) (BkOwn.setBelow (a := ⟨_, _, _⟩) (BkOwn.setBelow (a := ⟨_, _, _⟩) (BkOwn.setBelow (a := ⟨_, _, _⟩) G4.out hl2 _) hl2 _) hl2 _) hl2 _) hl2 _) HB0.out.size) : p := h
theorem zt31 {p : Prop} (h : p := by
 have hl2 : w.heap.size ≤ w.heap.size + 2 := by omega
 exact Below.setCell (p := ⟨_, _, _⟩) (Below.setCell (p := ⟨_, _, _⟩) (Below.setCell (p := ⟨_, _, _⟩) (Below.setCell (p := ⟨_, _, _⟩) (Below.setCell (p := ⟨_, _, _⟩) HB4.out hl2 _) hl2 _) hl2 _) hl2 _) hl2 _) : p := h
theorem zt33 {p : Prop} (h : p := by
 rw [← hw2];exact BkOwn.setBelow (a := ⟨_, _, _⟩) (BkOwn.setBelow (a := ⟨_, _, _⟩) (BkOwn.setBelow (a := ⟨_, _, _⟩) (BkOwn.setBelow (a := ⟨_, _, _⟩) (BkOwn.setBelow (a := ⟨_, _, _⟩) ⟨_, _, _, _, rfl, g1, g2, g3, g4⟩ hlt0 _) hlt0 _) hlt0 _) hlt0 _) hlt0 _) : p := h
theorem zt38 {p : Prop} (h : p := by
 rw [← hw2];have := HB0.out.trans (hb1.mono HB0.out.size);exact Below.setCell (Below.setCell (Below.setCell (Below.setCell (Below.setCell this (Nat.le_refl _) _) (Nat.le_refl _) _) (Nat.le_refl _) _) (Nat.le_refl _) _) (Nat.le_refl _) _) : p := h
theorem zz2c (v : Value) (b : Bk) (x0 x1 x2 x3 : Int) (w : World) (hb : Hid (BkAt w v b)) (hs : Hid b.Small) (hr : Hid (riseH b.h)) :
  Calls Tryz.prog 74 #[v, .agg #[x0, x1, x2, x3]] w fun e w' => ∃ v', e = .returned v' ∧ BkOwn w' w.heap.size v' { b with h := setH x0 [x0, x1, x2, x3] false b.h } ∧ Below w.heap.size w w' := by
 obtain ⟨vh, vs, vo, vr, rfl, h1, h2, h3, h4⟩ := hb.out;obtain ⟨w0, hw0⟩ : ∃ w0, ((w.alloc (.cells #[vh, vs, vo, vr, b.n] 27)).alloc (.cells #[x0, x1, x2, x3] 78)).alloc (.cells BZ 27) = w0 := ⟨_, rfl⟩;have HB0 : Hid (Below w.heap.size w w0) := by rw [← hw0]; exact zz01 (zz01 zBa (by simp) _) zo _
 have K1 : ZB w0 w.heap.size #[vh, vs, vo, vr, b.n] 27 := by rw [← hw0]; exact zz05 (zz05 (zz02 _ _) _) _
 have K2 : ZB w0 (w.heap.size + 1) #[x0, x1, x2, x3] 78 := by rw [← hw0]; exact zz05 (zz0d _ _ _ (by simp)) _
 have K3 : ZB w0 (w.heap.size + 2) BZ 27 := by rw [← hw0]; exact zz0d _ _ _ (by simp)
 have qc := zH (zz32 _ b w0 (BkAt.call ⟨vh, vs, vo, vr, rfl, h1, h2, h3, h4⟩ HB0.out) hs);have qp := zH (fun wz v hv => zz6y v b.h x0 x1 x2 x3 x0 wz hv zsm hr)
 obtain ⟨l5, hl5⟩ : ∃ l5, setH x0 [x0, x1, x2, x3] false b.h = l5 := ⟨_, rfl⟩;rw [hl5] at qp ⊢;have hs0 : w.heap.size + 3 = w0.heap.size := by rw [← hw0]; simp
 have HS0 := zH hs0;have HW0 := zH hw0;clear hw0 h1 h2 h3 h4 hb hl5 hs0;go_in;go_wp2_with fail;rw [HW0.out];have a0 := zC K1.out;go_wp2_with fail;(with_reducible refine qc.out.mono ?_);rintro e w1 ⟨v1, rfl, ⟨uh, us, uo, ur, rfl, g1, g2, g3, g4⟩, hb1⟩;obtain ⟨A1, c1', rfl⟩ := g1.form;obtain ⟨A2, c2', rfl⟩ := g2.form;obtain ⟨A3, c3', rfl⟩ := g3.form;obtain ⟨A4, c4', rfl⟩ := g4.form;have m1 := zz06 K1.out hb1;have M2 := zK K2 hb1;have M3 := zK K3 hb1;have d0 := zC m1;have f0 := zF m1;have z0 := zC M2.out;obtain ⟨w2, hw2⟩ : ∃ w2, (((((w1.setCell ⟨w.heap.size, 0, none⟩ (.slice A1 b.h.length c1')).setCell ⟨w.heap.size, 1, none⟩ (.slice A2 b.s.length c2')).setCell ⟨w.heap.size, 2, none⟩ (.slice A3 b.o.length c3')).setCell ⟨w.heap.size, 3, none⟩ (.slice A4 b.r.length c4')).setCell ⟨w.heap.size, 4, none⟩ (.int .i64 b.n)) = w2 := ⟨_, rfl⟩;have N1 : ZB w2 w.heap.size (BF A1 c1' A2 c2' A3 c3' A4 c4' b b.n) 27 := by rw [← hw2]; exact zz0b (zz0b (zz0b (zz0b (zz0b m1 0 _) 1 _) 2 _) 3 _) 4 _
 have N2 : ZB w2 (w.heap.size + 1) #[x0, x1, x2, x3] 78 := by rw [← hw2]; exact zz09 (zz09 (zz09 (zz09 (zz09 M2.out 0 _ zw) 1 _ zw) 2 _ zw) 3 _ zw) 4 _ zw
 have N3 : ZB w2 (w.heap.size + 2) BZ 27 := by rw [← hw2]; exact zz09 (zz09 (zz09 (zz09 (zz09 M3.out 0 _ zw) 1 _ zw) 2 _ zw) 3 _ zw) 4 _ zw
 have hlt0 : w.heap.size < w0.heap.size := by have := HS0.out; omega
 have G : Hid (BkOwn w2 w0.heap.size (.agg (BF A1 c1' A2 c2' A3 c3' A4 c4' b b.n)) b) := by
  exact zt33
 have HB2 : Hid (Below w.heap.size w w2) := by
  exact zt38
 have hs2 : w0.heap.size ≤ w2.heap.size := by rw [← hw2]; simpa using hb1.size
 have HS2 := zH hs2;have HW2 := zH hw2;clear hw2 m1 g1 g2 g3 g4 hb1 hlt0 hs2;go_wp2_with fail;rw [HW2.out];clear a0 d0 f0 z0;have b0 := zC N1.out;have y0 := zC N2.out;have hrow : Hid (RowAt w2 (.slice A1 b.h.length c1') 4 b.h) := by
  obtain ⟨_, _, _, _, hh, g1, g2, g3, g4⟩ := G.out;injection hh with hh
  simp only [Array.mk.injEq, List.cons.injEq] at hh;obtain ⟨rfl, rfl, rfl, rfl, _⟩ := hh;exact g1.row
 (with_reducible refine (qp.out _ _ hrow).mono ?_);rintro e w3 ⟨v5, rfl, g5, hb3⟩
 obtain ⟨A5, c5', rfl⟩ := g5.form;have n1 := zz06 N1.out hb3;have n3 := zz06 N3.out hb3;have p0 := zC n1;have pf := zF n1;have v0 := zC n3;have vf0 := zF n3;obtain ⟨w4, hw4⟩ : ∃ w4, w3.setCell ⟨w.heap.size, 0, none⟩ (.slice A5 l5.length c5') = w4 := ⟨_, rfl⟩;have O1 : ZB w4 w.heap.size #[.slice A5 l5.length c5', .slice A2 b.s.length c2', .slice A3 b.o.length c3', .slice A4 b.r.length c4', b.n] 27 := by rw [← hw4]; exact zz0b n1 0 _
 have O3 : ZB w4 (w.heap.size + 2) BZ 27 := by rw [← hw4]; exact zz09 n3 0 _ zw
 have hlt0 : w.heap.size < w0.heap.size := by have := HS0.out; omega
 have G4 : Hid (BkOwn w4 w0.heap.size (.agg #[.slice A5 l5.length c5', .slice A2 b.s.length c2', .slice A3 b.o.length c3', .slice A4 b.r.length c4', b.n]) { b with h := l5 }) := by
  rw [← hw4];refine BkOwn.setBelow (a := ⟨_, _, _⟩) ?_ hlt0 _;obtain ⟨_, _, _, _, hh, g1, g2, g3, g4⟩ := G.out.kept hb3;injection hh with hh
  simp only [Array.mk.injEq, List.cons.injEq] at hh;obtain ⟨rfl, rfl, rfl, rfl, _⟩ := hh;exact ⟨_, _, _, _, rfl, g5.mono HS2.out, g2, g3, g4⟩
 have HB4 : Hid (Below w.heap.size w w4) := by
  rw [← hw4];exact Below.setCell (HB2.out.trans (hb3.mono HB2.out.size)) (Nat.le_refl _) _
 have HW4 := zH hw4;clear hw4 n1 n3 g5 hb3 hlt0 b0;go_wp2_with fail;rw [HW4.out];have r0 := zz00 O1.out 0 _ rfl;have t0 := zz00 O3.out 0 _ rfl;have tf0 := zz04 O3.out 0;have r1 := zz00 O1.out 1 _ rfl;have t1 := zz00 O3.out 1 _ rfl;have tf1 := zz04 O3.out 1;have r2 := zz00 O1.out 2 _ rfl;have t2 := zz00 O3.out 2 _ rfl;have tf2 := zz04 O3.out 2;have r3 := zz00 O1.out 3 _ rfl;have t3 := zz00 O3.out 3 _ rfl;have tf3 := zz04 O3.out 3;have r4 := zz00 O1.out 4 _ rfl;have t4 := zz00 O3.out 4 _ rfl;have tf4 := zz04 O3.out 4;refine bodyPost_ret (v := .agg #[.slice A5 l5.length c5', .slice A2 b.s.length c2', .slice A3 b.o.length c3', .slice A4 b.r.length c4', b.n]) ?_ rfl ⟨_, rfl, ?_, ?_⟩
 ·simp [results, Tryz.results74, go_sem, t0, t1, t2, t3, t4]
 ·exact zt26
 ·exact zt31
theorem zz7t (v : Value) (l : List (List Int)) (x0 x1 x2 kx ky : Int) (out : Bool) (w : World) (hv : Hid (RowAt w v 3 l)) (hl : l.length ≤ 999999) (hr : Hid (riseS l)) :
  Calls Tryz.prog 154 #[v, .agg #[x0, x1, x2], .agg #[kx, ky], .func (.func 134) #[] #[], .bool out] w fun e w' => ∃ v', e = .returned v' ∧ RowOwn w' w.heap.size 80 v' 3 (setS kx ky [x0, x1, x2] out l) ∧ Below w.heap.size w w' := by
 obtain ⟨p, hp, hlt, _⟩ := placeS kx ky hr.out;cases out with
 | false =>
  cases hF : (match l[p]? with | some r => decide (r.headD 0 = kx ∧ r.tail.headD 0 = ky) | none => false) with
  | false =>
   replace hF := hF.symm;have e := (show setS kx ky [x0, x1, x2] false l = l.take p ++ [x0, x1, x2] :: l.drop p by rw [zz6n kx ky [x0, x1, x2] false hr.out hp hlt, ← hF]; simp)
   refine (zz7r v l x0 x1 x2 kx ky p w hv hl hp hlt hF).mono ?_;rintro x w' ⟨v', rfl, h1, h2⟩;exact ⟨v', rfl, by rw [e]; exact h1, h2⟩
  | true =>
   have hpl : p < l.length := by
    exact zt43
   replace hF := hF.symm;have e := (show setS kx ky [x0, x1, x2] false l = l.take p ++ [x0, x1, x2] :: l.drop (p + 1) by rw [zz6n kx ky [x0, x1, x2] false hr.out hp hlt, ← hF]; simp)
   refine (zz7q v l x0 x1 x2 kx ky p w hv hl hpl hlt hF).mono ?_;rintro x w' ⟨v', rfl, h1, h2⟩;exact ⟨v', rfl, by rw [e]; exact h1, h2⟩
 | true =>
  cases hF : (match l[p]? with | some r => decide (r.headD 0 = kx ∧ r.tail.headD 0 = ky) | none => false) with
  | false =>
   replace hF := hF.symm;have e := (show setS kx ky [x0, x1, x2] true l = l by rw [zz6n kx ky [x0, x1, x2] true hr.out hp hlt, ← hF]; simp)
   refine (zz6v v l x0 x1 x2 kx ky p w hv hl hp hlt hF).mono ?_;rintro x w' ⟨v', rfl, h1, h2⟩;exact ⟨v', rfl, by rw [e]; exact h1, h2⟩
  | true =>
   have hpl : p < l.length := by
    exact zt43
   replace hF := hF.symm;have e := (show setS kx ky [x0, x1, x2] true l = l.take p ++ l.drop (p + 1) by rw [zz6n kx ky [x0, x1, x2] true hr.out hp hlt, ← hF]; simp)
   refine (zz7s v l x0 x1 x2 kx ky p w hv hl hpl hlt hF).mono ?_;rintro x w' ⟨v', rfl, h1, h2⟩;exact ⟨v', rfl, by rw [e]; exact h1, h2⟩
theorem zz49 (x0 x1 x2 : Int) (w : World) : Calls Tryz.prog 133 #[.agg #[x0, x1, x2]] w fun e w' => e = .returned (.agg #[x0, x1]) ∧ Below w.heap.size w w' := by
 have k1 := zz05 (zz02 w (.cells #[x0, x1, x2] 80)) (.cells #[.int .i64 0, .int .i64 0] 179);have c0 := zC k1;have k2 : ((w.alloc (.cells #[x0, x1, x2] 80)).alloc (.cells #[.int .i64 0, .int .i64 0] 179)).heap[w.heap.size + 1]? = some (.cells #[.int .i64 0, .int .i64 0] 179 (0, 0)) := zz0d _ _ _ (by simp)
 have d0 := zz00 k2 0 _ rfl;have d1 := zz00 k2 1 _ rfl;have f0 := zz04 k2 0;have f1 := zz04 k2 1;clear k1 k2;go_in;go_wp2_with fail;refine bodyPost_ret (v := .agg #[x0, x1]) ?_ rfl ⟨rfl, ?_⟩
 ·simp [results, Tryz.results133, go_sem, d0, d1]
 ·first
  | exact zz01 zBa zo _
  | exact Below.setCell (Below.setCell (zz01 zBa zo _) (by first | (simp; done) | omega) _) (by first | (simp; done) | omega) _
theorem zz87 (v : Value) (b : Bk) (x0 x1 x2 : Int) (w : World) (hb : Hid (BkAt w v b)) (hs : Hid b.Small) (hr : Hid (riseS b.s)) :
  Calls Tryz.prog 89 #[v, .agg #[x0, x1, x2]] w fun e w' => ∃ v', e = .returned v' ∧ BkOwn w' w.heap.size v' { b with s := setS x0 x1 [x0, x1, x2] (x2 == 0) b.s } ∧ Below w.heap.size w w' := by
 obtain ⟨vh, vs, vo, vr, rfl, h1, h2, h3, h4⟩ := hb.out;obtain ⟨w0, hw0⟩ : ∃ w0, ((w.alloc (.cells #[vh, vs, vo, vr, b.n] 27)).alloc (.cells #[x0, x1, x2] 80)).alloc (.cells BZ 27) = w0 := ⟨_, rfl⟩;have HB0 : Hid (Below w.heap.size w w0) := by rw [← hw0]; exact zz01 (zz01 zBa (by simp) _) zo _
 have K1 : ZB w0 w.heap.size #[vh, vs, vo, vr, b.n] 27 := by rw [← hw0]; exact zz05 (zz05 (zz02 _ _) _) _
 have K2 : ZB w0 (w.heap.size + 1) #[x0, x1, x2] 80 := by rw [← hw0]; exact zz05 (zz0d _ _ _ (by simp)) _
 have K3 : ZB w0 (w.heap.size + 2) BZ 27 := by rw [← hw0]; exact zz0d _ _ _ (by simp)
 have qc := zH (zz32 _ b w0 (BkAt.call ⟨vh, vs, vo, vr, rfl, h1, h2, h3, h4⟩ HB0.out) hs);have qp := zH (fun wz v hv => zz7t v b.s x0 x1 x2 x0 x1 (x2 == 0) wz hv zsm hr)
 have qk := zH (fun wz => zz49 x0 x1 x2 wz)
 obtain ⟨l5, hl5⟩ : ∃ l5, setS x0 x1 [x0, x1, x2] (x2 == 0) b.s = l5 := ⟨_, rfl⟩;rw [hl5] at qp ⊢;have hs0 : w.heap.size + 3 = w0.heap.size := by rw [← hw0]; simp
 have HS0 := zH hs0;have HW0 := zH hw0;clear hw0 h1 h2 h3 h4 hb hl5 hs0;go_in;go_wp2_with fail;rw [HW0.out];have a0 := zC K1.out;go_wp2_with fail;(with_reducible refine qc.out.mono ?_);rintro e w1 ⟨v1, rfl, ⟨uh, us, uo, ur, rfl, g1, g2, g3, g4⟩, hb1⟩;obtain ⟨A1, c1', rfl⟩ := g1.form;obtain ⟨A2, c2', rfl⟩ := g2.form;obtain ⟨A3, c3', rfl⟩ := g3.form;obtain ⟨A4, c4', rfl⟩ := g4.form;have m1 := zz06 K1.out hb1;have M2 := zK K2 hb1;have M3 := zK K3 hb1;have d0 := zC m1;have f0 := zF m1;have z0 := zC M2.out;obtain ⟨w2, hw2⟩ : ∃ w2, (((((w1.setCell ⟨w.heap.size, 0, none⟩ (.slice A1 b.h.length c1')).setCell ⟨w.heap.size, 1, none⟩ (.slice A2 b.s.length c2')).setCell ⟨w.heap.size, 2, none⟩ (.slice A3 b.o.length c3')).setCell ⟨w.heap.size, 3, none⟩ (.slice A4 b.r.length c4')).setCell ⟨w.heap.size, 4, none⟩ (.int .i64 b.n)) = w2 := ⟨_, rfl⟩;have N1 : ZB w2 w.heap.size (BF A1 c1' A2 c2' A3 c3' A4 c4' b b.n) 27 := by rw [← hw2]; exact zz0b (zz0b (zz0b (zz0b (zz0b m1 0 _) 1 _) 2 _) 3 _) 4 _
 have N2 : ZB w2 (w.heap.size + 1) #[x0, x1, x2] 80 := by rw [← hw2]; exact zz09 (zz09 (zz09 (zz09 (zz09 M2.out 0 _ zw) 1 _ zw) 2 _ zw) 3 _ zw) 4 _ zw
 have N3 : ZB w2 (w.heap.size + 2) BZ 27 := by rw [← hw2]; exact zz09 (zz09 (zz09 (zz09 (zz09 M3.out 0 _ zw) 1 _ zw) 2 _ zw) 3 _ zw) 4 _ zw
 have hlt0 : w.heap.size < w0.heap.size := by have := HS0.out; omega
 have G : Hid (BkOwn w2 w0.heap.size (.agg (BF A1 c1' A2 c2' A3 c3' A4 c4' b b.n)) b) := by
  exact zt33
 have HB2 : Hid (Below w.heap.size w w2) := by
  exact zt38
 have hs2 : w0.heap.size ≤ w2.heap.size := by rw [← hw2]; simpa using hb1.size
 have HS2 := zH hs2;have HW2 := zH hw2;clear hw2 m1 g1 g2 g3 g4 hb1 hlt0 hs2;go_wp2_with fail;rw [HW2.out];clear a0 d0 f0 z0;have b0 := zz00 N1.out 0 _ rfl;have b1 := zz00 N1.out 1 _ rfl;have b2 := zz00 N1.out 2 _ rfl;have b3 := zz00 N1.out 3 _ rfl;have b4 := zz00 N1.out 4 _ rfl;have y0 := zz00 N2.out 0 _ rfl;have y1 := zz00 N2.out 1 _ rfl;have y2 := zz00 N2.out 2 _ rfl;have hrow : Hid (RowAt w2 (.slice A2 b.s.length c2') 3 b.s) := by
  obtain ⟨_, _, _, _, hh, g1, g2, g3, g4⟩ := G.out;injection hh with hh
  simp only [Array.mk.injEq, List.cons.injEq] at hh;obtain ⟨rfl, rfl, rfl, rfl, _⟩ := hh;exact g2.row
 have hlw := zL N1.out;have hlw2 := zL N2.out;have HC : Hid (Below w2.heap.size w2 w2.drew) := (Below.refl _ _).drew;refine zz07 [10] (fun wz => Hid (Below w2.heap.size w2 wz)) 11 (zb 11 0) zk zk zk ?_
 refine zM [0, 1, 2, 3, 5, 6, 7] 4 HC ?_;simp only [opsAt, zA];refine zp ?_;refine zz08 (.slice A2 b.s.length c2') rfl (fun wz hC => by have h0 := ((Hid.out hC).cell (p := ⟨w.heap.size, 1, none⟩) hlw).trans b1; unfold execOp; go_simp) ?_
 refine zz08 (.agg #[x0, x1, x2]) rfl (fun wz hC => by have h0 := ((Hid.out hC).cell (p := ⟨w.heap.size + 1, 0, none⟩) hlw2).trans y0; have h1 := ((Hid.out hC).cell (p := ⟨w.heap.size + 1, 1, none⟩) hlw2).trans y1; have h2 := ((Hid.out hC).cell (p := ⟨w.heap.size + 1, 2, none⟩) hlw2).trans y2; unfold execOp; go_simp) ?_
 refine zz08 (.agg #[x0, x1, x2]) rfl (fun wz hC => by have h0 := ((Hid.out hC).cell (p := ⟨w.heap.size + 1, 0, none⟩) hlw2).trans y0; have h1 := ((Hid.out hC).cell (p := ⟨w.heap.size + 1, 1, none⟩) hlw2).trans y1; have h2 := ((Hid.out hC).cell (p := ⟨w.heap.size + 1, 2, none⟩) hlw2).trans y2; unfold execOp; go_simp) ?_
 refine zp ?_;refine zz08 (.int .i64 x2) rfl (fun wz hC => by have h0 := ((Hid.out hC).cell (p := ⟨w.heap.size + 1, 2, none⟩) hlw2).trans y2; unfold execOp; go_simp) ?_
 refine zp ?_;unfold wpPure;go_simp;refine zW 4 ?_;go_wp2_with fail;(with_reducible refine (qk.out _).mono ?_);rintro e w5 ⟨rfl, hbk⟩;have HC5 : Hid (Below w2.heap.size w2 w5) := HC.out.trans (hbk.mono HC.out.size);replace hrow := zH (hrow.out.call HC5.out);clear hbk;go_wp2_with fail;refine zQs (fun _ => HC5) ?_
 refine zW 8 ?_;go_wp2_with fail;(with_reducible refine (qp.out _ _ hrow).mono ?_);rintro e w3 ⟨v5, rfl, g5, hb3'⟩;obtain ⟨A5, c5', rfl⟩ := g5.form;replace g5 := g5.mono (B' := w2.heap.size) HC5.out.size;have hb3 : Below w2.heap.size w2 w3 := HC5.out.trans (hb3'.mono HC5.out.size);have HC3 := zH hb3;have n1 := zz06 N1.out hb3;have n3 := zz06 N3.out hb3;have p0 := zC n1;have pf := zF n1;have v0 := zC n3;have vf0 := zF n3;obtain ⟨w4, hw4⟩ : ∃ w4, w3.setCell ⟨w.heap.size, 1, none⟩ (.slice A5 l5.length c5') = w4 := ⟨_, rfl⟩;have O1 : ZB w4 w.heap.size #[.slice A1 b.h.length c1', .slice A5 l5.length c5', .slice A3 b.o.length c3', .slice A4 b.r.length c4', b.n] 27 := by rw [← hw4]; exact zz0b n1 1 _
 have O3 : ZB w4 (w.heap.size + 2) BZ 27 := by rw [← hw4]; exact zz09 n3 1 _ zw
 have hlt0 : w.heap.size < w0.heap.size := by have := HS0.out; omega
 have G4 : Hid (BkOwn w4 w0.heap.size (.agg #[.slice A1 b.h.length c1', .slice A5 l5.length c5', .slice A3 b.o.length c3', .slice A4 b.r.length c4', b.n]) { b with s := l5 }) := by
  rw [← hw4];refine BkOwn.setBelow (a := ⟨_, _, _⟩) ?_ hlt0 _;obtain ⟨_, _, _, _, hh, g1, g2, g3, g4⟩ := G.out.kept hb3;injection hh with hh
  simp only [Array.mk.injEq, List.cons.injEq] at hh;obtain ⟨rfl, rfl, rfl, rfl, _⟩ := hh;exact ⟨_, _, _, _, rfl, g1, g5.mono HS2.out, g3, g4⟩
 have HB4 : Hid (Below w.heap.size w w4) := by
  rw [← hw4];exact Below.setCell (HB2.out.trans (hb3.mono HB2.out.size)) (Nat.le_refl _) _
 have HW4 := zH hw4;clear hw4 n1 n3 g5 hb3 hb3' hlt0 b0 b1 b2 b3 b4;go_wp2_with fail;refine zQs (fun _ => HC3) ?_
 refine zW 9 ?_;go_wp2_with fail;refine zQs (fun _ => HC3) ?_
 refine zW 10 ?_;go_wp2_with fail;refine zQs (fun h => (by cases h)) ?_
 refine zQe ?_;rw [HW4.out];clear p0 v0 vf0;have r0 := zz00 O1.out 0 _ rfl;have t0 := zz00 O3.out 0 _ rfl;have tf0 := zz04 O3.out 0;have r1 := zz00 O1.out 1 _ rfl;have t1 := zz00 O3.out 1 _ rfl;have tf1 := zz04 O3.out 1;have r2 := zz00 O1.out 2 _ rfl;have t2 := zz00 O3.out 2 _ rfl;have tf2 := zz04 O3.out 2;have r3 := zz00 O1.out 3 _ rfl;have t3 := zz00 O3.out 3 _ rfl;have tf3 := zz04 O3.out 3;have r4 := zz00 O1.out 4 _ rfl;have t4 := zz00 O3.out 4 _ rfl;have tf4 := zz04 O3.out 4;go_wp2_with fail;refine bodyPost_ret (v := .agg #[.slice A1 b.h.length c1', .slice A5 l5.length c5', .slice A3 b.o.length c3', .slice A4 b.r.length c4', b.n]) ?_ rfl ⟨_, rfl, ?_, ?_⟩
 ·simp [results, Tryz.results89, go_sem, t0, t1, t2, t3, t4]
 ·exact zt26
 ·exact zt31
theorem zz9y (v : Value) (l : List (List Int)) (x0 x1 x2 x3 x4 x5 id : Int) (out : Bool) (w : World) (hv : Hid (RowAt w v 6 l)) (hl : l.length ≤ 999999) (hr : Hid (riseH l)) :
  Calls Tryz.prog 152 #[v, .agg #[x0, x1, x2, x3, x4, x5], .int .i64 id, .func (.func 128) #[] #[], .bool out] w fun e w' => ∃ v', e = .returned v' ∧ RowOwn w' w.heap.size 82 v' 6 (setH id [x0, x1, x2, x3, x4, x5] out l) ∧ Below w.heap.size w w' := by
 obtain ⟨p, hp, hlt, _⟩ := placeH id hr.out;cases out with
 | false =>
  cases hF : (match l[p]? with | some r => decide (r.headD 0 = id) | none => false) with
  | false =>
   replace hF := hF.symm;have e := (show setH id [x0, x1, x2, x3, x4, x5] false l = l.take p ++ [x0, x1, x2, x3, x4, x5] :: l.drop p by rw [zz34 id [x0, x1, x2, x3, x4, x5] false hr.out hp hlt, ← hF]; simp)
   refine (zz9w v l x0 x1 x2 x3 x4 x5 id p w hv hl hp hlt hF).mono ?_;rintro x w' ⟨v', rfl, h1, h2⟩;exact ⟨v', rfl, by rw [e]; exact h1, h2⟩
  | true =>
   have hpl : p < l.length := by
    exact zt43
   replace hF := hF.symm;have e := (show setH id [x0, x1, x2, x3, x4, x5] false l = l.take p ++ [x0, x1, x2, x3, x4, x5] :: l.drop (p + 1) by rw [zz34 id [x0, x1, x2, x3, x4, x5] false hr.out hp hlt, ← hF]; simp)
   refine (zz9v v l x0 x1 x2 x3 x4 x5 id p w hv hl hpl hlt hF).mono ?_;rintro x w' ⟨v', rfl, h1, h2⟩;exact ⟨v', rfl, by rw [e]; exact h1, h2⟩
 | true =>
  cases hF : (match l[p]? with | some r => decide (r.headD 0 = id) | none => false) with
  | false =>
   replace hF := hF.symm;have e := (show setH id [x0, x1, x2, x3, x4, x5] true l = l by rw [zz34 id [x0, x1, x2, x3, x4, x5] true hr.out hp hlt, ← hF]; simp)
   refine (zz7u v l x0 x1 x2 x3 x4 x5 id p w hv hl hp hlt hF).mono ?_;rintro x w' ⟨v', rfl, h1, h2⟩;exact ⟨v', rfl, by rw [e]; exact h1, h2⟩
  | true =>
   have hpl : p < l.length := by
    exact zt43
   replace hF := hF.symm;have e := (show setH id [x0, x1, x2, x3, x4, x5] true l = l.take p ++ l.drop (p + 1) by rw [zz34 id [x0, x1, x2, x3, x4, x5] true hr.out hp hlt, ← hF]; simp)
   refine (zz9x v l x0 x1 x2 x3 x4 x5 id p w hv hl hpl hlt hF).mono ?_;rintro x w' ⟨v', rfl, h1, h2⟩;exact ⟨v', rfl, by rw [e]; exact h1, h2⟩
theorem zz3p (v : Value) (b : Bk) (x0 x1 x2 x3 x4 x5 : Int) (w : World) (hb : Hid (BkAt w v b)) (hs : Hid b.Small) (hr : Hid (riseH b.o)) :
  Calls Tryz.prog 85 #[v, .agg #[x0, x1, x2, x3, x4, x5]] w fun e w' => ∃ v', e = .returned v' ∧ BkOwn w' w.heap.size v' { b with o := setH x0 [x0, x1, x2, x3, x4, x5] (x4 == 0) b.o } ∧ Below w.heap.size w w' := by
 obtain ⟨vh, vs, vo, vr, rfl, h1, h2, h3, h4⟩ := hb.out;obtain ⟨w0, hw0⟩ : ∃ w0, ((w.alloc (.cells #[vh, vs, vo, vr, b.n] 27)).alloc (.cells #[x0, x1, x2, x3, x4, x5] 82)).alloc (.cells BZ 27) = w0 := ⟨_, rfl⟩;have HB0 : Hid (Below w.heap.size w w0) := by rw [← hw0]; exact zz01 (zz01 zBa (by simp) _) zo _
 have K1 : ZB w0 w.heap.size #[vh, vs, vo, vr, b.n] 27 := by rw [← hw0]; exact zz05 (zz05 (zz02 _ _) _) _
 have K2 : ZB w0 (w.heap.size + 1) #[x0, x1, x2, x3, x4, x5] 82 := by rw [← hw0]; exact zz05 (zz0d _ _ _ (by simp)) _
 have K3 : ZB w0 (w.heap.size + 2) BZ 27 := by rw [← hw0]; exact zz0d _ _ _ (by simp)
 have qc := zH (zz32 _ b w0 (BkAt.call ⟨vh, vs, vo, vr, rfl, h1, h2, h3, h4⟩ HB0.out) hs);have qp := zH (fun wz v hv => zz9y v b.o x0 x1 x2 x3 x4 x5 x0 (x4 == 0) wz hv zsm hr)
 obtain ⟨l5, hl5⟩ : ∃ l5, setH x0 [x0, x1, x2, x3, x4, x5] (x4 == 0) b.o = l5 := ⟨_, rfl⟩;rw [hl5] at qp ⊢;have hs0 : w.heap.size + 3 = w0.heap.size := by rw [← hw0]; simp
 have HS0 := zH hs0;have HW0 := zH hw0;clear hw0 h1 h2 h3 h4 hb hl5 hs0;go_in;go_wp2_with fail;rw [HW0.out];have a0 := zC K1.out;go_wp2_with fail;(with_reducible refine qc.out.mono ?_);rintro e w1 ⟨v1, rfl, ⟨uh, us, uo, ur, rfl, g1, g2, g3, g4⟩, hb1⟩;obtain ⟨A1, c1', rfl⟩ := g1.form;obtain ⟨A2, c2', rfl⟩ := g2.form;obtain ⟨A3, c3', rfl⟩ := g3.form;obtain ⟨A4, c4', rfl⟩ := g4.form;have m1 := zz06 K1.out hb1;have M2 := zK K2 hb1;have M3 := zK K3 hb1;have d0 := zC m1;have f0 := zF m1;have z0 := zC M2.out;obtain ⟨w2, hw2⟩ : ∃ w2, (((((w1.setCell ⟨w.heap.size, 0, none⟩ (.slice A1 b.h.length c1')).setCell ⟨w.heap.size, 1, none⟩ (.slice A2 b.s.length c2')).setCell ⟨w.heap.size, 2, none⟩ (.slice A3 b.o.length c3')).setCell ⟨w.heap.size, 3, none⟩ (.slice A4 b.r.length c4')).setCell ⟨w.heap.size, 4, none⟩ (.int .i64 b.n)) = w2 := ⟨_, rfl⟩;have N1 : ZB w2 w.heap.size (BF A1 c1' A2 c2' A3 c3' A4 c4' b b.n) 27 := by rw [← hw2]; exact zz0b (zz0b (zz0b (zz0b (zz0b m1 0 _) 1 _) 2 _) 3 _) 4 _
 have N2 : ZB w2 (w.heap.size + 1) #[x0, x1, x2, x3, x4, x5] 82 := by rw [← hw2]; exact zz09 (zz09 (zz09 (zz09 (zz09 M2.out 0 _ zw) 1 _ zw) 2 _ zw) 3 _ zw) 4 _ zw
 have N3 : ZB w2 (w.heap.size + 2) BZ 27 := by rw [← hw2]; exact zz09 (zz09 (zz09 (zz09 (zz09 M3.out 0 _ zw) 1 _ zw) 2 _ zw) 3 _ zw) 4 _ zw
 have hlt0 : w.heap.size < w0.heap.size := by have := HS0.out; omega
 have G : Hid (BkOwn w2 w0.heap.size (.agg (BF A1 c1' A2 c2' A3 c3' A4 c4' b b.n)) b) := by
  exact zt33
 have HB2 : Hid (Below w.heap.size w w2) := by
  exact zt38
 have hs2 : w0.heap.size ≤ w2.heap.size := by rw [← hw2]; simpa using hb1.size
 have HS2 := zH hs2;have HW2 := zH hw2;clear hw2 m1 g1 g2 g3 g4 hb1 hlt0 hs2;go_wp2_with fail;rw [HW2.out];clear a0 d0 f0 z0;have b0 := zC N1.out;have y0 := zC N2.out;have hrow : Hid (RowAt w2 (.slice A3 b.o.length c3') 6 b.o) := by
  obtain ⟨_, _, _, _, hh, g1, g2, g3, g4⟩ := G.out;injection hh with hh
  simp only [Array.mk.injEq, List.cons.injEq] at hh;obtain ⟨rfl, rfl, rfl, rfl, _⟩ := hh;exact g3.row
 (with_reducible refine (qp.out _ _ hrow).mono ?_);rintro e w3 ⟨v5, rfl, g5, hb3⟩
 obtain ⟨A5, c5', rfl⟩ := g5.form;have n1 := zz06 N1.out hb3;have n3 := zz06 N3.out hb3;have p0 := zC n1;have pf := zF n1;have v0 := zC n3;have vf0 := zF n3;obtain ⟨w4, hw4⟩ : ∃ w4, w3.setCell ⟨w.heap.size, 2, none⟩ (.slice A5 l5.length c5') = w4 := ⟨_, rfl⟩;have O1 : ZB w4 w.heap.size #[.slice A1 b.h.length c1', .slice A2 b.s.length c2', .slice A5 l5.length c5', .slice A4 b.r.length c4', b.n] 27 := by rw [← hw4]; exact zz0b n1 2 _
 have O3 : ZB w4 (w.heap.size + 2) BZ 27 := by rw [← hw4]; exact zz09 n3 2 _ zw
 have hlt0 : w.heap.size < w0.heap.size := by have := HS0.out; omega
 have G4 : Hid (BkOwn w4 w0.heap.size (.agg #[.slice A1 b.h.length c1', .slice A2 b.s.length c2', .slice A5 l5.length c5', .slice A4 b.r.length c4', b.n]) { b with o := l5 }) := by
  rw [← hw4];refine BkOwn.setBelow (a := ⟨_, _, _⟩) ?_ hlt0 _;obtain ⟨_, _, _, _, hh, g1, g2, g3, g4⟩ := G.out.kept hb3;injection hh with hh
  simp only [Array.mk.injEq, List.cons.injEq] at hh;obtain ⟨rfl, rfl, rfl, rfl, _⟩ := hh;exact ⟨_, _, _, _, rfl, g1, g2, g5.mono HS2.out, g4⟩
 have HB4 : Hid (Below w.heap.size w w4) := by
  rw [← hw4];exact Below.setCell (HB2.out.trans (hb3.mono HB2.out.size)) (Nat.le_refl _) _
 have HW4 := zH hw4;clear hw4 n1 n3 g5 hb3 hlt0 b0;go_wp2_with fail;rw [HW4.out];have r0 := zz00 O1.out 0 _ rfl;have t0 := zz00 O3.out 0 _ rfl;have tf0 := zz04 O3.out 0;have r1 := zz00 O1.out 1 _ rfl;have t1 := zz00 O3.out 1 _ rfl;have tf1 := zz04 O3.out 1;have r2 := zz00 O1.out 2 _ rfl;have t2 := zz00 O3.out 2 _ rfl;have tf2 := zz04 O3.out 2;have r3 := zz00 O1.out 3 _ rfl;have t3 := zz00 O3.out 3 _ rfl;have tf3 := zz04 O3.out 3;have r4 := zz00 O1.out 4 _ rfl;have t4 := zz00 O3.out 4 _ rfl;have tf4 := zz04 O3.out 4;refine bodyPost_ret (v := .agg #[.slice A1 b.h.length c1', .slice A2 b.s.length c2', .slice A5 l5.length c5', .slice A4 b.r.length c4', b.n]) ?_ rfl ⟨_, rfl, ?_, ?_⟩
 ·simp [results, Tryz.results85, go_sem, t0, t1, t2, t3, t4]
 ·exact zt26
 ·exact zt31
theorem zz9u (v : Value) (l : List (List Int)) (x0 x1 id : Int) (w : World) (hv : Hid (RowAt w v 2 l)) (hl : l.length ≤ 999999) (hr : Hid (riseH l)) :
  Calls Tryz.prog 142 #[v, .agg #[x0, x1], .int .i64 id, .func (.func 131) #[] #[], .bool false] w fun e w' => ∃ v', e = .returned v' ∧ RowOwn w' w.heap.size 84 v' 2 (setH id [x0, x1] false l) ∧ Below w.heap.size w w' := by
 obtain ⟨p, hp, hlt, _⟩ := placeH id hr.out;cases hF : (match l[p]? with | some r => decide (r.headD 0 = id) | none => false) with
 | false =>
  replace hF := hF.symm;have e := (show setH id [x0, x1] false l = l.take p ++ [x0, x1] :: l.drop p by rw [zz34 id [x0, x1] false hr.out hp hlt, ← hF]; simp)
  refine (zz9t v l x0 x1 id p w hv hl hp hlt hF).mono ?_;rintro x w' ⟨v', rfl, h1, h2⟩;exact ⟨v', rfl, by rw [e]; exact h1, h2⟩
 | true =>
  have hpl : p < l.length := by
   exact zt43
  replace hF := hF.symm;have e := (show setH id [x0, x1] false l = l.take p ++ [x0, x1] :: l.drop (p + 1) by rw [zz34 id [x0, x1] false hr.out hp hlt, ← hF]; simp)
  refine (zz9s v l x0 x1 id p w hv hl hpl hlt hF).mono ?_;rintro x w' ⟨v', rfl, h1, h2⟩;exact ⟨v', rfl, by rw [e]; exact h1, h2⟩
theorem zza7 (v : Value) (b : Bk) (x0 x1 : Int) (w : World) (hb : Hid (BkAt w v b)) (hs : Hid b.Small) (hr : Hid (riseH b.r)) :
  Calls Tryz.prog 75 #[v, .agg #[x0, x1]] w fun e w' => ∃ v', e = .returned v' ∧ BkOwn w' w.heap.size v' { b with r := setH x0 [x0, x1] false b.r } ∧ Below w.heap.size w w' := by
 obtain ⟨vh, vs, vo, vr, rfl, h1, h2, h3, h4⟩ := hb.out;obtain ⟨w0, hw0⟩ : ∃ w0, ((w.alloc (.cells #[vh, vs, vo, vr, b.n] 27)).alloc (.cells #[x0, x1] 84)).alloc (.cells BZ 27) = w0 := ⟨_, rfl⟩;have HB0 : Hid (Below w.heap.size w w0) := by rw [← hw0]; exact zz01 (zz01 zBa (by simp) _) zo _
 have K1 : ZB w0 w.heap.size #[vh, vs, vo, vr, b.n] 27 := by rw [← hw0]; exact zz05 (zz05 (zz02 _ _) _) _
 have K2 : ZB w0 (w.heap.size + 1) #[x0, x1] 84 := by rw [← hw0]; exact zz05 (zz0d _ _ _ (by simp)) _
 have K3 : ZB w0 (w.heap.size + 2) BZ 27 := by rw [← hw0]; exact zz0d _ _ _ (by simp)
 have qc := zH (zz32 _ b w0 (BkAt.call ⟨vh, vs, vo, vr, rfl, h1, h2, h3, h4⟩ HB0.out) hs);have qp := zH (fun wz v hv => zz9u v b.r x0 x1 x0 wz hv zsm hr)
 obtain ⟨l5, hl5⟩ : ∃ l5, setH x0 [x0, x1] false b.r = l5 := ⟨_, rfl⟩;rw [hl5] at qp ⊢;have hs0 : w.heap.size + 3 = w0.heap.size := by rw [← hw0]; simp
 have HS0 := zH hs0;have HW0 := zH hw0;clear hw0 h1 h2 h3 h4 hb hl5 hs0;go_in;go_wp2_with fail;rw [HW0.out];have a0 := zC K1.out;go_wp2_with fail;(with_reducible refine qc.out.mono ?_);rintro e w1 ⟨v1, rfl, ⟨uh, us, uo, ur, rfl, g1, g2, g3, g4⟩, hb1⟩;obtain ⟨A1, c1', rfl⟩ := g1.form;obtain ⟨A2, c2', rfl⟩ := g2.form;obtain ⟨A3, c3', rfl⟩ := g3.form;obtain ⟨A4, c4', rfl⟩ := g4.form;have m1 := zz06 K1.out hb1;have M2 := zK K2 hb1;have M3 := zK K3 hb1;have d0 := zC m1;have f0 := zF m1;have z0 := zC M2.out;obtain ⟨w2, hw2⟩ : ∃ w2, (((((w1.setCell ⟨w.heap.size, 0, none⟩ (.slice A1 b.h.length c1')).setCell ⟨w.heap.size, 1, none⟩ (.slice A2 b.s.length c2')).setCell ⟨w.heap.size, 2, none⟩ (.slice A3 b.o.length c3')).setCell ⟨w.heap.size, 3, none⟩ (.slice A4 b.r.length c4')).setCell ⟨w.heap.size, 4, none⟩ (.int .i64 b.n)) = w2 := ⟨_, rfl⟩;have N1 : ZB w2 w.heap.size (BF A1 c1' A2 c2' A3 c3' A4 c4' b b.n) 27 := by rw [← hw2]; exact zz0b (zz0b (zz0b (zz0b (zz0b m1 0 _) 1 _) 2 _) 3 _) 4 _
 have N2 : ZB w2 (w.heap.size + 1) #[x0, x1] 84 := by rw [← hw2]; exact zz09 (zz09 (zz09 (zz09 (zz09 M2.out 0 _ zw) 1 _ zw) 2 _ zw) 3 _ zw) 4 _ zw
 have N3 : ZB w2 (w.heap.size + 2) BZ 27 := by rw [← hw2]; exact zz09 (zz09 (zz09 (zz09 (zz09 M3.out 0 _ zw) 1 _ zw) 2 _ zw) 3 _ zw) 4 _ zw
 have hlt0 : w.heap.size < w0.heap.size := by have := HS0.out; omega
 have G : Hid (BkOwn w2 w0.heap.size (.agg (BF A1 c1' A2 c2' A3 c3' A4 c4' b b.n)) b) := by
  exact zt33
 have HB2 : Hid (Below w.heap.size w w2) := by
  exact zt38
 have hs2 : w0.heap.size ≤ w2.heap.size := by rw [← hw2]; simpa using hb1.size
 have HS2 := zH hs2;have HW2 := zH hw2;clear hw2 m1 g1 g2 g3 g4 hb1 hlt0 hs2;go_wp2_with fail;rw [HW2.out];clear a0 d0 f0 z0;have b0 := zC N1.out;have y0 := zC N2.out;have hrow : Hid (RowAt w2 (.slice A4 b.r.length c4') 2 b.r) := by
  obtain ⟨_, _, _, _, hh, g1, g2, g3, g4⟩ := G.out;injection hh with hh
  simp only [Array.mk.injEq, List.cons.injEq] at hh;obtain ⟨rfl, rfl, rfl, rfl, _⟩ := hh;exact g4.row
 (with_reducible refine (qp.out _ _ hrow).mono ?_);rintro e w3 ⟨v5, rfl, g5, hb3⟩
 obtain ⟨A5, c5', rfl⟩ := g5.form;have n1 := zz06 N1.out hb3;have n3 := zz06 N3.out hb3;have p0 := zC n1;have pf := zF n1;have v0 := zC n3;have vf0 := zF n3;obtain ⟨w4, hw4⟩ : ∃ w4, w3.setCell ⟨w.heap.size, 3, none⟩ (.slice A5 l5.length c5') = w4 := ⟨_, rfl⟩;have O1 : ZB w4 w.heap.size #[.slice A1 b.h.length c1', .slice A2 b.s.length c2', .slice A3 b.o.length c3', .slice A5 l5.length c5', b.n] 27 := by rw [← hw4]; exact zz0b n1 3 _
 have O3 : ZB w4 (w.heap.size + 2) BZ 27 := by rw [← hw4]; exact zz09 n3 3 _ zw
 have hlt0 : w.heap.size < w0.heap.size := by have := HS0.out; omega
 have G4 : Hid (BkOwn w4 w0.heap.size (.agg #[.slice A1 b.h.length c1', .slice A2 b.s.length c2', .slice A3 b.o.length c3', .slice A5 l5.length c5', b.n]) { b with r := l5 }) := by
  rw [← hw4];refine BkOwn.setBelow (a := ⟨_, _, _⟩) ?_ hlt0 _;obtain ⟨_, _, _, _, hh, g1, g2, g3, g4⟩ := G.out.kept hb3;injection hh with hh
  simp only [Array.mk.injEq, List.cons.injEq] at hh;obtain ⟨rfl, rfl, rfl, rfl, _⟩ := hh;exact ⟨_, _, _, _, rfl, g1, g2, g3, g5.mono HS2.out⟩
 have HB4 : Hid (Below w.heap.size w w4) := by
  rw [← hw4];exact Below.setCell (HB2.out.trans (hb3.mono HB2.out.size)) (Nat.le_refl _) _
 have HW4 := zH hw4;clear hw4 n1 n3 g5 hb3 hlt0 b0;go_wp2_with fail;rw [HW4.out];have r0 := zz00 O1.out 0 _ rfl;have t0 := zz00 O3.out 0 _ rfl;have tf0 := zz04 O3.out 0;have r1 := zz00 O1.out 1 _ rfl;have t1 := zz00 O3.out 1 _ rfl;have tf1 := zz04 O3.out 1;have r2 := zz00 O1.out 2 _ rfl;have t2 := zz00 O3.out 2 _ rfl;have tf2 := zz04 O3.out 2;have r3 := zz00 O1.out 3 _ rfl;have t3 := zz00 O3.out 3 _ rfl;have tf3 := zz04 O3.out 3;have r4 := zz00 O1.out 4 _ rfl;have t4 := zz00 O3.out 4 _ rfl;have tf4 := zz04 O3.out 4;refine bodyPost_ret (v := .agg #[.slice A1 b.h.length c1', .slice A2 b.s.length c2', .slice A3 b.o.length c3', .slice A5 l5.length c5', b.n]) ?_ rfl ⟨_, rfl, ?_, ?_⟩
 ·simp [results, Tryz.results75, go_sem, t0, t1, t2, t3, t4]
 ·exact zt26
 ·exact zt31
def riseHB : List (List Int) → Bool
 | a :: b :: t => decide (a.headD 0 < b.headD 0) && riseHB (b :: t)
 | _ => true
def stLt' (a b : List Int) : Prop := a.headD 0 < b.headD 0 ∨ a.headD 0 = b.headD 0 ∧ a.tail.headD 0 < b.tail.headD 0
instance (a b : List Int) : Decidable (stLt' a b) := by unfold stLt'; infer_instance
def riseSB : List (List Int) → Bool
 | a :: b :: t => decide (stLt' a b) && riseSB (b :: t)
 | _ => true
theorem zz6p : ∀ (l : List (List Int)), riseHB l = true ↔ riseH l
 | [] => by simp [riseHB, riseH]
 | [a] => by simp [riseHB, riseH]
 | a :: b :: t => by
  rw [riseHB, Bool.and_eq_true, zz6p (b :: t), decide_eq_true_eq];unfold riseH;rw [List.pairwise_cons (a := a)];constructor
  ·rintro ⟨h1, h2⟩
   refine ⟨fun x hx => ?_, h2⟩
   rcases List.mem_cons.1 hx with rfl | hx
   ·exact h1
   ·have := (List.pairwise_cons.1 h2).1 x hx; omega
  ·rintro ⟨h1, h2⟩
   exact ⟨h1 b (by simp), h2⟩
theorem zz6o : ∀ (l : List (List Int)), riseSB l = true ↔ riseS l
 | [] => by simp [riseSB, riseS]
 | [a] => by simp [riseSB, riseS]
 | a :: b :: t => by
  rw [riseSB, Bool.and_eq_true, zz6o (b :: t), decide_eq_true_eq];unfold riseS;rw [List.pairwise_cons (a := a)];constructor
  ·rintro ⟨h1, h2⟩
   refine ⟨fun x hx => ?_, h2⟩
   rcases List.mem_cons.1 hx with rfl | hx
   ·exact h1
   ·have := (List.pairwise_cons.1 h2).1 x hx; unfold stLt at this ⊢; unfold stLt' at h1; omega
  ·rintro ⟨h1, h2⟩
   exact ⟨h1 b (by simp), h2⟩
theorem zzbr {α : Type} {l : List α} {i : Nat} {a b : α} (ha : l[i]? = some a) (hb : l[i + 1]? = some b) : l.drop i = a :: b :: l.drop (i + 2) := by
 obtain ⟨h1, rfl⟩ := List.getElem?_eq_some_iff.1 ha;obtain ⟨h2, rfl⟩ := List.getElem?_eq_some_iff.1 hb;rw [List.drop_eq_getElem_cons h1, List.drop_eq_getElem_cons h2]
theorem zz3k {l : List (List Int)} {i : Nat} {a b : List Int} (ha : l[i]? = some a) (hb : l[i + 1]? = some b) : riseHB (l.drop i) = (decide (a.headD 0 < b.headD 0) && riseHB (l.drop (i + 1))) := by
 rw [zzbr ha hb];obtain ⟨h2, rfl⟩ := List.getElem?_eq_some_iff.1 hb;rw [List.drop_eq_getElem_cons h2, riseHB]
theorem zz9j {l : List (List Int)} {i : Nat} {a b : List Int} (ha : l[i]? = some a) (hb : l[i + 1]? = some b) : riseSB (l.drop i) = (decide (stLt' a b) && riseSB (l.drop (i + 1))) := by
 rw [zzbr ha hb];obtain ⟨h2, rfl⟩ := List.getElem?_eq_some_iff.1 hb;rw [List.drop_eq_getElem_cons h2, riseSB]
theorem zzat {l : List (List Int)} {i : Nat} (h : l.length ≤ i + 1) : riseHB (l.drop i) = true := by
 have : (l.drop i).length ≤ 1 := by simp; omega
 match l.drop i, this with
 | [], _ => rfl
 | [a], _ => rfl
theorem zzas {l : List (List Int)} {i : Nat} (h : l.length ≤ i + 1) : riseSB (l.drop i) = true := by
 have : (l.drop i).length ≤ 1 := by simp; omega
 match l.drop i, this with
 | [], _ => rfl
 | [a], _ => rfl
def Bk.riseB (b : Bk) : Bool := riseHB b.h && (riseHB b.o && (riseHB b.r && riseSB b.s))
theorem Bk.riseB_iff (b : Bk) : b.riseB = true ↔ b.Rise := by
 unfold Bk.riseB Bk.Rise;simp only [Bool.and_eq_true, zz6p, zz6o]
theorem orI_ge (a b x y : Int) : decide (0 ≤ orI (cmpI a x) (cmpI b y)) = !decide (a < x ∨ a = x ∧ b < y) := by
 unfold orI cmpI;by_cases h : a < x ∨ a = x ∧ b < y
 ·rw [decide_eq_true h]
  refine decide_eq_false ?_
  split <;> split <;> omega
 ·rw [decide_eq_false h]
  refine decide_eq_true ?_
  split <;> split <;> omega
theorem zzbw (a b : Int) : decide (0 ≤ cmpI a b) = !decide (a < b) := by
 unfold cmpI;by_cases h : a < b
 ·rw [decide_eq_true h, if_pos h]; rfl
 ·rw [decide_eq_false h, if_neg h]
  split <;> rfl
theorem zz71 (y0 y1 y2 y3 : Int) (w : World) : Calls Tryz.prog 124 #[.agg #[y0, y1, y2, y3]] w fun e w' => e = .returned (.int .i64 y0) ∧ Below w.heap.size w w' := by
 go_in;go_wp2_with fail;go_ret;exact ⟨rfl, zBa⟩
theorem zt15 {p : Prop} (h : p := by
 have hst2 := zH (hrest.out.trans hst);clear hst hlt;go_wp2_with fail;refine zz12 zk zk ?_
 repeat (go_big_quiet_step (first | (with_reducible exact zz2b (qk1.out _)) | (with_reducible exact zz2b (qb1.out _))))
 refine wpQuiet_nil ?_;rintro w2 ⟨y, rfl⟩;have HB2 := zH (hBr.out.trans (y.below.mono hBr.out.size));go_wp2_with fail;go_roundw
 case rel => exact ⟨j + 1, by go_num, by show _ ≤ _; omega, hst2.out, HB2.out⟩
 case measure => simp [intOf]; omega) : p := h
theorem zt19 {p : Prop} (h : p := by
 have hst2 := zH (hrest.out.trans hst);clear hst hlt;go_wp2_with fail;refine zz12 zk zk ?_
 repeat (go_big_quiet_step (first | (with_reducible exact zz2b (qk1.out _)) | (with_reducible exact zz2b (qb1.out _))))
 refine wpQuiet_nil ?_;rintro w2 ⟨y, rfl⟩;have HB2 := zH (hBr.out.trans (y.below.mono hBr.out.size));go_wp2_with fail;go_ret;have hR : Res = false := hRes.out.symm.trans hst2.out;subst hR;exact ⟨rfl, HB2.out⟩) : p := h
theorem zt44 {p : Prop} (h : p := by
 have tn : decide ((j : Int) + 1 < (l.length : Int)) = false := decide_eq_false zw;have hR : Hid (Res = true) := (show _ = _ from hRes.out.symm.trans (hrest.out.trans (zzat zw)))
 clear hrest hjl hRes;obtain rfl := hR.out;go_wp2_with fail;go_ret;exact ⟨rfl, hBr.out⟩) : p := h
theorem zz4e (v : Value) (l : List (List Int)) (w : World) (hv : Hid (RecAt w v 4 l)) (hl : l.length ≤ 1000000) :
  Calls Tryz.prog 123 #[v, .func (.func 124) #[] #[], .func (.func 125) #[] #[]] w fun e w' => e = .returned (.bool (riseHB l)) ∧ Below w.heap.size w w' := by
 obtain ⟨A, c, rfl, hi⟩ := hv.out;have HI := zH hi;clear hi hv;have qk := zH (fun x0 x1 x2 x3 w => zz71 x0 x1 x2 x3 w)
 have qb := zH (fun x0 x1 x2 x3 id w => zz4u x0 x1 x2 x3 id w)
 obtain ⟨Res, hRes⟩ : ∃ Res, riseHB l = Res := ⟨_, rfl⟩;rw [hRes];replace hRes := zH hRes;go_in;go_wp2_with fail;go_loopw [7] (fun s6 wr => ∃ j : Nat, s6 = .int .i64 ((j : Int) + 1) ∧ Hid (j ≤ l.length) ∧ Hid (riseHB l = riseHB (l.drop j)) ∧ Hid (Below w.heap.size w wr)) (fun s6 _ => l.length + 1 - (intOf s6).toNat)
 case atStart => exact ⟨0, rfl, Nat.zero_le _, rfl, Below.refl _ _⟩
 case round =>
  obtain ⟨j, rfl, hjl, hrest, hBr⟩ := hrel;replace hjl := hjl.out;by_cases hin : j + 1 < l.length
  ·have tn : decide ((j : Int) + 1 < (l.length : Int)) = true := decide_eq_true zw
   have hge : l[j]? = some l[j] := List.getElem?_eq_getElem zw;have hge2 : l[j + 1]? = some l[j + 1] := List.getElem?_eq_getElem hin;obtain ⟨hk, b0, o0, hA0, hbl, hc⟩ := HI.out j _ hge;obtain ⟨hk2, b0', o0', hA0', hbl', hc2⟩ := HI.out (j + 1) _ hge2;subst hA0;injection hA0' with hA0'
   injection hA0' with hx1 hx2
   subst hx1 hx2;have hst := zH (zz3k hge hge2);clear hge hge2;generalize l[j] = r at *;generalize l[j + 1] = r2 at *;obtain ⟨y0, y1, y2, y3, rfl⟩ : ∃ y0 y1 y2 y3, r = [y0, y1, y2, y3] := by
    match r, hk with
    | [y0, y1, y2, y3], _ => exact ⟨y0, y1, y2, y3, rfl⟩
   obtain ⟨z0, z1, z2, z3, rfl⟩ : ∃ z0 z1 z2 z3, r2 = [z0, z1, z2, z3] := by
    match r2, hk2 with
    | [z0, z1, z2, z3], _ => exact ⟨z0, z1, z2, z3, rfl⟩
   have c0 : wr.cell? ⟨b0, o0 + j * 4, none⟩ = some (.int .i64 y0) := (hBr.out.cell (p := ⟨b0, o0 + j * 4 + 0, none⟩) hbl).trans (hc 0 _ rfl);have d0 : wr.cell? ⟨b0, o0 + (j + 1) * 4, none⟩ = some (.int .i64 z0) := (hBr.out.cell (p := ⟨b0, o0 + (j + 1) * 4 + 0, none⟩) hbl).trans (hc2 0 _ rfl);have c1 : wr.cell? ⟨b0, o0 + j * 4 + 1, none⟩ = some (.int .i64 y1) := (hBr.out.cell (p := ⟨b0, o0 + j * 4 + 1, none⟩) hbl).trans (hc 1 _ rfl);have d1 : wr.cell? ⟨b0, o0 + (j + 1) * 4 + 1, none⟩ = some (.int .i64 z1) := (hBr.out.cell (p := ⟨b0, o0 + (j + 1) * 4 + 1, none⟩) hbl).trans (hc2 1 _ rfl);have c2 : wr.cell? ⟨b0, o0 + j * 4 + 2, none⟩ = some (.int .i64 y2) := (hBr.out.cell (p := ⟨b0, o0 + j * 4 + 2, none⟩) hbl).trans (hc 2 _ rfl);have d2 : wr.cell? ⟨b0, o0 + (j + 1) * 4 + 2, none⟩ = some (.int .i64 z2) := (hBr.out.cell (p := ⟨b0, o0 + (j + 1) * 4 + 2, none⟩) hbl).trans (hc2 2 _ rfl);have c3 : wr.cell? ⟨b0, o0 + j * 4 + 3, none⟩ = some (.int .i64 y3) := (hBr.out.cell (p := ⟨b0, o0 + j * 4 + 3, none⟩) hbl).trans (hc 3 _ rfl);have d3 : wr.cell? ⟨b0, o0 + (j + 1) * 4 + 3, none⟩ = some (.int .i64 z3) := (hBr.out.cell (p := ⟨b0, o0 + (j + 1) * 4 + 3, none⟩) hbl).trans (hc2 3 _ rfl);have hm0 : IntKind.i64.wrap ((j : Int) + 1 - 1) = (j : Int) := by rw [IntKind.wrap_i64]; omega
   have hm1 : (j : Int) + 1 - 1 = (j : Int) := by omega
   have htn : ((j : Int) + 1).toNat = j + 1 := by omega
   have hb1 : (0 : Int) ≤ (j : Int) + 1 := by omega
   have hb2 : (j : Int) + 1 < (l.length : Int) := by omega
   have hb3 : (j : Int) < (l.length : Int) := by omega
   have hmj : IntKind.i64.wrap (j : Int) = (j : Int) := by rw [IntKind.wrap_i64]; omega
   have hbl3 : b0 < wr.heap.size := Nat.lt_of_lt_of_le hbl hBr.out.size;have hw2 : IntKind.i64.wrap ((j : Int) + 1 + 1) = (j : Int) + 1 + 1 := by rw [IntKind.wrap_i64]; omega
   obtain ⟨CC, hCC⟩ : ∃ CC, cmpI y0 z0 = CC := ⟨_, rfl⟩;have tt := zzbw y0 z0;rw [hCC] at tt;have qk1 := zH (fun w => qk.out z0 z1 z2 z3 w)
   have qb1 := zH (fun w => qb.out y0 y1 y2 y3 z0 w)
   rw [hCC] at qb1;clear hCC hc hc2 hk hk2;by_cases hlt : y0 < z0
   ·rw [decide_eq_true hlt] at tt
    have tt : decide (0 ≤ CC) = false := tt;have t3 : CC < 0 := by have := of_decide_eq_false tt; omega
    replace hst := hst.out;rw [show decide (([y0, y1, y2, y3] : List Int).headD 0 < ([z0, z1, z2, z3] : List Int).headD 0) = true from decide_eq_true hlt, Bool.true_and] at hst
    exact zt15
   ·rw [decide_eq_false hlt] at tt
    have tt : decide (0 ≤ CC) = true := tt;have t3 : 0 ≤ CC := of_decide_eq_true tt;replace hst := hst.out;rw [show decide (([y0, y1, y2, y3] : List Int).headD 0 < ([z0, z1, z2, z3] : List Int).headD 0) = false from decide_eq_false hlt, Bool.false_and] at hst
    exact zt19
  ·exact zt44
theorem zz9z (y0 y1 y2 y3 y4 y5 : Int) (w : World) : Calls Tryz.prog 127 #[.agg #[y0, y1, y2, y3, y4, y5]] w fun e w' => e = .returned (.int .i64 y0) ∧ Below w.heap.size w w' := by
 go_in;go_wp2_with fail;go_ret;exact ⟨rfl, zBa⟩
theorem zz5q (v : Value) (l : List (List Int)) (w : World) (hv : Hid (RecAt w v 6 l)) (hl : l.length ≤ 1000000) :
  Calls Tryz.prog 126 #[v, .func (.func 127) #[] #[], .func (.func 128) #[] #[]] w fun e w' => e = .returned (.bool (riseHB l)) ∧ Below w.heap.size w w' := by
 obtain ⟨A, c, rfl, hi⟩ := hv.out;have HI := zH hi;clear hi hv;have qk := zH (fun x0 x1 x2 x3 x4 x5 w => zz9z x0 x1 x2 x3 x4 x5 w)
 have qb := zH (fun x0 x1 x2 x3 x4 x5 id w => zz78 x0 x1 x2 x3 x4 x5 id w)
 obtain ⟨Res, hRes⟩ : ∃ Res, riseHB l = Res := ⟨_, rfl⟩;rw [hRes];replace hRes := zH hRes;go_in;go_wp2_with fail;go_loopw [7] (fun s6 wr => ∃ j : Nat, s6 = .int .i64 ((j : Int) + 1) ∧ Hid (j ≤ l.length) ∧ Hid (riseHB l = riseHB (l.drop j)) ∧ Hid (Below w.heap.size w wr)) (fun s6 _ => l.length + 1 - (intOf s6).toNat)
 case atStart => exact ⟨0, rfl, Nat.zero_le _, rfl, Below.refl _ _⟩
 case round =>
  obtain ⟨j, rfl, hjl, hrest, hBr⟩ := hrel;replace hjl := hjl.out;by_cases hin : j + 1 < l.length
  ·have tn : decide ((j : Int) + 1 < (l.length : Int)) = true := decide_eq_true zw
   have hge : l[j]? = some l[j] := List.getElem?_eq_getElem zw;have hge2 : l[j + 1]? = some l[j + 1] := List.getElem?_eq_getElem hin;obtain ⟨hk, b0, o0, hA0, hbl, hc⟩ := HI.out j _ hge;obtain ⟨hk2, b0', o0', hA0', hbl', hc2⟩ := HI.out (j + 1) _ hge2;subst hA0;injection hA0' with hA0'
   injection hA0' with hx1 hx2
   subst hx1 hx2;have hst := zH (zz3k hge hge2);clear hge hge2;generalize l[j] = r at *;generalize l[j + 1] = r2 at *;obtain ⟨y0, y1, y2, y3, y4, y5, rfl⟩ : ∃ y0 y1 y2 y3 y4 y5, r = [y0, y1, y2, y3, y4, y5] := by
    match r, hk with
    | [y0, y1, y2, y3, y4, y5], _ => exact ⟨y0, y1, y2, y3, y4, y5, rfl⟩
   obtain ⟨z0, z1, z2, z3, z4, z5, rfl⟩ : ∃ z0 z1 z2 z3 z4 z5, r2 = [z0, z1, z2, z3, z4, z5] := by
    match r2, hk2 with
    | [z0, z1, z2, z3, z4, z5], _ => exact ⟨z0, z1, z2, z3, z4, z5, rfl⟩
   have c0 : wr.cell? ⟨b0, o0 + j * 6, none⟩ = some (.int .i64 y0) := (hBr.out.cell (p := ⟨b0, o0 + j * 6 + 0, none⟩) hbl).trans (hc 0 _ rfl);have d0 : wr.cell? ⟨b0, o0 + (j + 1) * 6, none⟩ = some (.int .i64 z0) := (hBr.out.cell (p := ⟨b0, o0 + (j + 1) * 6 + 0, none⟩) hbl).trans (hc2 0 _ rfl);have c1 : wr.cell? ⟨b0, o0 + j * 6 + 1, none⟩ = some (.int .i64 y1) := (hBr.out.cell (p := ⟨b0, o0 + j * 6 + 1, none⟩) hbl).trans (hc 1 _ rfl);have d1 : wr.cell? ⟨b0, o0 + (j + 1) * 6 + 1, none⟩ = some (.int .i64 z1) := (hBr.out.cell (p := ⟨b0, o0 + (j + 1) * 6 + 1, none⟩) hbl).trans (hc2 1 _ rfl);have c2 : wr.cell? ⟨b0, o0 + j * 6 + 2, none⟩ = some (.int .i64 y2) := (hBr.out.cell (p := ⟨b0, o0 + j * 6 + 2, none⟩) hbl).trans (hc 2 _ rfl);have d2 : wr.cell? ⟨b0, o0 + (j + 1) * 6 + 2, none⟩ = some (.int .i64 z2) := (hBr.out.cell (p := ⟨b0, o0 + (j + 1) * 6 + 2, none⟩) hbl).trans (hc2 2 _ rfl);have c3 : wr.cell? ⟨b0, o0 + j * 6 + 3, none⟩ = some (.int .i64 y3) := (hBr.out.cell (p := ⟨b0, o0 + j * 6 + 3, none⟩) hbl).trans (hc 3 _ rfl);have d3 : wr.cell? ⟨b0, o0 + (j + 1) * 6 + 3, none⟩ = some (.int .i64 z3) := (hBr.out.cell (p := ⟨b0, o0 + (j + 1) * 6 + 3, none⟩) hbl).trans (hc2 3 _ rfl);have c4 : wr.cell? ⟨b0, o0 + j * 6 + 4, none⟩ = some (.int .i64 y4) := (hBr.out.cell (p := ⟨b0, o0 + j * 6 + 4, none⟩) hbl).trans (hc 4 _ rfl);have d4 : wr.cell? ⟨b0, o0 + (j + 1) * 6 + 4, none⟩ = some (.int .i64 z4) := (hBr.out.cell (p := ⟨b0, o0 + (j + 1) * 6 + 4, none⟩) hbl).trans (hc2 4 _ rfl);have c5 : wr.cell? ⟨b0, o0 + j * 6 + 5, none⟩ = some (.int .i64 y5) := (hBr.out.cell (p := ⟨b0, o0 + j * 6 + 5, none⟩) hbl).trans (hc 5 _ rfl);have d5 : wr.cell? ⟨b0, o0 + (j + 1) * 6 + 5, none⟩ = some (.int .i64 z5) := (hBr.out.cell (p := ⟨b0, o0 + (j + 1) * 6 + 5, none⟩) hbl).trans (hc2 5 _ rfl);have hm0 : IntKind.i64.wrap ((j : Int) + 1 - 1) = (j : Int) := by rw [IntKind.wrap_i64]; omega
   have hm1 : (j : Int) + 1 - 1 = (j : Int) := by omega
   have htn : ((j : Int) + 1).toNat = j + 1 := by omega
   have hb1 : (0 : Int) ≤ (j : Int) + 1 := by omega
   have hb2 : (j : Int) + 1 < (l.length : Int) := by omega
   have hb3 : (j : Int) < (l.length : Int) := by omega
   have hmj : IntKind.i64.wrap (j : Int) = (j : Int) := by rw [IntKind.wrap_i64]; omega
   have hbl3 : b0 < wr.heap.size := Nat.lt_of_lt_of_le hbl hBr.out.size;have hw2 : IntKind.i64.wrap ((j : Int) + 1 + 1) = (j : Int) + 1 + 1 := by rw [IntKind.wrap_i64]; omega
   obtain ⟨CC, hCC⟩ : ∃ CC, cmpI y0 z0 = CC := ⟨_, rfl⟩;have tt := zzbw y0 z0;rw [hCC] at tt;have qk1 := zH (fun w => qk.out z0 z1 z2 z3 z4 z5 w)
   have qb1 := zH (fun w => qb.out y0 y1 y2 y3 y4 y5 z0 w)
   rw [hCC] at qb1;clear hCC hc hc2 hk hk2;by_cases hlt : y0 < z0
   ·rw [decide_eq_true hlt] at tt
    have tt : decide (0 ≤ CC) = false := tt;have t3 : CC < 0 := by have := of_decide_eq_false tt; omega
    replace hst := hst.out;rw [show decide (([y0, y1, y2, y3, y4, y5] : List Int).headD 0 < ([z0, z1, z2, z3, z4, z5] : List Int).headD 0) = true from decide_eq_true hlt, Bool.true_and] at hst
    exact zt15
   ·rw [decide_eq_false hlt] at tt
    have tt : decide (0 ≤ CC) = true := tt;have t3 : 0 ≤ CC := of_decide_eq_true tt;replace hst := hst.out;rw [show decide (([y0, y1, y2, y3, y4, y5] : List Int).headD 0 < ([z0, z1, z2, z3, z4, z5] : List Int).headD 0) = false from decide_eq_false hlt, Bool.false_and] at hst
    exact zt19
  ·exact zt44
theorem zz9l (y0 y1 : Int) (w : World) : Calls Tryz.prog 130 #[.agg #[y0, y1]] w fun e w' => e = .returned (.int .i64 y0) ∧ Below w.heap.size w w' := by
 go_in;go_wp2_with fail;go_ret;exact ⟨rfl, zBa⟩
theorem zz5p (v : Value) (l : List (List Int)) (w : World) (hv : Hid (RecAt w v 2 l)) (hl : l.length ≤ 1000000) :
  Calls Tryz.prog 129 #[v, .func (.func 130) #[] #[], .func (.func 131) #[] #[]] w fun e w' => e = .returned (.bool (riseHB l)) ∧ Below w.heap.size w w' := by
 obtain ⟨A, c, rfl, hi⟩ := hv.out;have HI := zH hi;clear hi hv;have qk := zH (fun x0 x1 w => zz9l x0 x1 w)
 have qb := zH (fun x0 x1 id w => zz77 x0 x1 id w)
 obtain ⟨Res, hRes⟩ : ∃ Res, riseHB l = Res := ⟨_, rfl⟩;rw [hRes];replace hRes := zH hRes;go_in;go_wp2_with fail;go_loopw [7] (fun s6 wr => ∃ j : Nat, s6 = .int .i64 ((j : Int) + 1) ∧ Hid (j ≤ l.length) ∧ Hid (riseHB l = riseHB (l.drop j)) ∧ Hid (Below w.heap.size w wr)) (fun s6 _ => l.length + 1 - (intOf s6).toNat)
 case atStart => exact ⟨0, rfl, Nat.zero_le _, rfl, Below.refl _ _⟩
 case round =>
  obtain ⟨j, rfl, hjl, hrest, hBr⟩ := hrel;replace hjl := hjl.out;by_cases hin : j + 1 < l.length
  ·have tn : decide ((j : Int) + 1 < (l.length : Int)) = true := decide_eq_true zw
   have hge : l[j]? = some l[j] := List.getElem?_eq_getElem zw;have hge2 : l[j + 1]? = some l[j + 1] := List.getElem?_eq_getElem hin;obtain ⟨hk, b0, o0, hA0, hbl, hc⟩ := HI.out j _ hge;obtain ⟨hk2, b0', o0', hA0', hbl', hc2⟩ := HI.out (j + 1) _ hge2;subst hA0;injection hA0' with hA0'
   injection hA0' with hx1 hx2
   subst hx1 hx2;have hst := zH (zz3k hge hge2);clear hge hge2;generalize l[j] = r at *;generalize l[j + 1] = r2 at *;obtain ⟨y0, y1, rfl⟩ : ∃ y0 y1, r = [y0, y1] := by
    match r, hk with
    | [y0, y1], _ => exact ⟨y0, y1, rfl⟩
   obtain ⟨z0, z1, rfl⟩ : ∃ z0 z1, r2 = [z0, z1] := by
    match r2, hk2 with
    | [z0, z1], _ => exact ⟨z0, z1, rfl⟩
   have c0 : wr.cell? ⟨b0, o0 + j * 2, none⟩ = some (.int .i64 y0) := (hBr.out.cell (p := ⟨b0, o0 + j * 2 + 0, none⟩) hbl).trans (hc 0 _ rfl);have d0 : wr.cell? ⟨b0, o0 + (j + 1) * 2, none⟩ = some (.int .i64 z0) := (hBr.out.cell (p := ⟨b0, o0 + (j + 1) * 2 + 0, none⟩) hbl).trans (hc2 0 _ rfl);have c1 : wr.cell? ⟨b0, o0 + j * 2 + 1, none⟩ = some (.int .i64 y1) := (hBr.out.cell (p := ⟨b0, o0 + j * 2 + 1, none⟩) hbl).trans (hc 1 _ rfl);have d1 : wr.cell? ⟨b0, o0 + (j + 1) * 2 + 1, none⟩ = some (.int .i64 z1) := (hBr.out.cell (p := ⟨b0, o0 + (j + 1) * 2 + 1, none⟩) hbl).trans (hc2 1 _ rfl);have hm0 : IntKind.i64.wrap ((j : Int) + 1 - 1) = (j : Int) := by rw [IntKind.wrap_i64]; omega
   have hm1 : (j : Int) + 1 - 1 = (j : Int) := by omega
   have htn : ((j : Int) + 1).toNat = j + 1 := by omega
   have hb1 : (0 : Int) ≤ (j : Int) + 1 := by omega
   have hb2 : (j : Int) + 1 < (l.length : Int) := by omega
   have hb3 : (j : Int) < (l.length : Int) := by omega
   have hmj : IntKind.i64.wrap (j : Int) = (j : Int) := by rw [IntKind.wrap_i64]; omega
   have hbl3 : b0 < wr.heap.size := Nat.lt_of_lt_of_le hbl hBr.out.size;have hw2 : IntKind.i64.wrap ((j : Int) + 1 + 1) = (j : Int) + 1 + 1 := by rw [IntKind.wrap_i64]; omega
   obtain ⟨CC, hCC⟩ : ∃ CC, cmpI y0 z0 = CC := ⟨_, rfl⟩;have tt := zzbw y0 z0;rw [hCC] at tt;have qk1 := zH (fun w => qk.out z0 z1 w)
   have qb1 := zH (fun w => qb.out y0 y1 z0 w)
   rw [hCC] at qb1;clear hCC hc hc2 hk hk2;by_cases hlt : y0 < z0
   ·rw [decide_eq_true hlt] at tt
    have tt : decide (0 ≤ CC) = false := tt;have t3 : CC < 0 := by have := of_decide_eq_false tt; omega
    replace hst := hst.out;rw [show decide (([y0, y1] : List Int).headD 0 < ([z0, z1] : List Int).headD 0) = true from decide_eq_true hlt, Bool.true_and] at hst
    exact zt15
   ·rw [decide_eq_false hlt] at tt
    have tt : decide (0 ≤ CC) = true := tt;have t3 : 0 ≤ CC := of_decide_eq_true tt;replace hst := hst.out;rw [show decide (([y0, y1] : List Int).headD 0 < ([z0, z1] : List Int).headD 0) = false from decide_eq_false hlt, Bool.false_and] at hst
    exact zt19
  ·exact zt44
theorem zz53 (v : Value) (l : List (List Int)) (w : World) (hv : Hid (RecAt w v 3 l)) (hl : l.length ≤ 1000000) :
  Calls Tryz.prog 132 #[v, .func (.func 133) #[] #[], .func (.func 134) #[] #[]] w fun e w' => e = .returned (.bool (riseSB l)) ∧ Below w.heap.size w w' := by
 obtain ⟨A, c, rfl, hi⟩ := hv.out;have HI := zH hi;clear hi hv;have qk := zH (fun x0 x1 x2 w => zz49 x0 x1 x2 w)
 have qb := zH (fun x0 x1 x2 kx ky w => zz5i x0 x1 x2 kx ky w)
 obtain ⟨Res, hRes⟩ : ∃ Res, riseSB l = Res := ⟨_, rfl⟩;rw [hRes];replace hRes := zH hRes;go_in;go_wp2_with fail;go_loopw [7] (fun s6 wr => ∃ j : Nat, s6 = .int .i64 ((j : Int) + 1) ∧ Hid (j ≤ l.length) ∧ Hid (riseSB l = riseSB (l.drop j)) ∧ Hid (Below w.heap.size w wr)) (fun s6 _ => l.length + 1 - (intOf s6).toNat)
 case atStart => exact ⟨0, rfl, Nat.zero_le _, rfl, Below.refl _ _⟩
 case round =>
  obtain ⟨j, rfl, hjl, hrest, hBr⟩ := hrel;replace hjl := hjl.out;by_cases hin : j + 1 < l.length
  ·have tn : decide ((j : Int) + 1 < (l.length : Int)) = true := decide_eq_true zw
   have hge : l[j]? = some l[j] := List.getElem?_eq_getElem zw;have hge2 : l[j + 1]? = some l[j + 1] := List.getElem?_eq_getElem hin;obtain ⟨hk, b0, o0, hA0, hbl, hc⟩ := HI.out j _ hge;obtain ⟨hk2, b0', o0', hA0', hbl', hc2⟩ := HI.out (j + 1) _ hge2;subst hA0;injection hA0' with hA0'
   injection hA0' with hx1 hx2
   subst hx1 hx2;have hst := zH (zz9j hge hge2);clear hge hge2;generalize l[j] = r at *;generalize l[j + 1] = r2 at *;obtain ⟨y0, y1, y2, rfl⟩ : ∃ y0 y1 y2, r = [y0, y1, y2] := by
    match r, hk with
    | [y0, y1, y2], _ => exact ⟨y0, y1, y2, rfl⟩
   obtain ⟨z0, z1, z2, rfl⟩ : ∃ z0 z1 z2, r2 = [z0, z1, z2] := by
    match r2, hk2 with
    | [z0, z1, z2], _ => exact ⟨z0, z1, z2, rfl⟩
   have c0 : wr.cell? ⟨b0, o0 + j * 3, none⟩ = some (.int .i64 y0) := (hBr.out.cell (p := ⟨b0, o0 + j * 3 + 0, none⟩) hbl).trans (hc 0 _ rfl);have d0 : wr.cell? ⟨b0, o0 + (j + 1) * 3, none⟩ = some (.int .i64 z0) := (hBr.out.cell (p := ⟨b0, o0 + (j + 1) * 3 + 0, none⟩) hbl).trans (hc2 0 _ rfl);have c1 : wr.cell? ⟨b0, o0 + j * 3 + 1, none⟩ = some (.int .i64 y1) := (hBr.out.cell (p := ⟨b0, o0 + j * 3 + 1, none⟩) hbl).trans (hc 1 _ rfl);have d1 : wr.cell? ⟨b0, o0 + (j + 1) * 3 + 1, none⟩ = some (.int .i64 z1) := (hBr.out.cell (p := ⟨b0, o0 + (j + 1) * 3 + 1, none⟩) hbl).trans (hc2 1 _ rfl);have c2 : wr.cell? ⟨b0, o0 + j * 3 + 2, none⟩ = some (.int .i64 y2) := (hBr.out.cell (p := ⟨b0, o0 + j * 3 + 2, none⟩) hbl).trans (hc 2 _ rfl);have d2 : wr.cell? ⟨b0, o0 + (j + 1) * 3 + 2, none⟩ = some (.int .i64 z2) := (hBr.out.cell (p := ⟨b0, o0 + (j + 1) * 3 + 2, none⟩) hbl).trans (hc2 2 _ rfl);have hm0 : IntKind.i64.wrap ((j : Int) + 1 - 1) = (j : Int) := by rw [IntKind.wrap_i64]; omega
   have hm1 : (j : Int) + 1 - 1 = (j : Int) := by omega
   have htn : ((j : Int) + 1).toNat = j + 1 := by omega
   have hb1 : (0 : Int) ≤ (j : Int) + 1 := by omega
   have hb2 : (j : Int) + 1 < (l.length : Int) := by omega
   have hb3 : (j : Int) < (l.length : Int) := by omega
   have hmj : IntKind.i64.wrap (j : Int) = (j : Int) := by rw [IntKind.wrap_i64]; omega
   have hbl3 : b0 < wr.heap.size := Nat.lt_of_lt_of_le hbl hBr.out.size;have hw2 : IntKind.i64.wrap ((j : Int) + 1 + 1) = (j : Int) + 1 + 1 := by rw [IntKind.wrap_i64]; omega
   obtain ⟨CC, hCC⟩ : ∃ CC, orI (cmpI y0 z0) (cmpI y1 z1) = CC := ⟨_, rfl⟩;have tt := orI_ge y0 y1 z0 z1;rw [hCC] at tt;have qk1 := zH (fun w => qk.out z0 z1 z2 w)
   have qb1 := zH (fun w => qb.out y0 y1 y2 z0 z1 w)
   rw [hCC] at qb1;clear hCC hc hc2 hk hk2;by_cases hlt : y0 < z0 ∨ y0 = z0 ∧ y1 < z1
   ·rw [decide_eq_true hlt] at tt
    have tt : decide (0 ≤ CC) = false := tt;have t3 : CC < 0 := by have := of_decide_eq_false tt; omega
    replace hst := hst.out;rw [show decide (stLt' ([y0, y1, y2] : List Int) [z0, z1, z2]) = true from decide_eq_true hlt, Bool.true_and] at hst
    exact zt15
   ·rw [decide_eq_false hlt] at tt
    have tt : decide (0 ≤ CC) = true := tt;have t3 : 0 ≤ CC := of_decide_eq_true tt;replace hst := hst.out;rw [show decide (stLt' ([y0, y1, y2] : List Int) [z0, z1, z2]) = false from decide_eq_false hlt, Bool.false_and] at hst
    exact zt19
  ·have tn : decide ((j : Int) + 1 < (l.length : Int)) = false := decide_eq_false zw
   have hR : Hid (Res = true) := (show _ = _ from hRes.out.symm.trans (hrest.out.trans (zzas zw)))
   clear hrest hjl hRes;obtain rfl := hR.out;go_wp2_with fail;go_ret;exact ⟨rfl, hBr.out⟩
end
end Go.Proofs.YtajogedbacpohaaGreatDoor
