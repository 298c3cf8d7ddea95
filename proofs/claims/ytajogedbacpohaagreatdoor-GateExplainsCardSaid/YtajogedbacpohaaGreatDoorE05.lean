/- Part 6 of what the claim rests on. -/
import Derived.Test.YtajogedbacpohaaGreatDoorE00
import Derived.Test.YtajogedbacpohaaGreatDoorE04
set_option linter.unusedVariables false
set_option linter.unusedSimpArgs false
set_option maxRecDepth 1000000
set_option maxHeartbeats 32000000
namespace Go.Proofs.YtajogedbacpohaaGreatDoor
section
open Go Go.RowKit
def setK (ge ne : List Int → Bool) (x : List Int) : Bool → List (List Int) → List (List Int)
 | done, [] => if done then [] else [x]
 | done, r :: t => (if !done && ge r then [x] else []) ++ ((if ne r then [r] else []) ++ setK ge ne x (done || ge r) t)
theorem zz8e {ge ne : List Int → Bool} {x : List Int} : ∀ {l : List (List Int)}, (∀ r ∈ l, ne r = true) → setK ge ne x true l = l
 | [], _ => rfl
 | r :: t, h => by
  rw [setK, h r (by simp)]
  simp only [Bool.not_true, Bool.false_and, Bool.true_or, if_true, Bool.false_eq_true, if_false, List.nil_append, List.singleton_append];rw [zz8e (fun r hr => h r (by simp [hr]))]
theorem zzai {ge ne : List Int → Bool} {x : List Int} (out : Bool) : ∀ {l : List (List Int)} {p : Nat}, p ≤ l.length → (∀ (h : Nat) (r : List Int), l[h]? = some r → (ge r = false ↔ h < p)) → (∀ (h : Nat) (r : List Int), l[h]? = some r → ne r = false → h = p) →
  setK ge ne x out l = l.take p ++ ((if out then [] else [x]) ++ l.drop (if (l[p]?).any (fun r => !ne r) then p + 1 else p))
 | [], p, hp, _, _ => by
  obtain rfl : p = 0 := by simpa using hp
  cases out <;> rfl
 | r :: t, 0, hp, h1, h2 => by
  have hg : ge r = true := by
   cases hg : ge r with
   | true => rfl
   | false => exact absurd ((h1 0 r rfl).1 hg) (Nat.lt_irrefl _)
  have ht : setK ge ne x true t = t := zz8e (fun u hu => by
   obtain ⟨k, hk⟩ := List.getElem?_of_mem hu;cases hn : ne u with
   | true => rfl
   | false => exact absurd (h2 (k + 1) u (by simpa using hk) hn) zw)
  rw [setK, hg, Bool.or_true, ht];cases out <;> cases hn : ne r <;> simp [hn]
 | r :: t, p + 1, hp, h1, h2 => by
  have hg : ge r = false := (h1 0 r rfl).2 zw;have hn : ne r = true := by
   cases hn : ne r with
   | true => rfl
   | false => exact absurd (h2 0 r rfl hn) zw
  have ih := zzai (ge := ge) (ne := ne) (x := x) out (l := t) (p := p) (by simpa using hp) (fun h u hu => by rw [h1 (h + 1) u (by simpa using hu)]; omega) (fun h u hu hn => by have := h2 (h + 1) u (by simpa using hu) hn; omega)
  rw [setK, hg, hn, Bool.or_false, ih];by_cases hc : (t[p]?).any (fun r => !ne r) = true
  ·simp [hc]
  ·simp [hc]
def setH (id : Int) (x : List Int) (out : Bool) (l : List (List Int)) : List (List Int) := setK (fun r => !decide (r.headD 0 < id)) (fun r => !isId id r) x out l
def setS (kx ky : Int) (x : List Int) (out : Bool) (l : List (List Int)) : List (List Int) := setK (fun r => !decide (r.headD 0 < kx ∨ r.headD 0 = kx ∧ r.tail.headD 0 < ky)) (fun r => !isKey kx ky r) x out l
theorem zzb1 {α : Type} {B E : α → Bool} {l : List α} {p : Nat} (hp : l.Pairwise (fun a b => E b = true → B a = true)) (hE : ∀ r ∈ l, E r = true → B r = false) (hlt : ∀ (h : Nat) (r : α), l[h]? = some r → (B r = true ↔ h < p)) (h : Nat) (r : α) (hr : l[h]? = some r) (he : E r = true) : h = p := by
 have hh := (List.getElem?_eq_some_iff.1 hr);obtain ⟨hl, hr'⟩ := hh;have h1 : ¬ h < p := fun hlt' => by
  have := (hlt h r hr).2 hlt';rw [hE r (List.mem_of_getElem? hr) he] at this;cases this
 by_cases h2 : p < h
 ·have := (List.pairwise_iff_getElem.1 hp) p h zw hl h2 (by rw [hr']; exact he)
  have := (hlt p _ (List.getElem?_eq_getElem zw)).1 this;omega
 ·omega
theorem any_not {l : List (List Int)} {p : Nat} (E : List Int → Bool) : (l[p]?).any (fun r => !(!E r)) = (match l[p]? with | some r => E r | none => false) := by
 cases l[p]? <;> simp
theorem zz2t (id : Int) (x : List Int) (out : Bool) {l : List (List Int)} {p : Nat} (hr : riseH l) (hp : p ≤ l.length) (hlt : ∀ (h : Nat) (r : List Int), l[h]? = some r → (r.headD 0 < id ↔ h < p)) :
  setH id x out l = l.take p ++ ((if out then [] else [x]) ++ l.drop (if (match l[p]? with | some r => decide (r.headD 0 = id) | none => false) then p + 1 else p)) := by
 rw [setH, zzai out hp (fun h r hh => by have := hlt h r hh; simpa using this) (fun h r hh hn => zzb1 (B := fun r : List Int => decide (r.headD 0 < id)) (E := isId id) (p := p) (l := l)
  (hr.imp fun {a b} hab => by simp only [isId, decide_eq_true_eq]; intro _; omega) (fun r _ hr => by simp only [isId, decide_eq_true_eq] at hr; simp only [decide_eq_false_iff_not]; omega) (fun h r hh => by have := hlt h r hh; simpa using this) h r hh (by simpa using hn)), any_not]
 rfl
theorem zz6n (kx ky : Int) (x : List Int) (out : Bool) {l : List (List Int)} {p : Nat} (hr : riseS l) (hp : p ≤ l.length) (hlt : ∀ (h : Nat) (r : List Int), l[h]? = some r → (stLt r kx ky ↔ h < p)) :
  setS kx ky x out l = l.take p ++ ((if out then [] else [x]) ++ l.drop (if (match l[p]? with | some r => decide (r.headD 0 = kx ∧ r.tail.headD 0 = ky) | none => false) then p + 1 else p)) := by
 unfold stLt at hlt;rw [setS, zzai out hp (fun h r hh => by rw [← hlt h r hh, Bool.not_eq_false', decide_eq_true_eq]) (fun h r hh hn => zzb1 (B := fun r : List Int => decide (r.headD 0 < kx ∨ r.headD 0 = kx ∧ r.tail.headD 0 < ky)) (E := isKey kx ky) (p := p) (l := l)
  (hr.imp fun {a b} hab => by unfold stLt at hab; simp only [isKey, decide_eq_true_eq]; intro _; omega) (fun r _ hr => by simp only [isKey, decide_eq_true_eq] at hr; simp only [decide_eq_false_iff_not]; omega) (fun h r hh => by rw [decide_eq_true_eq]; exact hlt h r hh) h r hh (by simpa using hn)), any_not]
 rfl
theorem zt48 {p : Prop} (h : p := by
 cases hlp : l[p]? with
 | none => rw [hlp] at hF; cases hF
 | some r => exact (List.getElem?_eq_some_iff.1 hlp).1) : p := h
theorem zz70 (v : Value) (l : List (List Int)) (x0 x1 x2 x3 id : Int) (w : World) (hv : Hid (RowAt w v 4 l)) (hl : l.length ≤ 999999) (hr : Hid (riseH l)) :
  Calls Tryz.prog 141 #[v, .agg #[x0, x1, x2, x3], .int .i64 id, .func (.func 125) #[] #[], .bool false] w fun e w' => ∃ v', e = .returned v' ∧ RowOwn w' w.heap.size 78 v' 4 (setH id [x0, x1, x2, x3] false l) ∧ Below w.heap.size w w' := by
 obtain ⟨p, hp, hlt, _⟩ := placeH id hr.out;cases hF : (match l[p]? with | some r => decide (r.headD 0 = id) | none => false) with
 | false =>
  replace hF := hF.symm;have e := (show setH id [x0, x1, x2, x3] false l = l.take p ++ [x0, x1, x2, x3] :: l.drop p by rw [zz2t id [x0, x1, x2, x3] false hr.out hp hlt, ← hF]; simp)
  refine (zz6z v l x0 x1 x2 x3 id p w hv hl hp hlt hF).mono ?_;rintro x w' ⟨v', rfl, h1, h2⟩;exact ⟨v', rfl, by rw [e]; exact h1, h2⟩
 | true =>
  have hpl : p < l.length := by
   exact zt48
  replace hF := hF.symm;have e := (show setH id [x0, x1, x2, x3] false l = l.take p ++ [x0, x1, x2, x3] :: l.drop (p + 1) by rw [zz2t id [x0, x1, x2, x3] false hr.out hp hlt, ← hF]; simp)
  refine (zz6y v l x0 x1 x2 x3 id p w hv hl hpl hlt hF).mono ?_;rintro x w' ⟨v', rfl, h1, h2⟩;exact ⟨v', rfl, by rw [e]; exact h1, h2⟩
theorem zt27 {p : Prop} (h : p := by
 have hl2 : w.heap.size + 2 < w0.heap.size := by have := HS0.out; omega
 exact BkOwn.mono (BkOwn.setBelow (a := ⟨_, _, _⟩) (BkOwn.setBelow (a := ⟨_, _, _⟩) (BkOwn.setBelow (a := ⟨_, _, _⟩) (BkOwn.setBelow (a := ⟨_, _, _⟩) (BkOwn.setBelow (a := ⟨_, _, _⟩) G4.out hl2 _) hl2 _) hl2 _) hl2 _) hl2 _) HB0.out.size) : p := h
theorem zt32 {p : Prop} (h : p := by
 have hl2 : w.heap.size ≤ w.heap.size + 2 := by omega
 exact Below.setCell (p := ⟨_, _, _⟩) (Below.setCell (p := ⟨_, _, _⟩) (Below.setCell (p := ⟨_, _, _⟩) (Below.setCell (p := ⟨_, _, _⟩) (Below.setCell (p := ⟨_, _, _⟩) HB4.out hl2 _) hl2 _) hl2 _) hl2 _) hl2 _) : p := h
theorem zt34 {p : Prop} (h : p := by
 rw [← hw2];exact BkOwn.setBelow (a := ⟨_, _, _⟩) (BkOwn.setBelow (a := ⟨_, _, _⟩) (BkOwn.setBelow (a := ⟨_, _, _⟩) (BkOwn.setBelow (a := ⟨_, _, _⟩) (BkOwn.setBelow (a := ⟨_, _, _⟩) ⟨_, _, _, _, rfl, g1, g2, g3, g4⟩ hlt0 _) hlt0 _) hlt0 _) hlt0 _) hlt0 _) : p := h
theorem zt39 {p : Prop} (h : p := by
 rw [← hw2];have := HB0.out.trans (hb1.mono HB0.out.size);exact Below.setCell (Below.setCell (Below.setCell (Below.setCell (Below.setCell this (Nat.le_refl _) _) (Nat.le_refl _) _) (Nat.le_refl _) _) (Nat.le_refl _) _) (Nat.le_refl _) _) : p := h
theorem zz2d (v : Value) (b : Bk) (x0 x1 x2 x3 : Int) (w : World) (hb : Hid (BkAt w v b)) (hs : Hid b.Small) (hr : Hid (riseH b.h)) :
  Calls Tryz.prog 74 #[v, .agg #[x0, x1, x2, x3]] w fun e w' => ∃ v', e = .returned v' ∧ BkOwn w' w.heap.size v' { b with h := setH x0 [x0, x1, x2, x3] false b.h } ∧ Below w.heap.size w w' := by
 obtain ⟨vh, vs, vo, vr, rfl, h1, h2, h3, h4⟩ := hb.out;obtain ⟨w0, hw0⟩ : ∃ w0, ((w.alloc (.cells #[vh, vs, vo, vr, b.n] 27)).alloc (.cells #[x0, x1, x2, x3] 78)).alloc (.cells BZ 27) = w0 := ⟨_, rfl⟩;have HB0 : Hid (Below w.heap.size w w0) := by rw [← hw0]; exact zz01 (zz01 zBa (by simp) _) zo _
 have K1 : ZB w0 w.heap.size #[vh, vs, vo, vr, b.n] 27 := by rw [← hw0]; exact zz04 (zz04 (zz02 _ _) _) _
 have K2 : ZB w0 (w.heap.size + 1) #[x0, x1, x2, x3] 78 := by rw [← hw0]; exact zz04 (zz0e _ _ _ (by simp)) _
 have K3 : ZB w0 (w.heap.size + 2) BZ 27 := by rw [← hw0]; exact zz0e _ _ _ (by simp)
 have qc := zH (zz3i _ b w0 (BkAt.call ⟨vh, vs, vo, vr, rfl, h1, h2, h3, h4⟩ HB0.out) hs);have qp := zH (fun wz v hv => zz70 v b.h x0 x1 x2 x3 x0 wz hv zsm hr)
 obtain ⟨l5, hl5⟩ : ∃ l5, setH x0 [x0, x1, x2, x3] false b.h = l5 := ⟨_, rfl⟩;rw [hl5] at qp ⊢;have hs0 : w.heap.size + 3 = w0.heap.size := by rw [← hw0]; simp
 have HS0 := zH hs0;have HW0 := zH hw0;clear hw0 h1 h2 h3 h4 hb hl5 hs0;go_in;go_wp2_with fail;rw [HW0.out];have a0 := zC K1.out;go_wp2_with fail;(with_reducible refine qc.out.mono ?_);rintro e w1 ⟨v1, rfl, ⟨uh, us, uo, ur, rfl, g1, g2, g3, g4⟩, hb1⟩;obtain ⟨A1, c1', rfl⟩ := g1.form;obtain ⟨A2, c2', rfl⟩ := g2.form;obtain ⟨A3, c3', rfl⟩ := g3.form;obtain ⟨A4, c4', rfl⟩ := g4.form;have m1 := zz06 K1.out hb1;have M2 := zK K2 hb1;have M3 := zK K3 hb1;have d0 := zC m1;have f0 := zF m1;have z0 := zC M2.out;obtain ⟨w2, hw2⟩ : ∃ w2, (((((w1.setCell ⟨w.heap.size, 0, none⟩ (.slice A1 b.h.length c1')).setCell ⟨w.heap.size, 1, none⟩ (.slice A2 b.s.length c2')).setCell ⟨w.heap.size, 2, none⟩ (.slice A3 b.o.length c3')).setCell ⟨w.heap.size, 3, none⟩ (.slice A4 b.r.length c4')).setCell ⟨w.heap.size, 4, none⟩ (.int .i64 b.n)) = w2 := ⟨_, rfl⟩;have N1 : ZB w2 w.heap.size (BF A1 c1' A2 c2' A3 c3' A4 c4' b b.n) 27 := by rw [← hw2]; exact zz0d (zz0d (zz0d (zz0d (zz0d m1 0 _) 1 _) 2 _) 3 _) 4 _
 have N2 : ZB w2 (w.heap.size + 1) #[x0, x1, x2, x3] 78 := by rw [← hw2]; exact zz09 (zz09 (zz09 (zz09 (zz09 M2.out 0 _ zw) 1 _ zw) 2 _ zw) 3 _ zw) 4 _ zw
 have N3 : ZB w2 (w.heap.size + 2) BZ 27 := by rw [← hw2]; exact zz09 (zz09 (zz09 (zz09 (zz09 M3.out 0 _ zw) 1 _ zw) 2 _ zw) 3 _ zw) 4 _ zw
 have hlt0 : w.heap.size < w0.heap.size := by have := HS0.out; omega
 have G : Hid (BkOwn w2 w0.heap.size (.agg (BF A1 c1' A2 c2' A3 c3' A4 c4' b b.n)) b) := by
  exact zt34
 have HB2 : Hid (Below w.heap.size w w2) := by
  exact zt39
 have hs2 : w0.heap.size ≤ w2.heap.size := by rw [← hw2]; simpa using hb1.size
 have HS2 := zH hs2;have HW2 := zH hw2;clear hw2 m1 g1 g2 g3 g4 hb1 hlt0 hs2;go_wp2_with fail;rw [HW2.out];clear a0 d0 f0 z0;have b0 := zC N1.out;have y0 := zC N2.out;have hrow : Hid (RowAt w2 (.slice A1 b.h.length c1') 4 b.h) := by
  obtain ⟨_, _, _, _, hh, g1, g2, g3, g4⟩ := G.out;injection hh with hh
  simp only [Array.mk.injEq, List.cons.injEq] at hh;obtain ⟨rfl, rfl, rfl, rfl, _⟩ := hh;exact g1.row
 (with_reducible refine (qp.out _ _ hrow).mono ?_);rintro e w3 ⟨v5, rfl, g5, hb3⟩
 obtain ⟨A5, c5', rfl⟩ := g5.form;have n1 := zz06 N1.out hb3;have n3 := zz06 N3.out hb3;have p0 := zC n1;have pf := zF n1;have v0 := zC n3;have vf0 := zF n3;obtain ⟨w4, hw4⟩ : ∃ w4, w3.setCell ⟨w.heap.size, 0, none⟩ (.slice A5 l5.length c5') = w4 := ⟨_, rfl⟩;have O1 : ZB w4 w.heap.size #[.slice A5 l5.length c5', .slice A2 b.s.length c2', .slice A3 b.o.length c3', .slice A4 b.r.length c4', b.n] 27 := by rw [← hw4]; exact zz0d n1 0 _
 have O3 : ZB w4 (w.heap.size + 2) BZ 27 := by rw [← hw4]; exact zz09 n3 0 _ zw
 have hlt0 : w.heap.size < w0.heap.size := by have := HS0.out; omega
 have G4 : Hid (BkOwn w4 w0.heap.size (.agg #[.slice A5 l5.length c5', .slice A2 b.s.length c2', .slice A3 b.o.length c3', .slice A4 b.r.length c4', b.n]) { b with h := l5 }) := by
  rw [← hw4];refine BkOwn.setBelow (a := ⟨_, _, _⟩) ?_ hlt0 _;obtain ⟨_, _, _, _, hh, g1, g2, g3, g4⟩ := G.out.kept hb3;injection hh with hh
  simp only [Array.mk.injEq, List.cons.injEq] at hh;obtain ⟨rfl, rfl, rfl, rfl, _⟩ := hh;exact ⟨_, _, _, _, rfl, g5.mono HS2.out, g2, g3, g4⟩
 have HB4 : Hid (Below w.heap.size w w4) := by
  rw [← hw4];exact Below.setCell (HB2.out.trans (hb3.mono HB2.out.size)) (Nat.le_refl _) _
 have HW4 := zH hw4;clear hw4 n1 n3 g5 hb3 hlt0 b0;go_wp2_with fail;rw [HW4.out];have r0 := zz00 O1.out 0 _ rfl;have t0 := zz00 O3.out 0 _ rfl;have tf0 := zz05 O3.out 0;have r1 := zz00 O1.out 1 _ rfl;have t1 := zz00 O3.out 1 _ rfl;have tf1 := zz05 O3.out 1;have r2 := zz00 O1.out 2 _ rfl;have t2 := zz00 O3.out 2 _ rfl;have tf2 := zz05 O3.out 2;have r3 := zz00 O1.out 3 _ rfl;have t3 := zz00 O3.out 3 _ rfl;have tf3 := zz05 O3.out 3;have r4 := zz00 O1.out 4 _ rfl;have t4 := zz00 O3.out 4 _ rfl;have tf4 := zz05 O3.out 4;refine bodyPost_ret (v := .agg #[.slice A5 l5.length c5', .slice A2 b.s.length c2', .slice A3 b.o.length c3', .slice A4 b.r.length c4', b.n]) ?_ rfl ⟨_, rfl, ?_, ?_⟩
 ·simp [results, Tryz.results74, go_sem, t0, t1, t2, t3, t4]
 ·exact zt27
 ·exact zt32
theorem zz7v (v : Value) (l : List (List Int)) (x0 x1 x2 kx ky : Int) (out : Bool) (w : World) (hv : Hid (RowAt w v 3 l)) (hl : l.length ≤ 999999) (hr : Hid (riseS l)) :
  Calls Tryz.prog 154 #[v, .agg #[x0, x1, x2], .agg #[kx, ky], .func (.func 134) #[] #[], .bool out] w fun e w' => ∃ v', e = .returned v' ∧ RowOwn w' w.heap.size 80 v' 3 (setS kx ky [x0, x1, x2] out l) ∧ Below w.heap.size w w' := by
 obtain ⟨p, hp, hlt, _⟩ := placeS kx ky hr.out;cases out with
 | false =>
  cases hF : (match l[p]? with | some r => decide (r.headD 0 = kx ∧ r.tail.headD 0 = ky) | none => false) with
  | false =>
   replace hF := hF.symm;have e := (show setS kx ky [x0, x1, x2] false l = l.take p ++ [x0, x1, x2] :: l.drop p by rw [zz6n kx ky [x0, x1, x2] false hr.out hp hlt, ← hF]; simp)
   refine (zz7t v l x0 x1 x2 kx ky p w hv hl hp hlt hF).mono ?_;rintro x w' ⟨v', rfl, h1, h2⟩;exact ⟨v', rfl, by rw [e]; exact h1, h2⟩
  | true =>
   have hpl : p < l.length := by
    exact zt48
   replace hF := hF.symm;have e := (show setS kx ky [x0, x1, x2] false l = l.take p ++ [x0, x1, x2] :: l.drop (p + 1) by rw [zz6n kx ky [x0, x1, x2] false hr.out hp hlt, ← hF]; simp)
   refine (zz7s v l x0 x1 x2 kx ky p w hv hl hpl hlt hF).mono ?_;rintro x w' ⟨v', rfl, h1, h2⟩;exact ⟨v', rfl, by rw [e]; exact h1, h2⟩
 | true =>
  cases hF : (match l[p]? with | some r => decide (r.headD 0 = kx ∧ r.tail.headD 0 = ky) | none => false) with
  | false =>
   replace hF := hF.symm;have e := (show setS kx ky [x0, x1, x2] true l = l by rw [zz6n kx ky [x0, x1, x2] true hr.out hp hlt, ← hF]; simp)
   refine (zz6x v l x0 x1 x2 kx ky p w hv hl hp hlt hF).mono ?_;rintro x w' ⟨v', rfl, h1, h2⟩;exact ⟨v', rfl, by rw [e]; exact h1, h2⟩
  | true =>
   have hpl : p < l.length := by
    exact zt48
   replace hF := hF.symm;have e := (show setS kx ky [x0, x1, x2] true l = l.take p ++ l.drop (p + 1) by rw [zz6n kx ky [x0, x1, x2] true hr.out hp hlt, ← hF]; simp)
   refine (zz7u v l x0 x1 x2 kx ky p w hv hl hpl hlt hF).mono ?_;rintro x w' ⟨v', rfl, h1, h2⟩;exact ⟨v', rfl, by rw [e]; exact h1, h2⟩
theorem zz42 (x0 x1 x2 : Int) (w : World) : Calls Tryz.prog 133 #[.agg #[x0, x1, x2]] w fun e w' => e = .returned (.agg #[x0, x1]) ∧ Below w.heap.size w w' := by
 have k1 := zz04 (zz02 w (.cells #[x0, x1, x2] 80)) (.cells #[.int .i64 0, .int .i64 0] 179);have c0 := zC k1;have k2 : ((w.alloc (.cells #[x0, x1, x2] 80)).alloc (.cells #[.int .i64 0, .int .i64 0] 179)).heap[w.heap.size + 1]? = some (.cells #[.int .i64 0, .int .i64 0] 179 (0, 0)) := zz0e _ _ _ (by simp)
 have d0 := zz00 k2 0 _ rfl;have d1 := zz00 k2 1 _ rfl;have f0 := zz05 k2 0;have f1 := zz05 k2 1;clear k1 k2;go_in;go_wp2_with fail;refine bodyPost_ret (v := .agg #[x0, x1]) ?_ rfl ⟨rfl, ?_⟩
 ·simp [results, Tryz.results133, go_sem, d0, d1]
 ·first
  | exact zz01 zBa zo _
  | exact Below.setCell (Below.setCell (zz01 zBa zo _) (by first | (simp; done) | omega) _) (by first | (simp; done) | omega) _
theorem zz89 (v : Value) (b : Bk) (x0 x1 x2 : Int) (w : World) (hb : Hid (BkAt w v b)) (hs : Hid b.Small) (hr : Hid (riseS b.s)) :
  Calls Tryz.prog 89 #[v, .agg #[x0, x1, x2]] w fun e w' => ∃ v', e = .returned v' ∧ BkOwn w' w.heap.size v' { b with s := setS x0 x1 [x0, x1, x2] (x2 == 0) b.s } ∧ Below w.heap.size w w' := by
 obtain ⟨vh, vs, vo, vr, rfl, h1, h2, h3, h4⟩ := hb.out;obtain ⟨w0, hw0⟩ : ∃ w0, ((w.alloc (.cells #[vh, vs, vo, vr, b.n] 27)).alloc (.cells #[x0, x1, x2] 80)).alloc (.cells BZ 27) = w0 := ⟨_, rfl⟩;have HB0 : Hid (Below w.heap.size w w0) := by rw [← hw0]; exact zz01 (zz01 zBa (by simp) _) zo _
 have K1 : ZB w0 w.heap.size #[vh, vs, vo, vr, b.n] 27 := by rw [← hw0]; exact zz04 (zz04 (zz02 _ _) _) _
 have K2 : ZB w0 (w.heap.size + 1) #[x0, x1, x2] 80 := by rw [← hw0]; exact zz04 (zz0e _ _ _ (by simp)) _
 have K3 : ZB w0 (w.heap.size + 2) BZ 27 := by rw [← hw0]; exact zz0e _ _ _ (by simp)
 have qc := zH (zz3i _ b w0 (BkAt.call ⟨vh, vs, vo, vr, rfl, h1, h2, h3, h4⟩ HB0.out) hs);have qp := zH (fun wz v hv => zz7v v b.s x0 x1 x2 x0 x1 (x2 == 0) wz hv zsm hr)
 have qk := zH (fun wz => zz42 x0 x1 x2 wz)
 obtain ⟨l5, hl5⟩ : ∃ l5, setS x0 x1 [x0, x1, x2] (x2 == 0) b.s = l5 := ⟨_, rfl⟩;rw [hl5] at qp ⊢;have hs0 : w.heap.size + 3 = w0.heap.size := by rw [← hw0]; simp
 have HS0 := zH hs0;have HW0 := zH hw0;clear hw0 h1 h2 h3 h4 hb hl5 hs0;go_in;go_wp2_with fail;rw [HW0.out];have a0 := zC K1.out;go_wp2_with fail;(with_reducible refine qc.out.mono ?_);rintro e w1 ⟨v1, rfl, ⟨uh, us, uo, ur, rfl, g1, g2, g3, g4⟩, hb1⟩;obtain ⟨A1, c1', rfl⟩ := g1.form;obtain ⟨A2, c2', rfl⟩ := g2.form;obtain ⟨A3, c3', rfl⟩ := g3.form;obtain ⟨A4, c4', rfl⟩ := g4.form;have m1 := zz06 K1.out hb1;have M2 := zK K2 hb1;have M3 := zK K3 hb1;have d0 := zC m1;have f0 := zF m1;have z0 := zC M2.out;obtain ⟨w2, hw2⟩ : ∃ w2, (((((w1.setCell ⟨w.heap.size, 0, none⟩ (.slice A1 b.h.length c1')).setCell ⟨w.heap.size, 1, none⟩ (.slice A2 b.s.length c2')).setCell ⟨w.heap.size, 2, none⟩ (.slice A3 b.o.length c3')).setCell ⟨w.heap.size, 3, none⟩ (.slice A4 b.r.length c4')).setCell ⟨w.heap.size, 4, none⟩ (.int .i64 b.n)) = w2 := ⟨_, rfl⟩;have N1 : ZB w2 w.heap.size (BF A1 c1' A2 c2' A3 c3' A4 c4' b b.n) 27 := by rw [← hw2]; exact zz0d (zz0d (zz0d (zz0d (zz0d m1 0 _) 1 _) 2 _) 3 _) 4 _
 have N2 : ZB w2 (w.heap.size + 1) #[x0, x1, x2] 80 := by rw [← hw2]; exact zz09 (zz09 (zz09 (zz09 (zz09 M2.out 0 _ zw) 1 _ zw) 2 _ zw) 3 _ zw) 4 _ zw
 have N3 : ZB w2 (w.heap.size + 2) BZ 27 := by rw [← hw2]; exact zz09 (zz09 (zz09 (zz09 (zz09 M3.out 0 _ zw) 1 _ zw) 2 _ zw) 3 _ zw) 4 _ zw
 have hlt0 : w.heap.size < w0.heap.size := by have := HS0.out; omega
 have G : Hid (BkOwn w2 w0.heap.size (.agg (BF A1 c1' A2 c2' A3 c3' A4 c4' b b.n)) b) := by
  exact zt34
 have HB2 : Hid (Below w.heap.size w w2) := by
  exact zt39
 have hs2 : w0.heap.size ≤ w2.heap.size := by rw [← hw2]; simpa using hb1.size
 have HS2 := zH hs2;have HW2 := zH hw2;clear hw2 m1 g1 g2 g3 g4 hb1 hlt0 hs2;go_wp2_with fail;rw [HW2.out];clear a0 d0 f0 z0;have b0 := zz00 N1.out 0 _ rfl;have b1 := zz00 N1.out 1 _ rfl;have b2 := zz00 N1.out 2 _ rfl;have b3 := zz00 N1.out 3 _ rfl;have b4 := zz00 N1.out 4 _ rfl;have y0 := zz00 N2.out 0 _ rfl;have y1 := zz00 N2.out 1 _ rfl;have y2 := zz00 N2.out 2 _ rfl;have hrow : Hid (RowAt w2 (.slice A2 b.s.length c2') 3 b.s) := by
  obtain ⟨_, _, _, _, hh, g1, g2, g3, g4⟩ := G.out;injection hh with hh
  simp only [Array.mk.injEq, List.cons.injEq] at hh;obtain ⟨rfl, rfl, rfl, rfl, _⟩ := hh;exact g2.row
 have hlw := zL N1.out;have hlw2 := zL N2.out;have HC : Hid (Below w2.heap.size w2 w2.drew) := (Below.refl _ _).drew;refine zz07 [10] (fun wz => Hid (Below w2.heap.size w2 wz)) 11 (zb 11 0) zk zk zk ?_
 refine zM [0, 1, 2, 3, 5, 6, 7] 4 HC ?_;simp only [opsAt, zA];refine zp ?_;refine zz08 (.slice A2 b.s.length c2') rfl (fun wz hC => by have h0 := ((Hid.out hC).cell (p := ⟨w.heap.size, 1, none⟩) hlw).trans b1; unfold execOp; go_simp) ?_
 refine zz08 (.agg #[x0, x1, x2]) rfl (fun wz hC => by have h0 := ((Hid.out hC).cell (p := ⟨w.heap.size + 1, 0, none⟩) hlw2).trans y0; have h1 := ((Hid.out hC).cell (p := ⟨w.heap.size + 1, 1, none⟩) hlw2).trans y1; have h2 := ((Hid.out hC).cell (p := ⟨w.heap.size + 1, 2, none⟩) hlw2).trans y2; unfold execOp; go_simp) ?_
 refine zz08 (.agg #[x0, x1, x2]) rfl (fun wz hC => by have h0 := ((Hid.out hC).cell (p := ⟨w.heap.size + 1, 0, none⟩) hlw2).trans y0; have h1 := ((Hid.out hC).cell (p := ⟨w.heap.size + 1, 1, none⟩) hlw2).trans y1; have h2 := ((Hid.out hC).cell (p := ⟨w.heap.size + 1, 2, none⟩) hlw2).trans y2; unfold execOp; go_simp) ?_
 refine zp ?_;refine zz08 (.int .i64 x2) rfl (fun wz hC => by have h0 := ((Hid.out hC).cell (p := ⟨w.heap.size + 1, 2, none⟩) hlw2).trans y2; unfold execOp; go_simp) ?_
 refine zp ?_;unfold wpPure;go_simp;refine zW 4 ?_;go_wp2_with fail;(with_reducible refine (qk.out _).mono ?_);rintro e w5 ⟨rfl, hbk⟩;have HC5 : Hid (Below w2.heap.size w2 w5) := HC.out.trans (hbk.mono HC.out.size);replace hrow := zH (hrow.out.call HC5.out);clear hbk;go_wp2_with fail;refine zQs (fun _ => HC5) ?_
 refine zW 8 ?_;go_wp2_with fail;(with_reducible refine (qp.out _ _ hrow).mono ?_);rintro e w3 ⟨v5, rfl, g5, hb3'⟩;obtain ⟨A5, c5', rfl⟩ := g5.form;replace g5 := g5.mono (B' := w2.heap.size) HC5.out.size;have hb3 : Below w2.heap.size w2 w3 := HC5.out.trans (hb3'.mono HC5.out.size);have HC3 := zH hb3;have n1 := zz06 N1.out hb3;have n3 := zz06 N3.out hb3;have p0 := zC n1;have pf := zF n1;have v0 := zC n3;have vf0 := zF n3;obtain ⟨w4, hw4⟩ : ∃ w4, w3.setCell ⟨w.heap.size, 1, none⟩ (.slice A5 l5.length c5') = w4 := ⟨_, rfl⟩;have O1 : ZB w4 w.heap.size #[.slice A1 b.h.length c1', .slice A5 l5.length c5', .slice A3 b.o.length c3', .slice A4 b.r.length c4', b.n] 27 := by rw [← hw4]; exact zz0d n1 1 _
 have O3 : ZB w4 (w.heap.size + 2) BZ 27 := by rw [← hw4]; exact zz09 n3 1 _ zw
 have hlt0 : w.heap.size < w0.heap.size := by have := HS0.out; omega
 have G4 : Hid (BkOwn w4 w0.heap.size (.agg #[.slice A1 b.h.length c1', .slice A5 l5.length c5', .slice A3 b.o.length c3', .slice A4 b.r.length c4', b.n]) { b with s := l5 }) := by
  rw [← hw4];refine BkOwn.setBelow (a := ⟨_, _, _⟩) ?_ hlt0 _;obtain ⟨_, _, _, _, hh, g1, g2, g3, g4⟩ := G.out.kept hb3;injection hh with hh
  simp only [Array.mk.injEq, List.cons.injEq] at hh;obtain ⟨rfl, rfl, rfl, rfl, _⟩ := hh;exact ⟨_, _, _, _, rfl, g1, g5.mono HS2.out, g3, g4⟩
 have HB4 : Hid (Below w.heap.size w w4) := by
  rw [← hw4];exact Below.setCell (HB2.out.trans (hb3.mono HB2.out.size)) (Nat.le_refl _) _
 have HW4 := zH hw4;clear hw4 n1 n3 g5 hb3 hb3' hlt0 b0 b1 b2 b3 b4;go_wp2_with fail;refine zQs (fun _ => HC3) ?_
 refine zW 9 ?_;go_wp2_with fail;refine zQs (fun _ => HC3) ?_
 refine zW 10 ?_;go_wp2_with fail;refine zQs (fun h => (by cases h)) ?_
 refine zQe ?_;rw [HW4.out];clear p0 v0 vf0;have r0 := zz00 O1.out 0 _ rfl;have t0 := zz00 O3.out 0 _ rfl;have tf0 := zz05 O3.out 0;have r1 := zz00 O1.out 1 _ rfl;have t1 := zz00 O3.out 1 _ rfl;have tf1 := zz05 O3.out 1;have r2 := zz00 O1.out 2 _ rfl;have t2 := zz00 O3.out 2 _ rfl;have tf2 := zz05 O3.out 2;have r3 := zz00 O1.out 3 _ rfl;have t3 := zz00 O3.out 3 _ rfl;have tf3 := zz05 O3.out 3;have r4 := zz00 O1.out 4 _ rfl;have t4 := zz00 O3.out 4 _ rfl;have tf4 := zz05 O3.out 4;go_wp2_with fail;refine bodyPost_ret (v := .agg #[.slice A1 b.h.length c1', .slice A5 l5.length c5', .slice A3 b.o.length c3', .slice A4 b.r.length c4', b.n]) ?_ rfl ⟨_, rfl, ?_, ?_⟩
 ·simp [results, Tryz.results89, go_sem, t0, t1, t2, t3, t4]
 ·exact zt27
 ·exact zt32
theorem zz9u (v : Value) (l : List (List Int)) (x0 x1 x2 x3 x4 x5 id : Int) (out : Bool) (w : World) (hv : Hid (RowAt w v 6 l)) (hl : l.length ≤ 999999) (hr : Hid (riseH l)) :
  Calls Tryz.prog 152 #[v, .agg #[x0, x1, x2, x3, x4, x5], .int .i64 id, .func (.func 128) #[] #[], .bool out] w fun e w' => ∃ v', e = .returned v' ∧ RowOwn w' w.heap.size 82 v' 6 (setH id [x0, x1, x2, x3, x4, x5] out l) ∧ Below w.heap.size w w' := by
 obtain ⟨p, hp, hlt, _⟩ := placeH id hr.out;cases out with
 | false =>
  cases hF : (match l[p]? with | some r => decide (r.headD 0 = id) | none => false) with
  | false =>
   replace hF := hF.symm;have e := (show setH id [x0, x1, x2, x3, x4, x5] false l = l.take p ++ [x0, x1, x2, x3, x4, x5] :: l.drop p by rw [zz2t id [x0, x1, x2, x3, x4, x5] false hr.out hp hlt, ← hF]; simp)
   refine (zz9s v l x0 x1 x2 x3 x4 x5 id p w hv hl hp hlt hF).mono ?_;rintro x w' ⟨v', rfl, h1, h2⟩;exact ⟨v', rfl, by rw [e]; exact h1, h2⟩
  | true =>
   have hpl : p < l.length := by
    exact zt48
   replace hF := hF.symm;have e := (show setH id [x0, x1, x2, x3, x4, x5] false l = l.take p ++ [x0, x1, x2, x3, x4, x5] :: l.drop (p + 1) by rw [zz2t id [x0, x1, x2, x3, x4, x5] false hr.out hp hlt, ← hF]; simp)
   refine (zz9r v l x0 x1 x2 x3 x4 x5 id p w hv hl hpl hlt hF).mono ?_;rintro x w' ⟨v', rfl, h1, h2⟩;exact ⟨v', rfl, by rw [e]; exact h1, h2⟩
 | true =>
  cases hF : (match l[p]? with | some r => decide (r.headD 0 = id) | none => false) with
  | false =>
   replace hF := hF.symm;have e := (show setH id [x0, x1, x2, x3, x4, x5] true l = l by rw [zz2t id [x0, x1, x2, x3, x4, x5] true hr.out hp hlt, ← hF]; simp)
   refine (zz7w v l x0 x1 x2 x3 x4 x5 id p w hv hl hp hlt hF).mono ?_;rintro x w' ⟨v', rfl, h1, h2⟩;exact ⟨v', rfl, by rw [e]; exact h1, h2⟩
  | true =>
   have hpl : p < l.length := by
    exact zt48
   replace hF := hF.symm;have e := (show setH id [x0, x1, x2, x3, x4, x5] true l = l.take p ++ l.drop (p + 1) by rw [zz2t id [x0, x1, x2, x3, x4, x5] true hr.out hp hlt, ← hF]; simp)
   refine (zz9t v l x0 x1 x2 x3 x4 x5 id p w hv hl hpl hlt hF).mono ?_;rintro x w' ⟨v', rfl, h1, h2⟩;exact ⟨v', rfl, by rw [e]; exact h1, h2⟩
theorem zz3h (v : Value) (b : Bk) (x0 x1 x2 x3 x4 x5 : Int) (w : World) (hb : Hid (BkAt w v b)) (hs : Hid b.Small) (hr : Hid (riseH b.o)) :
  Calls Tryz.prog 85 #[v, .agg #[x0, x1, x2, x3, x4, x5]] w fun e w' => ∃ v', e = .returned v' ∧ BkOwn w' w.heap.size v' { b with o := setH x0 [x0, x1, x2, x3, x4, x5] (x4 == 0) b.o } ∧ Below w.heap.size w w' := by
 obtain ⟨vh, vs, vo, vr, rfl, h1, h2, h3, h4⟩ := hb.out;obtain ⟨w0, hw0⟩ : ∃ w0, ((w.alloc (.cells #[vh, vs, vo, vr, b.n] 27)).alloc (.cells #[x0, x1, x2, x3, x4, x5] 82)).alloc (.cells BZ 27) = w0 := ⟨_, rfl⟩;have HB0 : Hid (Below w.heap.size w w0) := by rw [← hw0]; exact zz01 (zz01 zBa (by simp) _) zo _
 have K1 : ZB w0 w.heap.size #[vh, vs, vo, vr, b.n] 27 := by rw [← hw0]; exact zz04 (zz04 (zz02 _ _) _) _
 have K2 : ZB w0 (w.heap.size + 1) #[x0, x1, x2, x3, x4, x5] 82 := by rw [← hw0]; exact zz04 (zz0e _ _ _ (by simp)) _
 have K3 : ZB w0 (w.heap.size + 2) BZ 27 := by rw [← hw0]; exact zz0e _ _ _ (by simp)
 have qc := zH (zz3i _ b w0 (BkAt.call ⟨vh, vs, vo, vr, rfl, h1, h2, h3, h4⟩ HB0.out) hs);have qp := zH (fun wz v hv => zz9u v b.o x0 x1 x2 x3 x4 x5 x0 (x4 == 0) wz hv zsm hr)
 obtain ⟨l5, hl5⟩ : ∃ l5, setH x0 [x0, x1, x2, x3, x4, x5] (x4 == 0) b.o = l5 := ⟨_, rfl⟩;rw [hl5] at qp ⊢;have hs0 : w.heap.size + 3 = w0.heap.size := by rw [← hw0]; simp
 have HS0 := zH hs0;have HW0 := zH hw0;clear hw0 h1 h2 h3 h4 hb hl5 hs0;go_in;go_wp2_with fail;rw [HW0.out];have a0 := zC K1.out;go_wp2_with fail;(with_reducible refine qc.out.mono ?_);rintro e w1 ⟨v1, rfl, ⟨uh, us, uo, ur, rfl, g1, g2, g3, g4⟩, hb1⟩;obtain ⟨A1, c1', rfl⟩ := g1.form;obtain ⟨A2, c2', rfl⟩ := g2.form;obtain ⟨A3, c3', rfl⟩ := g3.form;obtain ⟨A4, c4', rfl⟩ := g4.form;have m1 := zz06 K1.out hb1;have M2 := zK K2 hb1;have M3 := zK K3 hb1;have d0 := zC m1;have f0 := zF m1;have z0 := zC M2.out;obtain ⟨w2, hw2⟩ : ∃ w2, (((((w1.setCell ⟨w.heap.size, 0, none⟩ (.slice A1 b.h.length c1')).setCell ⟨w.heap.size, 1, none⟩ (.slice A2 b.s.length c2')).setCell ⟨w.heap.size, 2, none⟩ (.slice A3 b.o.length c3')).setCell ⟨w.heap.size, 3, none⟩ (.slice A4 b.r.length c4')).setCell ⟨w.heap.size, 4, none⟩ (.int .i64 b.n)) = w2 := ⟨_, rfl⟩;have N1 : ZB w2 w.heap.size (BF A1 c1' A2 c2' A3 c3' A4 c4' b b.n) 27 := by rw [← hw2]; exact zz0d (zz0d (zz0d (zz0d (zz0d m1 0 _) 1 _) 2 _) 3 _) 4 _
 have N2 : ZB w2 (w.heap.size + 1) #[x0, x1, x2, x3, x4, x5] 82 := by rw [← hw2]; exact zz09 (zz09 (zz09 (zz09 (zz09 M2.out 0 _ zw) 1 _ zw) 2 _ zw) 3 _ zw) 4 _ zw
 have N3 : ZB w2 (w.heap.size + 2) BZ 27 := by rw [← hw2]; exact zz09 (zz09 (zz09 (zz09 (zz09 M3.out 0 _ zw) 1 _ zw) 2 _ zw) 3 _ zw) 4 _ zw
 have hlt0 : w.heap.size < w0.heap.size := by have := HS0.out; omega
 have G : Hid (BkOwn w2 w0.heap.size (.agg (BF A1 c1' A2 c2' A3 c3' A4 c4' b b.n)) b) := by
  exact zt34
 have HB2 : Hid (Below w.heap.size w w2) := by
  exact zt39
 have hs2 : w0.heap.size ≤ w2.heap.size := by rw [← hw2]; simpa using hb1.size
 have HS2 := zH hs2;have HW2 := zH hw2;clear hw2 m1 g1 g2 g3 g4 hb1 hlt0 hs2;go_wp2_with fail;rw [HW2.out];clear a0 d0 f0 z0;have b0 := zC N1.out;have y0 := zC N2.out;have hrow : Hid (RowAt w2 (.slice A3 b.o.length c3') 6 b.o) := by
  obtain ⟨_, _, _, _, hh, g1, g2, g3, g4⟩ := G.out;injection hh with hh
  simp only [Array.mk.injEq, List.cons.injEq] at hh;obtain ⟨rfl, rfl, rfl, rfl, _⟩ := hh;exact g3.row
 (with_reducible refine (qp.out _ _ hrow).mono ?_);rintro e w3 ⟨v5, rfl, g5, hb3⟩
 obtain ⟨A5, c5', rfl⟩ := g5.form;have n1 := zz06 N1.out hb3;have n3 := zz06 N3.out hb3;have p0 := zC n1;have pf := zF n1;have v0 := zC n3;have vf0 := zF n3;obtain ⟨w4, hw4⟩ : ∃ w4, w3.setCell ⟨w.heap.size, 2, none⟩ (.slice A5 l5.length c5') = w4 := ⟨_, rfl⟩;have O1 : ZB w4 w.heap.size #[.slice A1 b.h.length c1', .slice A2 b.s.length c2', .slice A5 l5.length c5', .slice A4 b.r.length c4', b.n] 27 := by rw [← hw4]; exact zz0d n1 2 _
 have O3 : ZB w4 (w.heap.size + 2) BZ 27 := by rw [← hw4]; exact zz09 n3 2 _ zw
 have hlt0 : w.heap.size < w0.heap.size := by have := HS0.out; omega
 have G4 : Hid (BkOwn w4 w0.heap.size (.agg #[.slice A1 b.h.length c1', .slice A2 b.s.length c2', .slice A5 l5.length c5', .slice A4 b.r.length c4', b.n]) { b with o := l5 }) := by
  rw [← hw4];refine BkOwn.setBelow (a := ⟨_, _, _⟩) ?_ hlt0 _;obtain ⟨_, _, _, _, hh, g1, g2, g3, g4⟩ := G.out.kept hb3;injection hh with hh
  simp only [Array.mk.injEq, List.cons.injEq] at hh;obtain ⟨rfl, rfl, rfl, rfl, _⟩ := hh;exact ⟨_, _, _, _, rfl, g1, g2, g5.mono HS2.out, g4⟩
 have HB4 : Hid (Below w.heap.size w w4) := by
  rw [← hw4];exact Below.setCell (HB2.out.trans (hb3.mono HB2.out.size)) (Nat.le_refl _) _
 have HW4 := zH hw4;clear hw4 n1 n3 g5 hb3 hlt0 b0;go_wp2_with fail;rw [HW4.out];have r0 := zz00 O1.out 0 _ rfl;have t0 := zz00 O3.out 0 _ rfl;have tf0 := zz05 O3.out 0;have r1 := zz00 O1.out 1 _ rfl;have t1 := zz00 O3.out 1 _ rfl;have tf1 := zz05 O3.out 1;have r2 := zz00 O1.out 2 _ rfl;have t2 := zz00 O3.out 2 _ rfl;have tf2 := zz05 O3.out 2;have r3 := zz00 O1.out 3 _ rfl;have t3 := zz00 O3.out 3 _ rfl;have tf3 := zz05 O3.out 3;have r4 := zz00 O1.out 4 _ rfl;have t4 := zz00 O3.out 4 _ rfl;have tf4 := zz05 O3.out 4;refine bodyPost_ret (v := .agg #[.slice A1 b.h.length c1', .slice A2 b.s.length c2', .slice A5 l5.length c5', .slice A4 b.r.length c4', b.n]) ?_ rfl ⟨_, rfl, ?_, ?_⟩
 ·simp [results, Tryz.results85, go_sem, t0, t1, t2, t3, t4]
 ·exact zt27
 ·exact zt32
theorem zz9q (v : Value) (l : List (List Int)) (x0 x1 id : Int) (w : World) (hv : Hid (RowAt w v 2 l)) (hl : l.length ≤ 999999) (hr : Hid (riseH l)) :
  Calls Tryz.prog 142 #[v, .agg #[x0, x1], .int .i64 id, .func (.func 131) #[] #[], .bool false] w fun e w' => ∃ v', e = .returned v' ∧ RowOwn w' w.heap.size 84 v' 2 (setH id [x0, x1] false l) ∧ Below w.heap.size w w' := by
 obtain ⟨p, hp, hlt, _⟩ := placeH id hr.out;cases hF : (match l[p]? with | some r => decide (r.headD 0 = id) | none => false) with
 | false =>
  replace hF := hF.symm;have e := (show setH id [x0, x1] false l = l.take p ++ [x0, x1] :: l.drop p by rw [zz2t id [x0, x1] false hr.out hp hlt, ← hF]; simp)
  refine (zz9p v l x0 x1 id p w hv hl hp hlt hF).mono ?_;rintro x w' ⟨v', rfl, h1, h2⟩;exact ⟨v', rfl, by rw [e]; exact h1, h2⟩
 | true =>
  have hpl : p < l.length := by
   exact zt48
  replace hF := hF.symm;have e := (show setH id [x0, x1] false l = l.take p ++ [x0, x1] :: l.drop (p + 1) by rw [zz2t id [x0, x1] false hr.out hp hlt, ← hF]; simp)
  refine (zz9o v l x0 x1 id p w hv hl hpl hlt hF).mono ?_;rintro x w' ⟨v', rfl, h1, h2⟩;exact ⟨v', rfl, by rw [e]; exact h1, h2⟩
theorem zza4 (v : Value) (b : Bk) (x0 x1 : Int) (w : World) (hb : Hid (BkAt w v b)) (hs : Hid b.Small) (hr : Hid (riseH b.r)) :
  Calls Tryz.prog 75 #[v, .agg #[x0, x1]] w fun e w' => ∃ v', e = .returned v' ∧ BkOwn w' w.heap.size v' { b with r := setH x0 [x0, x1] false b.r } ∧ Below w.heap.size w w' := by
 obtain ⟨vh, vs, vo, vr, rfl, h1, h2, h3, h4⟩ := hb.out;obtain ⟨w0, hw0⟩ : ∃ w0, ((w.alloc (.cells #[vh, vs, vo, vr, b.n] 27)).alloc (.cells #[x0, x1] 84)).alloc (.cells BZ 27) = w0 := ⟨_, rfl⟩;have HB0 : Hid (Below w.heap.size w w0) := by rw [← hw0]; exact zz01 (zz01 zBa (by simp) _) zo _
 have K1 : ZB w0 w.heap.size #[vh, vs, vo, vr, b.n] 27 := by rw [← hw0]; exact zz04 (zz04 (zz02 _ _) _) _
 have K2 : ZB w0 (w.heap.size + 1) #[x0, x1] 84 := by rw [← hw0]; exact zz04 (zz0e _ _ _ (by simp)) _
 have K3 : ZB w0 (w.heap.size + 2) BZ 27 := by rw [← hw0]; exact zz0e _ _ _ (by simp)
 have qc := zH (zz3i _ b w0 (BkAt.call ⟨vh, vs, vo, vr, rfl, h1, h2, h3, h4⟩ HB0.out) hs);have qp := zH (fun wz v hv => zz9q v b.r x0 x1 x0 wz hv zsm hr)
 obtain ⟨l5, hl5⟩ : ∃ l5, setH x0 [x0, x1] false b.r = l5 := ⟨_, rfl⟩;rw [hl5] at qp ⊢;have hs0 : w.heap.size + 3 = w0.heap.size := by rw [← hw0]; simp
 have HS0 := zH hs0;have HW0 := zH hw0;clear hw0 h1 h2 h3 h4 hb hl5 hs0;go_in;go_wp2_with fail;rw [HW0.out];have a0 := zC K1.out;go_wp2_with fail;(with_reducible refine qc.out.mono ?_);rintro e w1 ⟨v1, rfl, ⟨uh, us, uo, ur, rfl, g1, g2, g3, g4⟩, hb1⟩;obtain ⟨A1, c1', rfl⟩ := g1.form;obtain ⟨A2, c2', rfl⟩ := g2.form;obtain ⟨A3, c3', rfl⟩ := g3.form;obtain ⟨A4, c4', rfl⟩ := g4.form;have m1 := zz06 K1.out hb1;have M2 := zK K2 hb1;have M3 := zK K3 hb1;have d0 := zC m1;have f0 := zF m1;have z0 := zC M2.out;obtain ⟨w2, hw2⟩ : ∃ w2, (((((w1.setCell ⟨w.heap.size, 0, none⟩ (.slice A1 b.h.length c1')).setCell ⟨w.heap.size, 1, none⟩ (.slice A2 b.s.length c2')).setCell ⟨w.heap.size, 2, none⟩ (.slice A3 b.o.length c3')).setCell ⟨w.heap.size, 3, none⟩ (.slice A4 b.r.length c4')).setCell ⟨w.heap.size, 4, none⟩ (.int .i64 b.n)) = w2 := ⟨_, rfl⟩;have N1 : ZB w2 w.heap.size (BF A1 c1' A2 c2' A3 c3' A4 c4' b b.n) 27 := by rw [← hw2]; exact zz0d (zz0d (zz0d (zz0d (zz0d m1 0 _) 1 _) 2 _) 3 _) 4 _
 have N2 : ZB w2 (w.heap.size + 1) #[x0, x1] 84 := by rw [← hw2]; exact zz09 (zz09 (zz09 (zz09 (zz09 M2.out 0 _ zw) 1 _ zw) 2 _ zw) 3 _ zw) 4 _ zw
 have N3 : ZB w2 (w.heap.size + 2) BZ 27 := by rw [← hw2]; exact zz09 (zz09 (zz09 (zz09 (zz09 M3.out 0 _ zw) 1 _ zw) 2 _ zw) 3 _ zw) 4 _ zw
 have hlt0 : w.heap.size < w0.heap.size := by have := HS0.out; omega
 have G : Hid (BkOwn w2 w0.heap.size (.agg (BF A1 c1' A2 c2' A3 c3' A4 c4' b b.n)) b) := by
  exact zt34
 have HB2 : Hid (Below w.heap.size w w2) := by
  exact zt39
 have hs2 : w0.heap.size ≤ w2.heap.size := by rw [← hw2]; simpa using hb1.size
 have HS2 := zH hs2;have HW2 := zH hw2;clear hw2 m1 g1 g2 g3 g4 hb1 hlt0 hs2;go_wp2_with fail;rw [HW2.out];clear a0 d0 f0 z0;have b0 := zC N1.out;have y0 := zC N2.out;have hrow : Hid (RowAt w2 (.slice A4 b.r.length c4') 2 b.r) := by
  obtain ⟨_, _, _, _, hh, g1, g2, g3, g4⟩ := G.out;injection hh with hh
  simp only [Array.mk.injEq, List.cons.injEq] at hh;obtain ⟨rfl, rfl, rfl, rfl, _⟩ := hh;exact g4.row
 (with_reducible refine (qp.out _ _ hrow).mono ?_);rintro e w3 ⟨v5, rfl, g5, hb3⟩
 obtain ⟨A5, c5', rfl⟩ := g5.form;have n1 := zz06 N1.out hb3;have n3 := zz06 N3.out hb3;have p0 := zC n1;have pf := zF n1;have v0 := zC n3;have vf0 := zF n3;obtain ⟨w4, hw4⟩ : ∃ w4, w3.setCell ⟨w.heap.size, 3, none⟩ (.slice A5 l5.length c5') = w4 := ⟨_, rfl⟩;have O1 : ZB w4 w.heap.size #[.slice A1 b.h.length c1', .slice A2 b.s.length c2', .slice A3 b.o.length c3', .slice A5 l5.length c5', b.n] 27 := by rw [← hw4]; exact zz0d n1 3 _
 have O3 : ZB w4 (w.heap.size + 2) BZ 27 := by rw [← hw4]; exact zz09 n3 3 _ zw
 have hlt0 : w.heap.size < w0.heap.size := by have := HS0.out; omega
 have G4 : Hid (BkOwn w4 w0.heap.size (.agg #[.slice A1 b.h.length c1', .slice A2 b.s.length c2', .slice A3 b.o.length c3', .slice A5 l5.length c5', b.n]) { b with r := l5 }) := by
  rw [← hw4];refine BkOwn.setBelow (a := ⟨_, _, _⟩) ?_ hlt0 _;obtain ⟨_, _, _, _, hh, g1, g2, g3, g4⟩ := G.out.kept hb3;injection hh with hh
  simp only [Array.mk.injEq, List.cons.injEq] at hh;obtain ⟨rfl, rfl, rfl, rfl, _⟩ := hh;exact ⟨_, _, _, _, rfl, g1, g2, g3, g5.mono HS2.out⟩
 have HB4 : Hid (Below w.heap.size w w4) := by
  rw [← hw4];exact Below.setCell (HB2.out.trans (hb3.mono HB2.out.size)) (Nat.le_refl _) _
 have HW4 := zH hw4;clear hw4 n1 n3 g5 hb3 hlt0 b0;go_wp2_with fail;rw [HW4.out];have r0 := zz00 O1.out 0 _ rfl;have t0 := zz00 O3.out 0 _ rfl;have tf0 := zz05 O3.out 0;have r1 := zz00 O1.out 1 _ rfl;have t1 := zz00 O3.out 1 _ rfl;have tf1 := zz05 O3.out 1;have r2 := zz00 O1.out 2 _ rfl;have t2 := zz00 O3.out 2 _ rfl;have tf2 := zz05 O3.out 2;have r3 := zz00 O1.out 3 _ rfl;have t3 := zz00 O3.out 3 _ rfl;have tf3 := zz05 O3.out 3;have r4 := zz00 O1.out 4 _ rfl;have t4 := zz00 O3.out 4 _ rfl;have tf4 := zz05 O3.out 4;refine bodyPost_ret (v := .agg #[.slice A1 b.h.length c1', .slice A2 b.s.length c2', .slice A3 b.o.length c3', .slice A5 l5.length c5', b.n]) ?_ rfl ⟨_, rfl, ?_, ?_⟩
 ·simp [results, Tryz.results75, go_sem, t0, t1, t2, t3, t4]
 ·exact zt27
 ·exact zt32
def Bk.Fit (b : Bk) : Prop := b.h.length ≤ 40 ∧ b.o.length ≤ 70 ∧ b.r.length ≤ 40 ∧ b.s.length ≤ 200
theorem Bk.Fit.small {b : Bk} (h : b.Fit) : b.Small := by unfold Bk.Fit at h; unfold Bk.Small; omega
theorem Great_any (v : Value) (b : Bk) (w : World) (hb : Hid (BkAt w v b)) :
  Calls Tryz.prog 9 #[v] w fun e w' => ∃ g, e = .returned (.bool g) ∧ (g = false → b.Fit) ∧ Below w.heap.size w w' := by
 obtain ⟨vh, vs, vo, vr, rfl, ⟨Ah, ch, rfl, _⟩, ⟨As, cs, rfl, _⟩, ⟨Ao, co, rfl, _⟩, ⟨Ar, cr, rfl, _⟩⟩ := hb.out;have HB : Hid (Below w.heap.size w (w.alloc (.cells (BF Ah ch As cs Ao co Ar cr b b.n) 27))) := zBa;have k := zz02 w (.cells (BF Ah ch As cs Ao co Ar cr b b.n) 27);have c0 := zC k;clear k hb;by_cases h0 : 40 < b.h.length
 ·have t0 : decide ((40 : Int) < (b.h.length : Int)) = true := decide_eq_true zw
  clear h0;go_in;go_wp2_with fail;go_ret;exact ⟨_, rfl, fun h => (by cases h), HB.out⟩
 ·have t0 : decide ((40 : Int) < (b.h.length : Int)) = false := decide_eq_false zw
  by_cases h1 : 70 < b.o.length
  ·have t1 : decide ((70 : Int) < (b.o.length : Int)) = true := decide_eq_true zw
   clear h0 h1;go_in;go_wp2_with fail;go_ret;exact ⟨_, rfl, fun h => (by cases h), HB.out⟩
  ·have t1 : decide ((70 : Int) < (b.o.length : Int)) = false := decide_eq_false zw
   by_cases h2 : 40 < b.r.length
   ·have t2 : decide ((40 : Int) < (b.r.length : Int)) = true := decide_eq_true zw
    clear h0 h1 h2;go_in;go_wp2_with fail;go_ret;exact ⟨_, rfl, fun h => (by cases h), HB.out⟩
   ·have t2 : decide ((40 : Int) < (b.r.length : Int)) = false := decide_eq_false zw
    by_cases h3 : 200 < b.s.length
    ·have t3 : decide ((200 : Int) < (b.s.length : Int)) = true := decide_eq_true zw
     clear h0 h1 h2 h3;go_in;go_wp2_with fail;go_ret;exact ⟨_, rfl, fun h => (by cases h), HB.out⟩
    ·have t3 : decide ((200 : Int) < (b.s.length : Int)) = false := decide_eq_false zw
     have hf := zH (show b.Fit from ⟨by omega, by omega, by omega, by omega⟩)
     clear h0 h1 h2 h3;go_in;go_wp2_with fail;go_ret;exact ⟨_, rfl, fun _ => hf.out, HB.out⟩
def riseHB : List (List Int) → Bool
 | a :: b :: t => decide (a.headD 0 < b.headD 0) && riseHB (b :: t)
 | _ => true
def stLt' (a b : List Int) : Prop := a.headD 0 < b.headD 0 ∨ a.headD 0 = b.headD 0 ∧ a.tail.headD 0 < b.tail.headD 0
instance (a b : List Int) : Decidable (stLt' a b) := by unfold stLt'; infer_instance
def riseSB : List (List Int) → Bool
 | a :: b :: t => decide (stLt' a b) && riseSB (b :: t)
 | _ => true
theorem zz6q : ∀ (l : List (List Int)), riseHB l = true ↔ riseH l
 | [] => by simp [riseHB, riseH]
 | [a] => by simp [riseHB, riseH]
 | a :: b :: t => by
  rw [riseHB, Bool.and_eq_true, zz6q (b :: t), decide_eq_true_eq];unfold riseH;rw [List.pairwise_cons (a := a)];constructor
  ·rintro ⟨h1, h2⟩
   refine ⟨fun x hx => ?_, h2⟩
   rcases List.mem_cons.1 hx with rfl | hx
   ·exact h1
   ·have := (List.pairwise_cons.1 h2).1 x hx; omega
  ·rintro ⟨h1, h2⟩
   exact ⟨h1 b (by simp), h2⟩
theorem zz6o : ∀ (l : List (List Int)), riseSB l = true ↔ riseS l
 | [] => by simp [riseSB, riseS]
 | [a] => by simp [riseSB, riseS]
 | a :: b :: t => by
  rw [riseSB, Bool.and_eq_true, zz6o (b :: t), decide_eq_true_eq];unfold riseS;rw [List.pairwise_cons (a := a)];constructor
  ·rintro ⟨h1, h2⟩
   refine ⟨fun x hx => ?_, h2⟩
   rcases List.mem_cons.1 hx with rfl | hx
   ·exact h1
   ·have := (List.pairwise_cons.1 h2).1 x hx; unfold stLt at this ⊢; unfold stLt' at h1; omega
  ·rintro ⟨h1, h2⟩
   exact ⟨h1 b (by simp), h2⟩
theorem zzbo {α : Type} {l : List α} {i : Nat} {a b : α} (ha : l[i]? = some a) (hb : l[i + 1]? = some b) : l.drop i = a :: b :: l.drop (i + 2) := by
 obtain ⟨h1, rfl⟩ := List.getElem?_eq_some_iff.1 ha;obtain ⟨h2, rfl⟩ := List.getElem?_eq_some_iff.1 hb;rw [List.drop_eq_getElem_cons h1, List.drop_eq_getElem_cons h2]
theorem zz1i {l : List (List Int)} {i : Nat} {a b : List Int} (ha : l[i]? = some a) (hb : l[i + 1]? = some b) : riseHB (l.drop i) = (decide (a.headD 0 < b.headD 0) && riseHB (l.drop (i + 1))) := by
 rw [zzbo ha hb];obtain ⟨h2, rfl⟩ := List.getElem?_eq_some_iff.1 hb;rw [List.drop_eq_getElem_cons h2, riseHB]
theorem zz58 {l : List (List Int)} {i : Nat} {a b : List Int} (ha : l[i]? = some a) (hb : l[i + 1]? = some b) : riseSB (l.drop i) = (decide (stLt' a b) && riseSB (l.drop (i + 1))) := by
 rw [zzbo ha hb];obtain ⟨h2, rfl⟩ := List.getElem?_eq_some_iff.1 hb;rw [List.drop_eq_getElem_cons h2, riseSB]
theorem zz2v {l : List (List Int)} {i : Nat} (h : l.length ≤ i + 1) : riseHB (l.drop i) = true := by
 have : (l.drop i).length ≤ 1 := by simp; omega
 match l.drop i, this with
 | [], _ => rfl
 | [a], _ => rfl
theorem zz6p {l : List (List Int)} {i : Nat} (h : l.length ≤ i + 1) : riseSB (l.drop i) = true := by
 have : (l.drop i).length ≤ 1 := by simp; omega
 match l.drop i, this with
 | [], _ => rfl
 | [a], _ => rfl
def Bk.riseB (b : Bk) : Bool := riseHB b.h && (riseHB b.o && (riseHB b.r && riseSB b.s))
theorem Bk.riseB_iff (b : Bk) : b.riseB = true ↔ b.Rise := by
 unfold Bk.riseB Bk.Rise;simp only [Bool.and_eq_true, zz6q, zz6o]
theorem zt41 {p : Prop} (h : p := by
 replace hst := hst.out;rw [show decide (stLt' ([y0, y1, y2] : List Int) [z0, z1, z2]) = false from decide_eq_false (by unfold stLt'; simp only [List.headD_cons, List.tail_cons]; omega), Bool.false_and] at hst
 have hst2 := zH (hrest.out.trans hst);clear hst;go_wp2_with fail;go_region
 all_goals
  go_wp2_with fail;go_ret;have hR : Res = false := by simp only [← hRes.out, T0.out, T1.out, T2.out, hst2.out, Bool.false_and, Bool.and_false, Bool.true_and]
  subst hR;exact ⟨rfl, HB.out.trans ((zz01 (zz01 (Below.drew hBr.out) (by have := hBr.out.size; first | (simp; omega) | omega) _) (by have := hBr.out.size; first | (simp; omega) | omega) _).mono HB.out.size)⟩) : p := h
theorem zt45 {p : Prop} (h : p := by
 replace hst := hst.out;rw [show decide (stLt' ([y0, y1, y2] : List Int) [z0, z1, z2]) = true from decide_eq_true (by unfold stLt'; simp only [List.headD_cons, List.tail_cons]; omega), Bool.true_and] at hst
 have hst2 := zH (hrest.out.trans hst);clear hst;go_wp2_with fail;go_region
 all_goals
  go_wp2_with fail;go_roundw
  case rel => exact ⟨j + 1, by go_num, by show _ ≤ _; omega, hst2.out, zz01 (zz01 (Below.drew hBr.out) (by have := hBr.out.size; first | (simp; omega) | omega) _) (by have := hBr.out.size; first | (simp; omega) | omega) _⟩
  case measure => simp [intOf]; omega) : p := h
theorem zt55 {p : Prop} (h : p := by
 have hst2 := zH (hrest.out.trans hst);clear hst hlt;go_wp2_with fail;go_quiet (fail);go_wp2_with fail;go_roundw
 case rel => exact ⟨j + 1, by go_num, by show _ ≤ _; omega, hst2.out, zz0b hBr.out _⟩
 case measure => simp [intOf]; omega) : p := h
theorem rRise_any (v : Value) (b : Bk) (w : World) (hb : Hid (BkAt w v b)) (hs : Hid b.Small) :
  Calls Tryz.prog 50 #[v] w fun e w' => e = .returned (.bool b.riseB) ∧ Below w.heap.size w w' := by
 obtain ⟨vh, vs, vo, vr, rfl, g1, g2, g3, g4⟩ := hb.out;obtain ⟨Ah, ch, rfl, _⟩ := g1;obtain ⟨As, cs, rfl, _⟩ := g2;obtain ⟨Ao, co, rfl, _⟩ := g3;obtain ⟨Ar, cr, rfl, _⟩ := g4;obtain ⟨w1, hw1⟩ : ∃ w1, w.alloc (.cells (BF Ah ch As cs Ao co Ar cr b b.n) 27) = w1 := ⟨_, rfl⟩;have HB : Hid (Below w.heap.size w w1) := by rw [← hw1]; exact zBa
 have K : ZB w1 w.heap.size (BF Ah ch As cs Ao co Ar cr b b.n) 27 := by rw [← hw1]; exact zz02 w _
 obtain ⟨_, _, _, _, hh, g1, g2, g3, g4⟩ := hb.out.call HB.out;injection hh with hh
 simp only [Array.mk.injEq, List.cons.injEq] at hh;obtain ⟨rfl, rfl, rfl, rfl, _⟩ := hh;have R0 := zH g1.rec';have R1 := zH g2.rec';have R2 := zH g3.rec';have R3 := zH g4.rec';have hl : b.h.length ≤ 1000000 ∧ b.s.length ≤ 1000000 ∧ b.o.length ≤ 1000000 ∧ b.r.length ≤ 1000000 := by have := hs.out; unfold Bk.Small at this; omega
 obtain ⟨hlh, hls, hlo, hlr⟩ := hl;obtain ⟨Res, hRes⟩ : ∃ Res, b.riseB = Res := ⟨_, rfl⟩;rw [hRes];unfold Bk.riseB at hRes;replace hRes := zH hRes;have hw1' := zH hw1;clear hb g1 g2 g3 g4 hw1 hs;go_in;go_wp2_with fail;rw [hw1'.out];go_loopw [3] (fun s6 wr => ∃ j : Nat, s6 = .int .i64 ((j : Int) + 1) ∧ Hid (j ≤ b.h.length) ∧ Hid (riseHB b.h = riseHB (b.h.drop j)) ∧ Hid (Below w1.heap.size w1 wr)) (fun s6 _ => b.h.length + 1 - (intOf s6).toNat)
 case atStart => exact ⟨0, rfl, Nat.zero_le _, rfl, Below.refl _ _⟩
 case round =>
  obtain ⟨j, rfl, hjl, hrest, hBr⟩ := hrel;replace hjl := hjl.out;have cb := zz00 (zK K hBr.out).out 0 _ rfl;by_cases hin : j + 1 < b.h.length
  ·have tn : decide ((j : Int) + 1 < (b.h.length : Int)) = true := decide_eq_true zw
   have hge : b.h[j]? = some b.h[j] := List.getElem?_eq_getElem zw;have hge2 : b.h[j + 1]? = some b.h[j + 1] := List.getElem?_eq_getElem hin;obtain ⟨A', c', hA', hi⟩ := R0.out;injection hA' with hA1 hA2 hA3
   subst hA1 hA3;obtain ⟨hk, b0, o0, hA0, hbl, hc⟩ := hi j _ hge;obtain ⟨hk2, b0', o0', hA0', hbl', hc2⟩ := hi (j + 1) _ hge2;subst hA0;injection hA0' with hA0'
   injection hA0' with hx1 hx2
   subst hx1 hx2;have hst := zH (zz1i hge hge2);clear hA2 hge hge2 hi;generalize b.h[j] = r at *;generalize b.h[j + 1] = r2 at *;obtain ⟨y0, y1, y2, y3, rfl⟩ : ∃ y0 y1 y2 y3, r = [y0, y1, y2, y3] := by
    match r, hk with
    | [y0, y1, y2, y3], _ => exact ⟨y0, y1, y2, y3, rfl⟩
   obtain ⟨z0, z1, z2, z3, rfl⟩ : ∃ z0 z1 z2 z3, r2 = [z0, z1, z2, z3] := by
    match r2, hk2 with
    | [z0, z1, z2, z3], _ => exact ⟨z0, z1, z2, z3, rfl⟩
   have c0 : wr.cell? ⟨b0, o0 + j * 4, none⟩ = some (.int .i64 y0) := (hBr.out.cell (p := ⟨b0, o0 + j * 4 + 0, none⟩) hbl).trans (hc 0 _ rfl);have d0 : wr.cell? ⟨b0, o0 + (j + 1) * 4, none⟩ = some (.int .i64 z0) := (hBr.out.cell (p := ⟨b0, o0 + (j + 1) * 4 + 0, none⟩) hbl).trans (hc2 0 _ rfl);have hm0 : IntKind.i64.wrap ((j : Int) + 1 - 1) = (j : Int) := by rw [IntKind.wrap_i64]; omega
   have hm1 : (j : Int) + 1 - 1 = (j : Int) := by omega
   have htn : ((j : Int) + 1).toNat = j + 1 := by omega
   have hb1 : (0 : Int) ≤ (j : Int) + 1 := by omega
   have hb2 : (j : Int) + 1 < (b.h.length : Int) := by omega
   have hb3 : (j : Int) < (b.h.length : Int) := by omega
   have hmj : IntKind.i64.wrap (j : Int) = (j : Int) := by rw [IntKind.wrap_i64]; omega
   have hwl : w.heap.size < wr.heap.size := Nat.lt_of_lt_of_le (zL K.out) hBr.out.size;have hbl3 : b0 < wr.heap.size := Nat.lt_of_lt_of_le hbl hBr.out.size;have hw2 : IntKind.i64.wrap ((j : Int) + 1 + 1) = (j : Int) + 1 + 1 := by rw [IntKind.wrap_i64]; omega
   clear hc hc2 hk hk2;by_cases hlt : y0 < z0
   ·have tl : decide (z0 ≤ y0) = false := decide_eq_false zw
    have hlt' : ¬ z0 ≤ y0 := by omega
    replace hst := hst.out;rw [show decide (([y0, y1, y2, y3] : List Int).headD 0 < ([z0, z1, z2, z3] : List Int).headD 0) = true from decide_eq_true hlt, Bool.true_and] at hst
    exact zt55
   ·have tl : decide (z0 ≤ y0) = true := decide_eq_true zw
    have hlt' : z0 ≤ y0 := by omega
    replace hst := hst.out;rw [show decide (([y0, y1, y2, y3] : List Int).headD 0 < ([z0, z1, z2, z3] : List Int).headD 0) = false from decide_eq_false hlt, Bool.false_and] at hst
    have hst2 := zH (hrest.out.trans hst);clear hst hlt;go_wp2_with fail;go_quiet (fail);go_wp2_with fail;go_ret;have hR : Res = false := by simp only [← hRes.out, hst2.out, Bool.false_and, Bool.and_false, Bool.true_and]
    subst hR;exact ⟨rfl, HB.out.trans ((zz0b hBr.out _).mono HB.out.size)⟩
  ·have tn : decide ((j : Int) + 1 < (b.h.length : Int)) = false := decide_eq_false zw
   have T0 : Hid (riseHB b.h = true) := hrest.out.trans (zz2v zw);have hBr0 := hBr;clear hrest hBr hjl;go_wp2_with fail;go_loopw [4] (fun s6 wr => ∃ j : Nat, s6 = .int .i64 ((j : Int) + 1) ∧ Hid (j ≤ b.o.length) ∧ Hid (riseHB b.o = riseHB (b.o.drop j)) ∧ Hid (Below w1.heap.size w1 wr)) (fun s6 _ => b.o.length + 1 - (intOf s6).toNat)
   case atStart => exact ⟨0, rfl, Nat.zero_le _, rfl, hBr0.out⟩
   case round =>
    obtain ⟨j, rfl, hjl, hrest, hBr⟩ := hrel;replace hjl := hjl.out;have cb := zz00 (zK K hBr.out).out 2 _ rfl;by_cases hin : j + 1 < b.o.length
    ·have tn : decide ((j : Int) + 1 < (b.o.length : Int)) = true := decide_eq_true zw
     have hge : b.o[j]? = some b.o[j] := List.getElem?_eq_getElem zw;have hge2 : b.o[j + 1]? = some b.o[j + 1] := List.getElem?_eq_getElem hin;obtain ⟨A', c', hA', hi⟩ := R2.out;injection hA' with hA1 hA2 hA3
     subst hA1 hA3;obtain ⟨hk, b0, o0, hA0, hbl, hc⟩ := hi j _ hge;obtain ⟨hk2, b0', o0', hA0', hbl', hc2⟩ := hi (j + 1) _ hge2;subst hA0;injection hA0' with hA0'
     injection hA0' with hx1 hx2
     subst hx1 hx2;have hst := zH (zz1i hge hge2);clear hA2 hge hge2 hi;generalize b.o[j] = r at *;generalize b.o[j + 1] = r2 at *;obtain ⟨y0, y1, y2, y3, y4, y5, rfl⟩ : ∃ y0 y1 y2 y3 y4 y5, r = [y0, y1, y2, y3, y4, y5] := by
      match r, hk with
      | [y0, y1, y2, y3, y4, y5], _ => exact ⟨y0, y1, y2, y3, y4, y5, rfl⟩
     obtain ⟨z0, z1, z2, z3, z4, z5, rfl⟩ : ∃ z0 z1 z2 z3 z4 z5, r2 = [z0, z1, z2, z3, z4, z5] := by
      match r2, hk2 with
      | [z0, z1, z2, z3, z4, z5], _ => exact ⟨z0, z1, z2, z3, z4, z5, rfl⟩
     have c0 : wr.cell? ⟨b0, o0 + j * 6, none⟩ = some (.int .i64 y0) := (hBr.out.cell (p := ⟨b0, o0 + j * 6 + 0, none⟩) hbl).trans (hc 0 _ rfl);have d0 : wr.cell? ⟨b0, o0 + (j + 1) * 6, none⟩ = some (.int .i64 z0) := (hBr.out.cell (p := ⟨b0, o0 + (j + 1) * 6 + 0, none⟩) hbl).trans (hc2 0 _ rfl);have hm0 : IntKind.i64.wrap ((j : Int) + 1 - 1) = (j : Int) := by rw [IntKind.wrap_i64]; omega
     have hm1 : (j : Int) + 1 - 1 = (j : Int) := by omega
     have htn : ((j : Int) + 1).toNat = j + 1 := by omega
     have hb1 : (0 : Int) ≤ (j : Int) + 1 := by omega
     have hb2 : (j : Int) + 1 < (b.o.length : Int) := by omega
     have hb3 : (j : Int) < (b.o.length : Int) := by omega
     have hmj : IntKind.i64.wrap (j : Int) = (j : Int) := by rw [IntKind.wrap_i64]; omega
     have hwl : w.heap.size < wr.heap.size := Nat.lt_of_lt_of_le (zL K.out) hBr.out.size;have hbl3 : b0 < wr.heap.size := Nat.lt_of_lt_of_le hbl hBr.out.size;have hw2 : IntKind.i64.wrap ((j : Int) + 1 + 1) = (j : Int) + 1 + 1 := by rw [IntKind.wrap_i64]; omega
     clear hc hc2 hk hk2;by_cases hlt : y0 < z0
     ·have tl : decide (z0 ≤ y0) = false := decide_eq_false zw
      have hlt' : ¬ z0 ≤ y0 := by omega
      replace hst := hst.out;rw [show decide (([y0, y1, y2, y3, y4, y5] : List Int).headD 0 < ([z0, z1, z2, z3, z4, z5] : List Int).headD 0) = true from decide_eq_true hlt, Bool.true_and] at hst
      exact zt55
     ·have tl : decide (z0 ≤ y0) = true := decide_eq_true zw
      have hlt' : z0 ≤ y0 := by omega
      replace hst := hst.out;rw [show decide (([y0, y1, y2, y3, y4, y5] : List Int).headD 0 < ([z0, z1, z2, z3, z4, z5] : List Int).headD 0) = false from decide_eq_false hlt, Bool.false_and] at hst
      have hst2 := zH (hrest.out.trans hst);clear hst hlt;go_wp2_with fail;go_quiet (fail);go_wp2_with fail;go_ret;have hR : Res = false := by simp only [← hRes.out, T0.out, hst2.out, Bool.false_and, Bool.and_false, Bool.true_and]
      subst hR;exact ⟨rfl, HB.out.trans ((zz0b hBr.out _).mono HB.out.size)⟩
    ·have tn : decide ((j : Int) + 1 < (b.o.length : Int)) = false := decide_eq_false zw
     have T1 : Hid (riseHB b.o = true) := hrest.out.trans (zz2v zw);have hBr1 := hBr;clear hrest hBr hjl;go_wp2_with fail;go_loopw [5] (fun s6 wr => ∃ j : Nat, s6 = .int .i64 ((j : Int) + 1) ∧ Hid (j ≤ b.r.length) ∧ Hid (riseHB b.r = riseHB (b.r.drop j)) ∧ Hid (Below w1.heap.size w1 wr)) (fun s6 _ => b.r.length + 1 - (intOf s6).toNat)
     case atStart => exact ⟨0, rfl, Nat.zero_le _, rfl, hBr1.out⟩
     case round =>
      obtain ⟨j, rfl, hjl, hrest, hBr⟩ := hrel;replace hjl := hjl.out;have cb := zz00 (zK K hBr.out).out 3 _ rfl;by_cases hin : j + 1 < b.r.length
      ·have tn : decide ((j : Int) + 1 < (b.r.length : Int)) = true := decide_eq_true zw
       have hge : b.r[j]? = some b.r[j] := List.getElem?_eq_getElem zw;have hge2 : b.r[j + 1]? = some b.r[j + 1] := List.getElem?_eq_getElem hin;obtain ⟨A', c', hA', hi⟩ := R3.out;injection hA' with hA1 hA2 hA3
       subst hA1 hA3;obtain ⟨hk, b0, o0, hA0, hbl, hc⟩ := hi j _ hge;obtain ⟨hk2, b0', o0', hA0', hbl', hc2⟩ := hi (j + 1) _ hge2;subst hA0;injection hA0' with hA0'
       injection hA0' with hx1 hx2
       subst hx1 hx2;have hst := zH (zz1i hge hge2);clear hA2 hge hge2 hi;generalize b.r[j] = r at *;generalize b.r[j + 1] = r2 at *;obtain ⟨y0, y1, rfl⟩ : ∃ y0 y1, r = [y0, y1] := by
        match r, hk with
        | [y0, y1], _ => exact ⟨y0, y1, rfl⟩
       obtain ⟨z0, z1, rfl⟩ : ∃ z0 z1, r2 = [z0, z1] := by
        match r2, hk2 with
        | [z0, z1], _ => exact ⟨z0, z1, rfl⟩
       have c0 : wr.cell? ⟨b0, o0 + j * 2, none⟩ = some (.int .i64 y0) := (hBr.out.cell (p := ⟨b0, o0 + j * 2 + 0, none⟩) hbl).trans (hc 0 _ rfl);have d0 : wr.cell? ⟨b0, o0 + (j + 1) * 2, none⟩ = some (.int .i64 z0) := (hBr.out.cell (p := ⟨b0, o0 + (j + 1) * 2 + 0, none⟩) hbl).trans (hc2 0 _ rfl);have hm0 : IntKind.i64.wrap ((j : Int) + 1 - 1) = (j : Int) := by rw [IntKind.wrap_i64]; omega
       have hm1 : (j : Int) + 1 - 1 = (j : Int) := by omega
       have htn : ((j : Int) + 1).toNat = j + 1 := by omega
       have hb1 : (0 : Int) ≤ (j : Int) + 1 := by omega
       have hb2 : (j : Int) + 1 < (b.r.length : Int) := by omega
       have hb3 : (j : Int) < (b.r.length : Int) := by omega
       have hmj : IntKind.i64.wrap (j : Int) = (j : Int) := by rw [IntKind.wrap_i64]; omega
       have hwl : w.heap.size < wr.heap.size := Nat.lt_of_lt_of_le (zL K.out) hBr.out.size;have hbl3 : b0 < wr.heap.size := Nat.lt_of_lt_of_le hbl hBr.out.size;have hw2 : IntKind.i64.wrap ((j : Int) + 1 + 1) = (j : Int) + 1 + 1 := by rw [IntKind.wrap_i64]; omega
       clear hc hc2 hk hk2;by_cases hlt : y0 < z0
       ·have tl : decide (z0 ≤ y0) = false := decide_eq_false zw
        have hlt' : ¬ z0 ≤ y0 := by omega
        replace hst := hst.out;rw [show decide (([y0, y1] : List Int).headD 0 < ([z0, z1] : List Int).headD 0) = true from decide_eq_true hlt, Bool.true_and] at hst
        exact zt55
       ·have tl : decide (z0 ≤ y0) = true := decide_eq_true zw
        have hlt' : z0 ≤ y0 := by omega
        replace hst := hst.out;rw [show decide (([y0, y1] : List Int).headD 0 < ([z0, z1] : List Int).headD 0) = false from decide_eq_false hlt, Bool.false_and] at hst
        have hst2 := zH (hrest.out.trans hst);clear hst hlt;go_wp2_with fail;go_quiet (fail);go_wp2_with fail;go_ret;have hR : Res = false := by simp only [← hRes.out, T0.out, T1.out, hst2.out, Bool.false_and, Bool.and_false, Bool.true_and]
        subst hR;exact ⟨rfl, HB.out.trans ((zz0b hBr.out _).mono HB.out.size)⟩
      ·have tn : decide ((j : Int) + 1 < (b.r.length : Int)) = false := decide_eq_false zw
       have T2 : Hid (riseHB b.r = true) := hrest.out.trans (zz2v zw);have hBr2 := hBr;clear hrest hBr hjl;go_wp2_with fail;go_loopw [6] (fun s6 wr => ∃ j : Nat, s6 = .int .i64 ((j : Int) + 1) ∧ Hid (j ≤ b.s.length) ∧ Hid (riseSB b.s = riseSB (b.s.drop j)) ∧ Hid (Below w1.heap.size w1 wr)) (fun s6 _ => b.s.length + 1 - (intOf s6).toNat)
       case atStart => exact ⟨0, rfl, Nat.zero_le _, rfl, hBr2.out⟩
       case round =>
        obtain ⟨j, rfl, hjl, hrest, hBr⟩ := hrel;replace hjl := hjl.out;have cb := zz00 (zK K hBr.out).out 1 _ rfl;by_cases hin : j + 1 < b.s.length
        ·have tn : decide ((j : Int) + 1 < (b.s.length : Int)) = true := decide_eq_true zw
         have hge : b.s[j]? = some b.s[j] := List.getElem?_eq_getElem zw;have hge2 : b.s[j + 1]? = some b.s[j + 1] := List.getElem?_eq_getElem hin;obtain ⟨A', c', hA', hi⟩ := R1.out;injection hA' with hA1 hA2 hA3
         subst hA1 hA3;obtain ⟨hk, b0, o0, hA0, hbl, hc⟩ := hi j _ hge;obtain ⟨hk2, b0', o0', hA0', hbl', hc2⟩ := hi (j + 1) _ hge2;subst hA0;injection hA0' with hA0'
         injection hA0' with hx1 hx2
         subst hx1 hx2;have hst := zH (zz58 hge hge2);clear hA2 hge hge2 hi;generalize b.s[j] = r at *;generalize b.s[j + 1] = r2 at *;obtain ⟨y0, y1, y2, rfl⟩ : ∃ y0 y1 y2, r = [y0, y1, y2] := by
          match r, hk with
          | [y0, y1, y2], _ => exact ⟨y0, y1, y2, rfl⟩
         obtain ⟨z0, z1, z2, rfl⟩ : ∃ z0 z1 z2, r2 = [z0, z1, z2] := by
          match r2, hk2 with
          | [z0, z1, z2], _ => exact ⟨z0, z1, z2, rfl⟩
         have c0 : wr.cell? ⟨b0, o0 + j * 3, none⟩ = some (.int .i64 y0) := (hBr.out.cell (p := ⟨b0, o0 + j * 3 + 0, none⟩) hbl).trans (hc 0 _ rfl);have d0 : wr.cell? ⟨b0, o0 + (j + 1) * 3, none⟩ = some (.int .i64 z0) := (hBr.out.cell (p := ⟨b0, o0 + (j + 1) * 3 + 0, none⟩) hbl).trans (hc2 0 _ rfl);have c1 : wr.cell? ⟨b0, o0 + j * 3 + 1, none⟩ = some (.int .i64 y1) := (hBr.out.cell (p := ⟨b0, o0 + j * 3 + 1, none⟩) hbl).trans (hc 1 _ rfl);have d1 : wr.cell? ⟨b0, o0 + (j + 1) * 3 + 1, none⟩ = some (.int .i64 z1) := (hBr.out.cell (p := ⟨b0, o0 + (j + 1) * 3 + 1, none⟩) hbl).trans (hc2 1 _ rfl);have c2 : wr.cell? ⟨b0, o0 + j * 3 + 2, none⟩ = some (.int .i64 y2) := (hBr.out.cell (p := ⟨b0, o0 + j * 3 + 2, none⟩) hbl).trans (hc 2 _ rfl);have d2 : wr.cell? ⟨b0, o0 + (j + 1) * 3 + 2, none⟩ = some (.int .i64 z2) := (hBr.out.cell (p := ⟨b0, o0 + (j + 1) * 3 + 2, none⟩) hbl).trans (hc2 2 _ rfl);have hm0 : IntKind.i64.wrap ((j : Int) + 1 - 1) = (j : Int) := by rw [IntKind.wrap_i64]; omega
         have hm1 : (j : Int) + 1 - 1 = (j : Int) := by omega
         have htn : ((j : Int) + 1).toNat = j + 1 := by omega
         have hb1 : (0 : Int) ≤ (j : Int) + 1 := by omega
         have hb2 : (j : Int) + 1 < (b.s.length : Int) := by omega
         have hb3 : (j : Int) < (b.s.length : Int) := by omega
         have hmj : IntKind.i64.wrap (j : Int) = (j : Int) := by rw [IntKind.wrap_i64]; omega
         have hwl : w.heap.size < wr.heap.size := Nat.lt_of_lt_of_le (zL K.out) hBr.out.size;have hbl3 : b0 < wr.heap.size := Nat.lt_of_lt_of_le hbl hBr.out.size;have hw2 : IntKind.i64.wrap ((j : Int) + 1 + 1) = (j : Int) + 1 + 1 := by rw [IntKind.wrap_i64]; omega
         clear hc hc2 hk hk2;by_cases h1 : z0 < y0
         ·have t1 : decide (z0 < y0) = true := decide_eq_true h1
          exact zt41
         ·have t1 : decide (z0 < y0) = false := decide_eq_false h1
          by_cases h2 : y0 = z0
          ·have t2 : (y0 == z0) = true := by simp [h2]
           by_cases h3 : z1 ≤ y1
           ·have t3 : decide (z1 ≤ y1) = true := decide_eq_true h3
            exact zt41
           ·have t3 : decide (z1 ≤ y1) = false := decide_eq_false h3
            exact zt45
          ·have t2 : (y0 == z0) = false := by simp [h2]
           exact zt45
        ·have tn : decide ((j : Int) + 1 < (b.s.length : Int)) = false := decide_eq_false zw
         have T3 : Hid (riseSB b.s = true) := hrest.out.trans (zz6p zw);have hBr3 := hBr;clear hrest hBr hjl;go_wp2_with fail;go_ret;have hR : Res = true := by simp only [← hRes.out, T0.out, T1.out, T2.out, T3.out, Bool.true_and]
         subst hR;exact ⟨rfl, HB.out.trans (hBr3.out.mono HB.out.size)⟩
end
end Go.Proofs.YtajogedbacpohaaGreatDoor
