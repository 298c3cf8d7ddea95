/- Part 7 of what the claim rests on. -/
import Derived.Test.YtjcdpmianmgiaaaGreatDoorF00
import Derived.Test.YtjcdpmianmgiaaaGreatDoorF05
namespace Go.Proofs.YtjcdpmianmgiaaaGreatDoor
open Go Go.RowKit
set_option linter.unusedVariables false
set_option linter.unusedSimpArgs false
def setK (ge ne : List Int → Bool) (x : List Int) : Bool → List (List Int) → List (List Int)
  | done, [] => if done then [] else [x]
  | done, r :: t => (if !done && ge r then [x] else []) ++ ((if ne r then [r] else []) ++ setK ge ne x (done || ge r) t)
theorem setK_true {ge ne : List Int → Bool} {x : List Int} : ∀ {l : List (List Int)}, (∀ r ∈ l, ne r = true) → setK ge ne x true l = l
  | [], _ => rfl
  | r :: t, h => by
    rw [setK, h r (by simp)]
    simp only [Bool.not_true, Bool.false_and, Bool.true_or, if_true, Bool.false_eq_true, if_false, List.nil_append, List.singleton_append]
    rw [setK_true (fun r hr => h r (by simp [hr]))]
theorem setK_at {ge ne : List Int → Bool} {x : List Int} (out : Bool) : ∀ {l : List (List Int)} {p : Nat}, p ≤ l.length → (∀ (h : Nat) (r : List Int), l[h]? = some r → (ge r = false ↔ h < p)) → (∀ (h : Nat) (r : List Int), l[h]? = some r → ne r = false → h = p) →
    setK ge ne x out l = l.take p ++ ((if out then [] else [x]) ++ l.drop (if (l[p]?).any (fun r => !ne r) then p + 1 else p))
  | [], p, hp, _, _ => by
    obtain rfl : p = 0 := by simpa using hp
    cases out <;> rfl
  | r :: t, 0, hp, h1, h2 => by
    have hg : ge r = true := by
      cases hg : ge r with
      | true => rfl
      | false => exact absurd ((h1 0 r rfl).1 hg) (Nat.lt_irrefl _)
    have ht : setK ge ne x true t = t := setK_true (fun u hu => by
      obtain ⟨k, hk⟩ := List.getElem?_of_mem hu
      cases hn : ne u with
      | true => rfl
      | false => exact absurd (h2 (k + 1) u (by simpa using hk) hn) (by omega))
    rw [setK, hg, Bool.or_true, ht]
    cases out <;> cases hn : ne r <;> simp [hn]
  | r :: t, p + 1, hp, h1, h2 => by
    have hg : ge r = false := (h1 0 r rfl).2 (by omega)
    have hn : ne r = true := by
      cases hn : ne r with
      | true => rfl
      | false => exact absurd (h2 0 r rfl hn) (by omega)
    have ih := setK_at (ge := ge) (ne := ne) (x := x) out (l := t) (p := p) (by simpa using hp) (fun h u hu => by rw [h1 (h + 1) u (by simpa using hu)]; omega) (fun h u hu hn => by have := h2 (h + 1) u (by simpa using hu) hn; omega)
    rw [setK, hg, hn, Bool.or_false, ih]
    by_cases hc : (t[p]?).any (fun r => !ne r) = true
    · simp [hc]
    · simp [hc]
def setH (id : Int) (x : List Int) (out : Bool) (l : List (List Int)) : List (List Int) := setK (fun r => !decide (r.headD 0 < id)) (fun r => !isId id r) x out l
def setS (kx ky : Int) (x : List Int) (out : Bool) (l : List (List Int)) : List (List Int) := setK (fun r => !decide (r.headD 0 < kx ∨ r.headD 0 = kx ∧ r.tail.headD 0 < ky)) (fun r => !isKey kx ky r) x out l
theorem only_one {α : Type} {B E : α → Bool} {l : List α} {p : Nat} (hp : l.Pairwise (fun a b => E b = true → B a = true)) (hE : ∀ r ∈ l, E r = true → B r = false) (hlt : ∀ (h : Nat) (r : α), l[h]? = some r → (B r = true ↔ h < p)) (h : Nat) (r : α) (hr : l[h]? = some r) (he : E r = true) : h = p := by
  have hh := (List.getElem?_eq_some_iff.1 hr)
  obtain ⟨hl, hr'⟩ := hh
  have h1 : ¬ h < p := fun hlt' => by
    have := (hlt h r hr).2 hlt'
    rw [hE r (List.mem_of_getElem? hr) he] at this
    cases this
  by_cases h2 : p < h
  · have := (List.pairwise_iff_getElem.1 hp) p h (by omega) hl h2 (by rw [hr']; exact he)
    have := (hlt p _ (List.getElem?_eq_getElem (by omega))).1 this
    omega
  · omega
theorem any_not {l : List (List Int)} {p : Nat} (E : List Int → Bool) : (l[p]?).any (fun r => !(!E r)) = (match l[p]? with | some r => E r | none => false) := by
  cases l[p]? <;> simp
theorem setH_at (id : Int) (x : List Int) (out : Bool) {l : List (List Int)} {p : Nat} (hr : riseH l) (hp : p ≤ l.length) (hlt : ∀ (h : Nat) (r : List Int), l[h]? = some r → (r.headD 0 < id ↔ h < p)) :
    setH id x out l = l.take p ++ ((if out then [] else [x]) ++ l.drop (if (match l[p]? with | some r => decide (r.headD 0 = id) | none => false) then p + 1 else p)) := by
  rw [setH, setK_at out hp (fun h r hh => by have := hlt h r hh; simpa using this) (fun h r hh hn => only_one (B := fun r : List Int => decide (r.headD 0 < id)) (E := isId id) (p := p) (l := l)
    (hr.imp fun {a b} hab => by simp only [isId, decide_eq_true_eq]; intro _; omega) (fun r _ hr => by simp only [isId, decide_eq_true_eq] at hr; simp only [decide_eq_false_iff_not]; omega) (fun h r hh => by have := hlt h r hh; simpa using this) h r hh (by simpa using hn)), any_not]
  rfl
theorem setS_at (kx ky : Int) (x : List Int) (out : Bool) {l : List (List Int)} {p : Nat} (hr : riseS l) (hp : p ≤ l.length) (hlt : ∀ (h : Nat) (r : List Int), l[h]? = some r → (stLt r kx ky ↔ h < p)) :
    setS kx ky x out l = l.take p ++ ((if out then [] else [x]) ++ l.drop (if (match l[p]? with | some r => decide (r.headD 0 = kx ∧ r.tail.headD 0 = ky) | none => false) then p + 1 else p)) := by
  unfold stLt at hlt
  rw [setS, setK_at out hp (fun h r hh => by rw [← hlt h r hh, Bool.not_eq_false', decide_eq_true_eq]) (fun h r hh hn => only_one (B := fun r : List Int => decide (r.headD 0 < kx ∨ r.headD 0 = kx ∧ r.tail.headD 0 < ky)) (E := isKey kx ky) (p := p) (l := l)
    (hr.imp fun {a b} hab => by unfold stLt at hab; simp only [isKey, decide_eq_true_eq]; intro _; omega) (fun r _ hr => by simp only [isKey, decide_eq_true_eq] at hr; simp only [decide_eq_false_iff_not]; omega) (fun h r hh => by rw [decide_eq_true_eq]; exact hlt h r hh) h r hh (by simpa using hn)), any_not]
  rfl
theorem putHolder_all (v : Value) (l : List (List Int)) (x0 x1 x2 x3 id : Int) (w : World) (hv : Hid (RowAt w v 4 l)) (hl : l.length ≤ 999999) (hr : Hid (riseH l)) :
    Calls Tryz.prog 148 #[v, .agg #[.int .i64 x0, .int .i64 x1, .int .i64 x2, .int .i64 x3], .int .i64 id, .func (.func 132) #[] #[], .bool false] w fun e w' => ∃ v', e = .returned v' ∧ RowOwn w' w.heap.size 82 v' 4 (setH id [x0, x1, x2, x3] false l) ∧ Below w.heap.size w w' := by
  obtain ⟨p, hp, hlt, _⟩ := placeH id hr.out
  cases hF : (match l[p]? with | some r => decide (r.headD 0 = id) | none => false) with
  | false =>
    replace hF := hF.symm
    have e := (show setH id [x0, x1, x2, x3] false l = l.take p ++ [x0, x1, x2, x3] :: l.drop p by rw [setH_at id [x0, x1, x2, x3] false hr.out hp hlt, ← hF]; simp)
    refine (putHolder_ins v l x0 x1 x2 x3 id p w hv hl hp hlt hF).mono ?_
    rintro x w' ⟨v', rfl, h1, h2⟩
    exact ⟨v', rfl, by rw [e]; exact h1, h2⟩
  | true =>
    have hpl : p < l.length := by
      cases hlp : l[p]? with
      | none => rw [hlp] at hF; cases hF
      | some r => exact (List.getElem?_eq_some_iff.1 hlp).1
    replace hF := hF.symm
    have e := (show setH id [x0, x1, x2, x3] false l = l.take p ++ [x0, x1, x2, x3] :: l.drop (p + 1) by rw [setH_at id [x0, x1, x2, x3] false hr.out hp hlt, ← hF]; simp)
    refine (putHolder_set v l x0 x1 x2 x3 id p w hv hl hpl hlt hF).mono ?_
    rintro x w' ⟨v', rfl, h1, h2⟩
    exact ⟨v', rfl, by rw [e]; exact h1, h2⟩
set_option maxRecDepth 100000 in
set_option maxHeartbeats 4000000 in
theorem SetHolder_any (v : Value) (b : Bk) (x0 x1 x2 x3 : Int) (w : World) (hb : Hid (BkAt w v b)) (hs : Hid b.Small) (hr : Hid (riseH b.h)) :
    Calls Tryz.prog 88 #[v, .agg #[.int .i64 x0, .int .i64 x1, .int .i64 x2, .int .i64 x3]] w fun e w' => ∃ v', e = .returned v' ∧ BkOwn w' w.heap.size v' { b with h := setH x0 [x0, x1, x2, x3] false b.h } ∧ Below w.heap.size w w' := by
  obtain ⟨vh, vs, vo, vr, rfl, h1, h2, h3, h4⟩ := hb.out
  obtain ⟨w0, hw0⟩ : ∃ w0, ((w.alloc (.cells #[vh, vs, vo, vr, .int .i64 b.n] 27)).alloc (.cells #[.int .i64 x0, .int .i64 x1, .int .i64 x2, .int .i64 x3] 82)).alloc (.cells #[.slice none 0 0, .slice none 0 0, .slice none 0 0, .slice none 0 0, .int .i64 0] 27) = w0 := ⟨_, rfl⟩
  have HB0 : Hid (Below w.heap.size w w0) := by rw [← hw0]; exact below_alloc (below_alloc (below_alloc (Below.refl _ _) (Nat.le_refl _) _) (by simp) _) (by first | (simp; done) | (simp; omega)) _
  have K1 : Hid (w0.heap[w.heap.size]? = some (.cells #[vh, vs, vo, vr, .int .i64 b.n] 27 (0, 0))) := by rw [← hw0]; exact blk_old (blk_old (heap_new _ _) _) _
  have K2 : Hid (w0.heap[w.heap.size + 1]? = some (.cells #[.int .i64 x0, .int .i64 x1, .int .i64 x2, .int .i64 x3] 82 (0, 0))) := by rw [← hw0]; exact blk_old (blk_new _ _ _ (by simp)) _
  have K3 : Hid (w0.heap[w.heap.size + 2]? = some (.cells #[.slice none 0 0, .slice none 0 0, .slice none 0 0, .slice none 0 0, .int .i64 0] 27 (0, 0))) := by rw [← hw0]; exact blk_new _ _ _ (by simp)
  have qc := zH (Copy_any _ b w0 (BkAt.call ⟨vh, vs, vo, vr, rfl, h1, h2, h3, h4⟩ HB0.out) hs)
  have qp := zH (fun wz v hv => putHolder_all v b.h x0 x1 x2 x3 x0 wz hv (by have := hs.out; unfold Bk.Small at this; omega) hr)
  obtain ⟨l5, hl5⟩ : ∃ l5, setH x0 [x0, x1, x2, x3] false b.h = l5 := ⟨_, rfl⟩
  rw [hl5] at qp ⊢
  have hs0 : w.heap.size + 3 = w0.heap.size := by rw [← hw0]; simp
  have HS0 := zH hs0
  have HW0 := zH hw0
  clear hw0 h1 h2 h3 h4 hb hl5 hs0
  go_enter Tryz.func88, Tryz.ntmps88
  go_wp2_with fail
  rw [HW0.out]
  have a0 := zC K1.out
  go_wp2_with fail
  with_reducible refine qc.out.mono ?_
  rintro e w1 ⟨v1, rfl, ⟨uh, us, uo, ur, rfl, g1, g2, g3, g4⟩, hb1⟩
  obtain ⟨A1, c1', rfl⟩ := g1.form
  obtain ⟨A2, c2', rfl⟩ := g2.form
  obtain ⟨A3, c3', rfl⟩ := g3.form
  obtain ⟨A4, c4', rfl⟩ := g4.form
  have m1 := blk_call K1.out hb1
  have M2 := zK K2 hb1
  have M3 := zK K3 hb1
  have d0 := zC m1
  have f0 := zF m1
  have z0 := zC M2.out
  obtain ⟨w2, hw2⟩ : ∃ w2, (((((w1.setCell ⟨w.heap.size, 0, none⟩ (.slice A1 b.h.length c1')).setCell ⟨w.heap.size, 1, none⟩ (.slice A2 b.s.length c2')).setCell ⟨w.heap.size, 2, none⟩ (.slice A3 b.o.length c3')).setCell ⟨w.heap.size, 3, none⟩ (.slice A4 b.r.length c4')).setCell ⟨w.heap.size, 4, none⟩ (.int .i64 b.n)) = w2 := ⟨_, rfl⟩
  have N1 : Hid (w2.heap[w.heap.size]? = some (.cells #[.slice A1 b.h.length c1', .slice A2 b.s.length c2', .slice A3 b.o.length c3', .slice A4 b.r.length c4', .int .i64 b.n] 27 (0, 0))) := by rw [← hw2]; exact set_blk (set_blk (set_blk (set_blk (set_blk m1 0 _) 1 _) 2 _) 3 _) 4 _
  have N2 : Hid (w2.heap[w.heap.size + 1]? = some (.cells #[.int .i64 x0, .int .i64 x1, .int .i64 x2, .int .i64 x3] 82 (0, 0))) := by rw [← hw2]; exact set_oth (set_oth (set_oth (set_oth (set_oth M2.out 0 _ (by omega)) 1 _ (by omega)) 2 _ (by omega)) 3 _ (by omega)) 4 _ (by omega)
  have N3 : Hid (w2.heap[w.heap.size + 2]? = some (.cells #[.slice none 0 0, .slice none 0 0, .slice none 0 0, .slice none 0 0, .int .i64 0] 27 (0, 0))) := by rw [← hw2]; exact set_oth (set_oth (set_oth (set_oth (set_oth M3.out 0 _ (by omega)) 1 _ (by omega)) 2 _ (by omega)) 3 _ (by omega)) 4 _ (by omega)
  have hlt0 : w.heap.size < w0.heap.size := by have := HS0.out; omega
  have G : Hid (BkOwn w2 w0.heap.size (.agg #[.slice A1 b.h.length c1', .slice A2 b.s.length c2', .slice A3 b.o.length c3', .slice A4 b.r.length c4', .int .i64 b.n]) b) := by
    rw [← hw2]
    exact BkOwn.setBelow (a := ⟨_, _, _⟩) (BkOwn.setBelow (a := ⟨_, _, _⟩) (BkOwn.setBelow (a := ⟨_, _, _⟩) (BkOwn.setBelow (a := ⟨_, _, _⟩) (BkOwn.setBelow (a := ⟨_, _, _⟩) ⟨_, _, _, _, rfl, g1, g2, g3, g4⟩ hlt0 _) hlt0 _) hlt0 _) hlt0 _) hlt0 _
  have HB2 : Hid (Below w.heap.size w w2) := by
    rw [← hw2]
    have := HB0.out.trans (hb1.mono HB0.out.size)
    exact Below.setCell (Below.setCell (Below.setCell (Below.setCell (Below.setCell this (Nat.le_refl _) _) (Nat.le_refl _) _) (Nat.le_refl _) _) (Nat.le_refl _) _) (Nat.le_refl _) _
  have hs2 : w0.heap.size ≤ w2.heap.size := by rw [← hw2]; simpa using hb1.size
  have HS2 := zH hs2
  have HW2 := zH hw2
  clear hw2 m1 g1 g2 g3 g4 hb1 hlt0 hs2
  go_wp2_with fail
  rw [HW2.out]
  clear a0 d0 f0 z0
  have b0 := zC N1.out
  have y0 := zC N2.out
  have hrow : Hid (RowAt w2 (.slice A1 b.h.length c1') 4 b.h) := by
    obtain ⟨_, _, _, _, hh, g1, g2, g3, g4⟩ := G.out
    injection hh with hh
    simp only [Array.mk.injEq, List.cons.injEq] at hh
    obtain ⟨rfl, rfl, rfl, rfl, _⟩ := hh
    exact g1.row
  with_reducible refine (qp.out _ _ hrow).mono ?_
  rintro e w3 ⟨v5, rfl, g5, hb3⟩
  obtain ⟨A5, c5', rfl⟩ := g5.form
  have n1 := blk_call N1.out hb3
  have n3 := blk_call N3.out hb3
  have p0 := zC n1
  have pf := zF n1
  have v0 := zC n3
  have vf0 := zF n3
  obtain ⟨w4, hw4⟩ : ∃ w4, w3.setCell ⟨w.heap.size, 0, none⟩ (.slice A5 l5.length c5') = w4 := ⟨_, rfl⟩
  have O1 : Hid (w4.heap[w.heap.size]? = some (.cells #[.slice A5 l5.length c5', .slice A2 b.s.length c2', .slice A3 b.o.length c3', .slice A4 b.r.length c4', .int .i64 b.n] 27 (0, 0))) := by rw [← hw4]; exact set_blk n1 0 _
  have O3 : Hid (w4.heap[w.heap.size + 2]? = some (.cells #[.slice none 0 0, .slice none 0 0, .slice none 0 0, .slice none 0 0, .int .i64 0] 27 (0, 0))) := by rw [← hw4]; exact set_oth n3 0 _ (by omega)
  have hlt0 : w.heap.size < w0.heap.size := by have := HS0.out; omega
  have G4 : Hid (BkOwn w4 w0.heap.size (.agg #[.slice A5 l5.length c5', .slice A2 b.s.length c2', .slice A3 b.o.length c3', .slice A4 b.r.length c4', .int .i64 b.n]) { b with h := l5 }) := by
    rw [← hw4]
    refine BkOwn.setBelow (a := ⟨_, _, _⟩) ?_ hlt0 _
    obtain ⟨_, _, _, _, hh, g1, g2, g3, g4⟩ := G.out.kept hb3
    injection hh with hh
    simp only [Array.mk.injEq, List.cons.injEq] at hh
    obtain ⟨rfl, rfl, rfl, rfl, _⟩ := hh
    exact ⟨_, _, _, _, rfl, g5.mono HS2.out, g2, g3, g4⟩
  have HB4 : Hid (Below w.heap.size w w4) := by
    rw [← hw4]
    exact Below.setCell (HB2.out.trans (hb3.mono HB2.out.size)) (Nat.le_refl _) _
  have HW4 := zH hw4
  clear hw4 n1 n3 g5 hb3 hlt0 b0
  go_wp2_with fail
  rw [HW4.out]
  have r0 := cells_of_blk O1.out 0 _ rfl
  have t0 := cells_of_blk O3.out 0 _ rfl
  have tf0 := free_of_blk O3.out 0
  have r1 := cells_of_blk O1.out 1 _ rfl
  have t1 := cells_of_blk O3.out 1 _ rfl
  have tf1 := free_of_blk O3.out 1
  have r2 := cells_of_blk O1.out 2 _ rfl
  have t2 := cells_of_blk O3.out 2 _ rfl
  have tf2 := free_of_blk O3.out 2
  have r3 := cells_of_blk O1.out 3 _ rfl
  have t3 := cells_of_blk O3.out 3 _ rfl
  have tf3 := free_of_blk O3.out 3
  have r4 := cells_of_blk O1.out 4 _ rfl
  have t4 := cells_of_blk O3.out 4 _ rfl
  have tf4 := free_of_blk O3.out 4
  refine bodyPost_ret (v := .agg #[.slice A5 l5.length c5', .slice A2 b.s.length c2', .slice A3 b.o.length c3', .slice A4 b.r.length c4', .int .i64 b.n]) ?_ rfl ⟨_, rfl, ?_, ?_⟩
  · simp [results, Tryz.results88, go_sem, t0, t1, t2, t3, t4]
  · have hl2 : w.heap.size + 2 < w0.heap.size := by have := HS0.out; omega
    exact BkOwn.mono (BkOwn.setBelow (a := ⟨_, _, _⟩) (BkOwn.setBelow (a := ⟨_, _, _⟩) (BkOwn.setBelow (a := ⟨_, _, _⟩) (BkOwn.setBelow (a := ⟨_, _, _⟩) (BkOwn.setBelow (a := ⟨_, _, _⟩) G4.out hl2 _) hl2 _) hl2 _) hl2 _) hl2 _) HB0.out.size
  · have hl2 : w.heap.size ≤ w.heap.size + 2 := by omega
    exact Below.setCell (p := ⟨_, _, _⟩) (Below.setCell (p := ⟨_, _, _⟩) (Below.setCell (p := ⟨_, _, _⟩) (Below.setCell (p := ⟨_, _, _⟩) (Below.setCell (p := ⟨_, _, _⟩) HB4.out hl2 _) hl2 _) hl2 _) hl2 _) hl2 _
theorem putStake_all (v : Value) (l : List (List Int)) (x0 x1 x2 kx ky : Int) (out : Bool) (w : World) (hv : Hid (RowAt w v 3 l)) (hl : l.length ≤ 999999) (hr : Hid (riseS l)) :
    Calls Tryz.prog 161 #[v, .agg #[.int .i64 x0, .int .i64 x1, .int .i64 x2], .agg #[.int .i64 kx, .int .i64 ky], .func (.func 141) #[] #[], .bool out] w fun e w' => ∃ v', e = .returned v' ∧ RowOwn w' w.heap.size 84 v' 3 (setS kx ky [x0, x1, x2] out l) ∧ Below w.heap.size w w' := by
  obtain ⟨p, hp, hlt, _⟩ := placeS kx ky hr.out
  cases out with
  | false =>
    cases hF : (match l[p]? with | some r => decide (r.headD 0 = kx ∧ r.tail.headD 0 = ky) | none => false) with
    | false =>
      replace hF := hF.symm
      have e := (show setS kx ky [x0, x1, x2] false l = l.take p ++ [x0, x1, x2] :: l.drop p by rw [setS_at kx ky [x0, x1, x2] false hr.out hp hlt, ← hF]; simp)
      refine (putStake_ins v l x0 x1 x2 kx ky p w hv hl hp hlt hF).mono ?_
      rintro x w' ⟨v', rfl, h1, h2⟩
      exact ⟨v', rfl, by rw [e]; exact h1, h2⟩
    | true =>
      have hpl : p < l.length := by
        cases hlp : l[p]? with
        | none => rw [hlp] at hF; cases hF
        | some r => exact (List.getElem?_eq_some_iff.1 hlp).1
      replace hF := hF.symm
      have e := (show setS kx ky [x0, x1, x2] false l = l.take p ++ [x0, x1, x2] :: l.drop (p + 1) by rw [setS_at kx ky [x0, x1, x2] false hr.out hp hlt, ← hF]; simp)
      refine (putStake_set v l x0 x1 x2 kx ky p w hv hl hpl hlt hF).mono ?_
      rintro x w' ⟨v', rfl, h1, h2⟩
      exact ⟨v', rfl, by rw [e]; exact h1, h2⟩
  | true =>
    cases hF : (match l[p]? with | some r => decide (r.headD 0 = kx ∧ r.tail.headD 0 = ky) | none => false) with
    | false =>
      replace hF := hF.symm
      have e := (show setS kx ky [x0, x1, x2] true l = l by rw [setS_at kx ky [x0, x1, x2] true hr.out hp hlt, ← hF]; simp)
      refine (putStake_same v l x0 x1 x2 kx ky p w hv hl hp hlt hF).mono ?_
      rintro x w' ⟨v', rfl, h1, h2⟩
      exact ⟨v', rfl, by rw [e]; exact h1, h2⟩
    | true =>
      have hpl : p < l.length := by
        cases hlp : l[p]? with
        | none => rw [hlp] at hF; cases hF
        | some r => exact (List.getElem?_eq_some_iff.1 hlp).1
      replace hF := hF.symm
      have e := (show setS kx ky [x0, x1, x2] true l = l.take p ++ l.drop (p + 1) by rw [setS_at kx ky [x0, x1, x2] true hr.out hp hlt, ← hF]; simp)
      refine (putStake_del v l x0 x1 x2 kx ky p w hv hl hpl hlt hF).mono ?_
      rintro x w' ⟨v', rfl, h1, h2⟩
      exact ⟨v', rfl, by rw [e]; exact h1, h2⟩
set_option maxRecDepth 100000 in
theorem stakeKey_any (x0 x1 x2 : Int) (w : World) : Calls Tryz.prog 140 #[.agg #[.int .i64 x0, .int .i64 x1, .int .i64 x2]] w fun e w' => e = .returned (.agg #[.int .i64 x0, .int .i64 x1]) ∧ Below w.heap.size w w' := by
  have k1 := blk_old (heap_new w (.cells #[.int .i64 x0, .int .i64 x1, .int .i64 x2] 84)) (.cells #[.int .i64 0, .int .i64 0] 187)
  have c0 := zC k1
  have k2 : ((w.alloc (.cells #[.int .i64 x0, .int .i64 x1, .int .i64 x2] 84)).alloc (.cells #[.int .i64 0, .int .i64 0] 187)).heap[w.heap.size + 1]? = some (.cells #[.int .i64 0, .int .i64 0] 187 (0, 0)) := blk_new _ _ _ (by simp)
  have d0 := cells_of_blk k2 0 _ rfl
  have d1 := cells_of_blk k2 1 _ rfl
  have f0 := free_of_blk k2 0
  have f1 := free_of_blk k2 1
  clear k1 k2
  go_enter Tryz.func140, Tryz.ntmps140
  go_wp2_with fail
  refine bodyPost_ret (v := .agg #[.int .i64 x0, .int .i64 x1]) ?_ rfl ⟨rfl, ?_⟩
  · simp [results, Tryz.results140, go_sem, d0, d1]
  · first
    | exact below_alloc (below_alloc (Below.refl _ _) (Nat.le_refl _) _) (by first | (simp; done) | (simp; omega)) _
    | exact Below.setCell (Below.setCell (below_alloc (below_alloc (Below.refl _ _) (Nat.le_refl _) _) (by first | (simp; done) | (simp; omega)) _) (by first | (simp; done) | omega) _) (by first | (simp; done) | omega) _
set_option maxRecDepth 100000 in
set_option maxHeartbeats 4000000 in
theorem SetStake_any (v : Value) (b : Bk) (x0 x1 x2 : Int) (w : World) (hb : Hid (BkAt w v b)) (hs : Hid b.Small) (hr : Hid (riseS b.s)) :
    Calls Tryz.prog 103 #[v, .agg #[.int .i64 x0, .int .i64 x1, .int .i64 x2]] w fun e w' => ∃ v', e = .returned v' ∧ BkOwn w' w.heap.size v' { b with s := setS x0 x1 [x0, x1, x2] (x2 == 0) b.s } ∧ Below w.heap.size w w' := by
  obtain ⟨vh, vs, vo, vr, rfl, h1, h2, h3, h4⟩ := hb.out
  obtain ⟨w0, hw0⟩ : ∃ w0, ((w.alloc (.cells #[vh, vs, vo, vr, .int .i64 b.n] 27)).alloc (.cells #[.int .i64 x0, .int .i64 x1, .int .i64 x2] 84)).alloc (.cells #[.slice none 0 0, .slice none 0 0, .slice none 0 0, .slice none 0 0, .int .i64 0] 27) = w0 := ⟨_, rfl⟩
  have HB0 : Hid (Below w.heap.size w w0) := by rw [← hw0]; exact below_alloc (below_alloc (below_alloc (Below.refl _ _) (Nat.le_refl _) _) (by simp) _) (by first | (simp; done) | (simp; omega)) _
  have K1 : Hid (w0.heap[w.heap.size]? = some (.cells #[vh, vs, vo, vr, .int .i64 b.n] 27 (0, 0))) := by rw [← hw0]; exact blk_old (blk_old (heap_new _ _) _) _
  have K2 : Hid (w0.heap[w.heap.size + 1]? = some (.cells #[.int .i64 x0, .int .i64 x1, .int .i64 x2] 84 (0, 0))) := by rw [← hw0]; exact blk_old (blk_new _ _ _ (by simp)) _
  have K3 : Hid (w0.heap[w.heap.size + 2]? = some (.cells #[.slice none 0 0, .slice none 0 0, .slice none 0 0, .slice none 0 0, .int .i64 0] 27 (0, 0))) := by rw [← hw0]; exact blk_new _ _ _ (by simp)
  have qc := zH (Copy_any _ b w0 (BkAt.call ⟨vh, vs, vo, vr, rfl, h1, h2, h3, h4⟩ HB0.out) hs)
  have qp := zH (fun wz v hv => putStake_all v b.s x0 x1 x2 x0 x1 (x2 == 0) wz hv (by have := hs.out; unfold Bk.Small at this; omega) hr)
  have qk := zH (fun wz => stakeKey_any x0 x1 x2 wz)
  obtain ⟨l5, hl5⟩ : ∃ l5, setS x0 x1 [x0, x1, x2] (x2 == 0) b.s = l5 := ⟨_, rfl⟩
  rw [hl5] at qp ⊢
  have hs0 : w.heap.size + 3 = w0.heap.size := by rw [← hw0]; simp
  have HS0 := zH hs0
  have HW0 := zH hw0
  clear hw0 h1 h2 h3 h4 hb hl5 hs0
  go_enter Tryz.func103, Tryz.ntmps103
  go_wp2_with fail
  rw [HW0.out]
  have a0 := zC K1.out
  go_wp2_with fail
  with_reducible refine qc.out.mono ?_
  rintro e w1 ⟨v1, rfl, ⟨uh, us, uo, ur, rfl, g1, g2, g3, g4⟩, hb1⟩
  obtain ⟨A1, c1', rfl⟩ := g1.form
  obtain ⟨A2, c2', rfl⟩ := g2.form
  obtain ⟨A3, c3', rfl⟩ := g3.form
  obtain ⟨A4, c4', rfl⟩ := g4.form
  have m1 := blk_call K1.out hb1
  have M2 := zK K2 hb1
  have M3 := zK K3 hb1
  have d0 := zC m1
  have f0 := zF m1
  have z0 := zC M2.out
  obtain ⟨w2, hw2⟩ : ∃ w2, (((((w1.setCell ⟨w.heap.size, 0, none⟩ (.slice A1 b.h.length c1')).setCell ⟨w.heap.size, 1, none⟩ (.slice A2 b.s.length c2')).setCell ⟨w.heap.size, 2, none⟩ (.slice A3 b.o.length c3')).setCell ⟨w.heap.size, 3, none⟩ (.slice A4 b.r.length c4')).setCell ⟨w.heap.size, 4, none⟩ (.int .i64 b.n)) = w2 := ⟨_, rfl⟩
  have N1 : Hid (w2.heap[w.heap.size]? = some (.cells #[.slice A1 b.h.length c1', .slice A2 b.s.length c2', .slice A3 b.o.length c3', .slice A4 b.r.length c4', .int .i64 b.n] 27 (0, 0))) := by rw [← hw2]; exact set_blk (set_blk (set_blk (set_blk (set_blk m1 0 _) 1 _) 2 _) 3 _) 4 _
  have N2 : Hid (w2.heap[w.heap.size + 1]? = some (.cells #[.int .i64 x0, .int .i64 x1, .int .i64 x2] 84 (0, 0))) := by rw [← hw2]; exact set_oth (set_oth (set_oth (set_oth (set_oth M2.out 0 _ (by omega)) 1 _ (by omega)) 2 _ (by omega)) 3 _ (by omega)) 4 _ (by omega)
  have N3 : Hid (w2.heap[w.heap.size + 2]? = some (.cells #[.slice none 0 0, .slice none 0 0, .slice none 0 0, .slice none 0 0, .int .i64 0] 27 (0, 0))) := by rw [← hw2]; exact set_oth (set_oth (set_oth (set_oth (set_oth M3.out 0 _ (by omega)) 1 _ (by omega)) 2 _ (by omega)) 3 _ (by omega)) 4 _ (by omega)
  have hlt0 : w.heap.size < w0.heap.size := by have := HS0.out; omega
  have G : Hid (BkOwn w2 w0.heap.size (.agg #[.slice A1 b.h.length c1', .slice A2 b.s.length c2', .slice A3 b.o.length c3', .slice A4 b.r.length c4', .int .i64 b.n]) b) := by
    rw [← hw2]
    exact BkOwn.setBelow (a := ⟨_, _, _⟩) (BkOwn.setBelow (a := ⟨_, _, _⟩) (BkOwn.setBelow (a := ⟨_, _, _⟩) (BkOwn.setBelow (a := ⟨_, _, _⟩) (BkOwn.setBelow (a := ⟨_, _, _⟩) ⟨_, _, _, _, rfl, g1, g2, g3, g4⟩ hlt0 _) hlt0 _) hlt0 _) hlt0 _) hlt0 _
  have HB2 : Hid (Below w.heap.size w w2) := by
    rw [← hw2]
    have := HB0.out.trans (hb1.mono HB0.out.size)
    exact Below.setCell (Below.setCell (Below.setCell (Below.setCell (Below.setCell this (Nat.le_refl _) _) (Nat.le_refl _) _) (Nat.le_refl _) _) (Nat.le_refl _) _) (Nat.le_refl _) _
  have hs2 : w0.heap.size ≤ w2.heap.size := by rw [← hw2]; simpa using hb1.size
  have HS2 := zH hs2
  have HW2 := zH hw2
  clear hw2 m1 g1 g2 g3 g4 hb1 hlt0 hs2
  go_wp2_with fail
  rw [HW2.out]
  clear a0 d0 f0 z0
  have b0 := cells_of_blk N1.out 0 _ rfl
  have b1 := cells_of_blk N1.out 1 _ rfl
  have b2 := cells_of_blk N1.out 2 _ rfl
  have b3 := cells_of_blk N1.out 3 _ rfl
  have b4 := cells_of_blk N1.out 4 _ rfl
  have y0 := cells_of_blk N2.out 0 _ rfl
  have y1 := cells_of_blk N2.out 1 _ rfl
  have y2 := cells_of_blk N2.out 2 _ rfl
  have hrow : Hid (RowAt w2 (.slice A2 b.s.length c2') 3 b.s) := by
    obtain ⟨_, _, _, _, hh, g1, g2, g3, g4⟩ := G.out
    injection hh with hh
    simp only [Array.mk.injEq, List.cons.injEq] at hh
    obtain ⟨rfl, rfl, rfl, rfl, _⟩ := hh
    exact g2.row
  have hlw := zL N1.out
  have hlw2 := zL N2.out
  have HC : Hid (Below w2.heap.size w2 w2.drew) := (Below.refl _ _).drew
  refine wp_region_D [10] (fun wz => Hid (Below w2.heap.size w2 wz)) 11 #[false, false, false, false, false, false, false, false, false, false, false] (by kernel_rfl) (by kernel_rfl) (by kernel_rfl) ?_
  refine pure_moreD [0, 1, 2, 3, 5, 6, 7] 4 (L' := #[true, true, true, true, false, true, true, true, false, false, false]) (by kernel_rfl) (by kernel_rfl) HC ?_
  simp only [opsAt, List.getElem?_toArray, List.getElem?_cons_zero, List.getElem?_cons_succ]
  refine pure_atG (.pointer (some ⟨w.heap.size, 1, none⟩)) rfl (fun wz _ => by unfold execOp; go_simp) ?_
  refine pure_atG (.slice A2 b.s.length c2') rfl (fun wz hC => by have h0 := ((Hid.out hC).cell (p := ⟨w.heap.size, 1, none⟩) hlw).trans b1; unfold execOp; go_simp) ?_
  refine pure_atG (.agg #[.int .i64 x0, .int .i64 x1, .int .i64 x2]) rfl (fun wz hC => by have h0 := ((Hid.out hC).cell (p := ⟨w.heap.size + 1, 0, none⟩) hlw2).trans y0; have h1 := ((Hid.out hC).cell (p := ⟨w.heap.size + 1, 1, none⟩) hlw2).trans y1; have h2 := ((Hid.out hC).cell (p := ⟨w.heap.size + 1, 2, none⟩) hlw2).trans y2; unfold execOp; go_simp) ?_
  refine pure_atG (.agg #[.int .i64 x0, .int .i64 x1, .int .i64 x2]) rfl (fun wz hC => by have h0 := ((Hid.out hC).cell (p := ⟨w.heap.size + 1, 0, none⟩) hlw2).trans y0; have h1 := ((Hid.out hC).cell (p := ⟨w.heap.size + 1, 1, none⟩) hlw2).trans y1; have h2 := ((Hid.out hC).cell (p := ⟨w.heap.size + 1, 2, none⟩) hlw2).trans y2; unfold execOp; go_simp) ?_
  refine pure_atG (.pointer (some ⟨w.heap.size + 1, 2, none⟩)) rfl (fun wz _ => by unfold execOp; go_simp) ?_
  refine pure_atG (.int .i64 x2) rfl (fun wz hC => by have h0 := ((Hid.out hC).cell (p := ⟨w.heap.size + 1, 2, none⟩) hlw2).trans y2; unfold execOp; go_simp) ?_
  refine pure_atG (.bool (x2 == 0)) rfl (fun wz _ => by unfold execOp; go_simp) ?_
  unfold wpPure
  go_simp
  refine wpAnyD_one 4 (f := 3) (L' := #[true, true, true, true, true, true, true, true, false, false, false]) (by kernel_rfl) (by kernel_rfl) rfl rfl ?_
  go_wp2_with fail
  with_reducible refine (qk.out _).mono ?_
  rintro e w5 ⟨rfl, hbk⟩
  have HC5 : Hid (Below w2.heap.size w2 w5) := HC.out.trans (hbk.mono HC.out.size)
  replace hrow := zH (hrow.out.call HC5.out)
  clear hbk
  go_wp2_with fail
  rw [StepQ_normal]
  refine ⟨fun _ => HC5, ?_⟩
  refine wpAnyD_one 8 (f := 2) (L' := #[true, true, true, true, true, true, true, true, true, false, false]) (by kernel_rfl) (by kernel_rfl) rfl rfl ?_
  go_wp2_with fail
  with_reducible refine (qp.out _ _ hrow).mono ?_
  rintro e w3 ⟨v5, rfl, g5, hb3'⟩
  obtain ⟨A5, c5', rfl⟩ := g5.form
  replace g5 := g5.mono (B' := w2.heap.size) HC5.out.size
  have hb3 : Below w2.heap.size w2 w3 := HC5.out.trans (hb3'.mono HC5.out.size)
  have HC3 := zH hb3
  have n1 := blk_call N1.out hb3
  have n3 := blk_call N3.out hb3
  have p0 := zC n1
  have pf := zF n1
  have v0 := zC n3
  have vf0 := zF n3
  obtain ⟨w4, hw4⟩ : ∃ w4, w3.setCell ⟨w.heap.size, 1, none⟩ (.slice A5 l5.length c5') = w4 := ⟨_, rfl⟩
  have O1 : Hid (w4.heap[w.heap.size]? = some (.cells #[.slice A1 b.h.length c1', .slice A5 l5.length c5', .slice A3 b.o.length c3', .slice A4 b.r.length c4', .int .i64 b.n] 27 (0, 0))) := by rw [← hw4]; exact set_blk n1 1 _
  have O3 : Hid (w4.heap[w.heap.size + 2]? = some (.cells #[.slice none 0 0, .slice none 0 0, .slice none 0 0, .slice none 0 0, .int .i64 0] 27 (0, 0))) := by rw [← hw4]; exact set_oth n3 1 _ (by omega)
  have hlt0 : w.heap.size < w0.heap.size := by have := HS0.out; omega
  have G4 : Hid (BkOwn w4 w0.heap.size (.agg #[.slice A1 b.h.length c1', .slice A5 l5.length c5', .slice A3 b.o.length c3', .slice A4 b.r.length c4', .int .i64 b.n]) { b with s := l5 }) := by
    rw [← hw4]
    refine BkOwn.setBelow (a := ⟨_, _, _⟩) ?_ hlt0 _
    obtain ⟨_, _, _, _, hh, g1, g2, g3, g4⟩ := G.out.kept hb3
    injection hh with hh
    simp only [Array.mk.injEq, List.cons.injEq] at hh
    obtain ⟨rfl, rfl, rfl, rfl, _⟩ := hh
    exact ⟨_, _, _, _, rfl, g1, g5.mono HS2.out, g3, g4⟩
  have HB4 : Hid (Below w.heap.size w w4) := by
    rw [← hw4]
    exact Below.setCell (HB2.out.trans (hb3.mono HB2.out.size)) (Nat.le_refl _) _
  have HW4 := zH hw4
  clear hw4 n1 n3 g5 hb3 hb3' hlt0 b0 b1 b2 b3 b4
  go_wp2_with fail
  rw [StepQ_normal]
  refine ⟨fun _ => HC3, ?_⟩
  refine wpAnyD_one 9 (f := 1) (L' := #[true, true, true, true, true, true, true, true, true, true, false]) (by kernel_rfl) (by kernel_rfl) rfl rfl ?_
  go_wp2_with fail
  rw [StepQ_normal]
  refine ⟨fun _ => HC3, ?_⟩
  refine wpAnyD_one 10 (f := 0) (L' := #[true, true, true, true, true, true, true, true, true, true, true]) (by kernel_rfl) (by kernel_rfl) rfl rfl ?_
  go_wp2_with fail
  rw [StepQ_normal]
  refine ⟨fun h => (by cases h), ?_⟩
  refine ⟨by kernel_rfl, ?_⟩
  rw [OnlyN_normal]
  rw [HW4.out]
  clear p0 v0 vf0
  have r0 := cells_of_blk O1.out 0 _ rfl
  have t0 := cells_of_blk O3.out 0 _ rfl
  have tf0 := free_of_blk O3.out 0
  have r1 := cells_of_blk O1.out 1 _ rfl
  have t1 := cells_of_blk O3.out 1 _ rfl
  have tf1 := free_of_blk O3.out 1
  have r2 := cells_of_blk O1.out 2 _ rfl
  have t2 := cells_of_blk O3.out 2 _ rfl
  have tf2 := free_of_blk O3.out 2
  have r3 := cells_of_blk O1.out 3 _ rfl
  have t3 := cells_of_blk O3.out 3 _ rfl
  have tf3 := free_of_blk O3.out 3
  have r4 := cells_of_blk O1.out 4 _ rfl
  have t4 := cells_of_blk O3.out 4 _ rfl
  have tf4 := free_of_blk O3.out 4
  go_wp2_with fail
  refine bodyPost_ret (v := .agg #[.slice A1 b.h.length c1', .slice A5 l5.length c5', .slice A3 b.o.length c3', .slice A4 b.r.length c4', .int .i64 b.n]) ?_ rfl ⟨_, rfl, ?_, ?_⟩
  · simp [results, Tryz.results103, go_sem, t0, t1, t2, t3, t4]
  · have hl2 : w.heap.size + 2 < w0.heap.size := by have := HS0.out; omega
    exact BkOwn.mono (BkOwn.setBelow (a := ⟨_, _, _⟩) (BkOwn.setBelow (a := ⟨_, _, _⟩) (BkOwn.setBelow (a := ⟨_, _, _⟩) (BkOwn.setBelow (a := ⟨_, _, _⟩) (BkOwn.setBelow (a := ⟨_, _, _⟩) G4.out hl2 _) hl2 _) hl2 _) hl2 _) hl2 _) HB0.out.size
  · have hl2 : w.heap.size ≤ w.heap.size + 2 := by omega
    exact Below.setCell (p := ⟨_, _, _⟩) (Below.setCell (p := ⟨_, _, _⟩) (Below.setCell (p := ⟨_, _, _⟩) (Below.setCell (p := ⟨_, _, _⟩) (Below.setCell (p := ⟨_, _, _⟩) HB4.out hl2 _) hl2 _) hl2 _) hl2 _) hl2 _
theorem putOpen_all (v : Value) (l : List (List Int)) (x0 x1 x2 x3 x4 x5 id : Int) (out : Bool) (w : World) (hv : Hid (RowAt w v 6 l)) (hl : l.length ≤ 999999) (hr : Hid (riseH l)) :
    Calls Tryz.prog 159 #[v, .agg #[.int .i64 x0, .int .i64 x1, .int .i64 x2, .int .i64 x3, .int .i64 x4, .int .i64 x5], .int .i64 id, .func (.func 135) #[] #[], .bool out] w fun e w' => ∃ v', e = .returned v' ∧ RowOwn w' w.heap.size 86 v' 6 (setH id [x0, x1, x2, x3, x4, x5] out l) ∧ Below w.heap.size w w' := by
  obtain ⟨p, hp, hlt, _⟩ := placeH id hr.out
  cases out with
  | false =>
    cases hF : (match l[p]? with | some r => decide (r.headD 0 = id) | none => false) with
    | false =>
      replace hF := hF.symm
      have e := (show setH id [x0, x1, x2, x3, x4, x5] false l = l.take p ++ [x0, x1, x2, x3, x4, x5] :: l.drop p by rw [setH_at id [x0, x1, x2, x3, x4, x5] false hr.out hp hlt, ← hF]; simp)
      refine (putOpen_ins v l x0 x1 x2 x3 x4 x5 id p w hv hl hp hlt hF).mono ?_
      rintro x w' ⟨v', rfl, h1, h2⟩
      exact ⟨v', rfl, by rw [e]; exact h1, h2⟩
    | true =>
      have hpl : p < l.length := by
        cases hlp : l[p]? with
        | none => rw [hlp] at hF; cases hF
        | some r => exact (List.getElem?_eq_some_iff.1 hlp).1
      replace hF := hF.symm
      have e := (show setH id [x0, x1, x2, x3, x4, x5] false l = l.take p ++ [x0, x1, x2, x3, x4, x5] :: l.drop (p + 1) by rw [setH_at id [x0, x1, x2, x3, x4, x5] false hr.out hp hlt, ← hF]; simp)
      refine (putOpen_set v l x0 x1 x2 x3 x4 x5 id p w hv hl hpl hlt hF).mono ?_
      rintro x w' ⟨v', rfl, h1, h2⟩
      exact ⟨v', rfl, by rw [e]; exact h1, h2⟩
  | true =>
    cases hF : (match l[p]? with | some r => decide (r.headD 0 = id) | none => false) with
    | false =>
      replace hF := hF.symm
      have e := (show setH id [x0, x1, x2, x3, x4, x5] true l = l by rw [setH_at id [x0, x1, x2, x3, x4, x5] true hr.out hp hlt, ← hF]; simp)
      refine (putOpen_same v l x0 x1 x2 x3 x4 x5 id p w hv hl hp hlt hF).mono ?_
      rintro x w' ⟨v', rfl, h1, h2⟩
      exact ⟨v', rfl, by rw [e]; exact h1, h2⟩
    | true =>
      have hpl : p < l.length := by
        cases hlp : l[p]? with
        | none => rw [hlp] at hF; cases hF
        | some r => exact (List.getElem?_eq_some_iff.1 hlp).1
      replace hF := hF.symm
      have e := (show setH id [x0, x1, x2, x3, x4, x5] true l = l.take p ++ l.drop (p + 1) by rw [setH_at id [x0, x1, x2, x3, x4, x5] true hr.out hp hlt, ← hF]; simp)
      refine (putOpen_del v l x0 x1 x2 x3 x4 x5 id p w hv hl hpl hlt hF).mono ?_
      rintro x w' ⟨v', rfl, h1, h2⟩
      exact ⟨v', rfl, by rw [e]; exact h1, h2⟩
set_option maxRecDepth 100000 in
set_option maxHeartbeats 4000000 in
theorem SetOpen_any (v : Value) (b : Bk) (x0 x1 x2 x3 x4 x5 : Int) (w : World) (hb : Hid (BkAt w v b)) (hs : Hid b.Small) (hr : Hid (riseH b.o)) :
    Calls Tryz.prog 99 #[v, .agg #[.int .i64 x0, .int .i64 x1, .int .i64 x2, .int .i64 x3, .int .i64 x4, .int .i64 x5]] w fun e w' => ∃ v', e = .returned v' ∧ BkOwn w' w.heap.size v' { b with o := setH x0 [x0, x1, x2, x3, x4, x5] (x4 == 0) b.o } ∧ Below w.heap.size w w' := by
  obtain ⟨vh, vs, vo, vr, rfl, h1, h2, h3, h4⟩ := hb.out
  obtain ⟨w0, hw0⟩ : ∃ w0, ((w.alloc (.cells #[vh, vs, vo, vr, .int .i64 b.n] 27)).alloc (.cells #[.int .i64 x0, .int .i64 x1, .int .i64 x2, .int .i64 x3, .int .i64 x4, .int .i64 x5] 86)).alloc (.cells #[.slice none 0 0, .slice none 0 0, .slice none 0 0, .slice none 0 0, .int .i64 0] 27) = w0 := ⟨_, rfl⟩
  have HB0 : Hid (Below w.heap.size w w0) := by rw [← hw0]; exact below_alloc (below_alloc (below_alloc (Below.refl _ _) (Nat.le_refl _) _) (by simp) _) (by first | (simp; done) | (simp; omega)) _
  have K1 : Hid (w0.heap[w.heap.size]? = some (.cells #[vh, vs, vo, vr, .int .i64 b.n] 27 (0, 0))) := by rw [← hw0]; exact blk_old (blk_old (heap_new _ _) _) _
  have K2 : Hid (w0.heap[w.heap.size + 1]? = some (.cells #[.int .i64 x0, .int .i64 x1, .int .i64 x2, .int .i64 x3, .int .i64 x4, .int .i64 x5] 86 (0, 0))) := by rw [← hw0]; exact blk_old (blk_new _ _ _ (by simp)) _
  have K3 : Hid (w0.heap[w.heap.size + 2]? = some (.cells #[.slice none 0 0, .slice none 0 0, .slice none 0 0, .slice none 0 0, .int .i64 0] 27 (0, 0))) := by rw [← hw0]; exact blk_new _ _ _ (by simp)
  have qc := zH (Copy_any _ b w0 (BkAt.call ⟨vh, vs, vo, vr, rfl, h1, h2, h3, h4⟩ HB0.out) hs)
  have qp := zH (fun wz v hv => putOpen_all v b.o x0 x1 x2 x3 x4 x5 x0 (x4 == 0) wz hv (by have := hs.out; unfold Bk.Small at this; omega) hr)
  obtain ⟨l5, hl5⟩ : ∃ l5, setH x0 [x0, x1, x2, x3, x4, x5] (x4 == 0) b.o = l5 := ⟨_, rfl⟩
  rw [hl5] at qp ⊢
  have hs0 : w.heap.size + 3 = w0.heap.size := by rw [← hw0]; simp
  have HS0 := zH hs0
  have HW0 := zH hw0
  clear hw0 h1 h2 h3 h4 hb hl5 hs0
  go_enter Tryz.func99, Tryz.ntmps99
  go_wp2_with fail
  rw [HW0.out]
  have a0 := zC K1.out
  go_wp2_with fail
  with_reducible refine qc.out.mono ?_
  rintro e w1 ⟨v1, rfl, ⟨uh, us, uo, ur, rfl, g1, g2, g3, g4⟩, hb1⟩
  obtain ⟨A1, c1', rfl⟩ := g1.form
  obtain ⟨A2, c2', rfl⟩ := g2.form
  obtain ⟨A3, c3', rfl⟩ := g3.form
  obtain ⟨A4, c4', rfl⟩ := g4.form
  have m1 := blk_call K1.out hb1
  have M2 := zK K2 hb1
  have M3 := zK K3 hb1
  have d0 := zC m1
  have f0 := zF m1
  have z0 := zC M2.out
  obtain ⟨w2, hw2⟩ : ∃ w2, (((((w1.setCell ⟨w.heap.size, 0, none⟩ (.slice A1 b.h.length c1')).setCell ⟨w.heap.size, 1, none⟩ (.slice A2 b.s.length c2')).setCell ⟨w.heap.size, 2, none⟩ (.slice A3 b.o.length c3')).setCell ⟨w.heap.size, 3, none⟩ (.slice A4 b.r.length c4')).setCell ⟨w.heap.size, 4, none⟩ (.int .i64 b.n)) = w2 := ⟨_, rfl⟩
  have N1 : Hid (w2.heap[w.heap.size]? = some (.cells #[.slice A1 b.h.length c1', .slice A2 b.s.length c2', .slice A3 b.o.length c3', .slice A4 b.r.length c4', .int .i64 b.n] 27 (0, 0))) := by rw [← hw2]; exact set_blk (set_blk (set_blk (set_blk (set_blk m1 0 _) 1 _) 2 _) 3 _) 4 _
  have N2 : Hid (w2.heap[w.heap.size + 1]? = some (.cells #[.int .i64 x0, .int .i64 x1, .int .i64 x2, .int .i64 x3, .int .i64 x4, .int .i64 x5] 86 (0, 0))) := by rw [← hw2]; exact set_oth (set_oth (set_oth (set_oth (set_oth M2.out 0 _ (by omega)) 1 _ (by omega)) 2 _ (by omega)) 3 _ (by omega)) 4 _ (by omega)
  have N3 : Hid (w2.heap[w.heap.size + 2]? = some (.cells #[.slice none 0 0, .slice none 0 0, .slice none 0 0, .slice none 0 0, .int .i64 0] 27 (0, 0))) := by rw [← hw2]; exact set_oth (set_oth (set_oth (set_oth (set_oth M3.out 0 _ (by omega)) 1 _ (by omega)) 2 _ (by omega)) 3 _ (by omega)) 4 _ (by omega)
  have hlt0 : w.heap.size < w0.heap.size := by have := HS0.out; omega
  have G : Hid (BkOwn w2 w0.heap.size (.agg #[.slice A1 b.h.length c1', .slice A2 b.s.length c2', .slice A3 b.o.length c3', .slice A4 b.r.length c4', .int .i64 b.n]) b) := by
    rw [← hw2]
    exact BkOwn.setBelow (a := ⟨_, _, _⟩) (BkOwn.setBelow (a := ⟨_, _, _⟩) (BkOwn.setBelow (a := ⟨_, _, _⟩) (BkOwn.setBelow (a := ⟨_, _, _⟩) (BkOwn.setBelow (a := ⟨_, _, _⟩) ⟨_, _, _, _, rfl, g1, g2, g3, g4⟩ hlt0 _) hlt0 _) hlt0 _) hlt0 _) hlt0 _
  have HB2 : Hid (Below w.heap.size w w2) := by
    rw [← hw2]
    have := HB0.out.trans (hb1.mono HB0.out.size)
    exact Below.setCell (Below.setCell (Below.setCell (Below.setCell (Below.setCell this (Nat.le_refl _) _) (Nat.le_refl _) _) (Nat.le_refl _) _) (Nat.le_refl _) _) (Nat.le_refl _) _
  have hs2 : w0.heap.size ≤ w2.heap.size := by rw [← hw2]; simpa using hb1.size
  have HS2 := zH hs2
  have HW2 := zH hw2
  clear hw2 m1 g1 g2 g3 g4 hb1 hlt0 hs2
  go_wp2_with fail
  rw [HW2.out]
  clear a0 d0 f0 z0
  have b0 := zC N1.out
  have y0 := zC N2.out
  have hrow : Hid (RowAt w2 (.slice A3 b.o.length c3') 6 b.o) := by
    obtain ⟨_, _, _, _, hh, g1, g2, g3, g4⟩ := G.out
    injection hh with hh
    simp only [Array.mk.injEq, List.cons.injEq] at hh
    obtain ⟨rfl, rfl, rfl, rfl, _⟩ := hh
    exact g3.row
  with_reducible refine (qp.out _ _ hrow).mono ?_
  rintro e w3 ⟨v5, rfl, g5, hb3⟩
  obtain ⟨A5, c5', rfl⟩ := g5.form
  have n1 := blk_call N1.out hb3
  have n3 := blk_call N3.out hb3
  have p0 := zC n1
  have pf := zF n1
  have v0 := zC n3
  have vf0 := zF n3
  obtain ⟨w4, hw4⟩ : ∃ w4, w3.setCell ⟨w.heap.size, 2, none⟩ (.slice A5 l5.length c5') = w4 := ⟨_, rfl⟩
  have O1 : Hid (w4.heap[w.heap.size]? = some (.cells #[.slice A1 b.h.length c1', .slice A2 b.s.length c2', .slice A5 l5.length c5', .slice A4 b.r.length c4', .int .i64 b.n] 27 (0, 0))) := by rw [← hw4]; exact set_blk n1 2 _
  have O3 : Hid (w4.heap[w.heap.size + 2]? = some (.cells #[.slice none 0 0, .slice none 0 0, .slice none 0 0, .slice none 0 0, .int .i64 0] 27 (0, 0))) := by rw [← hw4]; exact set_oth n3 2 _ (by omega)
  have hlt0 : w.heap.size < w0.heap.size := by have := HS0.out; omega
  have G4 : Hid (BkOwn w4 w0.heap.size (.agg #[.slice A1 b.h.length c1', .slice A2 b.s.length c2', .slice A5 l5.length c5', .slice A4 b.r.length c4', .int .i64 b.n]) { b with o := l5 }) := by
    rw [← hw4]
    refine BkOwn.setBelow (a := ⟨_, _, _⟩) ?_ hlt0 _
    obtain ⟨_, _, _, _, hh, g1, g2, g3, g4⟩ := G.out.kept hb3
    injection hh with hh
    simp only [Array.mk.injEq, List.cons.injEq] at hh
    obtain ⟨rfl, rfl, rfl, rfl, _⟩ := hh
    exact ⟨_, _, _, _, rfl, g1, g2, g5.mono HS2.out, g4⟩
  have HB4 : Hid (Below w.heap.size w w4) := by
    rw [← hw4]
    exact Below.setCell (HB2.out.trans (hb3.mono HB2.out.size)) (Nat.le_refl _) _
  have HW4 := zH hw4
  clear hw4 n1 n3 g5 hb3 hlt0 b0
  go_wp2_with fail
  rw [HW4.out]
  have r0 := cells_of_blk O1.out 0 _ rfl
  have t0 := cells_of_blk O3.out 0 _ rfl
  have tf0 := free_of_blk O3.out 0
  have r1 := cells_of_blk O1.out 1 _ rfl
  have t1 := cells_of_blk O3.out 1 _ rfl
  have tf1 := free_of_blk O3.out 1
  have r2 := cells_of_blk O1.out 2 _ rfl
  have t2 := cells_of_blk O3.out 2 _ rfl
  have tf2 := free_of_blk O3.out 2
  have r3 := cells_of_blk O1.out 3 _ rfl
  have t3 := cells_of_blk O3.out 3 _ rfl
  have tf3 := free_of_blk O3.out 3
  have r4 := cells_of_blk O1.out 4 _ rfl
  have t4 := cells_of_blk O3.out 4 _ rfl
  have tf4 := free_of_blk O3.out 4
  refine bodyPost_ret (v := .agg #[.slice A1 b.h.length c1', .slice A2 b.s.length c2', .slice A5 l5.length c5', .slice A4 b.r.length c4', .int .i64 b.n]) ?_ rfl ⟨_, rfl, ?_, ?_⟩
  · simp [results, Tryz.results99, go_sem, t0, t1, t2, t3, t4]
  · have hl2 : w.heap.size + 2 < w0.heap.size := by have := HS0.out; omega
    exact BkOwn.mono (BkOwn.setBelow (a := ⟨_, _, _⟩) (BkOwn.setBelow (a := ⟨_, _, _⟩) (BkOwn.setBelow (a := ⟨_, _, _⟩) (BkOwn.setBelow (a := ⟨_, _, _⟩) (BkOwn.setBelow (a := ⟨_, _, _⟩) G4.out hl2 _) hl2 _) hl2 _) hl2 _) hl2 _) HB0.out.size
  · have hl2 : w.heap.size ≤ w.heap.size + 2 := by omega
    exact Below.setCell (p := ⟨_, _, _⟩) (Below.setCell (p := ⟨_, _, _⟩) (Below.setCell (p := ⟨_, _, _⟩) (Below.setCell (p := ⟨_, _, _⟩) (Below.setCell (p := ⟨_, _, _⟩) HB4.out hl2 _) hl2 _) hl2 _) hl2 _) hl2 _
theorem putRate_all (v : Value) (l : List (List Int)) (x0 x1 id : Int) (w : World) (hv : Hid (RowAt w v 2 l)) (hl : l.length ≤ 999999) (hr : Hid (riseH l)) :
    Calls Tryz.prog 149 #[v, .agg #[.int .i64 x0, .int .i64 x1], .int .i64 id, .func (.func 138) #[] #[], .bool false] w fun e w' => ∃ v', e = .returned v' ∧ RowOwn w' w.heap.size 88 v' 2 (setH id [x0, x1] false l) ∧ Below w.heap.size w w' := by
  obtain ⟨p, hp, hlt, _⟩ := placeH id hr.out
  cases hF : (match l[p]? with | some r => decide (r.headD 0 = id) | none => false) with
  | false =>
    replace hF := hF.symm
    have e := (show setH id [x0, x1] false l = l.take p ++ [x0, x1] :: l.drop p by rw [setH_at id [x0, x1] false hr.out hp hlt, ← hF]; simp)
    refine (putRate_ins v l x0 x1 id p w hv hl hp hlt hF).mono ?_
    rintro x w' ⟨v', rfl, h1, h2⟩
    exact ⟨v', rfl, by rw [e]; exact h1, h2⟩
  | true =>
    have hpl : p < l.length := by
      cases hlp : l[p]? with
      | none => rw [hlp] at hF; cases hF
      | some r => exact (List.getElem?_eq_some_iff.1 hlp).1
    replace hF := hF.symm
    have e := (show setH id [x0, x1] false l = l.take p ++ [x0, x1] :: l.drop (p + 1) by rw [setH_at id [x0, x1] false hr.out hp hlt, ← hF]; simp)
    refine (putRate_set v l x0 x1 id p w hv hl hpl hlt hF).mono ?_
    rintro x w' ⟨v', rfl, h1, h2⟩
    exact ⟨v', rfl, by rw [e]; exact h1, h2⟩
set_option maxRecDepth 100000 in
set_option maxHeartbeats 4000000 in
theorem SetRate_any (v : Value) (b : Bk) (x0 x1 : Int) (w : World) (hb : Hid (BkAt w v b)) (hs : Hid b.Small) (hr : Hid (riseH b.r)) :
    Calls Tryz.prog 89 #[v, .agg #[.int .i64 x0, .int .i64 x1]] w fun e w' => ∃ v', e = .returned v' ∧ BkOwn w' w.heap.size v' { b with r := setH x0 [x0, x1] false b.r } ∧ Below w.heap.size w w' := by
  obtain ⟨vh, vs, vo, vr, rfl, h1, h2, h3, h4⟩ := hb.out
  obtain ⟨w0, hw0⟩ : ∃ w0, ((w.alloc (.cells #[vh, vs, vo, vr, .int .i64 b.n] 27)).alloc (.cells #[.int .i64 x0, .int .i64 x1] 88)).alloc (.cells #[.slice none 0 0, .slice none 0 0, .slice none 0 0, .slice none 0 0, .int .i64 0] 27) = w0 := ⟨_, rfl⟩
  have HB0 : Hid (Below w.heap.size w w0) := by rw [← hw0]; exact below_alloc (below_alloc (below_alloc (Below.refl _ _) (Nat.le_refl _) _) (by simp) _) (by first | (simp; done) | (simp; omega)) _
  have K1 : Hid (w0.heap[w.heap.size]? = some (.cells #[vh, vs, vo, vr, .int .i64 b.n] 27 (0, 0))) := by rw [← hw0]; exact blk_old (blk_old (heap_new _ _) _) _
  have K2 : Hid (w0.heap[w.heap.size + 1]? = some (.cells #[.int .i64 x0, .int .i64 x1] 88 (0, 0))) := by rw [← hw0]; exact blk_old (blk_new _ _ _ (by simp)) _
  have K3 : Hid (w0.heap[w.heap.size + 2]? = some (.cells #[.slice none 0 0, .slice none 0 0, .slice none 0 0, .slice none 0 0, .int .i64 0] 27 (0, 0))) := by rw [← hw0]; exact blk_new _ _ _ (by simp)
  have qc := zH (Copy_any _ b w0 (BkAt.call ⟨vh, vs, vo, vr, rfl, h1, h2, h3, h4⟩ HB0.out) hs)
  have qp := zH (fun wz v hv => putRate_all v b.r x0 x1 x0 wz hv (by have := hs.out; unfold Bk.Small at this; omega) hr)
  obtain ⟨l5, hl5⟩ : ∃ l5, setH x0 [x0, x1] false b.r = l5 := ⟨_, rfl⟩
  rw [hl5] at qp ⊢
  have hs0 : w.heap.size + 3 = w0.heap.size := by rw [← hw0]; simp
  have HS0 := zH hs0
  have HW0 := zH hw0
  clear hw0 h1 h2 h3 h4 hb hl5 hs0
  go_enter Tryz.func89, Tryz.ntmps89
  go_wp2_with fail
  rw [HW0.out]
  have a0 := zC K1.out
  go_wp2_with fail
  with_reducible refine qc.out.mono ?_
  rintro e w1 ⟨v1, rfl, ⟨uh, us, uo, ur, rfl, g1, g2, g3, g4⟩, hb1⟩
  obtain ⟨A1, c1', rfl⟩ := g1.form
  obtain ⟨A2, c2', rfl⟩ := g2.form
  obtain ⟨A3, c3', rfl⟩ := g3.form
  obtain ⟨A4, c4', rfl⟩ := g4.form
  have m1 := blk_call K1.out hb1
  have M2 := zK K2 hb1
  have M3 := zK K3 hb1
  have d0 := zC m1
  have f0 := zF m1
  have z0 := zC M2.out
  obtain ⟨w2, hw2⟩ : ∃ w2, (((((w1.setCell ⟨w.heap.size, 0, none⟩ (.slice A1 b.h.length c1')).setCell ⟨w.heap.size, 1, none⟩ (.slice A2 b.s.length c2')).setCell ⟨w.heap.size, 2, none⟩ (.slice A3 b.o.length c3')).setCell ⟨w.heap.size, 3, none⟩ (.slice A4 b.r.length c4')).setCell ⟨w.heap.size, 4, none⟩ (.int .i64 b.n)) = w2 := ⟨_, rfl⟩
  have N1 : Hid (w2.heap[w.heap.size]? = some (.cells #[.slice A1 b.h.length c1', .slice A2 b.s.length c2', .slice A3 b.o.length c3', .slice A4 b.r.length c4', .int .i64 b.n] 27 (0, 0))) := by rw [← hw2]; exact set_blk (set_blk (set_blk (set_blk (set_blk m1 0 _) 1 _) 2 _) 3 _) 4 _
  have N2 : Hid (w2.heap[w.heap.size + 1]? = some (.cells #[.int .i64 x0, .int .i64 x1] 88 (0, 0))) := by rw [← hw2]; exact set_oth (set_oth (set_oth (set_oth (set_oth M2.out 0 _ (by omega)) 1 _ (by omega)) 2 _ (by omega)) 3 _ (by omega)) 4 _ (by omega)
  have N3 : Hid (w2.heap[w.heap.size + 2]? = some (.cells #[.slice none 0 0, .slice none 0 0, .slice none 0 0, .slice none 0 0, .int .i64 0] 27 (0, 0))) := by rw [← hw2]; exact set_oth (set_oth (set_oth (set_oth (set_oth M3.out 0 _ (by omega)) 1 _ (by omega)) 2 _ (by omega)) 3 _ (by omega)) 4 _ (by omega)
  have hlt0 : w.heap.size < w0.heap.size := by have := HS0.out; omega
  have G : Hid (BkOwn w2 w0.heap.size (.agg #[.slice A1 b.h.length c1', .slice A2 b.s.length c2', .slice A3 b.o.length c3', .slice A4 b.r.length c4', .int .i64 b.n]) b) := by
    rw [← hw2]
    exact BkOwn.setBelow (a := ⟨_, _, _⟩) (BkOwn.setBelow (a := ⟨_, _, _⟩) (BkOwn.setBelow (a := ⟨_, _, _⟩) (BkOwn.setBelow (a := ⟨_, _, _⟩) (BkOwn.setBelow (a := ⟨_, _, _⟩) ⟨_, _, _, _, rfl, g1, g2, g3, g4⟩ hlt0 _) hlt0 _) hlt0 _) hlt0 _) hlt0 _
  have HB2 : Hid (Below w.heap.size w w2) := by
    rw [← hw2]
    have := HB0.out.trans (hb1.mono HB0.out.size)
    exact Below.setCell (Below.setCell (Below.setCell (Below.setCell (Below.setCell this (Nat.le_refl _) _) (Nat.le_refl _) _) (Nat.le_refl _) _) (Nat.le_refl _) _) (Nat.le_refl _) _
  have hs2 : w0.heap.size ≤ w2.heap.size := by rw [← hw2]; simpa using hb1.size
  have HS2 := zH hs2
  have HW2 := zH hw2
  clear hw2 m1 g1 g2 g3 g4 hb1 hlt0 hs2
  go_wp2_with fail
  rw [HW2.out]
  clear a0 d0 f0 z0
  have b0 := zC N1.out
  have y0 := zC N2.out
  have hrow : Hid (RowAt w2 (.slice A4 b.r.length c4') 2 b.r) := by
    obtain ⟨_, _, _, _, hh, g1, g2, g3, g4⟩ := G.out
    injection hh with hh
    simp only [Array.mk.injEq, List.cons.injEq] at hh
    obtain ⟨rfl, rfl, rfl, rfl, _⟩ := hh
    exact g4.row
  with_reducible refine (qp.out _ _ hrow).mono ?_
  rintro e w3 ⟨v5, rfl, g5, hb3⟩
  obtain ⟨A5, c5', rfl⟩ := g5.form
  have n1 := blk_call N1.out hb3
  have n3 := blk_call N3.out hb3
  have p0 := zC n1
  have pf := zF n1
  have v0 := zC n3
  have vf0 := zF n3
  obtain ⟨w4, hw4⟩ : ∃ w4, w3.setCell ⟨w.heap.size, 3, none⟩ (.slice A5 l5.length c5') = w4 := ⟨_, rfl⟩
  have O1 : Hid (w4.heap[w.heap.size]? = some (.cells #[.slice A1 b.h.length c1', .slice A2 b.s.length c2', .slice A3 b.o.length c3', .slice A5 l5.length c5', .int .i64 b.n] 27 (0, 0))) := by rw [← hw4]; exact set_blk n1 3 _
  have O3 : Hid (w4.heap[w.heap.size + 2]? = some (.cells #[.slice none 0 0, .slice none 0 0, .slice none 0 0, .slice none 0 0, .int .i64 0] 27 (0, 0))) := by rw [← hw4]; exact set_oth n3 3 _ (by omega)
  have hlt0 : w.heap.size < w0.heap.size := by have := HS0.out; omega
  have G4 : Hid (BkOwn w4 w0.heap.size (.agg #[.slice A1 b.h.length c1', .slice A2 b.s.length c2', .slice A3 b.o.length c3', .slice A5 l5.length c5', .int .i64 b.n]) { b with r := l5 }) := by
    rw [← hw4]
    refine BkOwn.setBelow (a := ⟨_, _, _⟩) ?_ hlt0 _
    obtain ⟨_, _, _, _, hh, g1, g2, g3, g4⟩ := G.out.kept hb3
    injection hh with hh
    simp only [Array.mk.injEq, List.cons.injEq] at hh
    obtain ⟨rfl, rfl, rfl, rfl, _⟩ := hh
    exact ⟨_, _, _, _, rfl, g1, g2, g3, g5.mono HS2.out⟩
  have HB4 : Hid (Below w.heap.size w w4) := by
    rw [← hw4]
    exact Below.setCell (HB2.out.trans (hb3.mono HB2.out.size)) (Nat.le_refl _) _
  have HW4 := zH hw4
  clear hw4 n1 n3 g5 hb3 hlt0 b0
  go_wp2_with fail
  rw [HW4.out]
  have r0 := cells_of_blk O1.out 0 _ rfl
  have t0 := cells_of_blk O3.out 0 _ rfl
  have tf0 := free_of_blk O3.out 0
  have r1 := cells_of_blk O1.out 1 _ rfl
  have t1 := cells_of_blk O3.out 1 _ rfl
  have tf1 := free_of_blk O3.out 1
  have r2 := cells_of_blk O1.out 2 _ rfl
  have t2 := cells_of_blk O3.out 2 _ rfl
  have tf2 := free_of_blk O3.out 2
  have r3 := cells_of_blk O1.out 3 _ rfl
  have t3 := cells_of_blk O3.out 3 _ rfl
  have tf3 := free_of_blk O3.out 3
  have r4 := cells_of_blk O1.out 4 _ rfl
  have t4 := cells_of_blk O3.out 4 _ rfl
  have tf4 := free_of_blk O3.out 4
  refine bodyPost_ret (v := .agg #[.slice A1 b.h.length c1', .slice A2 b.s.length c2', .slice A3 b.o.length c3', .slice A5 l5.length c5', .int .i64 b.n]) ?_ rfl ⟨_, rfl, ?_, ?_⟩
  · simp [results, Tryz.results89, go_sem, t0, t1, t2, t3, t4]
  · have hl2 : w.heap.size + 2 < w0.heap.size := by have := HS0.out; omega
    exact BkOwn.mono (BkOwn.setBelow (a := ⟨_, _, _⟩) (BkOwn.setBelow (a := ⟨_, _, _⟩) (BkOwn.setBelow (a := ⟨_, _, _⟩) (BkOwn.setBelow (a := ⟨_, _, _⟩) (BkOwn.setBelow (a := ⟨_, _, _⟩) G4.out hl2 _) hl2 _) hl2 _) hl2 _) hl2 _) HB0.out.size
  · have hl2 : w.heap.size ≤ w.heap.size + 2 := by omega
    exact Below.setCell (p := ⟨_, _, _⟩) (Below.setCell (p := ⟨_, _, _⟩) (Below.setCell (p := ⟨_, _, _⟩) (Below.setCell (p := ⟨_, _, _⟩) (Below.setCell (p := ⟨_, _, _⟩) HB4.out hl2 _) hl2 _) hl2 _) hl2 _) hl2 _
end Go.Proofs.YtjcdpmianmgiaaaGreatDoor
namespace Go.Proofs.YtjcdpmianmgiaaaGreatDoor
open Go Go.RowKit
set_option linter.unusedVariables false
set_option linter.unusedSimpArgs false
def riseHB : List (List Int) → Bool
  | a :: b :: t => decide (a.headD 0 < b.headD 0) && riseHB (b :: t)
  | _ => true
def stLt' (a b : List Int) : Prop := a.headD 0 < b.headD 0 ∨ a.headD 0 = b.headD 0 ∧ a.tail.headD 0 < b.tail.headD 0
instance (a b : List Int) : Decidable (stLt' a b) := by unfold stLt'; infer_instance
def riseSB : List (List Int) → Bool
  | a :: b :: t => decide (stLt' a b) && riseSB (b :: t)
  | _ => true
theorem riseHB_iff : ∀ (l : List (List Int)), riseHB l = true ↔ riseH l
  | [] => by simp [riseHB, riseH]
  | [a] => by simp [riseHB, riseH]
  | a :: b :: t => by
    rw [riseHB, Bool.and_eq_true, riseHB_iff (b :: t), decide_eq_true_eq]
    unfold riseH
    rw [List.pairwise_cons (a := a)]
    constructor
    · rintro ⟨h1, h2⟩
      refine ⟨fun x hx => ?_, h2⟩
      rcases List.mem_cons.1 hx with rfl | hx
      · exact h1
      · have := (List.pairwise_cons.1 h2).1 x hx; omega
    · rintro ⟨h1, h2⟩
      exact ⟨h1 b (by simp), h2⟩
theorem riseSB_iff : ∀ (l : List (List Int)), riseSB l = true ↔ riseS l
  | [] => by simp [riseSB, riseS]
  | [a] => by simp [riseSB, riseS]
  | a :: b :: t => by
    rw [riseSB, Bool.and_eq_true, riseSB_iff (b :: t), decide_eq_true_eq]
    unfold riseS
    rw [List.pairwise_cons (a := a)]
    constructor
    · rintro ⟨h1, h2⟩
      refine ⟨fun x hx => ?_, h2⟩
      rcases List.mem_cons.1 hx with rfl | hx
      · exact h1
      · have := (List.pairwise_cons.1 h2).1 x hx; unfold stLt at this ⊢; unfold stLt' at h1; omega
    · rintro ⟨h1, h2⟩
      exact ⟨h1 b (by simp), h2⟩
theorem drop_two {α : Type} {l : List α} {i : Nat} {a b : α} (ha : l[i]? = some a) (hb : l[i + 1]? = some b) : l.drop i = a :: b :: l.drop (i + 2) := by
  obtain ⟨h1, rfl⟩ := List.getElem?_eq_some_iff.1 ha
  obtain ⟨h2, rfl⟩ := List.getElem?_eq_some_iff.1 hb
  rw [List.drop_eq_getElem_cons h1, List.drop_eq_getElem_cons h2]
theorem riseHB_step {l : List (List Int)} {i : Nat} {a b : List Int} (ha : l[i]? = some a) (hb : l[i + 1]? = some b) : riseHB (l.drop i) = (decide (a.headD 0 < b.headD 0) && riseHB (l.drop (i + 1))) := by
  rw [drop_two ha hb]
  obtain ⟨h2, rfl⟩ := List.getElem?_eq_some_iff.1 hb
  rw [List.drop_eq_getElem_cons h2, riseHB]
theorem riseSB_step {l : List (List Int)} {i : Nat} {a b : List Int} (ha : l[i]? = some a) (hb : l[i + 1]? = some b) : riseSB (l.drop i) = (decide (stLt' a b) && riseSB (l.drop (i + 1))) := by
  rw [drop_two ha hb]
  obtain ⟨h2, rfl⟩ := List.getElem?_eq_some_iff.1 hb
  rw [List.drop_eq_getElem_cons h2, riseSB]
theorem riseHB_end {l : List (List Int)} {i : Nat} (h : l.length ≤ i + 1) : riseHB (l.drop i) = true := by
  have : (l.drop i).length ≤ 1 := by simp; omega
  match l.drop i, this with
  | [], _ => rfl
  | [a], _ => rfl
theorem riseSB_end {l : List (List Int)} {i : Nat} (h : l.length ≤ i + 1) : riseSB (l.drop i) = true := by
  have : (l.drop i).length ≤ 1 := by simp; omega
  match l.drop i, this with
  | [], _ => rfl
  | [a], _ => rfl
def Bk.riseB (b : Bk) : Bool := riseHB b.h && (riseHB b.o && (riseHB b.r && riseSB b.s))
theorem Bk.riseB_iff (b : Bk) : b.riseB = true ↔ b.Rise := by
  unfold Bk.riseB Bk.Rise
  simp only [Bool.and_eq_true, riseHB_iff, riseSB_iff]
end Go.Proofs.YtjcdpmianmgiaaaGreatDoor
