/- Part 20 of what the claim rests on. -/
import Derived.Test.YtjcdpmianmgiaaaGreatDoorF00
import Derived.Test.YtjcdpmianmgiaaaGreatDoorF13
import Derived.Test.YtjcdpmianmgiaaaGreatDoorF14
import Derived.Test.YtjcdpmianmgiaaaGreatDoorF15
namespace Go.Proofs.YtjcdpmianmgiaaaGreatDoor
open Go Go.RowKit
set_option linter.unusedVariables false
set_option linter.unusedSimpArgs false
def stateOk (md : Region.Mode) (ops : Array Oper) (bf : Nat → Nat → Bool) (Lf : Array Bool) (Ss : List (List Nat × Array Bool)) (p : List Nat × Array Bool) : Bool :=
  match p.1 with
  | [] => p.2 == Lf
  | _ => !(Region.ready md ops p.2).isEmpty && (Region.ready md ops p.2).all fun i => p.1.contains i && p.1.all (fun j => !bf j i) && Ss.any (fun q => q.1 == p.1.erase i && q.2 == p.2.setIfInBounds i true)
def statesOk (md : Region.Mode) (ops : Array Oper) (bf : Nat → Nat → Bool) (Lf : Array Bool) (Ss : List (List Nat × Array Bool)) : Bool := Ss.all (stateOk md ops bf Lf Ss)
theorem ready_of_states {md : Region.Mode} {ops : Array Oper} {bf : Nat → Nat → Bool} {Lf : Array Bool} {Ss : List (List Nat × Array Bool)} (h : statesOk md ops bf Lf Ss = true) :
    ∀ (n : Nat) (is : List Nat) (L : Array Bool), (is, L) ∈ Ss → is.length = n → readyAll md ops bf Lf n is L = true
  | 0, is, L, hm, hn => by
    obtain rfl : is = [] := List.eq_nil_of_length_eq_zero hn
    have := List.all_eq_true.1 h _ hm
    unfold stateOk at this
    simp only [beq_iff_eq] at this
    simp [readyAll, this]
  | n + 1, is, L, hm, hn => by
    have h1 := List.all_eq_true.1 h _ hm
    unfold stateOk at h1
    cases is with
    | nil => simp at hn
    | cons a t =>
      simp only [Bool.and_eq_true, List.all_eq_true] at h1
      obtain ⟨h0, h2⟩ := h1
      simp only [readyAll, Bool.and_eq_true, List.all_eq_true]
      refine ⟨h0, fun i hi => ?_⟩
      obtain ⟨⟨h3, h4⟩, h5⟩ := h2 i hi
      refine ⟨⟨h3, h4⟩, ?_⟩
      obtain ⟨q, hq, h6⟩ := List.any_eq_true.1 h5
      simp only [Bool.and_eq_true, beq_iff_eq] at h6
      obtain ⟨q1, q2⟩ := q
      obtain ⟨rfl, rfl⟩ := h6
      have hmem : i ∈ a :: t := by simpa using h3
      exact ready_of_states h n _ _ hq (by rw [List.length_erase_of_mem hmem, hn]; rfl)
end Go.Proofs.YtjcdpmianmgiaaaGreatDoor
namespace Go.Proofs.YtjcdpmianmgiaaaGreatDoor
open Go Go.RowKit
set_option linter.unusedVariables false
set_option linter.unusedSimpArgs false
theorem put_size (a : Act) (t : Tmp) (v : Value) : (a.put (some t) v).tmps.size = a.tmps.size := by simp [Act.put]
theorem eval_put_eq (a : Act) (t : Tmp) (v : Value) (h : t < a.tmps.size) : (a.put (some t) v).eval (.tmp t) = v := by
  simp [Act.put, Act.eval, Array.getD_eq_getD_getElem?, Array.getElem?_setIfInBounds, h]
section
variable {P : Program} {ops : Array Oper} {md : Region.Mode} {C : World → Prop} {ex : List Nat}
def hoistOk (md : Region.Mode) (ops : Array Oper) (ex : List Nat) (i : Nat) (hs : List Nat) (L : Array Bool) : Bool := Region.noSelect ops && headDB md ops ex hs (L.setIfInBounds i true)
def okC (md : Region.Mode) (ops : Array Oper) (ex : List Nat) (i : Nat) (hs : List Nat) (Lf : Array Bool) : Nat → List Nat → Array Bool → Bool
  | 0, is, L => is.isEmpty && Region.ready md ops L == [i] && hoistOk md ops ex i hs L && setAll hs (L.setIfInBounds i true) == Lf
  | n + 1, is, L => !(Region.ready md ops L).isEmpty && (Region.ready md ops L).all fun k => if k == i then hoistOk md ops ex i hs L && readyAll md ops (fun _ _ => false) Lf (n + 1) is (setAll hs (L.setIfInBounds i true)) else is.contains k && okC md ops ex i hs Lf n (is.erase k) (L.setIfInBounds k true)
def preOk (md : Region.Mode) (ops : Array Oper) (ex : List Nat) (i : Nat) (hs : List Nat) (S1 S2 : List (List Nat × Array Bool)) (p : List Nat × Array Bool) : Bool :=
  !(Region.ready md ops p.2).isEmpty && ((Region.ready md ops p.2).all (fun k => if k == i then hoistOk md ops ex i hs p.2 && S2.any (fun q => q.1 == p.1 && q.2 == setAll hs (p.2.setIfInBounds i true)) else p.1.contains k && S1.any (fun q => q.1 == p.1.erase k && q.2 == p.2.setIfInBounds k true))
    && (if p.1.isEmpty then Region.ready md ops p.2 == [i] else true))
theorem okC_of_states {i : Nat} {hs : List Nat} {Lf : Array Bool} {S1 S2 : List (List Nat × Array Bool)} (h1 : S1.all (preOk md ops ex i hs S1 S2) = true) (h2 : statesOk md ops (fun _ _ => false) Lf S2 = true) :
    ∀ (n : Nat) (is : List Nat) (L : Array Bool), (is, L) ∈ S1 → is.length = n → okC md ops ex i hs Lf n is L = true
  | 0, is, L, hm, hn => by
    obtain rfl : is = [] := List.eq_nil_of_length_eq_zero hn
    have h := List.all_eq_true.1 h1 _ hm
    unfold preOk at h
    simp only [Bool.and_eq_true, List.isEmpty_nil, if_true, beq_iff_eq] at h
    obtain ⟨h0, ha, hr⟩ := h
    rw [hr] at ha
    simp only [List.all_cons, List.all_nil, Bool.and_true, beq_self_eq_true, if_true, Bool.and_eq_true] at ha
    obtain ⟨hh, hq⟩ := ha
    obtain ⟨q, hqm, hq2⟩ := List.any_eq_true.1 hq
    simp only [Bool.and_eq_true, beq_iff_eq] at hq2
    obtain ⟨q1, q2⟩ := q
    obtain ⟨rfl, rfl⟩ := hq2
    have h3 := List.all_eq_true.1 h2 _ hqm
    unfold stateOk at h3
    simp only [beq_iff_eq] at h3
    simp [okC, hr, hh, h3]
  | n + 1, is, L, hm, hn => by
    have h := List.all_eq_true.1 h1 _ hm
    unfold preOk at h
    simp only [Bool.and_eq_true, List.all_eq_true] at h
    obtain ⟨h0, ha, _⟩ := h
    simp only [okC, Bool.and_eq_true, List.all_eq_true]
    refine ⟨h0, fun k hk => ?_⟩
    have hk2 := ha k hk
    by_cases hki : k = i
    · subst hki
      rw [if_pos (by simp)] at hk2 ⊢
      simp only [Bool.and_eq_true] at hk2 ⊢
      obtain ⟨hh, hq⟩ := hk2
      obtain ⟨q, hqm, hq2⟩ := List.any_eq_true.1 hq
      simp only [Bool.and_eq_true, beq_iff_eq] at hq2
      obtain ⟨q1, q2⟩ := q
      obtain ⟨rfl, rfl⟩ := hq2
      exact ⟨hh, ready_of_states h2 (n + 1) _ _ hqm hn⟩
    · rw [if_neg (by simpa using hki)] at hk2 ⊢
      simp only [Bool.and_eq_true] at hk2 ⊢
      obtain ⟨hc, hq⟩ := hk2
      obtain ⟨q, hqm, hq2⟩ := List.any_eq_true.1 hq
      simp only [Bool.and_eq_true, beq_iff_eq] at hq2
      obtain ⟨q1, q2⟩ := q
      obtain ⟨rfl, rfl⟩ := hq2
      have hmem : k ∈ is := by simpa using hc
      exact ⟨hc, okC_of_states h1 h2 n _ _ hqm (by rw [List.length_erase_of_mem hmem, hn]; rfl)⟩
theorem CanC.act {T : List Tmp} {W0 : World} {e : FreeC} {a b : Act} (h : CanC P ops T W0 e a) (hb : ∀ x : Operand, (∀ t ∈ T, x ≠ .tmp t) → b.eval x = a.eval x) : CanC P ops T W0 e b :=
  ⟨h.ex, fun Q a' w K ha hB hK => h.run Q a' w K (fun x hx => (ha x hx).trans (hb x hx)) hB hK⟩
theorem free_call {Q : Exit → Act → World → Prop} {W0 : World} (i : Nat) (hs : List Nat) (di : Tmp) (v : Value) (vs0 : List (Tmp × Value)) (f : Nat) (Lf : Array Bool) (T : List Tmp) (N : Nat)
    (hC : ∀ w, Below W0.heap.size W0 w → C w) (hdi : di ∈ T) (hvT : ∀ p ∈ vs0, p.1 ∈ T)
    (hp : ∀ (a' : Act) (K : Act → Prop), a'.tmps.size = N → K (putsV (a'.put (some di) v) vs0) → wpPure P ops C K (opsAt ops hs) (a'.put (some di) v)) :
    ∀ (n : Nat) (es : List FreeC) (L : Array Bool) (a : Act) (w : World), es.length = n → Below W0.heap.size W0 w → okC md ops ex i hs Lf n (es.map (·.i)) L = true → (es.map (·.i)).Nodup → (es.map (·.d)).Nodup →
    (∀ e ∈ es, e.i ≠ i ∧ e.d ≠ di ∧ ∀ p ∈ vs0, p.1 ≠ e.d) → (∀ e ∈ es, CanC P ops T W0 e a ∧ e.d ∈ T) → CanC P ops T W0 ⟨i, di, fun _ _ u _ => u = v⟩ a → a.tmps.size = N →
    (∀ e ∈ es, ∀ lo hi v w1 w2, e.R lo hi v w1 → Below w1.heap.size w1 w2 → e.R lo hi v w2) →
    (∀ vs w', Holds w.heap.size es vs w' → Apart (fun _ _ => false) es vs → Below w.heap.size w w' → wpAnyD P md ops C ex (OnlyN Q) f Lf (putsE es vs (putsV (a.put (some di) v) vs0)) w') →
    wpAnyD P md ops C ex (OnlyN Q) (f + hs.length + 1 + n) L a w
  | 0, es, L, a, w, hn, hB, hok, _, _, _, _, hca, hN, _, K => by
    obtain rfl : es = [] := List.eq_nil_of_length_eq_zero hn
    simp only [okC, Bool.and_eq_true, beq_iff_eq] at hok
    obtain ⟨⟨⟨_, hr⟩, hh⟩, hL⟩ := hok
    refine ⟨fun h => (by rw [hr] at h; cases h), fun k hk => ?_⟩
    rw [hr] at hk
    obtain rfl : k = i := by simpa using hk
    refine hca.run _ a w _ (fun _ _ => rfl) hB fun u w1 hu hb => ⟨fun _ => hC _ (hB.trans (hb.mono hB.size)), ?_⟩
    obtain rfl : u = v := hu
    exact pure_moreD hs f hh hL (hC _ (hB.trans (hb.mono hB.size))) (hp a _ hN (K [] w1 trivial trivial hb))
  | n + 1, es, L, a, w, hn, hB, hok, hni, hnd, hdis, hga, hca, hN, hst, K => by
    simp only [okC, Bool.and_eq_true, List.all_eq_true] at hok
    obtain ⟨hr0, hr2⟩ := hok
    refine ⟨fun h0 => ?_, fun k hk => ?_⟩
    · rw [h0] at hr0
      simp at hr0
    have h2 := hr2 k hk
    by_cases hki : k = i
    · subst hki
      rw [if_pos (by simp), Bool.and_eq_true] at h2
      refine hca.run _ a w _ (fun _ _ => rfl) hB fun u w1 hu hb => ⟨fun _ => hC _ (hB.trans (hb.mono hB.size)), ?_⟩
      obtain rfl : u = v := hu
      have hB1 := hB.trans (hb.mono hB.size)
      have hev : ∀ x : Operand, (∀ t ∈ T, x ≠ .tmp t) → (putsV (a.put (some di) u) vs0).eval x = a.eval x := fun x hx => by rw [putsV_eval T vs0 _ hvT x hx, eval_put_ne a x di u (hx _ hdi)]
      show wpAnyD P md ops C ex (OnlyN Q) (f + hs.length + 1 + n) _ _ _
      rw [show f + hs.length + 1 + n = (f + (n + 1)) + hs.length by omega]
      refine pure_moreD hs (f + (n + 1)) h2.1 rfl (hC _ hB1) (hp a _ hN ?_)
      exact free_ops f Lf (fun _ _ => false) hC T (n + 1) es _ _ w1 hn hB1 h2.2 hni hnd (fun e he => ⟨(hga e he).1.act hev, (hga e he).2⟩) hst
        (fun vs w' hh hap hb' => K vs w' (hh.lower hb.size) hap (hb.trans (hb'.mono hb.size)))
    · rw [if_neg (by simpa using hki), Bool.and_eq_true] at h2
      obtain ⟨hin0, h2⟩ := h2
      obtain ⟨e, he, rfl⟩ := List.mem_map.1 (show k ∈ es.map (·.i) by simpa using hin0)
      obtain ⟨l1, l2, rfl⟩ := List.append_of_mem he
      have hni' := hni
      have hnd' := hnd
      rw [List.map_append, List.map_cons] at hni' hnd' h2
      have hi1 : e.i ∉ l1.map (·.i) := fun h => (List.nodup_append.1 hni').2.2 _ h _ (by simp) rfl
      have hd1 : e.d ∉ l1.map (·.d) := fun h => (List.nodup_append.1 hnd').2.2 _ h _ (by simp) rfl
      rw [List.erase_append_right _ hi1, List.erase_cons_head, ← List.map_append] at h2
      have hin : ∀ x ∈ l1 ++ l2, x ∈ l1 ++ e :: l2 := fun x hx => by
        rcases List.mem_append.1 hx with h | h
        · exact List.mem_append_left _ h
        · exact List.mem_append_right _ (List.mem_cons_of_mem _ h)
      have hsub : List.Sublist (l1 ++ l2) (l1 ++ e :: l2) := List.Sublist.append (List.Sublist.refl l1) (List.sublist_cons_self e l2)
      refine (hga e (by simp)).1.run _ a w _ (fun _ _ => rfl) hB fun ve w1 hv hb => ?_
      have hB1 := hB.trans (hb.mono hB.size)
      refine ⟨fun _ => hC _ hB1, ?_⟩
      have heT := (hga e (by simp)).2
      refine free_call i hs di v vs0 f Lf T N hC hdi hvT hp n (l1 ++ l2) (L.setIfInBounds e.i true) (a.put (some e.d) ve) w1 (by simp at hn ⊢; omega) hB1 h2 ((hsub.map _).nodup hni) ((hsub.map _).nodup hnd) (fun x hx => hdis x (hin x hx))
        (fun x hx => ⟨(hga x (hin x hx)).1.put heT ve, (hga x (hin x hx)).2⟩) (hca.put heT ve) (by rw [put_size]; exact hN) (fun x hx => hst x (hin x hx)) ?_
      intro vs w' hh hap hb'
      obtain ⟨v1, v2, rfl, h1, h2'⟩ := Holds.split hh
      have hall := hh.all
      have := K (v1 ++ ⟨w.heap.size, w1.heap.size, ve⟩ :: v2) w' (Holds.join (h1.lower hb.size) ⟨⟨hst e (by simp) _ _ ve w1 w' hv hb', Nat.le_refl _⟩, h2'.lower hb.size⟩)
        (Apart.mid h1.len hap hall (fun x hx => rfl)) (hb.trans (hb'.mono hb.size))
      obtain ⟨_, hne, hnv⟩ := hdis e (by simp)
      rw [putsE_mid e _ l2 v2 l1 v1 _ h1.len (fun x hx h => hd1 (h ▸ List.mem_map_of_mem hx))] at this
      have hcomm : (a.put (some e.d) ve).put (some di) v = (a.put (some di) v).put (some e.d) ve := Act.put_comm a _ _ (fun d h1 h2 => hne (by injection h1 with h1; injection h2 with h2; rw [h1, h2]))
      rw [hcomm, putsV_put _ _ _ _ hnv]
      exact this
theorem wpAnyD_cca {Q : Exit → Act → World → Prop} (i1 i2 j : Nat) (d1 d2 dj : Tmp) (f : Nat) {L L3 : Array Bool} {a : Act} {w : World} (R1 R2 : Value → World → Prop) (cs : Array Value) (t : TypeId)
    (hr0 : ((Region.ready md ops L).all (fun k => k == i1 || k == j) && !(Region.ready md ops L).isEmpty) = true) (hr1 : Region.ready md ops (L.setIfInBounds j true) = [i1])
    (hr2 : ((Region.ready md ops (L.setIfInBounds i1 true)).all (fun k => k == i2 || k == j) && !(Region.ready md ops (L.setIfInBounds i1 true)).isEmpty) = true)
    (hr3 : Region.ready md ops ((L.setIfInBounds j true).setIfInBounds i1 true) = [i2]) (hr4 : Region.ready md ops ((L.setIfInBounds i1 true).setIfInBounds j true) = [i2]) (hr5 : Region.ready md ops ((L.setIfInBounds i1 true).setIfInBounds i2 true) = [j])
    (hL1 : ((L.setIfInBounds j true).setIfInBounds i1 true).setIfInBounds i2 true = L3) (hL2 : ((L.setIfInBounds i1 true).setIfInBounds j true).setIfInBounds i2 true = L3) (hL3 : ((L.setIfInBounds i1 true).setIfInBounds i2 true).setIfInBounds j true = L3)
    (hd : (d1 != dj && d2 != dj && d1 != d2) = true)
    (h1 : CanC P ops [d1, d2, dj] w ⟨i1, d1, fun _ _ u wz => R1 u wz⟩ a)
    (h2 : ∀ v1 w1, Below w.heap.size w w1 → R1 v1 w1 → CanC P ops [d2, dj] w1 ⟨i2, d2, fun _ _ u wz => R2 u wz⟩ (a.put (some d1) v1))
    (hj : CanC P ops [d1, d2, dj] w ⟨j, dj, fun lo _ u wz => u = .pointer (some ⟨lo, 0, none⟩) ∧ wz.heap[lo]? = some (.cells cs t (0, 0))⟩ a)
    (hs1 : ∀ u w1 w2, R1 u w1 → Below w1.heap.size w1 w2 → R1 u w2) (hs2 : ∀ u w1 w2, R2 u w1 → Below w1.heap.size w1 w2 → R2 u w2) (hC : ∀ w', Below w.heap.size w w' → C w')
    (cont : ∀ (v1 v2 : Value) (p : Nat) (w' : World), w.heap.size ≤ p → w'.heap[p]? = some (.cells cs t (0, 0)) → R2 v2 w' → Below w.heap.size w w' → wpAnyD P md ops C ex (OnlyN Q) f L3 (((a.put (some d1) v1).put (some d2) v2).put (some dj) (.pointer (some ⟨p, 0, none⟩))) w') :
    wpAnyD P md ops C ex (OnlyN Q) (f + 3) L a w := by
  simp only [Bool.and_eq_true, bne_iff_ne, ne_eq] at hd
  obtain ⟨⟨hd1, hd2⟩, hd3⟩ := hd
  simp only [Bool.and_eq_true] at hr0 hr2
  have com : ∀ (b : Act) (x y : Tmp) (u v : Value), ¬ x = y → (b.put (some x) u).put (some y) v = (b.put (some y) v).put (some x) u := fun b x y u v hxy => Act.put_comm b u v (fun d h1 h2 => hxy (by injection h1 with h1; injection h2 with h2; rw [h1, h2]))
  refine ⟨fun h => (by rw [h] at hr0; simp at hr0), fun k hk => ?_⟩
  have hk' : k = i1 ∨ k = j := by simpa using List.all_eq_true.1 hr0.1 k hk
  rcases hk' with rfl | rfl
  · refine h1.run _ a w _ (fun _ _ => rfl) (Below.refl _ _) fun v1 w1 hv1 hb1 => ⟨fun _ => hC _ hb1, ?_⟩
    refine ⟨fun h => (by rw [h] at hr2; simp at hr2), fun k2 hk2 => ?_⟩
    have hk2' : k2 = i2 ∨ k2 = j := by simpa using List.all_eq_true.1 hr2.1 k2 hk2
    rcases hk2' with rfl | rfl
    · refine (h2 v1 w1 hb1 hv1).run _ _ w1 _ (fun _ _ => rfl) (Below.refl _ _) fun v2 w2 hv2 hb2 => ?_
      have hb12 := hb1.trans (hb2.mono hb1.size)
      refine ⟨fun _ => hC _ hb12, fun h => (by rw [hr5] at h; cases h), fun k3 hk3 => ?_⟩
      rw [hr5] at hk3
      obtain rfl : k3 = j := by simpa using hk3
      refine hj.run _ _ w2 _ (fun x hx => ?_) hb12 fun u w3 hu hb3 => ⟨fun _ => hC _ (hb12.trans (hb3.mono hb12.size)), ?_⟩
      · rw [eval_put_ne _ x d2 v2 (hx _ (by simp)), eval_put_ne _ x d1 v1 (hx _ (by simp))]
      · obtain ⟨rfl, hg⟩ := hu
        rw [hL3]
        exact cont v1 v2 _ w3 hb12.size hg (hs2 _ _ _ hv2 hb3) (hb12.trans (hb3.mono hb12.size))
    · refine hj.run _ _ w1 _ (fun x hx => eval_put_ne _ x d1 v1 (hx _ (by simp))) hb1 fun u w2 hu hb2 => ?_
      obtain ⟨rfl, hg⟩ := hu
      have hb12 := hb1.trans (hb2.mono hb1.size)
      refine ⟨fun _ => hC _ hb12, fun h => (by rw [hr4] at h; cases h), fun k3 hk3 => ?_⟩
      rw [hr4] at hk3
      obtain rfl : k3 = i2 := by simpa using hk3
      refine (h2 v1 w2 hb12 (hs1 _ _ _ hv1 hb2)).run _ _ w2 _ (fun x hx => eval_put_ne _ x dj _ (hx _ (by simp))) (Below.refl _ _) fun v2 w3 hv2 hb3 => ⟨fun _ => hC _ (hb12.trans (hb3.mono hb12.size)), ?_⟩
      show wpAnyD P md ops C ex (OnlyN Q) f _ (((a.put (some d1) v1).put (some dj) _).put (some d2) v2) w3
      rw [hL2, com _ dj d2 _ _ (fun e => hd2 e.symm)]
      exact cont v1 v2 _ w3 hb1.size (blk_call hg hb3) hv2 (hb12.trans (hb3.mono hb12.size))
  · refine hj.run _ a w _ (fun _ _ => rfl) (Below.refl _ _) fun u w1 hu hb1 => ?_
    obtain ⟨rfl, hg⟩ := hu
    refine ⟨fun _ => hC _ hb1, fun h => (by rw [hr1] at h; cases h), fun k2 hk2 => ?_⟩
    rw [hr1] at hk2
    obtain rfl : k2 = i1 := by simpa using hk2
    refine h1.run _ _ w1 _ (fun x hx => eval_put_ne _ x dj _ (hx _ (by simp))) hb1 fun v1 w2 hv1 hb2 => ?_
    have hb12 := hb1.trans (hb2.mono hb1.size)
    refine ⟨fun _ => hC _ hb12, fun h => (by rw [hr3] at h; cases h), fun k3 hk3 => ?_⟩
    rw [hr3] at hk3
    obtain rfl : k3 = i2 := by simpa using hk3
    rw [com a dj d1 _ v1 (fun e => hd1 e.symm)]
    refine (h2 v1 w2 hb12 hv1).run _ _ w2 _ (fun x hx => eval_put_ne _ x dj _ (hx _ (by simp))) (Below.refl _ _) fun v2 w3 hv2 hb3 => ⟨fun _ => hC _ (hb12.trans (hb3.mono hb12.size)), ?_⟩
    show wpAnyD P md ops C ex (OnlyN Q) f _ (((a.put (some d1) v1).put (some dj) _).put (some d2) v2) w3
    rw [hL1, com _ dj d2 _ _ (fun e => hd2 e.symm)]
    exact cont v1 v2 _ w3 (Nat.le_refl _) (blk_call hg (hb2.trans (hb3.mono hb2.size))) hv2 (hb12.trans (hb3.mono hb12.size))
end
end Go.Proofs.YtjcdpmianmgiaaaGreatDoor
namespace Go.Proofs.YtjcdpmianmgiaaaGreatDoor
open Go Go.RowKit Mon Bg
set_option linter.unusedVariables false
set_option linter.unusedSimpArgs false
set_option maxRecDepth 100000 in
set_option maxHeartbeats 16000000 in
theorem fill_any (w0 : World) (g : Nat) (vh vs vo vr : Value) (b : Bk) (e : Ev) (rate : Int) (hT : Hid (Law16 w0)) (B0 : Hid (BkAt w0 (.agg #[vh, vs, vo, vr, .int .i64 b.n]) b)) (hs : Hid b.Small) (hR : Hid b.Rise) (hE : Hid e.I64s) (l0 : List Stp) (hl0 : Hid (l0.length ≤ 50)) (w : World) (HI : Hid (Gt w0 g vh vs vo vr b e rate l0 w)) (hi : Hid b.I64s) (hm : Hid (b.mayB = true)) (hsS : Hid (b.s.length ≤ 900000)) :
    Calls Tryz.prog 40 #[.pointer (some ⟨g, 0, none⟩)] w fun r w' => ∃ v, r = .returned v ∧ BkEi w' (.agg #[vh, vs, vo, vr, .int .i64 b.n]) v b (if (fillS b e).all (·.holds) then fillB b e else b) ∧ Gt w0 g vh vs vo vr b e rate (l0 ++ cutL (fillS b e)) w' ∧ Off w w' := by
  obtain ⟨_, _, _, _, hv, r1, r2, r3, r4⟩ := B0.out
  injection hv with hv
  simp only [Array.mk.injEq, List.cons.injEq, and_true] at hv
  obtain ⟨rfl, rfl, rfl, rfl, _⟩ := hv
  have LH : Hid (∀ r ∈ b.h, r.length = 4) := (by obtain ⟨_, _, _, h, _⟩ := r1; exact h)
  have LO : Hid (∀ r ∈ b.o, r.length = 6) := (by obtain ⟨_, _, _, h, _⟩ := r3; exact h)
  have LR : Hid (∀ r ∈ b.r, r.length = 2) := (by obtain ⟨_, _, _, h, _⟩ := r4; exact h)
  obtain ⟨Ah, ch, rfl, _⟩ := r1
  obtain ⟨As, cs, rfl, _⟩ := r2
  obtain ⟨Ao, co, rfl, _⟩ := r3
  obtain ⟨Ar, cr, rfl, _⟩ := r4
  have F1 : b.h.length ≤ 1000000 ∧ b.o.length ≤ 1000000 ∧ b.r.length ≤ 1000000 := by have := hs.out; unfold Bk.Small at this; omega
  have HL1 := zH F1
  clear F1
  have KG := zH (HI.out.blk.imp fun _ h => h.1)
  have HOF : Hid (Off w w) := Off.refl _
  obtain ⟨ro, FO, hl2, hx2⟩ := rec_of LO.out (isId e.ord)
  match ro, hl2, hx2 with
  | [o0, o1, o2, o3, o4, o5], _, hx2 =>
  have hFo : FO = hasO b e.ord := recOf_snd hx2
  subst hFo
  have HX2 := zH hx2
  clear hx2
  obtain ⟨rh, FH, hl1, hx1⟩ := rec_of LH.out (isId o1)
  match rh, hl1, hx1 with
  | [h0, h1, h2, h3], _, hx1 =>
  have hF : FH = hasH b o1 := recOf_snd hx1
  subst hF
  have HX1 := zH hx1
  clear hx1
  have hrO : recO b e.ord = [o0, o1, o2, o3, o4, o5] := by unfold recO; rw [HX2.out]
  have hrH : recH b o1 = [h0, h1, h2, h3] := by unfold recH; rw [HX1.out]
  have I4 : Hid (I64 o4) := rec_I64 hi.out.2.2.1 HX2.out o4 (by simp)
  obtain ⟨⟨⟨C, X⟩, ⟨S, Y⟩⟩, hA⟩ : ∃ A, afterR b o1 o2 o3 e.qty e.px = A := ⟨_, rfl⟩
  have IC : Hid (I64 C) := (show I64 C from by have := (afterR_I64 b o1 o2 o3 e.qty e.px).1; rw [hA] at this; exact this)
  have IS : Hid (I64 S) := (show I64 S from by have := (afterR_I64 b o1 o2 o3 e.qty e.px).2; rw [hA] at this; exact this)
  have hAE : afterE b e = ((C, X), (S, Y)) := by unfold afterE; rw [hrO]; exact hA
  have hAP : afterP b o1 o2 o3 e.qty e.px = ((C, X), (S, Y)) := by unfold afterP; rw [hm.out, ← hA]; rfl
  have qA := zH (fun u wz hv => After_any u b o0 o1 o2 o3 o4 o5 e.qty e.px wz hv hs hi (zH hE.out.qty) (zH hE.out.px))
  rw [hAP] at qA
  have hst : fillS b e = [sS 13 (bitI (hasO b e.ord)) (1), sS 5 (e.qty) (1), sS 6 (e.px) (1), sS 21 (e.qty) (o4), oS 22 (C) (C) (X), oS 23 (S) (S) (Y)] := by unfold fillS; rw [hAE, hrO]; rfl
  have hFB : fillB b e = ({ ({ ({ b with h := setH h0 [h0, C, h2, h3] false b.h } : Bk) with s := setS o1 o2 [o1, o2, S] (S == 0) b.s } : Bk) with o := setH o0 [o0, o1, o2, o3, o4 - e.qty, o5] (o4 - e.qty == 0) b.o } : Bk) := by
    unfold fillB
    rw [hAE, hrO]
    show fillX b _ (recH b o1) C S e.qty = _
    rw [hrH]
    rfl
  have hFI : Hid ((fillS b e).all (·.holds) = true → 1 ≤ e.qty ∧ e.qty ≤ o4) := (show _ → _ from fun h => by obtain ⟨_, k2, _, k4⟩ := fillS_iff b e h; rw [hrO] at k4; exact ⟨k2, k4⟩)
  rw [hst] at hFI
  rw [hst, hFB]
  clear hst hFB hAE hAP hA hrO hrH
  have hmh : b.h.length ≤ 32 ∧ b.o.length ≤ 64 ∧ b.r.length ≤ 32 := by have := (Bk.mayB_iff b).1 hm.out; exact ⟨this.lh, this.lo, this.lr⟩
  obtain ⟨b1, hb1⟩ : ∃ b1 : Bk, ({ b with h := setH h0 [h0, C, h2, h3] false b.h } : Bk) = b1 := ⟨_, rfl⟩
  have b1s : b1.s = b.s := by rw [← hb1]
  have b1o : b1.o = b.o := by rw [← hb1]
  have S1 : Hid b1.Small := (show b1.Small from by rw [← hb1]; have := setK_le (ge := fun r => !decide (r.headD 0 < h0)) (ne := fun r => !isId h0 r) (x := [h0, C, h2, h3]) false b.h; have := hsS.out; unfold Bk.Small; refine ⟨?_, ?_, ?_, ?_⟩; (show (setK _ _ _ _ _).length ≤ _; omega); (show b.s.length ≤ _; omega); (show b.o.length ≤ _; omega); (show b.r.length ≤ _; omega))
  obtain ⟨b2, hb2⟩ : ∃ b2 : Bk, ({ b1 with s := setS o1 o2 [o1, o2, S] (S == 0) b1.s } : Bk) = b2 := ⟨_, rfl⟩
  have b2o : b2.o = b.o := by rw [← hb2]; exact b1o
  have S2 : Hid b2.Small := (show b2.Small from by rw [← hb2]; have := setK_le (ge := fun r => !decide (r.headD 0 < o1 ∨ r.headD 0 = o1 ∧ r.tail.headD 0 < o2)) (ne := fun r => !isKey o1 o2 r) (x := [o1, o2, S]) (S == 0) b1.s; have h1 := S1.out; have hs9 := hsS.out; rw [b1s] at this; unfold Bk.Small at h1 ⊢; refine ⟨h1.1, ?_, h1.2.2⟩; show (setS o1 o2 [o1, o2, S] (S == 0) b1.s).length ≤ _; rw [b1s]; unfold setS; omega)
  obtain ⟨nb, hnb⟩ : ∃ nb : Bk, ({ b2 with o := setH o0 [o0, o1, o2, o3, o4 - e.qty, o5] (o4 - e.qty == 0) b2.o } : Bk) = nb := ⟨_, rfl⟩
  have hnb' : ({ ({ ({ b with h := setH h0 [h0, C, h2, h3] false b.h } : Bk) with s := setS o1 o2 [o1, o2, S] (S == 0) b.s } : Bk) with o := setH o0 [o0, o1, o2, o3, o4 - e.qty, o5] (o4 - e.qty == 0) b.o } : Bk) = nb := by rw [← hnb, ← hb2, ← hb1]
  rw [hnb']
  have R1s : Hid (riseS b1.s) := (show riseS b1.s from by rw [b1s]; exact hR.out.2.2.2)
  have R2o : Hid (riseH b2.o) := (show riseH b2.o from by rw [b2o]; exact hR.out.2.1)
  have RH := zH hR.out.1
  have q1 : Hid (∀ (u : Value) (wz : World), Hid (BkAt wz u b) → Calls Tryz.prog 88 #[u, .agg #[.int .i64 h0, .int .i64 C, .int .i64 h2, .int .i64 h3]] wz fun r w' => ∃ v', r = .returned v' ∧ BkOwn w' wz.heap.size v' b1 ∧ Below wz.heap.size wz w') := (show _ from fun u wz hv => by rw [← hb1]; exact SetHolder_any u b h0 C h2 h3 wz hv hs RH)
  have q2 : Hid (∀ (u : Value) (wz : World), Hid (BkAt wz u b1) → Calls Tryz.prog 103 #[u, .agg #[.int .i64 o1, .int .i64 o2, .int .i64 S]] wz fun r w' => ∃ v', r = .returned v' ∧ BkOwn w' wz.heap.size v' b2 ∧ Below wz.heap.size wz w') := (show _ from fun u wz hv => by rw [← hb2]; exact SetStake_any u b1 o1 o2 S wz hv S1 R1s)
  have q3 : Hid (∀ (u : Value) (wz : World), Hid (BkAt wz u b2) → Calls Tryz.prog 99 #[u, .agg #[.int .i64 o0, .int .i64 o1, .int .i64 o2, .int .i64 o3, .int .i64 (o4 - e.qty), .int .i64 o5]] wz fun r w' => ∃ v', r = .returned v' ∧ BkOwn w' wz.heap.size v' nb ∧ Below wz.heap.size wz w') := (show _ from fun u wz hv => by rw [← hnb]; exact SetOpen_any u b2 o0 o1 o2 o3 (o4 - e.qty) o5 wz hv S2 R2o)
  clear hnb hnb' hb1 hb2 b1s b1o b2o hmh
  obtain ⟨FA, hFA⟩ : ∃ FA, ([sS 13 (bitI (hasO b e.ord)) (1), sS 5 (e.qty) (1), sS 6 (e.px) (1), sS 21 (e.qty) (o4), oS 22 (C) (C) (X), oS 23 (S) (S) (Y)]).all (·.holds) = FA := ⟨_, rfl⟩
  rw [hFA]
  replace hFA := zH hFA
  replace hFI : Hid (FA = true → 1 ≤ e.qty ∧ e.qty ≤ o4) := (show _ → _ from fun h => hFI.out (hFA.out.trans h))
  obtain ⟨wb, hwb⟩ : ∃ wb : World, w.alloc (.cells #[.slice none 0 0, .slice none 0 0, .slice none 0 0, .slice none 0 0, .int .i64 0] 27) = wb := ⟨_, rfl⟩
  have hb : Below w.heap.size w wb := by rw [← hwb]; exact below_alloc (Below.refl _ _) (Nat.le_refl _) _
  have KT : Hid (wb.heap[w.heap.size]? = some (.cells #[.slice none 0 0, .slice none 0 0, .slice none 0 0, .slice none 0 0, .int .i64 0] 27 (0, 0))) := by rw [← hwb]; exact heap_new _ _
  have LT : Hid (w0.heap.size ≤ w.heap.size) := HI.out.below.size
  have MT : Hid (w.heap.size ≤ w.heap.size) := Nat.le_refl _
  replace KG := zH ((KG.out.imp fun _ h => blk_call h hb))
  replace HI := zH (HI.out.kept hb)
  replace HOF := zH (HOF.out.trans (Off.of hb))
  replace hwb := zH hwb
  clear hb
  go_enter Tryz.func40, Tryz.ntmps40
  go_wp2_with fail
  rw [hwb.out]
  clear hwb
  refine wp_region_D [] (fun wz : World => Hid (∃ vX : Value, wz.heap[g]? = some (.cells #[.slice Ah b.h.length ch, .slice As b.s.length cs, .slice Ao b.o.length co, .slice Ar b.r.length cr, .int .i64 b.n, .int .i64 e.kind, .int .i64 e.acc, .int .i64 e.ord, .int .i64 e.sym, .int .i64 e.side, .int .i64 e.qty, .int .i64 e.px, .int .i64 rate, vX] 75 (0, 0)))) 16 #[false, false, false, false, false, false, false, false, false, false, false, false, false, false, false, false] (by kernel_rfl) (by kernel_rfl) (by kernel_rfl) ?_
  obtain ⟨wd1, hwd1⟩ : ∃ wd1 : World, { wb with drawn := wb.drawn + 1 } = wd1 := ⟨_, rfl⟩
  rw [hwd1]
  have hbwd1 : Below wb.heap.size wb wd1 := by rw [← hwd1]; exact (Below.refl _ _).drew
  replace KG := zH ((KG.out.imp fun _ h => blk_call h hbwd1))
  replace KT := zK KT hbwd1
  replace HI := zH (HI.out.kept hbwd1)
  replace HOF := zH (HOF.out.trans (Off.of hbwd1))
  clear hwd1 hbwd1
  refine pure_moreD [0, 1, 2, 3, 4, 5, 6, 7, 8] 7 (L' := #[true, true, true, true, true, true, true, true, true, false, false, false, false, false, false, false]) (by kernel_rfl) (by kernel_rfl) KG ?_
  simp only [opsAt, List.getElem?_toArray, List.getElem?_cons_zero, List.getElem?_cons_succ]
  refine pure_moveG rfl rfl ?_
  refine pure_atG (.pointer (some ⟨g, 0, none⟩)) rfl (fun wz _ => by unfold execOp; go_simp) ?_
  refine pure_atG (.pointer (some ⟨g, 0, none⟩)) rfl (fun wz _ => by unfold execOp; go_simp) ?_
  refine pure_atG (.agg #[.slice Ah b.h.length ch, .slice As b.s.length cs, .slice Ao b.o.length co, .slice Ar b.r.length cr, .int .i64 b.n]) rfl (fun wz hC => by obtain ⟨vX, hX⟩ := hC.out; have c0 := cells_of_blk hX 0 _ rfl; have c1 := cells_of_blk hX 1 _ rfl; have c2 := cells_of_blk hX 2 _ rfl; have c3 := cells_of_blk hX 3 _ rfl; have c4 := cells_of_blk hX 4 _ rfl; unfold execOp; go_simp) ?_
  refine pure_moveG rfl rfl ?_
  refine pure_atG (.pointer (some ⟨g, 0, none⟩)) rfl (fun wz _ => by unfold execOp; go_simp) ?_
  refine pure_atG (.pointer (some ⟨g, 5, none⟩)) rfl (fun wz _ => by unfold execOp; go_simp) ?_
  refine pure_atG (.pointer (some ⟨g, 7, none⟩)) rfl (fun wz _ => by unfold execOp; go_simp) ?_
  refine pure_atG (.int .i64 e.ord) rfl (fun wz hC => by obtain ⟨vX, hX⟩ := hC.out; have c0 := cells_of_blk hX 7 _ rfl; unfold execOp; go_simp) ?_
  unfold wpPure
  go_simp
  have hzd := zH HI.out.below.size
  have hzo := zH HOF.out.size
  refine wpAnyD_ca 9 13 [10, 11, 12] 23 3 2 (.tuple #[.agg #[.int .i64 o0, .int .i64 o1, .int .i64 o2, .int .i64 o3, .int .i64 o4, .int .i64 o5], .bool (hasO b e.ord)]) #[.int .i64 0, .int .i64 0, .int .i64 0, .int .i64 0, .int .i64 0, .int .i64 0] 86 [(13, .tuple #[.agg #[.int .i64 o0, .int .i64 o1, .int .i64 o2, .int .i64 o3, .int .i64 o4, .int .i64 o5], .bool (hasO b e.ord)]), (24, .agg #[.int .i64 o0, .int .i64 o1, .int .i64 o2, .int .i64 o3, .int .i64 o4, .int .i64 o5]), (25, .bool (hasO b e.ord))] [23, 3, 13, 24, 25] (by kernel_rfl) (by kernel_rfl) (by kernel_rfl) (by kernel_rfl) (by kernel_rfl) (L2 := #[true, true, true, true, true, true, true, true, true, true, true, true, true, true, false, false]) (by kernel_rfl) (by kernel_rfl) (by kernel_rfl) ?_ ?_ ?_ ?_ ?_
  · exact can_call 90 #[.agg #[.slice Ah b.h.length ch, .slice As b.s.length cs, .slice Ao b.o.length co, .slice Ar b.r.length cr, .int .i64 b.n], .int .i64 e.ord] ⟨_, _, _, rfl, rfl, rfl, rfl, by simp [Act.eval, Act.put], by simp⟩ (fun w => enters_of Tryz.func90 (by kernel_rfl) rfl _ w) (fun wz hz => (Open_any _ b e.ord o0 o1 o2 o3 o4 o5 (hasO b e.ord) wz (zH (B0.out.call (HI.out.below.trans (hz.mono HI.out.below.size)))) HL1.out.2.1 hR.out.2.1 HX2).mono fun x w' ⟨h1, h2⟩ => ⟨_, h1, rfl, h2⟩)
  · exact can_alloc _ rfl rfl rfl #[.int .i64 0, .int .i64 0, .int .i64 0, .int .i64 0, .int .i64 0, .int .i64 0] 86 (fun ev wz => by unfold execOp; go_simp) (fun wz hz => ⟨rfl, heap_new wz _⟩)
  · exact fun wz hz => (KG.out.imp fun _ h => blk_call h hz)
  · intro a' K ha hk
    simp only [opsAt, List.getElem?_toArray, List.getElem?_cons_zero, List.getElem?_cons_succ]
    rcases ha with rfl | ⟨p, rfl⟩
    · refine pure_atG (.tuple #[.agg #[.int .i64 o0, .int .i64 o1, .int .i64 o2, .int .i64 o3, .int .i64 o4, .int .i64 o5], .bool (hasO b e.ord)]) rfl (fun wz _ => by unfold execOp; go_simp) ?_
      refine pure_atG (.agg #[.int .i64 o0, .int .i64 o1, .int .i64 o2, .int .i64 o3, .int .i64 o4, .int .i64 o5]) rfl (fun wz _ => by unfold execOp; go_simp) ?_
      refine pure_atG (.bool (hasO b e.ord)) rfl (fun wz _ => by unfold execOp; go_simp) ?_
      unfold wpPure
      exact hk
    · refine pure_atG (.tuple #[.agg #[.int .i64 o0, .int .i64 o1, .int .i64 o2, .int .i64 o3, .int .i64 o4, .int .i64 o5], .bool (hasO b e.ord)]) rfl (fun wz _ => by unfold execOp; go_simp) ?_
      refine pure_atG (.agg #[.int .i64 o0, .int .i64 o1, .int .i64 o2, .int .i64 o3, .int .i64 o4, .int .i64 o5]) rfl (fun wz _ => by unfold execOp; go_simp) ?_
      refine pure_atG (.bool (hasO b e.ord)) rfl (fun wz _ => by unfold execOp; go_simp) ?_
      unfold wpPure
      exact hk
  intro qwf2 wf2 m2 g2 hb
  have Ko := zH g2
  have Lo := zH (Nat.le_trans hzd.out m2)
  have Mo := zH (Nat.le_trans hzo.out m2)
  clear g2 m2 hzd hzo
  simp only [putsV]
  go_simp
  replace KG := zH ((KG.out.imp fun _ h => blk_call h hb))
  replace KT := zK KT hb
  replace HI := zH (HI.out.kept hb)
  replace HOF := zH (HOF.out.trans (Off.of hb))
  clear hb
  have c_o_0 := zC Ko.out
  have fc_o_0 := zF Ko.out
  refine wpAnyD_one 14 (f := 1) (L' := #[true, true, true, true, true, true, true, true, true, true, true, true, true, true, true, false]) (by kernel_rfl) (by kernel_rfl) rfl rfl ?_
  go_wp2_with fail
  obtain ⟨ws3, hws3⟩ : ∃ ws3 : World, (((((wf2.setCell ⟨qwf2, 0, none⟩ (.int .i64 o0)).setCell ⟨qwf2, 1, none⟩ (.int .i64 o1)).setCell ⟨qwf2, 2, none⟩ (.int .i64 o2)).setCell ⟨qwf2, 3, none⟩ (.int .i64 o3)).setCell ⟨qwf2, 4, none⟩ (.int .i64 o4)).setCell ⟨qwf2, 5, none⟩ (.int .i64 o5) = ws3 := ⟨_, rfl⟩
  rw [hws3]
  clear c_o_0 fc_o_0
  have zE : putC wf2 (qwf2) 0 [.int .i64 o0, .int .i64 o1, .int .i64 o2, .int .i64 o3, .int .i64 o4, .int .i64 o5] = ws3 := hws3
  replace HI := zH (HI.out.put Ko.out (by decide) (by decide) Lo.out 0 [.int .i64 o0, .int .i64 o1, .int .i64 o2, .int .i64 o3, .int .i64 o4, .int .i64 o5])
  replace HOF := zH (Off.freshC Mo.out HOF.out 0 [.int .i64 o0, .int .i64 o1, .int .i64 o2, .int .i64 o3, .int .i64 o4, .int .i64 o5])
  replace KG := zH ((KG.out.imp fun _ h => putC_oth (blk_ne h Ko.out (by decide)) (o := 0) (vs := [.int .i64 o0, .int .i64 o1, .int .i64 o2, .int .i64 o3, .int .i64 o4, .int .i64 o5]) h ))
  replace KT := zH (putC_oth (blk_ne KT.out Ko.out (by decide)) (o := 0) (vs := [.int .i64 o0, .int .i64 o1, .int .i64 o2, .int .i64 o3, .int .i64 o4, .int .i64 o5]) KT.out )
  rw [zE] at HI HOF KG KT
  replace Ko := zP zE Ko
  clear zE
  replace Ko : Hid (ws3.heap[qwf2]? = some (.cells #[.int .i64 o0, .int .i64 o1, .int .i64 o2, .int .i64 o3, .int .i64 o4, .int .i64 o5] 86 (0, 0))) := Ko.out
  clear hws3
  rw [StepQ_normal]
  refine ⟨fun _ => KG, ?_⟩
  refine pure_moreD [15] 0 (L' := #[true, true, true, true, true, true, true, true, true, true, true, true, true, true, true, true]) (by kernel_rfl) (by kernel_rfl) KG ?_
  simp only [opsAt, List.getElem?_toArray, List.getElem?_cons_zero, List.getElem?_cons_succ]
  refine pure_atG (.bool (hasO b e.ord)) rfl (fun wz _ => by unfold execOp; go_simp) ?_
  unfold wpPure
  go_simp
  refine ⟨by kernel_rfl, ?_⟩
  rw [OnlyN_normal]
  go_wp2_with fail
  refine wp_region_D [] (fun wz : World => Hid (∃ vX : Value, wz.heap[g]? = some (.cells #[.slice Ah b.h.length ch, .slice As b.s.length cs, .slice Ao b.o.length co, .slice Ar b.r.length cr, .int .i64 b.n, .int .i64 e.kind, .int .i64 e.acc, .int .i64 e.ord, .int .i64 e.sym, .int .i64 e.side, .int .i64 e.qty, .int .i64 e.px, .int .i64 rate, vX] 75 (0, 0))) ∧ Hid (wz.heap[qwf2]? = some (.cells #[.int .i64 o0, .int .i64 o1, .int .i64 o2, .int .i64 o3, .int .i64 o4, .int .i64 o5] 86 (0, 0)))) 29 #[false, false, false, false, false, false, false, false, false, false, false, false, false, false, false, false, false, false, false, false, false, false, false, false, false, false, false, false, false] (by kernel_rfl) (by kernel_rfl) (by kernel_rfl) ?_
  obtain ⟨wd4, hwd4⟩ : ∃ wd4 : World, { ws3 with drawn := ws3.drawn + 1 } = wd4 := ⟨_, rfl⟩
  rw [hwd4]
  have hbwd4 : Below ws3.heap.size ws3 wd4 := by rw [← hwd4]; exact (Below.refl _ _).drew
  replace KG := zH ((KG.out.imp fun _ h => blk_call h hbwd4))
  replace KT := zK KT hbwd4
  replace Ko := zK Ko hbwd4
  replace HI := zH (HI.out.kept hbwd4)
  replace HOF := zH (HOF.out.trans (Off.of hbwd4))
  clear hwd4 hbwd4
  refine pure_moreD [0, 1, 2, 3, 4, 5, 6, 7, 8, 9, 10, 11, 12, 13, 14] 14 (L' := #[true, true, true, true, true, true, true, true, true, true, true, true, true, true, true, false, false, false, false, false, false, false, false, false, false, false, false, false, false]) (by kernel_rfl) (by kernel_rfl) ⟨KG, Ko⟩ ?_
  simp only [opsAt, List.getElem?_toArray, List.getElem?_cons_zero, List.getElem?_cons_succ]
  refine pure_moveG rfl rfl ?_
  refine pure_atG (.pointer (some ⟨g, 0, none⟩)) rfl (fun wz _ => by unfold execOp; go_simp) ?_
  refine pure_atG (.pointer (some ⟨g, 0, none⟩)) rfl (fun wz _ => by unfold execOp; go_simp) ?_
  refine pure_atG (.agg #[.slice Ah b.h.length ch, .slice As b.s.length cs, .slice Ao b.o.length co, .slice Ar b.r.length cr, .int .i64 b.n]) rfl (fun wz hC => by obtain ⟨vX, hX⟩ := hC.1.out; have c0 := cells_of_blk hX 0 _ rfl; have c1 := cells_of_blk hX 1 _ rfl; have c2 := cells_of_blk hX 2 _ rfl; have c3 := cells_of_blk hX 3 _ rfl; have c4 := cells_of_blk hX 4 _ rfl; unfold execOp; go_simp) ?_
  refine pure_atG (.agg #[.int .i64 o0, .int .i64 o1, .int .i64 o2, .int .i64 o3, .int .i64 o4, .int .i64 o5]) rfl (fun wz hC => by have c0 := cells_of_blk hC.2.out 0 _ rfl; have c1 := cells_of_blk hC.2.out 1 _ rfl; have c2 := cells_of_blk hC.2.out 2 _ rfl; have c3 := cells_of_blk hC.2.out 3 _ rfl; have c4 := cells_of_blk hC.2.out 4 _ rfl; have c5 := cells_of_blk hC.2.out 5 _ rfl; unfold execOp; go_simp) ?_
  refine pure_moveG rfl rfl ?_
  refine pure_atG (.pointer (some ⟨g, 0, none⟩)) rfl (fun wz _ => by unfold execOp; go_simp) ?_
  refine pure_atG (.pointer (some ⟨g, 5, none⟩)) rfl (fun wz _ => by unfold execOp; go_simp) ?_
  refine pure_atG (.pointer (some ⟨g, 10, none⟩)) rfl (fun wz _ => by unfold execOp; go_simp) ?_
  refine pure_atG (.int .i64 e.qty) rfl (fun wz hC => by obtain ⟨vX, hX⟩ := hC.1.out; have c0 := cells_of_blk hX 10 _ rfl; unfold execOp; go_simp) ?_
  refine pure_moveG rfl rfl ?_
  refine pure_atG (.pointer (some ⟨g, 0, none⟩)) rfl (fun wz _ => by unfold execOp; go_simp) ?_
  refine pure_atG (.pointer (some ⟨g, 5, none⟩)) rfl (fun wz _ => by unfold execOp; go_simp) ?_
  refine pure_atG (.pointer (some ⟨g, 11, none⟩)) rfl (fun wz _ => by unfold execOp; go_simp) ?_
  refine pure_atG (.int .i64 e.px) rfl (fun wz hC => by obtain ⟨vX, hX⟩ := hC.1.out; have c0 := cells_of_blk hX 11 _ rfl; unfold execOp; go_simp) ?_
  unfold wpPure
  go_simp
  have hzd := zH HI.out.below.size
  have hzo := zH HOF.out.size
  refine free_call (W0 := wd4) 15 [16, 17, 18, 19, 20] 42 (.tuple #[.int .i64 C, .int .i64 S, .bool X, .bool Y]) [(26, .tuple #[.int .i64 C, .int .i64 S, .bool X, .bool Y]), (43, .int .i64 C), (44, .int .i64 S), (45, .bool X), (46, .bool Y)] 4 #[true, true, true, true, true, true, true, true, true, true, true, true, true, true, true, true, true, true, true, true, true, true, true, true, true, false, false, false, false] [42, 5, 6, 7, 8, 26, 43, 44, 45, 46] 125 (fun wz hz => ⟨(KG.out.imp fun _ h => blk_call h hz), blk_call Ko.out hz⟩) (by simp) (by simp) ?_ 4
    [⟨21, 5, fun lo hi v wz => v = .pointer (some ⟨lo, 0, none⟩) ∧ lo < hi ∧ wz.heap[lo]? = some (.cells #[.int .i64 0] 2 (0, 0))⟩, ⟨22, 6, fun lo hi v wz => v = .pointer (some ⟨lo, 0, none⟩) ∧ lo < hi ∧ wz.heap[lo]? = some (.cells #[.int .i64 0] 2 (0, 0))⟩, ⟨23, 7, fun lo hi v wz => v = .pointer (some ⟨lo, 0, none⟩) ∧ lo < hi ∧ wz.heap[lo]? = some (.cells #[.bool false] 4 (0, 0))⟩, ⟨24, 8, fun lo hi v wz => v = .pointer (some ⟨lo, 0, none⟩) ∧ lo < hi ∧ wz.heap[lo]? = some (.cells #[.bool false] 4 (0, 0))⟩] _ _ _ rfl (Below.refl _ _) (okC_of_states (S1 := [([21, 22, 23, 24], #[true, true, true, true, true, true, true, true, true, true, true, true, true, true, true, false, false, false, false, false, false, false, false, false, false, false, false, false, false]), ([21, 22, 23], #[true, true, true, true, true, true, true, true, true, true, true, true, true, true, true, false, false, false, false, false, false, false, false, false, true, false, false, false, false]), ([21, 22, 24], #[true, true, true, true, true, true, true, true, true, true, true, true, true, true, true, false, false, false, false, false, false, false, false, true, false, false, false, false, false]), ([21, 23, 24], #[true, true, true, true, true, true, true, true, true, true, true, true, true, true, true, false, false, false, false, false, false, false, true, false, false, false, false, false, false]), ([22, 23, 24], #[true, true, true, true, true, true, true, true, true, true, true, true, true, true, true, false, false, false, false, false, false, true, false, false, false, false, false, false, false]), ([21, 22], #[true, true, true, true, true, true, true, true, true, true, true, true, true, true, true, false, false, false, false, false, false, false, false, true, true, false, false, false, false]), ([21, 23], #[true, true, true, true, true, true, true, true, true, true, true, true, true, true, true, false, false, false, false, false, false, false, true, false, true, false, false, false, false]), ([21, 24], #[true, true, true, true, true, true, true, true, true, true, true, true, true, true, true, false, false, false, false, false, false, false, true, true, false, false, false, false, false]), ([22, 23], #[true, true, true, true, true, true, true, true, true, true, true, true, true, true, true, false, false, false, false, false, false, true, false, false, true, false, false, false, false]), ([22, 24], #[true, true, true, true, true, true, true, true, true, true, true, true, true, true, true, false, false, false, false, false, false, true, false, true, false, false, false, false, false]), ([23, 24], #[true, true, true, true, true, true, true, true, true, true, true, true, true, true, true, false, false, false, false, false, false, true, true, false, false, false, false, false, false]), ([21], #[true, true, true, true, true, true, true, true, true, true, true, true, true, true, true, false, false, false, false, false, false, false, true, true, true, false, false, false, false]), ([22], #[true, true, true, true, true, true, true, true, true, true, true, true, true, true, true, false, false, false, false, false, false, true, false, true, true, false, false, false, false]), ([23], #[true, true, true, true, true, true, true, true, true, true, true, true, true, true, true, false, false, false, false, false, false, true, true, false, true, false, false, false, false]), ([24], #[true, true, true, true, true, true, true, true, true, true, true, true, true, true, true, false, false, false, false, false, false, true, true, true, false, false, false, false, false]), ([], #[true, true, true, true, true, true, true, true, true, true, true, true, true, true, true, false, false, false, false, false, false, true, true, true, true, false, false, false, false])]) (S2 := [([21, 22, 23, 24], #[true, true, true, true, true, true, true, true, true, true, true, true, true, true, true, true, true, true, true, true, true, false, false, false, false, false, false, false, false]), ([21, 22, 23], #[true, true, true, true, true, true, true, true, true, true, true, true, true, true, true, true, true, true, true, true, true, false, false, false, true, false, false, false, false]), ([21, 22, 24], #[true, true, true, true, true, true, true, true, true, true, true, true, true, true, true, true, true, true, true, true, true, false, false, true, false, false, false, false, false]), ([21, 23, 24], #[true, true, true, true, true, true, true, true, true, true, true, true, true, true, true, true, true, true, true, true, true, false, true, false, false, false, false, false, false]), ([22, 23, 24], #[true, true, true, true, true, true, true, true, true, true, true, true, true, true, true, true, true, true, true, true, true, true, false, false, false, false, false, false, false]), ([21, 22], #[true, true, true, true, true, true, true, true, true, true, true, true, true, true, true, true, true, true, true, true, true, false, false, true, true, false, false, false, false]), ([21, 23], #[true, true, true, true, true, true, true, true, true, true, true, true, true, true, true, true, true, true, true, true, true, false, true, false, true, false, false, false, false]), ([21, 24], #[true, true, true, true, true, true, true, true, true, true, true, true, true, true, true, true, true, true, true, true, true, false, true, true, false, false, false, false, false]), ([22, 23], #[true, true, true, true, true, true, true, true, true, true, true, true, true, true, true, true, true, true, true, true, true, true, false, false, true, false, false, false, false]), ([22, 24], #[true, true, true, true, true, true, true, true, true, true, true, true, true, true, true, true, true, true, true, true, true, true, false, true, false, false, false, false, false]), ([23, 24], #[true, true, true, true, true, true, true, true, true, true, true, true, true, true, true, true, true, true, true, true, true, true, true, false, false, false, false, false, false]), ([21], #[true, true, true, true, true, true, true, true, true, true, true, true, true, true, true, true, true, true, true, true, true, false, true, true, true, false, false, false, false]), ([22], #[true, true, true, true, true, true, true, true, true, true, true, true, true, true, true, true, true, true, true, true, true, true, false, true, true, false, false, false, false]), ([23], #[true, true, true, true, true, true, true, true, true, true, true, true, true, true, true, true, true, true, true, true, true, true, true, false, true, false, false, false, false]), ([24], #[true, true, true, true, true, true, true, true, true, true, true, true, true, true, true, true, true, true, true, true, true, true, true, true, false, false, false, false, false]), ([], #[true, true, true, true, true, true, true, true, true, true, true, true, true, true, true, true, true, true, true, true, true, true, true, true, true, false, false, false, false])]) (by kernel_rfl) (by kernel_rfl) 4 _ _ (List.mem_cons_self ..) rfl) (by simp) (by simp) (by simp) ?_ ?_ rfl ?_ ?_
  · intro a' K hN hk
    have n0 : (a'.put (some 42) (.tuple #[.int .i64 C, .int .i64 S, .bool X, .bool Y])).tmps.size = 125 := by rw [put_size]; exact hN
    have e0 : (a'.put (some 42) (.tuple #[.int .i64 C, .int .i64 S, .bool X, .bool Y])).eval (.tmp 42) = .tuple #[.int .i64 C, .int .i64 S, .bool X, .bool Y] := eval_put_eq _ _ _ (by rw [hN]; decide)
    refine pure_atG (.tuple #[.int .i64 C, .int .i64 S, .bool X, .bool Y]) rfl (fun wz _ => by unfold execOp; simp only [e0]; go_simp) ?_
    have n1 : ((a'.put (some 42) (.tuple #[.int .i64 C, .int .i64 S, .bool X, .bool Y])).put (some 26) (.tuple #[.int .i64 C, .int .i64 S, .bool X, .bool Y])).tmps.size = 125 := by rw [put_size]; exact n0
    have e1 : ((a'.put (some 42) (.tuple #[.int .i64 C, .int .i64 S, .bool X, .bool Y])).put (some 26) (.tuple #[.int .i64 C, .int .i64 S, .bool X, .bool Y])).eval (.tmp 26) = .tuple #[.int .i64 C, .int .i64 S, .bool X, .bool Y] := eval_put_eq _ _ _ (by rw [n0]; decide)
    refine pure_atG (.int .i64 C) rfl (fun wz _ => by unfold execOp; simp only [e1]; go_simp) ?_
    have e2 : (((a'.put (some 42) (.tuple #[.int .i64 C, .int .i64 S, .bool X, .bool Y])).put (some 26) (.tuple #[.int .i64 C, .int .i64 S, .bool X, .bool Y])).put (some 43) (.int .i64 C)).eval (.tmp 26) = .tuple #[.int .i64 C, .int .i64 S, .bool X, .bool Y] := (eval_put_ne _ _ _ _ (by simp)).trans e1
    refine pure_atG (.int .i64 S) rfl (fun wz _ => by unfold execOp; simp only [e2]; go_simp) ?_
    have e3 : ((((a'.put (some 42) (.tuple #[.int .i64 C, .int .i64 S, .bool X, .bool Y])).put (some 26) (.tuple #[.int .i64 C, .int .i64 S, .bool X, .bool Y])).put (some 43) (.int .i64 C)).put (some 44) (.int .i64 S)).eval (.tmp 26) = .tuple #[.int .i64 C, .int .i64 S, .bool X, .bool Y] := (eval_put_ne _ _ _ _ (by simp)).trans e2
    refine pure_atG (.bool X) rfl (fun wz _ => by unfold execOp; simp only [e3]; go_simp) ?_
    have e4 : (((((a'.put (some 42) (.tuple #[.int .i64 C, .int .i64 S, .bool X, .bool Y])).put (some 26) (.tuple #[.int .i64 C, .int .i64 S, .bool X, .bool Y])).put (some 43) (.int .i64 C)).put (some 44) (.int .i64 S)).put (some 45) (.bool X)).eval (.tmp 26) = .tuple #[.int .i64 C, .int .i64 S, .bool X, .bool Y] := (eval_put_ne _ _ _ _ (by simp)).trans e3
    refine pure_atG (.bool Y) rfl (fun wz _ => by unfold execOp; simp only [e4]; go_simp) ?_
    have e5 : ((((((a'.put (some 42) (.tuple #[.int .i64 C, .int .i64 S, .bool X, .bool Y])).put (some 26) (.tuple #[.int .i64 C, .int .i64 S, .bool X, .bool Y])).put (some 43) (.int .i64 C)).put (some 44) (.int .i64 S)).put (some 45) (.bool X)).put (some 46) (.bool Y)).eval (.tmp 26) = .tuple #[.int .i64 C, .int .i64 S, .bool X, .bool Y] := (eval_put_ne _ _ _ _ (by simp)).trans e4
    unfold wpPure
    exact hk
  · intro e he
    simp only [List.mem_cons, List.not_mem_nil, or_false] at he
    rcases he with rfl | rfl | rfl | rfl
    · exact ⟨can_alloc _ rfl rfl rfl #[.int .i64 0] 2 (fun ev wz => by unfold execOp; go_simp) (fun wz hz => ⟨rfl, by simp, heap_new wz _⟩), by simp⟩
    · exact ⟨can_alloc _ rfl rfl rfl #[.int .i64 0] 2 (fun ev wz => by unfold execOp; go_simp) (fun wz hz => ⟨rfl, by simp, heap_new wz _⟩), by simp⟩
    · exact ⟨can_alloc _ rfl rfl rfl #[.bool false] 4 (fun ev wz => by unfold execOp; go_simp) (fun wz hz => ⟨rfl, by simp, heap_new wz _⟩), by simp⟩
    · exact ⟨can_alloc _ rfl rfl rfl #[.bool false] 4 (fun ev wz => by unfold execOp; go_simp) (fun wz hz => ⟨rfl, by simp, heap_new wz _⟩), by simp⟩
  · exact can_call 100 #[.agg #[.slice Ah b.h.length ch, .slice As b.s.length cs, .slice Ao b.o.length co, .slice Ar b.r.length cr, .int .i64 b.n], .agg #[.int .i64 o0, .int .i64 o1, .int .i64 o2, .int .i64 o3, .int .i64 o4, .int .i64 o5], .int .i64 e.qty, .int .i64 e.px] ⟨_, _, _, rfl, rfl, rfl, rfl, by simp [Act.eval, Act.put], by simp⟩ (fun w => enters_of Tryz.func100 (by kernel_rfl) rfl _ w) (fun wz hz => (qA.out _ wz (zH (B0.out.call (HI.out.below.trans (hz.mono HI.out.below.size))))).mono fun x w' ⟨h1, h2⟩ => ⟨_, h1, rfl, h2⟩)
  · intro e he lo hi v w1 w2 hv hb
    simp only [List.mem_cons, List.not_mem_nil, or_false] at he
    rcases he with rfl | rfl | rfl | rfl <;> exact ⟨hv.1, hv.2.1, blk_call hv.2.2 hb⟩
  intro us wf5 hus hap hb
  match us, hus, hap with
  | [t1, t2, t3, t4], ⟨⟨⟨e1, n1, g1⟩, m1⟩, ⟨⟨e2, n2, g2⟩, m2⟩, ⟨⟨e3, n3, g3⟩, m3⟩, ⟨⟨e4, n4, g4⟩, m4⟩, _⟩, ⟨ap1, ap2, ap3, _⟩ =>
  simp only [putsE]
  obtain ⟨qwf5c, hi1, v1⟩ := t1
  obtain ⟨qwf5s, hi2, v2⟩ := t2
  obtain ⟨qwf5x, hi3, v3⟩ := t3
  obtain ⟨qwf5y, hi4, v4⟩ := t4
  simp only at e1 n1 g1 m1 e2 n2 g2 m2 e3 n3 g3 m3 e4 n4 g4 m4 ⊢
  subst e1 e2 e3 e4
  have ne_c_s : qwf5c ≠ qwf5s := by have := (ap1 0 _ _ rfl rfl).1; simp only at this; omega
  have ne_x_y : qwf5x ≠ qwf5y := by have := (ap3 0 _ _ rfl rfl).1; simp only at this; omega
  have Kc := zH g1
  have Lc := zH (Nat.le_trans hzd.out m1)
  have Mc := zH (Nat.le_trans hzo.out m1)
  have Ks := zH g2
  have Ls := zH (Nat.le_trans hzd.out m2)
  have Ms := zH (Nat.le_trans hzo.out m2)
  have Kx := zH g3
  have Lx := zH (Nat.le_trans hzd.out m3)
  have Mx := zH (Nat.le_trans hzo.out m3)
  have Ky := zH g4
  have Ly := zH (Nat.le_trans hzd.out m4)
  have My := zH (Nat.le_trans hzo.out m4)
  clear hzd hzo hap hus g1 m1 n1 g2 m2 n2 g3 m3 n3 g4 m4 n4
  simp only [putsV]
  go_simp
  replace KG := zH ((KG.out.imp fun _ h => blk_call h hb))
  replace KT := zK KT hb
  replace Ko := zK Ko hb
  replace HI := zH (HI.out.kept hb)
  replace HOF := zH (HOF.out.trans (Off.of hb))
  clear hb
  have c_c_0 := zC Kc.out
  have fc_c_0 := zF Kc.out
  refine wpAnyD_one 25 (f := 3) (L' := #[true, true, true, true, true, true, true, true, true, true, true, true, true, true, true, true, true, true, true, true, true, true, true, true, true, true, false, false, false]) (by kernel_rfl) (by kernel_rfl) rfl rfl ?_
  go_wp2_with fail
  obtain ⟨ws6, hws6⟩ : ∃ ws6 : World, wf5.setCell ⟨qwf5c, 0, none⟩ (.int .i64 C) = ws6 := ⟨_, rfl⟩
  rw [hws6]
  clear c_c_0 fc_c_0
  have zE : putC wf5 (qwf5c) 0 [.int .i64 C] = ws6 := hws6
  replace HI := zH (HI.out.put Kc.out (by decide) (by decide) Lc.out 0 [.int .i64 C])
  replace HOF := zH (Off.freshC Mc.out HOF.out 0 [.int .i64 C])
  replace KG := zH ((KG.out.imp fun _ h => putC_oth (blk_ne h Kc.out (by decide)) (o := 0) (vs := [.int .i64 C]) h ))
  replace KT := zH (putC_oth (blk_ne KT.out Kc.out (by decide)) (o := 0) (vs := [.int .i64 C]) KT.out )
  replace Ko := zH (putC_oth (blk_ne Ko.out Kc.out (by decide)) (o := 0) (vs := [.int .i64 C]) Ko.out )
  replace Kx := zH (putC_oth (blk_ne Kx.out Kc.out (by decide)) (o := 0) (vs := [.int .i64 C]) Kx.out )
  replace Ky := zH (putC_oth (blk_ne Ky.out Kc.out (by decide)) (o := 0) (vs := [.int .i64 C]) Ky.out )
  rw [zE] at HI HOF KG KT Ko Kx Ky
  replace Ks := zN zE Ks ne_c_s.symm
  replace Kc := zP zE Kc
  clear zE
  replace Kc : Hid (ws6.heap[qwf5c]? = some (.cells #[.int .i64 C] 2 (0, 0))) := Kc.out
  clear hws6
  rw [StepQ_normal]
  refine ⟨fun _ => ⟨KG, Ko⟩, ?_⟩
  have c_s_0 := zC Ks.out
  have fc_s_0 := zF Ks.out
  refine wpAnyD_one 26 (f := 2) (L' := #[true, true, true, true, true, true, true, true, true, true, true, true, true, true, true, true, true, true, true, true, true, true, true, true, true, true, true, false, false]) (by kernel_rfl) (by kernel_rfl) rfl rfl ?_
  go_wp2_with fail
  obtain ⟨ws7, hws7⟩ : ∃ ws7 : World, ws6.setCell ⟨qwf5s, 0, none⟩ (.int .i64 S) = ws7 := ⟨_, rfl⟩
  rw [hws7]
  clear c_s_0 fc_s_0
  have zE : putC ws6 (qwf5s) 0 [.int .i64 S] = ws7 := hws7
  replace HI := zH (HI.out.put Ks.out (by decide) (by decide) Ls.out 0 [.int .i64 S])
  replace HOF := zH (Off.freshC Ms.out HOF.out 0 [.int .i64 S])
  replace KG := zH ((KG.out.imp fun _ h => putC_oth (blk_ne h Ks.out (by decide)) (o := 0) (vs := [.int .i64 S]) h ))
  replace KT := zH (putC_oth (blk_ne KT.out Ks.out (by decide)) (o := 0) (vs := [.int .i64 S]) KT.out )
  replace Ko := zH (putC_oth (blk_ne Ko.out Ks.out (by decide)) (o := 0) (vs := [.int .i64 S]) Ko.out )
  replace Kx := zH (putC_oth (blk_ne Kx.out Ks.out (by decide)) (o := 0) (vs := [.int .i64 S]) Kx.out )
  replace Ky := zH (putC_oth (blk_ne Ky.out Ks.out (by decide)) (o := 0) (vs := [.int .i64 S]) Ky.out )
  rw [zE] at HI HOF KG KT Ko Kx Ky
  replace Kc := zN zE Kc ne_c_s
  replace Ks := zP zE Ks
  clear zE
  replace Ks : Hid (ws7.heap[qwf5s]? = some (.cells #[.int .i64 S] 2 (0, 0))) := Ks.out
  clear hws7
  rw [StepQ_normal]
  refine ⟨fun _ => ⟨KG, Ko⟩, ?_⟩
  have c_x_0 := zC Kx.out
  have fc_x_0 := zF Kx.out
  refine wpAnyD_one 27 (f := 1) (L' := #[true, true, true, true, true, true, true, true, true, true, true, true, true, true, true, true, true, true, true, true, true, true, true, true, true, true, true, true, false]) (by kernel_rfl) (by kernel_rfl) rfl rfl ?_
  go_wp2_with fail
  obtain ⟨ws8, hws8⟩ : ∃ ws8 : World, ws7.setCell ⟨qwf5x, 0, none⟩ (.bool X) = ws8 := ⟨_, rfl⟩
  rw [hws8]
  clear c_x_0 fc_x_0
  have zE : putC ws7 (qwf5x) 0 [.bool X] = ws8 := hws8
  replace HI := zH (HI.out.put Kx.out (by decide) (by decide) Lx.out 0 [.bool X])
  replace HOF := zH (Off.freshC Mx.out HOF.out 0 [.bool X])
  replace KG := zH ((KG.out.imp fun _ h => putC_oth (blk_ne h Kx.out (by decide)) (o := 0) (vs := [.bool X]) h ))
  replace KT := zH (putC_oth (blk_ne KT.out Kx.out (by decide)) (o := 0) (vs := [.bool X]) KT.out )
  replace Ko := zH (putC_oth (blk_ne Ko.out Kx.out (by decide)) (o := 0) (vs := [.bool X]) Ko.out )
  replace Kc := zH (putC_oth (blk_ne Kc.out Kx.out (by decide)) (o := 0) (vs := [.bool X]) Kc.out )
  replace Ks := zH (putC_oth (blk_ne Ks.out Kx.out (by decide)) (o := 0) (vs := [.bool X]) Ks.out )
  rw [zE] at HI HOF KG KT Ko Kc Ks
  replace Ky := zN zE Ky ne_x_y.symm
  replace Kx := zP zE Kx
  clear zE
  replace Kx : Hid (ws8.heap[qwf5x]? = some (.cells #[.bool X] 4 (0, 0))) := Kx.out
  clear hws8
  rw [StepQ_normal]
  refine ⟨fun _ => ⟨KG, Ko⟩, ?_⟩
  have c_y_0 := zC Ky.out
  have fc_y_0 := zF Ky.out
  refine wpAnyD_one 28 (f := 0) (L' := #[true, true, true, true, true, true, true, true, true, true, true, true, true, true, true, true, true, true, true, true, true, true, true, true, true, true, true, true, true]) (by kernel_rfl) (by kernel_rfl) rfl rfl ?_
  go_wp2_with fail
  obtain ⟨ws9, hws9⟩ : ∃ ws9 : World, ws8.setCell ⟨qwf5y, 0, none⟩ (.bool Y) = ws9 := ⟨_, rfl⟩
  rw [hws9]
  clear c_y_0 fc_y_0
  have zE : putC ws8 (qwf5y) 0 [.bool Y] = ws9 := hws9
  replace HI := zH (HI.out.put Ky.out (by decide) (by decide) Ly.out 0 [.bool Y])
  replace HOF := zH (Off.freshC My.out HOF.out 0 [.bool Y])
  replace KG := zH ((KG.out.imp fun _ h => putC_oth (blk_ne h Ky.out (by decide)) (o := 0) (vs := [.bool Y]) h ))
  replace KT := zH (putC_oth (blk_ne KT.out Ky.out (by decide)) (o := 0) (vs := [.bool Y]) KT.out )
  replace Ko := zH (putC_oth (blk_ne Ko.out Ky.out (by decide)) (o := 0) (vs := [.bool Y]) Ko.out )
  replace Kc := zH (putC_oth (blk_ne Kc.out Ky.out (by decide)) (o := 0) (vs := [.bool Y]) Kc.out )
  replace Ks := zH (putC_oth (blk_ne Ks.out Ky.out (by decide)) (o := 0) (vs := [.bool Y]) Ks.out )
  rw [zE] at HI HOF KG KT Ko Kc Ks
  replace Kx := zN zE Kx ne_x_y
  replace Ky := zP zE Ky
  clear zE
  replace Ky : Hid (ws9.heap[qwf5y]? = some (.cells #[.bool Y] 4 (0, 0))) := Ky.out
  clear hws9
  rw [StepQ_normal]
  refine ⟨fun _ => ⟨KG, Ko⟩, ?_⟩
  refine ⟨by kernel_rfl, ?_⟩
  rw [OnlyN_normal]
  go_wp2_with fail
  refine wp_region_D [] (fun wz : World => Hid (∃ vX : Value, wz.heap[g]? = some (.cells #[.slice Ah b.h.length ch, .slice As b.s.length cs, .slice Ao b.o.length co, .slice Ar b.r.length cr, .int .i64 b.n, .int .i64 e.kind, .int .i64 e.acc, .int .i64 e.ord, .int .i64 e.sym, .int .i64 e.side, .int .i64 e.qty, .int .i64 e.px, .int .i64 rate, vX] 75 (0, 0))) ∧ Hid (wz.heap[qwf2]? = some (.cells #[.int .i64 o0, .int .i64 o1, .int .i64 o2, .int .i64 o3, .int .i64 o4, .int .i64 o5] 86 (0, 0)))) 36 #[false, false, false, false, false, false, false, false, false, false, false, false, false, false, false, false, false, false, false, false, false, false, false, false, false, false, false, false, false, false, false, false, false, false, false, false] (by kernel_rfl) (by kernel_rfl) (by kernel_rfl) ?_
  obtain ⟨wd10, hwd10⟩ : ∃ wd10 : World, { ws9 with drawn := ws9.drawn + 1 } = wd10 := ⟨_, rfl⟩
  rw [hwd10]
  have hbwd10 : Below ws9.heap.size ws9 wd10 := by rw [← hwd10]; exact (Below.refl _ _).drew
  replace KG := zH ((KG.out.imp fun _ h => blk_call h hbwd10))
  replace KT := zK KT hbwd10
  replace Ko := zK Ko hbwd10
  replace Kc := zK Kc hbwd10
  replace Ks := zK Ks hbwd10
  replace Kx := zK Kx hbwd10
  replace Ky := zK Ky hbwd10
  replace HI := zH (HI.out.kept hbwd10)
  replace HOF := zH (HOF.out.trans (Off.of hbwd10))
  clear hwd10 hbwd10
  refine pure_moreD [0, 1, 4, 5, 6, 7, 8, 9, 11, 12, 13, 14, 15, 16, 18, 19, 20, 21, 22, 23, 24, 25, 27, 28, 30, 31] 10 (L' := #[true, true, false, false, true, true, true, true, true, true, false, true, true, true, true, true, true, false, true, true, true, true, true, true, true, true, false, true, true, false, true, true, false, false, false, false]) (by kernel_rfl) (by kernel_rfl) ⟨KG, Ko⟩ ?_
  simp only [opsAt, List.getElem?_toArray, List.getElem?_cons_zero, List.getElem?_cons_succ]
  refine pure_moveG rfl rfl ?_
  refine pure_moveG rfl rfl ?_
  refine pure_moveG rfl rfl ?_
  refine pure_moveG rfl rfl ?_
  refine pure_atG (.pointer (some ⟨g, 0, none⟩)) rfl (fun wz _ => by unfold execOp; go_simp) ?_
  refine pure_atG (.pointer (some ⟨g, 5, none⟩)) rfl (fun wz _ => by unfold execOp; go_simp) ?_
  refine pure_atG (.pointer (some ⟨g, 10, none⟩)) rfl (fun wz _ => by unfold execOp; go_simp) ?_
  refine pure_atG (.int .i64 e.qty) rfl (fun wz hC => by obtain ⟨vX, hX⟩ := hC.1.out; have c0 := cells_of_blk hX 10 _ rfl; unfold execOp; go_simp) ?_
  refine pure_moveG rfl rfl ?_
  refine pure_moveG rfl rfl ?_
  refine pure_atG (.pointer (some ⟨g, 0, none⟩)) rfl (fun wz _ => by unfold execOp; go_simp) ?_
  refine pure_atG (.pointer (some ⟨g, 5, none⟩)) rfl (fun wz _ => by unfold execOp; go_simp) ?_
  refine pure_atG (.pointer (some ⟨g, 11, none⟩)) rfl (fun wz _ => by unfold execOp; go_simp) ?_
  refine pure_atG (.int .i64 e.px) rfl (fun wz hC => by obtain ⟨vX, hX⟩ := hC.1.out; have c0 := cells_of_blk hX 11 _ rfl; unfold execOp; go_simp) ?_
  refine pure_moveG rfl rfl ?_
  refine pure_moveG rfl rfl ?_
  refine pure_atG (.pointer (some ⟨g, 0, none⟩)) rfl (fun wz _ => by unfold execOp; go_simp) ?_
  refine pure_atG (.pointer (some ⟨g, 5, none⟩)) rfl (fun wz _ => by unfold execOp; go_simp) ?_
  refine pure_atG (.pointer (some ⟨g, 10, none⟩)) rfl (fun wz _ => by unfold execOp; go_simp) ?_
  refine pure_atG (.int .i64 e.qty) rfl (fun wz hC => by obtain ⟨vX, hX⟩ := hC.1.out; have c0 := cells_of_blk hX 10 _ rfl; unfold execOp; go_simp) ?_
  refine pure_atG (.pointer (some ⟨qwf2, 4, none⟩)) rfl (fun wz _ => by unfold execOp; go_simp) ?_
  refine pure_atG (.int .i64 o4) rfl (fun wz hC => by have c0 := cells_of_blk hC.2.out 4 _ rfl; unfold execOp; go_simp) ?_
  refine pure_moveG rfl rfl ?_
  refine pure_atG (.func (.func 101) #[] #[.pointer (some ⟨qwf5c, 0, none⟩), .pointer (some ⟨qwf5x, 0, none⟩)]) rfl (fun wz _ => by unfold execOp; go_simp) ?_
  refine pure_moveG rfl rfl ?_
  refine pure_atG (.func (.func 102) #[] #[.pointer (some ⟨qwf5s, 0, none⟩), .pointer (some ⟨qwf5y, 0, none⟩)]) rfl (fun wz _ => by unfold execOp; go_simp) ?_
  unfold wpPure
  go_simp
  refine wpAnyD_one 2 (f := 9) (L' := #[true, true, true, false, true, true, true, true, true, true, false, true, true, true, true, true, true, false, true, true, true, true, true, true, true, true, false, true, true, false, true, true, false, false, false, false]) (by kernel_rfl) (by kernel_rfl) rfl rfl ?_
  go_wp2_with fail
  with_reducible refine (gbit_any _ _).mono ?_
  rintro r _ ⟨rfl, rfl⟩
  go_wp2_with fail
  rw [StepQ_normal]
  refine ⟨fun _ => ⟨KG, Ko⟩, ?_⟩
  refine wpAnyD_one 3 (f := 8) (L' := #[true, true, true, true, true, true, true, true, true, true, false, true, true, true, true, true, true, false, true, true, true, true, true, true, true, true, false, true, true, false, true, true, false, false, false, false]) (by kernel_rfl) (by kernel_rfl) rfl rfl ?_
  go_wp2_with fail
  with_reducible refine (sides_any w0 g (.slice Ah b.h.length ch) (.slice As b.s.length cs) (.slice Ao b.o.length co) (.slice Ar b.r.length cr) b e rate hT 13 (bitI (hasO b e.ord)) (1) (gfit _ _ _ (by omega) (i64_bit _) (i64_lit (by omega))) _).mono ?_
  rintro e wc11 ⟨f1, rfl, hl1, hb⟩
  replace KG := zH ((KG.out.imp fun _ h => blk_call h hb))
  replace KT := zK KT hb
  replace Ko := zK Ko hb
  replace Kc := zK Kc hb
  replace Ks := zK Ks hb
  replace Kx := zK Kx hb
  replace Ky := zK Ky hb
  replace HI := zH (HI.out.kept hb)
  replace HOF := zH (HOF.out.trans (Off.of hb))
  clear hb
  obtain ⟨J1, j1, rfl⟩ := hl1.form
  have HK1 := zH hl1
  clear hl1
  go_wp2_with fail
  rw [StepQ_normal]
  refine ⟨fun _ => ⟨KG, Ko⟩, ?_⟩
  refine wpAnyD_one 10 (f := 7) (L' := #[true, true, true, true, true, true, true, true, true, true, true, true, true, true, true, true, true, false, true, true, true, true, true, true, true, true, false, true, true, false, true, true, false, false, false, false]) (by kernel_rfl) (by kernel_rfl) rfl rfl ?_
  go_wp2_with fail
  with_reducible refine (sides_any w0 g (.slice Ah b.h.length ch) (.slice As b.s.length cs) (.slice Ao b.o.length co) (.slice Ar b.r.length cr) b e rate hT 5 (e.qty) (1) (gfit _ _ _ (by omega) hE.out.qty (i64_lit (by omega))) _).mono ?_
  rintro e wc12 ⟨f2, rfl, hl2, hb⟩
  replace KG := zH ((KG.out.imp fun _ h => blk_call h hb))
  replace KT := zK KT hb
  replace Ko := zK Ko hb
  replace Kc := zK Kc hb
  replace Ks := zK Ks hb
  replace Kx := zK Kx hb
  replace Ky := zK Ky hb
  replace HI := zH (HI.out.kept hb)
  replace HOF := zH (HOF.out.trans (Off.of hb))
  replace HK1 := zH (HK1.out.off (Off.of hb))
  clear hb
  obtain ⟨J2, j2, rfl⟩ := hl2.form
  have HK2 := zH hl2
  clear hl2
  go_wp2_with fail
  rw [StepQ_normal]
  refine ⟨fun _ => ⟨KG, Ko⟩, ?_⟩
  refine wpAnyD_one 17 (f := 6) (L' := #[true, true, true, true, true, true, true, true, true, true, true, true, true, true, true, true, true, true, true, true, true, true, true, true, true, true, false, true, true, false, true, true, false, false, false, false]) (by kernel_rfl) (by kernel_rfl) rfl rfl ?_
  go_wp2_with fail
  with_reducible refine (sides_any w0 g (.slice Ah b.h.length ch) (.slice As b.s.length cs) (.slice Ao b.o.length co) (.slice Ar b.r.length cr) b e rate hT 6 (e.px) (1) (gfit _ _ _ (by omega) hE.out.px (i64_lit (by omega))) _).mono ?_
  rintro e wc13 ⟨f3, rfl, hl3, hb⟩
  replace KG := zH ((KG.out.imp fun _ h => blk_call h hb))
  replace KT := zK KT hb
  replace Ko := zK Ko hb
  replace Kc := zK Kc hb
  replace Ks := zK Ks hb
  replace Kx := zK Kx hb
  replace Ky := zK Ky hb
  replace HI := zH (HI.out.kept hb)
  replace HOF := zH (HOF.out.trans (Off.of hb))
  replace HK1 := zH (HK1.out.off (Off.of hb))
  replace HK2 := zH (HK2.out.off (Off.of hb))
  clear hb
  obtain ⟨J3, j3, rfl⟩ := hl3.form
  have HK3 := zH hl3
  clear hl3
  go_wp2_with fail
  rw [StepQ_normal]
  refine ⟨fun _ => ⟨KG, Ko⟩, ?_⟩
  refine wpAnyD_one 26 (f := 5) (L' := #[true, true, true, true, true, true, true, true, true, true, true, true, true, true, true, true, true, true, true, true, true, true, true, true, true, true, true, true, true, false, true, true, false, false, false, false]) (by kernel_rfl) (by kernel_rfl) rfl rfl ?_
  go_wp2_with fail
  with_reducible refine (sides_any w0 g (.slice Ah b.h.length ch) (.slice As b.s.length cs) (.slice Ao b.o.length co) (.slice Ar b.r.length cr) b e rate hT 21 (e.qty) (o4) (gfit _ _ _ (by omega) hE.out.qty I4.out) _).mono ?_
  rintro e wc14 ⟨f4, rfl, hl4, hb⟩
  replace KG := zH ((KG.out.imp fun _ h => blk_call h hb))
  replace KT := zK KT hb
  replace Ko := zK Ko hb
  replace Kc := zK Kc hb
  replace Ks := zK Ks hb
  replace Kx := zK Kx hb
  replace Ky := zK Ky hb
  replace HI := zH (HI.out.kept hb)
  replace HOF := zH (HOF.out.trans (Off.of hb))
  replace HK1 := zH (HK1.out.off (Off.of hb))
  replace HK2 := zH (HK2.out.off (Off.of hb))
  replace HK3 := zH (HK3.out.off (Off.of hb))
  clear hb
  obtain ⟨J4, j4, rfl⟩ := hl4.form
  have HK4 := zH hl4
  clear hl4
  go_wp2_with fail
  rw [StepQ_normal]
  refine ⟨fun _ => ⟨KG, Ko⟩, ?_⟩
  have hSd5 := zH (fill1_on w0 g (.slice Ah b.h.length ch) (.slice As b.s.length cs) (.slice Ao b.o.length co) (.slice Ar b.r.length cr) b e rate C X _ _ _ Kc Kx)
  have qe5 := zH (exact_any w0 g (.slice Ah b.h.length ch) (.slice As b.s.length cs) (.slice Ao b.o.length co) (.slice Ar b.r.length cr) b e rate hT 22 (C) (C) (X) (.func (.func 101) #[] #[.pointer (some ⟨qwf5c, 0, none⟩), .pointer (some ⟨qwf5x, 0, none⟩)]) (show I64 22 from i64_lit (by omega)) (gfit _ _ _ (by omega) IC.out IC.out) _ hSd5)
  clear hSd5
  refine wpAnyD_one 29 (f := 4) (L' := #[true, true, true, true, true, true, true, true, true, true, true, true, true, true, true, true, true, true, true, true, true, true, true, true, true, true, true, true, true, true, true, true, false, false, false, false]) (by kernel_rfl) (by kernel_rfl) rfl rfl ?_
  go_wp2_with fail
  with_reducible refine (qe5.out).mono ?_
  rintro e wc15 ⟨f5, rfl, hl5, hb⟩
  replace KG := zH ((KG.out.imp fun _ h => blk_call h hb))
  replace KT := zK KT hb
  replace Ko := zK Ko hb
  replace Kc := zK Kc hb
  replace Ks := zK Ks hb
  replace Kx := zK Kx hb
  replace Ky := zK Ky hb
  replace HI := zH (HI.out.kept hb)
  replace HOF := zH (HOF.out.trans (Off.of hb))
  replace HK1 := zH (HK1.out.off (Off.of hb))
  replace HK2 := zH (HK2.out.off (Off.of hb))
  replace HK3 := zH (HK3.out.off (Off.of hb))
  replace HK4 := zH (HK4.out.off (Off.of hb))
  clear hb
  clear qe5
  obtain ⟨J5, j5, rfl⟩ := hl5.form
  have HK5 := zH hl5
  clear hl5
  go_wp2_with fail
  rw [StepQ_normal]
  refine ⟨fun _ => ⟨KG, Ko⟩, ?_⟩
  have hSd6 := zH (fill2_on w0 g (.slice Ah b.h.length ch) (.slice As b.s.length cs) (.slice Ao b.o.length co) (.slice Ar b.r.length cr) b e rate S Y _ _ _ Ks Ky)
  have qe6 := zH (exact_any w0 g (.slice Ah b.h.length ch) (.slice As b.s.length cs) (.slice Ao b.o.length co) (.slice Ar b.r.length cr) b e rate hT 23 (S) (S) (Y) (.func (.func 102) #[] #[.pointer (some ⟨qwf5s, 0, none⟩), .pointer (some ⟨qwf5y, 0, none⟩)]) (show I64 23 from i64_lit (by omega)) (gfit _ _ _ (by omega) IS.out IS.out) _ hSd6)
  clear hSd6
  refine wpAnyD_one 32 (f := 3) (L' := #[true, true, true, true, true, true, true, true, true, true, true, true, true, true, true, true, true, true, true, true, true, true, true, true, true, true, true, true, true, true, true, true, true, false, false, false]) (by kernel_rfl) (by kernel_rfl) rfl rfl ?_
  go_wp2_with fail
  with_reducible refine (qe6.out).mono ?_
  rintro e wc16 ⟨f6, rfl, hl6, hb⟩
  replace KG := zH ((KG.out.imp fun _ h => blk_call h hb))
  replace KT := zK KT hb
  replace Ko := zK Ko hb
  replace Kc := zK Kc hb
  replace Ks := zK Ks hb
  replace Kx := zK Kx hb
  replace Ky := zK Ky hb
  replace HI := zH (HI.out.kept hb)
  replace HOF := zH (HOF.out.trans (Off.of hb))
  replace HK1 := zH (HK1.out.off (Off.of hb))
  replace HK2 := zH (HK2.out.off (Off.of hb))
  replace HK3 := zH (HK3.out.off (Off.of hb))
  replace HK4 := zH (HK4.out.off (Off.of hb))
  replace HK5 := zH (HK5.out.off (Off.of hb))
  clear hb
  clear qe6
  obtain ⟨J6, j6, rfl⟩ := hl6.form
  have HK6 := zH hl6
  clear hl6
  go_wp2_with fail
  rw [StepQ_normal]
  refine ⟨fun _ => ⟨KG, Ko⟩, ?_⟩
  refine wpAnyD_one 33 (f := 2) (L' := #[true, true, true, true, true, true, true, true, true, true, true, true, true, true, true, true, true, true, true, true, true, true, true, true, true, true, true, true, true, true, true, true, true, true, false, false]) (by kernel_rfl) (by kernel_rfl) rfl rfl ?_
  go_wp2_with fail
  obtain ⟨wa17, hwa17⟩ : ∃ wa17 : World, wc16.alloc (.cells #[.func (.func J1) #[] j1, .func (.func J2) #[] j2, .func (.func J3) #[] j3, .func (.func J4) #[] j4, .func (.func J5) #[] j5, .func (.func J6) #[] j6] 79) = wa17 := ⟨_, rfl⟩
  rw [hwa17]
  have hbwa17 : Below wc16.heap.size wc16 wa17 := by rw [← hwa17]; exact below_alloc (Below.refl _ _) (Nat.le_refl _) _
  replace KG := zH ((KG.out.imp fun _ h => blk_call h hbwa17))
  replace KT := zK KT hbwa17
  replace Ko := zK Ko hbwa17
  replace Kc := zK Kc hbwa17
  replace Ks := zK Ks hbwa17
  replace Kx := zK Kx hbwa17
  replace Ky := zK Ky hbwa17
  replace HI := zH (HI.out.kept hbwa17)
  replace HOF := zH (HOF.out.trans (Off.of hbwa17))
  replace HK1 := zH (HK1.out.off (Off.of hbwa17))
  replace HK2 := zH (HK2.out.off (Off.of hbwa17))
  replace HK3 := zH (HK3.out.off (Off.of hbwa17))
  replace HK4 := zH (HK4.out.off (Off.of hbwa17))
  replace HK5 := zH (HK5.out.off (Off.of hbwa17))
  replace HK6 := zH (HK6.out.off (Off.of hbwa17))
  have Kfs : Hid (wa17.heap[wc16.heap.size]? = some (.cells #[.func (.func J1) #[] j1, .func (.func J2) #[] j2, .func (.func J3) #[] j3, .func (.func J4) #[] j4, .func (.func J5) #[] j5, .func (.func J6) #[] j6] 79 (0, 0))) := by rw [← hwa17]; exact heap_new _ _
  clear hwa17 hbwa17
  rw [StepQ_normal]
  refine ⟨fun _ => ⟨KG, Ko⟩, ?_⟩
  refine wpAnyD_one 34 (f := 1) (L' := #[true, true, true, true, true, true, true, true, true, true, true, true, true, true, true, true, true, true, true, true, true, true, true, true, true, true, true, true, true, true, true, true, true, true, true, false]) (by kernel_rfl) (by kernel_rfl) rfl rfl ?_
  go_wp2_with fail
  have qall := zH (all_any (Gt w0 g (.slice Ah b.h.length ch) (.slice As b.s.length cs) (.slice Ao b.o.length co) (.slice Ar b.r.length cr) b e rate) (wc16.heap.size) 6 [(.func (.func J1) #[] j1, sS 13 (bitI (hasO b e.ord)) (1)), (.func (.func J2) #[] j2, sS 5 (e.qty) (1)), (.func (.func J3) #[] j3, sS 6 (e.px) (1)), (.func (.func J4) #[] j4, sS 21 (e.qty) (o4)), (.func (.func J5) #[] j5, oS 22 (C) (C) (X)), (.func (.func J6) #[] j6, oS 23 (S) (S) (Y))] #[.func (.func J1) #[] j1, .func (.func J2) #[] j2, .func (.func J3) #[] j3, .func (.func J4) #[] j4, .func (.func J5) #[] j5, .func (.func J6) #[] j6] l0 _ rfl rfl Kfs (zH (by intro x hx; simp only [List.mem_cons, List.not_mem_nil, or_false] at hx; rcases hx with rfl | rfl | rfl | rfl | rfl | rfl <;> first | exact HK1.out | exact HK2.out | exact HK3.out | exact HK4.out | exact HK5.out | exact HK6.out)) HI (by have := hl0.out; show _ ≤ _; omega))
  have qall2 : Hid (Calls Tryz.prog 43 #[.slice (some ⟨wc16.heap.size, 0, none⟩) 6 6] wa17 fun r w' => r = .returned (.bool FA) ∧ Gt w0 g (.slice Ah b.h.length ch) (.slice As b.s.length cs) (.slice Ao b.o.length co) (.slice Ar b.r.length cr) b e rate (l0 ++ cutL ([sS 13 (bitI (hasO b e.ord)) (1), sS 5 (e.qty) (1), sS 6 (e.px) (1), sS 21 (e.qty) (o4), oS 22 (C) (C) (X), oS 23 (S) (S) (Y)])) w' ∧ Off wa17 w') := by rw [← hFA.out]; exact qall.out
  clear qall
  with_reducible refine qall2.out.mono ?_
  rintro r wl18 ⟨rfl, hI2, ho⟩
  clear qall2 HI HK1 HK2 HK3 HK4 HK5 HK6
  replace KT := zH (ho.blk _ _ _ _ KT.out (by decide) (by decide))
  replace Ko := zH (ho.blk _ _ _ _ Ko.out (by decide) (by decide))
  replace Kc := zH (ho.blk _ _ _ _ Kc.out (by decide) (by decide))
  replace Ks := zH (ho.blk _ _ _ _ Ks.out (by decide) (by decide))
  replace Kx := zH (ho.blk _ _ _ _ Kx.out (by decide) (by decide))
  replace Ky := zH (ho.blk _ _ _ _ Ky.out (by decide) (by decide))
  replace HOF := zH (HOF.out.trans ho)
  clear Kfs KG ho
  have HI := zH hI2
  clear hI2
  have KG := zH (HI.out.blk.imp fun _ h => h.1)
  go_wp2_with fail
  rw [StepQ_normal]
  refine ⟨fun _ => ⟨KG, Ko⟩, ?_⟩
  refine pure_moreD [35] 0 (L' := #[true, true, true, true, true, true, true, true, true, true, true, true, true, true, true, true, true, true, true, true, true, true, true, true, true, true, true, true, true, true, true, true, true, true, true, true]) (by kernel_rfl) (by kernel_rfl) ⟨KG, Ko⟩ ?_
  simp only [opsAt, List.getElem?_toArray, List.getElem?_cons_zero, List.getElem?_cons_succ]
  refine pure_atG (.bool FA) rfl (fun wz _ => by unfold execOp; go_simp) ?_
  unfold wpPure
  go_simp
  refine ⟨by kernel_rfl, ?_⟩
  rw [OnlyN_normal]
  cases FA with
  | false =>
    obtain ⟨vX_g, hX_g⟩ := KG.out
    have c_g_0 := zC hX_g
    replace hX_g := zH hX_g
    have c_t_0 := zC KT.out
    have fc_t_0 := zF KT.out
    go_wp2_with fail
    obtain ⟨ws19, hws19⟩ : ∃ ws19 : World, ((((wl18.setCell ⟨w.heap.size, 0, none⟩ (.slice Ah b.h.length ch)).setCell ⟨w.heap.size, 1, none⟩ (.slice As b.s.length cs)).setCell ⟨w.heap.size, 2, none⟩ (.slice Ao b.o.length co)).setCell ⟨w.heap.size, 3, none⟩ (.slice Ar b.r.length cr)).setCell ⟨w.heap.size, 4, none⟩ (.int .i64 b.n) = ws19 := ⟨_, rfl⟩
    rw [hws19]
    clear hX_g c_g_0 c_t_0 fc_t_0
    have zE : putC wl18 (w.heap.size) 0 [.slice Ah b.h.length ch, .slice As b.s.length cs, .slice Ao b.o.length co, .slice Ar b.r.length cr, .int .i64 b.n] = ws19 := hws19
    replace HI := zH (HI.out.put KT.out (by decide) (by decide) LT.out 0 [.slice Ah b.h.length ch, .slice As b.s.length cs, .slice Ao b.o.length co, .slice Ar b.r.length cr, .int .i64 b.n])
    replace HOF := zH (Off.freshC MT.out HOF.out 0 [.slice Ah b.h.length ch, .slice As b.s.length cs, .slice Ao b.o.length co, .slice Ar b.r.length cr, .int .i64 b.n])
    replace Ko := zH (putC_oth (blk_ne Ko.out KT.out (by decide)) (o := 0) (vs := [.slice Ah b.h.length ch, .slice As b.s.length cs, .slice Ao b.o.length co, .slice Ar b.r.length cr, .int .i64 b.n]) Ko.out )
    replace Kc := zH (putC_oth (blk_ne Kc.out KT.out (by decide)) (o := 0) (vs := [.slice Ah b.h.length ch, .slice As b.s.length cs, .slice Ao b.o.length co, .slice Ar b.r.length cr, .int .i64 b.n]) Kc.out )
    replace Ks := zH (putC_oth (blk_ne Ks.out KT.out (by decide)) (o := 0) (vs := [.slice Ah b.h.length ch, .slice As b.s.length cs, .slice Ao b.o.length co, .slice Ar b.r.length cr, .int .i64 b.n]) Ks.out )
    replace Kx := zH (putC_oth (blk_ne Kx.out KT.out (by decide)) (o := 0) (vs := [.slice Ah b.h.length ch, .slice As b.s.length cs, .slice Ao b.o.length co, .slice Ar b.r.length cr, .int .i64 b.n]) Kx.out )
    replace Ky := zH (putC_oth (blk_ne Ky.out KT.out (by decide)) (o := 0) (vs := [.slice Ah b.h.length ch, .slice As b.s.length cs, .slice Ao b.o.length co, .slice Ar b.r.length cr, .int .i64 b.n]) Ky.out )
    replace KG := zH ((KG.out.imp fun _ h => putC_oth (blk_ne h KT.out (by decide)) (o := 0) (vs := [.slice Ah b.h.length ch, .slice As b.s.length cs, .slice Ao b.o.length co, .slice Ar b.r.length cr, .int .i64 b.n]) h ))
    rw [zE] at HI HOF Ko Kc Ks Kx Ky KG
    replace KT := zP zE KT
    clear zE
    replace KT : Hid (ws19.heap[w.heap.size]? = some (.cells #[.slice Ah b.h.length ch, .slice As b.s.length cs, .slice Ao b.o.length co, .slice Ar b.r.length cr, .int .i64 b.n] 27 (0, 0))) := KT.out
    clear hws19
    go_wp2_with fail
    refine bodyPost_ret (v := .agg #[.slice Ah b.h.length ch, .slice As b.s.length cs, .slice Ao b.o.length co, .slice Ar b.r.length cr, .int .i64 b.n]) ?_ rfl ⟨_, rfl, by first | exact BkEi.same _ _ _ | (rw [if_neg (by simp)]; exact BkEi.same _ _ _), HI.out, HOF.out⟩
    exact ret_cell rfl _ _ _ _ _ _ rfl KT.out Tryz.underlying27 rfl (by kernel_rfl)
  | true =>
    obtain ⟨f1, f2⟩ := hFI.out rfl
    have hw : IntKind.i64.wrap (o4 - e.qty) = o4 - e.qty := by rw [IntKind.wrap_i64]; have := I4.out; have := hE.out.qty; unfold I64 at *; omega
    have HWR := zH hw
    clear f1 f2 hw
    go_wp2_with fail
    refine wp_region_D [] (fun wz : World => Hid (∃ vX : Value, wz.heap[g]? = some (.cells #[.slice Ah b.h.length ch, .slice As b.s.length cs, .slice Ao b.o.length co, .slice Ar b.r.length cr, .int .i64 b.n, .int .i64 e.kind, .int .i64 e.acc, .int .i64 e.ord, .int .i64 e.sym, .int .i64 e.side, .int .i64 e.qty, .int .i64 e.px, .int .i64 rate, vX] 75 (0, 0))) ∧ Hid (wz.heap[qwf2]? = some (.cells #[.int .i64 o0, .int .i64 o1, .int .i64 o2, .int .i64 o3, .int .i64 o4, .int .i64 o5] 86 (0, 0)))) 13 #[false, false, false, false, false, false, false, false, false, false, false, false, false] (by kernel_rfl) (by kernel_rfl) (by kernel_rfl) ?_
    obtain ⟨wd20, hwd20⟩ : ∃ wd20 : World, { wl18 with drawn := wl18.drawn + 1 } = wd20 := ⟨_, rfl⟩
    rw [hwd20]
    have hbwd20 : Below wl18.heap.size wl18 wd20 := by rw [← hwd20]; exact (Below.refl _ _).drew
    replace KT := zK KT hbwd20
    replace Ko := zK Ko hbwd20
    replace Kc := zK Kc hbwd20
    replace Ks := zK Ks hbwd20
    replace Kx := zK Kx hbwd20
    replace Ky := zK Ky hbwd20
    replace KG := zH ((KG.out.imp fun _ h => blk_call h hbwd20))
    replace HOF := zH (HOF.out.trans (Off.of hbwd20))
    replace HI := zH (HI.out.kept hbwd20)
    clear hwd20 hbwd20
    refine pure_moreD [0, 1, 2, 3, 4, 5] 7 (L' := #[true, true, true, true, true, true, false, false, false, false, false, false, false]) (by kernel_rfl) (by kernel_rfl) ⟨KG, Ko⟩ ?_
    simp only [opsAt, List.getElem?_toArray, List.getElem?_cons_zero, List.getElem?_cons_succ]
    refine pure_moveG rfl rfl ?_
    refine pure_atG (.pointer (some ⟨g, 0, none⟩)) rfl (fun wz _ => by unfold execOp; go_simp) ?_
    refine pure_atG (.pointer (some ⟨g, 0, none⟩)) rfl (fun wz _ => by unfold execOp; go_simp) ?_
    refine pure_atG (.agg #[.slice Ah b.h.length ch, .slice As b.s.length cs, .slice Ao b.o.length co, .slice Ar b.r.length cr, .int .i64 b.n]) rfl (fun wz hC => by obtain ⟨vX, hX⟩ := hC.1.out; have c0 := cells_of_blk hX 0 _ rfl; have c1 := cells_of_blk hX 1 _ rfl; have c2 := cells_of_blk hX 2 _ rfl; have c3 := cells_of_blk hX 3 _ rfl; have c4 := cells_of_blk hX 4 _ rfl; unfold execOp; go_simp) ?_
    refine pure_atG (.pointer (some ⟨qwf2, 1, none⟩)) rfl (fun wz _ => by unfold execOp; go_simp) ?_
    refine pure_atG (.int .i64 o1) rfl (fun wz hC => by have c0 := cells_of_blk hC.2.out 1 _ rfl; unfold execOp; go_simp) ?_
    unfold wpPure
    go_simp
    have hzd := zH HI.out.below.size
    have hzo := zH HOF.out.size
    refine wpAnyD_ca 6 10 [7, 8, 9] 95 10 2 (.tuple #[.agg #[.int .i64 h0, .int .i64 h1, .int .i64 h2, .int .i64 h3], .bool (hasH b o1)]) #[.int .i64 0, .int .i64 0, .int .i64 0, .int .i64 0] 82 [(88, .tuple #[.agg #[.int .i64 h0, .int .i64 h1, .int .i64 h2, .int .i64 h3], .bool (hasH b o1)]), (96, .agg #[.int .i64 h0, .int .i64 h1, .int .i64 h2, .int .i64 h3]), (97, .bool (hasH b o1))] [95, 10, 88, 96, 97] (by kernel_rfl) (by kernel_rfl) (by kernel_rfl) (by kernel_rfl) (by kernel_rfl) (L2 := #[true, true, true, true, true, true, true, true, true, true, true, false, false]) (by kernel_rfl) (by kernel_rfl) (by kernel_rfl) ?_ ?_ ?_ ?_ ?_
    · exact can_call 77 #[.agg #[.slice Ah b.h.length ch, .slice As b.s.length cs, .slice Ao b.o.length co, .slice Ar b.r.length cr, .int .i64 b.n], .int .i64 o1] ⟨_, _, _, rfl, rfl, rfl, rfl, by simp [Act.eval, Act.put], by simp⟩ (fun w => enters_of Tryz.func77 (by kernel_rfl) rfl _ w) (fun wz hz => (Holder_any _ b o1 h0 h1 h2 h3 (hasH b o1) wz (zH (B0.out.call (HI.out.below.trans (hz.mono HI.out.below.size)))) HL1.out.1 hR.out.1 HX1).mono fun x w' ⟨h1, h2⟩ => ⟨_, h1, rfl, h2⟩)
    · exact can_alloc _ rfl rfl rfl #[.int .i64 0, .int .i64 0, .int .i64 0, .int .i64 0] 82 (fun ev wz => by unfold execOp; go_simp) (fun wz hz => ⟨rfl, heap_new wz _⟩)
    · exact fun wz hz => ⟨(KG.out.imp fun _ h => blk_call h hz), blk_call Ko.out hz⟩
    · intro a' K ha hk
      simp only [opsAt, List.getElem?_toArray, List.getElem?_cons_zero, List.getElem?_cons_succ]
      rcases ha with rfl | ⟨p, rfl⟩
      · refine pure_atG (.tuple #[.agg #[.int .i64 h0, .int .i64 h1, .int .i64 h2, .int .i64 h3], .bool (hasH b o1)]) rfl (fun wz _ => by unfold execOp; go_simp) ?_
        refine pure_atG (.agg #[.int .i64 h0, .int .i64 h1, .int .i64 h2, .int .i64 h3]) rfl (fun wz _ => by unfold execOp; go_simp) ?_
        refine pure_atG (.bool (hasH b o1)) rfl (fun wz _ => by unfold execOp; go_simp) ?_
        unfold wpPure
        exact hk
      · refine pure_atG (.tuple #[.agg #[.int .i64 h0, .int .i64 h1, .int .i64 h2, .int .i64 h3], .bool (hasH b o1)]) rfl (fun wz _ => by unfold execOp; go_simp) ?_
        refine pure_atG (.agg #[.int .i64 h0, .int .i64 h1, .int .i64 h2, .int .i64 h3]) rfl (fun wz _ => by unfold execOp; go_simp) ?_
        refine pure_atG (.bool (hasH b o1)) rfl (fun wz _ => by unfold execOp; go_simp) ?_
        unfold wpPure
        exact hk
    intro qwf21 wf21 m2 g2 hb
    have Kh := zH g2
    have Lh := zH (Nat.le_trans hzd.out m2)
    have Mh := zH (Nat.le_trans hzo.out m2)
    clear g2 m2 hzd hzo
    simp only [putsV]
    go_simp
    replace KT := zK KT hb
    replace Ko := zK Ko hb
    replace Kc := zK Kc hb
    replace Ks := zK Ks hb
    replace Kx := zK Kx hb
    replace Ky := zK Ky hb
    replace KG := zH ((KG.out.imp fun _ h => blk_call h hb))
    replace HOF := zH (HOF.out.trans (Off.of hb))
    replace HI := zH (HI.out.kept hb)
    clear hb
    have c_h_0 := zC Kh.out
    have fc_h_0 := zF Kh.out
    refine wpAnyD_one 11 (f := 1) (L' := #[true, true, true, true, true, true, true, true, true, true, true, true, false]) (by kernel_rfl) (by kernel_rfl) rfl rfl ?_
    go_wp2_with fail
    obtain ⟨ws22, hws22⟩ : ∃ ws22 : World, (((wf21.setCell ⟨qwf21, 0, none⟩ (.int .i64 h0)).setCell ⟨qwf21, 1, none⟩ (.int .i64 h1)).setCell ⟨qwf21, 2, none⟩ (.int .i64 h2)).setCell ⟨qwf21, 3, none⟩ (.int .i64 h3) = ws22 := ⟨_, rfl⟩
    rw [hws22]
    clear c_h_0 fc_h_0
    have zE : putC wf21 (qwf21) 0 [.int .i64 h0, .int .i64 h1, .int .i64 h2, .int .i64 h3] = ws22 := hws22
    replace HI := zH (HI.out.put Kh.out (by decide) (by decide) Lh.out 0 [.int .i64 h0, .int .i64 h1, .int .i64 h2, .int .i64 h3])
    replace HOF := zH (Off.freshC Mh.out HOF.out 0 [.int .i64 h0, .int .i64 h1, .int .i64 h2, .int .i64 h3])
    replace KT := zH (putC_oth (blk_ne KT.out Kh.out (by decide)) (o := 0) (vs := [.int .i64 h0, .int .i64 h1, .int .i64 h2, .int .i64 h3]) KT.out )
    replace Ko := zH (putC_oth (blk_ne Ko.out Kh.out (by decide)) (o := 0) (vs := [.int .i64 h0, .int .i64 h1, .int .i64 h2, .int .i64 h3]) Ko.out )
    replace Kc := zH (putC_oth (blk_ne Kc.out Kh.out (by decide)) (o := 0) (vs := [.int .i64 h0, .int .i64 h1, .int .i64 h2, .int .i64 h3]) Kc.out )
    replace Ks := zH (putC_oth (blk_ne Ks.out Kh.out (by decide)) (o := 0) (vs := [.int .i64 h0, .int .i64 h1, .int .i64 h2, .int .i64 h3]) Ks.out )
    replace Kx := zH (putC_oth (blk_ne Kx.out Kh.out (by decide)) (o := 0) (vs := [.int .i64 h0, .int .i64 h1, .int .i64 h2, .int .i64 h3]) Kx.out )
    replace Ky := zH (putC_oth (blk_ne Ky.out Kh.out (by decide)) (o := 0) (vs := [.int .i64 h0, .int .i64 h1, .int .i64 h2, .int .i64 h3]) Ky.out )
    replace KG := zH ((KG.out.imp fun _ h => putC_oth (blk_ne h Kh.out (by decide)) (o := 0) (vs := [.int .i64 h0, .int .i64 h1, .int .i64 h2, .int .i64 h3]) h ))
    rw [zE] at HI HOF KT Ko Kc Ks Kx Ky KG
    replace Kh := zP zE Kh
    clear zE
    replace Kh : Hid (ws22.heap[qwf21]? = some (.cells #[.int .i64 h0, .int .i64 h1, .int .i64 h2, .int .i64 h3] 82 (0, 0))) := Kh.out
    clear hws22
    rw [StepQ_normal]
    refine ⟨fun _ => ⟨KG, Ko⟩, ?_⟩
    refine pure_moreD [12] 0 (L' := #[true, true, true, true, true, true, true, true, true, true, true, true, true]) (by kernel_rfl) (by kernel_rfl) ⟨KG, Ko⟩ ?_
    simp only [opsAt, List.getElem?_toArray, List.getElem?_cons_zero, List.getElem?_cons_succ]
    refine pure_atG (.bool (hasH b o1)) rfl (fun wz _ => by unfold execOp; go_simp) ?_
    unfold wpPure
    go_simp
    refine ⟨by kernel_rfl, ?_⟩
    rw [OnlyN_normal]
    have c_c_0 := cells_of_blk Kc.out 0 _ rfl
    have c_h_0 := zC Kh.out
    have fc_h_0 := zF Kh.out
    go_wp2_with fail
    obtain ⟨ws23, hws23⟩ : ∃ ws23 : World, ws22.setCell ⟨qwf21, 1, none⟩ (.int .i64 C) = ws23 := ⟨_, rfl⟩
    rw [hws23]
    clear c_c_0 c_h_0 fc_h_0
    have zE : putC ws22 (qwf21) 1 [.int .i64 C] = ws23 := hws23
    replace HI := zH (HI.out.put Kh.out (by decide) (by decide) Lh.out 1 [.int .i64 C])
    replace HOF := zH (Off.freshC Mh.out HOF.out 1 [.int .i64 C])
    replace KT := zH (putC_oth (blk_ne KT.out Kh.out (by decide)) (o := 1) (vs := [.int .i64 C]) KT.out )
    replace Ko := zH (putC_oth (blk_ne Ko.out Kh.out (by decide)) (o := 1) (vs := [.int .i64 C]) Ko.out )
    replace Kc := zH (putC_oth (blk_ne Kc.out Kh.out (by decide)) (o := 1) (vs := [.int .i64 C]) Kc.out )
    replace Ks := zH (putC_oth (blk_ne Ks.out Kh.out (by decide)) (o := 1) (vs := [.int .i64 C]) Ks.out )
    replace Kx := zH (putC_oth (blk_ne Kx.out Kh.out (by decide)) (o := 1) (vs := [.int .i64 C]) Kx.out )
    replace Ky := zH (putC_oth (blk_ne Ky.out Kh.out (by decide)) (o := 1) (vs := [.int .i64 C]) Ky.out )
    replace KG := zH ((KG.out.imp fun _ h => putC_oth (blk_ne h Kh.out (by decide)) (o := 1) (vs := [.int .i64 C]) h ))
    rw [zE] at HI HOF KT Ko Kc Ks Kx Ky KG
    replace Kh := zP zE Kh
    clear zE
    replace Kh : Hid (ws23.heap[qwf21]? = some (.cells #[.int .i64 h0, .int .i64 C, .int .i64 h2, .int .i64 h3] 82 (0, 0))) := Kh.out
    clear hws23
    go_wp2_with fail
    refine wp_region_D [] (fun wz : World => Hid (∃ vX : Value, wz.heap[g]? = some (.cells #[.slice Ah b.h.length ch, .slice As b.s.length cs, .slice Ao b.o.length co, .slice Ar b.r.length cr, .int .i64 b.n, .int .i64 e.kind, .int .i64 e.acc, .int .i64 e.ord, .int .i64 e.sym, .int .i64 e.side, .int .i64 e.qty, .int .i64 e.px, .int .i64 rate, vX] 75 (0, 0))) ∧ Hid (wz.heap[qwf21]? = some (.cells #[.int .i64 h0, .int .i64 C, .int .i64 h2, .int .i64 h3] 82 (0, 0))) ∧ Hid (wz.heap[qwf2]? = some (.cells #[.int .i64 o0, .int .i64 o1, .int .i64 o2, .int .i64 o3, .int .i64 o4, .int .i64 o5] 86 (0, 0))) ∧ Hid (wz.heap[qwf5s]? = some (.cells #[.int .i64 S] 2 (0, 0)))) 15 #[false, false, false, false, false, false, false, false, false, false, false, false, false, false, false] (by kernel_rfl) (by kernel_rfl) (by kernel_rfl) ?_
    obtain ⟨wd24, hwd24⟩ : ∃ wd24 : World, { ws23 with drawn := ws23.drawn + 1 } = wd24 := ⟨_, rfl⟩
    rw [hwd24]
    have hbwd24 : Below ws23.heap.size ws23 wd24 := by rw [← hwd24]; exact (Below.refl _ _).drew
    replace KT := zK KT hbwd24
    replace Ko := zK Ko hbwd24
    replace Kc := zK Kc hbwd24
    replace Ks := zK Ks hbwd24
    replace Kx := zK Kx hbwd24
    replace Ky := zK Ky hbwd24
    replace KG := zH ((KG.out.imp fun _ h => blk_call h hbwd24))
    replace Kh := zK Kh hbwd24
    replace HOF := zH (HOF.out.trans (Off.of hbwd24))
    replace HI := zH (HI.out.kept hbwd24)
    clear hwd24 hbwd24
    refine pure_moreD [0, 1, 2, 3, 4, 6, 7, 8, 9, 10, 11] 4 (L' := #[true, true, true, true, true, false, true, true, true, true, true, true, false, false, false]) (by kernel_rfl) (by kernel_rfl) ⟨KG, Kh, Ko, Ks⟩ ?_
    simp only [opsAt, List.getElem?_toArray, List.getElem?_cons_zero, List.getElem?_cons_succ]
    refine pure_moveG rfl rfl ?_
    refine pure_atG (.pointer (some ⟨g, 0, none⟩)) rfl (fun wz _ => by unfold execOp; go_simp) ?_
    refine pure_atG (.pointer (some ⟨g, 0, none⟩)) rfl (fun wz _ => by unfold execOp; go_simp) ?_
    refine pure_atG (.agg #[.slice Ah b.h.length ch, .slice As b.s.length cs, .slice Ao b.o.length co, .slice Ar b.r.length cr, .int .i64 b.n]) rfl (fun wz hC => by obtain ⟨vX, hX⟩ := hC.1.out; have c0 := cells_of_blk hX 0 _ rfl; have c1 := cells_of_blk hX 1 _ rfl; have c2 := cells_of_blk hX 2 _ rfl; have c3 := cells_of_blk hX 3 _ rfl; have c4 := cells_of_blk hX 4 _ rfl; unfold execOp; go_simp) ?_
    refine pure_atG (.agg #[.int .i64 h0, .int .i64 C, .int .i64 h2, .int .i64 h3]) rfl (fun wz hC => by have c0 := cells_of_blk hC.2.1.out 0 _ rfl; have c1 := cells_of_blk hC.2.1.out 1 _ rfl; have c2 := cells_of_blk hC.2.1.out 2 _ rfl; have c3 := cells_of_blk hC.2.1.out 3 _ rfl; unfold execOp; go_simp) ?_
    refine pure_atG (.pointer (some ⟨qwf2, 1, none⟩)) rfl (fun wz _ => by unfold execOp; go_simp) ?_
    refine pure_atG (.int .i64 o1) rfl (fun wz hC => by have c0 := cells_of_blk hC.2.2.1.out 1 _ rfl; unfold execOp; go_simp) ?_
    refine pure_atG (.pointer (some ⟨qwf2, 2, none⟩)) rfl (fun wz _ => by unfold execOp; go_simp) ?_
    refine pure_atG (.int .i64 o2) rfl (fun wz hC => by have c0 := cells_of_blk hC.2.2.1.out 2 _ rfl; unfold execOp; go_simp) ?_
    refine pure_atG (.int .i64 S) rfl (fun wz hC => by have c0 := cells_of_blk hC.2.2.2.out 0 _ rfl; unfold execOp; go_simp) ?_
    refine pure_atG (.agg #[.int .i64 o1, .int .i64 o2, .int .i64 S]) rfl (fun wz _ => by unfold execOp; go_simp) ?_
    unfold wpPure
    go_simp
    have hzd := zH HI.out.below.size
    have hzo := zH HOF.out.size
    have hoz := zL Ko.out
    refine wpAnyD_cca 5 12 13 105 112 12 1 (L3 := #[true, true, true, true, true, true, true, true, true, true, true, true, true, true, false]) (fun u wz => BkAt wz u b1) (fun u wz => ∃ B, wd24.heap.size ≤ B ∧ BkOwn wz B u b2) #[.slice none 0 0, .slice none 0 0, .slice none 0 0, .slice none 0 0, .int .i64 0] 27 (by kernel_rfl) (by kernel_rfl) (by kernel_rfl) (by kernel_rfl) (by kernel_rfl) (by kernel_rfl) (by kernel_rfl) (by kernel_rfl) (by kernel_rfl) (by kernel_rfl) ?_ ?_ ?_ ?_ ?_ ?_ ?_
    · exact can_call 88 #[.agg #[.slice Ah b.h.length ch, .slice As b.s.length cs, .slice Ao b.o.length co, .slice Ar b.r.length cr, .int .i64 b.n], .agg #[.int .i64 h0, .int .i64 C, .int .i64 h2, .int .i64 h3]] ⟨_, _, _, rfl, rfl, rfl, rfl, by simp [Act.eval, Act.put], by simp⟩ (fun w => enters_of Tryz.func88 (by kernel_rfl) rfl _ w) (fun wz hz => (q1.out _ wz (zH (B0.out.call (HI.out.below.trans (hz.mono HI.out.below.size))))).mono fun x w' ⟨v, h1, h2, h3⟩ => ⟨v, h1, h2.at, h3⟩)
    · intro v1 wy hby hv1
      exact can_call 103 #[v1, .agg #[.int .i64 o1, .int .i64 o2, .int .i64 S]] ⟨_, _, _, rfl, rfl, rfl, rfl, by simp [Act.eval, Act.put], by simp⟩ (fun w => enters_of Tryz.func103 (by kernel_rfl) rfl _ w) (fun wz hz => (q2.out _ wz (zH (hv1.call hz))).mono fun x w' ⟨v, h1, h2, h3⟩ => ⟨v, h1, ⟨_, Nat.le_trans hby.size hz.size, h2⟩, h3⟩)
    · exact can_alloc _ rfl rfl rfl #[.slice none 0 0, .slice none 0 0, .slice none 0 0, .slice none 0 0, .int .i64 0] 27 (fun ev wz => by unfold execOp; go_simp) (fun wz hz => ⟨rfl, heap_new wz _⟩)
    · exact fun u wa wb h hb => h.call hb
    · exact fun u wa wb ⟨B, hB, h⟩ hb => ⟨B, hB, h.kept hb⟩
    · exact fun wz hz => ⟨(KG.out.imp fun _ h => blk_call h hz), blk_call Kh.out hz, blk_call Ko.out hz, blk_call Ks.out hz⟩
    intro v1 v2 qwf25 wf25 m2 g2 ⟨B2, hB2, hO2⟩ hb
    have Kn := zH g2
    have Ln := zH (Nat.le_trans hzd.out m2)
    have Mn := zH (Nat.le_trans hzo.out m2)
    have lt2 : qwf2 < B2 := by omega
    obtain ⟨Y1, y1, Y2, y2, Y3, y3, Y4, y4, rfl⟩ := hO2.form
    have HO2 := zH hO2
    have LT2 := zH lt2
    have ntn : w.heap.size ≠ qwf25 := by have := (zL KT.out); omega
    clear g2 m2 hzd hzo hoz hO2 lt2 hB2
    go_simp
    replace KT := zK KT hb
    replace Ko := zK Ko hb
    replace Kc := zK Kc hb
    replace Ks := zK Ks hb
    replace Kx := zK Kx hb
    replace Ky := zK Ky hb
    replace KG := zH ((KG.out.imp fun _ h => blk_call h hb))
    replace Kh := zK Kh hb
    replace HOF := zH (HOF.out.trans (Off.of hb))
    replace HI := zH (HI.out.kept hb)
    clear hb
    have c_n_0 := zC Kn.out
    have fc_n_0 := zF Kn.out
    refine wpAnyD_one 14 (f := 0) (L' := #[true, true, true, true, true, true, true, true, true, true, true, true, true, true, true]) (by kernel_rfl) (by kernel_rfl) rfl rfl ?_
    go_wp2_with fail
    obtain ⟨ws26, hws26⟩ : ∃ ws26 : World, ((((wf25.setCell ⟨qwf25, 0, none⟩ (.slice Y1 b2.h.length y1)).setCell ⟨qwf25, 1, none⟩ (.slice Y2 b2.s.length y2)).setCell ⟨qwf25, 2, none⟩ (.slice Y3 b2.o.length y3)).setCell ⟨qwf25, 3, none⟩ (.slice Y4 b2.r.length y4)).setCell ⟨qwf25, 4, none⟩ (.int .i64 b2.n) = ws26 := ⟨_, rfl⟩
    rw [hws26]
    clear c_n_0 fc_n_0
    replace HO2 : Hid _ := zH (HO2.out.put Kn.out 0 [.slice Y1 b2.h.length y1, .slice Y2 b2.s.length y2, .slice Y3 b2.o.length y3, .slice Y4 b2.r.length y4, .int .i64 b2.n])
    replace HI := zH (HI.out.put Kn.out (by decide) (by decide) Ln.out 0 [.slice Y1 b2.h.length y1, .slice Y2 b2.s.length y2, .slice Y3 b2.o.length y3, .slice Y4 b2.r.length y4, .int .i64 b2.n])
    replace HOF := zH (Off.freshC Mn.out HOF.out 0 [.slice Y1 b2.h.length y1, .slice Y2 b2.s.length y2, .slice Y3 b2.o.length y3, .slice Y4 b2.r.length y4, .int .i64 b2.n])
    replace KT := zH (putC_oth ntn (o := 0) (vs := [.slice Y1 b2.h.length y1, .slice Y2 b2.s.length y2, .slice Y3 b2.o.length y3, .slice Y4 b2.r.length y4, .int .i64 b2.n]) KT.out)
    replace Ko := zH (putC_oth (blk_ne Ko.out Kn.out (by decide)) (o := 0) (vs := [.slice Y1 b2.h.length y1, .slice Y2 b2.s.length y2, .slice Y3 b2.o.length y3, .slice Y4 b2.r.length y4, .int .i64 b2.n]) Ko.out )
    replace Kc := zH (putC_oth (blk_ne Kc.out Kn.out (by decide)) (o := 0) (vs := [.slice Y1 b2.h.length y1, .slice Y2 b2.s.length y2, .slice Y3 b2.o.length y3, .slice Y4 b2.r.length y4, .int .i64 b2.n]) Kc.out )
    replace Ks := zH (putC_oth (blk_ne Ks.out Kn.out (by decide)) (o := 0) (vs := [.slice Y1 b2.h.length y1, .slice Y2 b2.s.length y2, .slice Y3 b2.o.length y3, .slice Y4 b2.r.length y4, .int .i64 b2.n]) Ks.out )
    replace Kx := zH (putC_oth (blk_ne Kx.out Kn.out (by decide)) (o := 0) (vs := [.slice Y1 b2.h.length y1, .slice Y2 b2.s.length y2, .slice Y3 b2.o.length y3, .slice Y4 b2.r.length y4, .int .i64 b2.n]) Kx.out )
    replace Ky := zH (putC_oth (blk_ne Ky.out Kn.out (by decide)) (o := 0) (vs := [.slice Y1 b2.h.length y1, .slice Y2 b2.s.length y2, .slice Y3 b2.o.length y3, .slice Y4 b2.r.length y4, .int .i64 b2.n]) Ky.out )
    replace KG := zH ((KG.out.imp fun _ h => putC_oth (blk_ne h Kn.out (by decide)) (o := 0) (vs := [.slice Y1 b2.h.length y1, .slice Y2 b2.s.length y2, .slice Y3 b2.o.length y3, .slice Y4 b2.r.length y4, .int .i64 b2.n]) h ))
    replace Kh := zH (putC_oth (blk_ne Kh.out Kn.out (by decide)) (o := 0) (vs := [.slice Y1 b2.h.length y1, .slice Y2 b2.s.length y2, .slice Y3 b2.o.length y3, .slice Y4 b2.r.length y4, .int .i64 b2.n]) Kh.out )
    replace Kn := zH (putC_blk (o := 0) (vs := [.slice Y1 b2.h.length y1, .slice Y2 b2.s.length y2, .slice Y3 b2.o.length y3, .slice Y4 b2.r.length y4, .int .i64 b2.n]) Kn.out)
    rw [show putC wf25 (qwf25) 0 [.slice Y1 b2.h.length y1, .slice Y2 b2.s.length y2, .slice Y3 b2.o.length y3, .slice Y4 b2.r.length y4, .int .i64 b2.n] = ws26 from hws26] at HO2
    rw [show putC wf25 (qwf25) 0 [.slice Y1 b2.h.length y1, .slice Y2 b2.s.length y2, .slice Y3 b2.o.length y3, .slice Y4 b2.r.length y4, .int .i64 b2.n] = ws26 from hws26] at HI HOF KT Ko Kc Ks Kx Ky KG Kh Kn
    replace Kn : Hid (ws26.heap[qwf25]? = some (.cells #[.slice Y1 b2.h.length y1, .slice Y2 b2.s.length y2, .slice Y3 b2.o.length y3, .slice Y4 b2.r.length y4, .int .i64 b2.n] 27 (0, 0))) := Kn.out
    clear hws26
    rw [StepQ_normal]
    refine ⟨fun _ => ⟨KG, Kh, Ko, Ks⟩, ?_⟩
    refine ⟨by kernel_rfl, ?_⟩
    rw [OnlyN_normal]
    go_wp2_with fail
    refine wp_region_D [9] (fun wz : World => Hid (∃ vX : Value, wz.heap[g]? = some (.cells #[.slice Ah b.h.length ch, .slice As b.s.length cs, .slice Ao b.o.length co, .slice Ar b.r.length cr, .int .i64 b.n, .int .i64 e.kind, .int .i64 e.acc, .int .i64 e.ord, .int .i64 e.sym, .int .i64 e.side, .int .i64 e.qty, .int .i64 e.px, .int .i64 rate, vX] 75 (0, 0))) ∧ Hid (wz.heap[qwf2]? = some (.cells #[.int .i64 o0, .int .i64 o1, .int .i64 o2, .int .i64 o3, .int .i64 o4, .int .i64 o5] 86 (0, 0)))) 10 #[false, false, false, false, false, false, false, false, false, false] (by kernel_rfl) (by kernel_rfl) (by kernel_rfl) ?_
    obtain ⟨wd27, hwd27⟩ : ∃ wd27 : World, { ws26 with drawn := ws26.drawn + 1 } = wd27 := ⟨_, rfl⟩
    rw [hwd27]
    have hbwd27 : Below ws26.heap.size ws26 wd27 := by rw [← hwd27]; exact (Below.refl _ _).drew
    replace KT := zK KT hbwd27
    replace Ko := zK Ko hbwd27
    replace Kc := zK Kc hbwd27
    replace Ks := zK Ks hbwd27
    replace Kx := zK Kx hbwd27
    replace Ky := zK Ky hbwd27
    replace KG := zH ((KG.out.imp fun _ h => blk_call h hbwd27))
    replace Kh := zK Kh hbwd27
    replace Kn := zK Kn hbwd27
    replace HOF := zH (HOF.out.trans (Off.of hbwd27))
    replace HI := zH (HI.out.kept hbwd27)
    replace HO2 := zH (HO2.out.kept hbwd27)
    clear hwd27 hbwd27
    have hw := HWR.out
    refine pure_moreD [0, 1, 2, 3, 4, 5, 6, 7, 8] 1 (L' := #[true, true, true, true, true, true, true, true, true, false]) (by kernel_rfl) (by kernel_rfl) ⟨KG, Ko⟩ ?_
    simp only [opsAt, List.getElem?_toArray, List.getElem?_cons_zero, List.getElem?_cons_succ]
    refine pure_atG (.pointer (some ⟨qwf2, 4, none⟩)) rfl (fun wz _ => by unfold execOp; go_simp) ?_
    refine pure_atG (.int .i64 o4) rfl (fun wz hC => by have c0 := cells_of_blk hC.2.out 4 _ rfl; unfold execOp; go_simp) ?_
    refine pure_moveG rfl rfl ?_
    refine pure_atG (.pointer (some ⟨g, 0, none⟩)) rfl (fun wz _ => by unfold execOp; go_simp) ?_
    refine pure_atG (.pointer (some ⟨g, 5, none⟩)) rfl (fun wz _ => by unfold execOp; go_simp) ?_
    refine pure_atG (.pointer (some ⟨g, 10, none⟩)) rfl (fun wz _ => by unfold execOp; go_simp) ?_
    refine pure_atG (.int .i64 e.qty) rfl (fun wz hC => by obtain ⟨vX, hX⟩ := hC.1.out; have c0 := cells_of_blk hX 10 _ rfl; unfold execOp; go_simp) ?_
    refine pure_atG (.int .i64 (o4 - e.qty)) rfl (fun wz _ => by unfold execOp; go_simp) ?_
    refine pure_atG (.pointer (some ⟨qwf2, 4, none⟩)) rfl (fun wz _ => by unfold execOp; go_simp) ?_
    unfold wpPure
    go_simp
    clear hw
    have c_o_0 := zC Ko.out
    have fc_o_0 := zF Ko.out
    refine wpAnyD_one 9 (f := 0) (L' := #[true, true, true, true, true, true, true, true, true, true]) (by kernel_rfl) (by kernel_rfl) rfl rfl ?_
    go_wp2_with fail
    obtain ⟨ws28, hws28⟩ : ∃ ws28 : World, wd27.setCell ⟨qwf2, 4, none⟩ (.int .i64 (o4 - e.qty)) = ws28 := ⟨_, rfl⟩
    rw [hws28]
    clear c_o_0 fc_o_0
    replace HO2 : Hid _ := zH (BkOwn.low (g := qwf2) LT2.out HO2.out 4 [.int .i64 (o4 - e.qty)])
    replace HI := zH (HI.out.put Ko.out (by decide) (by decide) Lo.out 4 [.int .i64 (o4 - e.qty)])
    replace HOF := zH (Off.freshC Mo.out HOF.out 4 [.int .i64 (o4 - e.qty)])
    replace KT := zH (putC_oth (blk_ne KT.out Ko.out (by decide)) (o := 4) (vs := [.int .i64 (o4 - e.qty)]) KT.out )
    replace Kc := zH (putC_oth (blk_ne Kc.out Ko.out (by decide)) (o := 4) (vs := [.int .i64 (o4 - e.qty)]) Kc.out )
    replace Ks := zH (putC_oth (blk_ne Ks.out Ko.out (by decide)) (o := 4) (vs := [.int .i64 (o4 - e.qty)]) Ks.out )
    replace Kx := zH (putC_oth (blk_ne Kx.out Ko.out (by decide)) (o := 4) (vs := [.int .i64 (o4 - e.qty)]) Kx.out )
    replace Ky := zH (putC_oth (blk_ne Ky.out Ko.out (by decide)) (o := 4) (vs := [.int .i64 (o4 - e.qty)]) Ky.out )
    replace KG := zH ((KG.out.imp fun _ h => putC_oth (blk_ne h Ko.out (by decide)) (o := 4) (vs := [.int .i64 (o4 - e.qty)]) h ))
    replace Kh := zH (putC_oth (blk_ne Kh.out Ko.out (by decide)) (o := 4) (vs := [.int .i64 (o4 - e.qty)]) Kh.out )
    replace Kn := zH (putC_oth (blk_ne Kn.out Ko.out (by decide)) (o := 4) (vs := [.int .i64 (o4 - e.qty)]) Kn.out )
    replace Ko := zH (putC_blk (o := 4) (vs := [.int .i64 (o4 - e.qty)]) Ko.out)
    rw [show putC wd27 (qwf2) 4 [.int .i64 (o4 - e.qty)] = ws28 from hws28] at HO2
    rw [show putC wd27 (qwf2) 4 [.int .i64 (o4 - e.qty)] = ws28 from hws28] at HI HOF KT Ko Kc Ks Kx Ky KG Kh Kn
    replace Ko : Hid (ws28.heap[qwf2]? = some (.cells #[.int .i64 o0, .int .i64 o1, .int .i64 o2, .int .i64 o3, .int .i64 (o4 - e.qty), .int .i64 o5] 86 (0, 0))) := Ko.out
    clear hws28
    rw [StepQ_normal]
    refine ⟨fun h => absurd h (by decide), ?_⟩
    refine ⟨by kernel_rfl, ?_⟩
    rw [OnlyN_normal]
    have c_n_0 := zC Kn.out
    have c_o_0 := zC Ko.out
    go_wp2_with fail
    with_reducible refine (q3.out _ _ (zH HO2.out.at)).mono ?_
    rintro r wc29 ⟨v5, rfl, hO, hb⟩
    clear c_n_0 c_o_0
    replace KT := zK KT hb
    replace Ko := zK Ko hb
    replace Kc := zK Kc hb
    replace Ks := zK Ks hb
    replace Kx := zK Kx hb
    replace Ky := zK Ky hb
    replace KG := zH ((KG.out.imp fun _ h => blk_call h hb))
    replace Kh := zK Kh hb
    replace Kn := zK Kn hb
    replace HOF := zH (HOF.out.trans (Off.of hb))
    replace HI := zH (HI.out.kept hb)
    clear hb
    obtain ⟨U1, u1, U2, u2, U3, u3, U4, u4, rfl⟩ := hO.form
    have HO := zH hO
    clear hO HO2
    have c_t_0 := zC KT.out
    have fc_t_0 := zF KT.out
    go_wp2_with fail
    obtain ⟨ws30, hws30⟩ : ∃ ws30 : World, ((((wc29.setCell ⟨w.heap.size, 0, none⟩ (.slice U1 nb.h.length u1)).setCell ⟨w.heap.size, 1, none⟩ (.slice U2 nb.s.length u2)).setCell ⟨w.heap.size, 2, none⟩ (.slice U3 nb.o.length u3)).setCell ⟨w.heap.size, 3, none⟩ (.slice U4 nb.r.length u4)).setCell ⟨w.heap.size, 4, none⟩ (.int .i64 nb.n) = ws30 := ⟨_, rfl⟩
    rw [hws30]
    clear c_t_0 fc_t_0
    replace HO : Hid _ := zH (HO.out.put KT.out 0 [.slice U1 nb.h.length u1, .slice U2 nb.s.length u2, .slice U3 nb.o.length u3, .slice U4 nb.r.length u4, .int .i64 nb.n])
    replace HI := zH (HI.out.put KT.out (by decide) (by decide) LT.out 0 [.slice U1 nb.h.length u1, .slice U2 nb.s.length u2, .slice U3 nb.o.length u3, .slice U4 nb.r.length u4, .int .i64 nb.n])
    replace HOF := zH (Off.freshC MT.out HOF.out 0 [.slice U1 nb.h.length u1, .slice U2 nb.s.length u2, .slice U3 nb.o.length u3, .slice U4 nb.r.length u4, .int .i64 nb.n])
    replace Ko := zH (putC_oth (blk_ne Ko.out KT.out (by decide)) (o := 0) (vs := [.slice U1 nb.h.length u1, .slice U2 nb.s.length u2, .slice U3 nb.o.length u3, .slice U4 nb.r.length u4, .int .i64 nb.n]) Ko.out )
    replace Kc := zH (putC_oth (blk_ne Kc.out KT.out (by decide)) (o := 0) (vs := [.slice U1 nb.h.length u1, .slice U2 nb.s.length u2, .slice U3 nb.o.length u3, .slice U4 nb.r.length u4, .int .i64 nb.n]) Kc.out )
    replace Ks := zH (putC_oth (blk_ne Ks.out KT.out (by decide)) (o := 0) (vs := [.slice U1 nb.h.length u1, .slice U2 nb.s.length u2, .slice U3 nb.o.length u3, .slice U4 nb.r.length u4, .int .i64 nb.n]) Ks.out )
    replace Kx := zH (putC_oth (blk_ne Kx.out KT.out (by decide)) (o := 0) (vs := [.slice U1 nb.h.length u1, .slice U2 nb.s.length u2, .slice U3 nb.o.length u3, .slice U4 nb.r.length u4, .int .i64 nb.n]) Kx.out )
    replace Ky := zH (putC_oth (blk_ne Ky.out KT.out (by decide)) (o := 0) (vs := [.slice U1 nb.h.length u1, .slice U2 nb.s.length u2, .slice U3 nb.o.length u3, .slice U4 nb.r.length u4, .int .i64 nb.n]) Ky.out )
    replace KG := zH ((KG.out.imp fun _ h => putC_oth (blk_ne h KT.out (by decide)) (o := 0) (vs := [.slice U1 nb.h.length u1, .slice U2 nb.s.length u2, .slice U3 nb.o.length u3, .slice U4 nb.r.length u4, .int .i64 nb.n]) h ))
    replace Kh := zH (putC_oth (blk_ne Kh.out KT.out (by decide)) (o := 0) (vs := [.slice U1 nb.h.length u1, .slice U2 nb.s.length u2, .slice U3 nb.o.length u3, .slice U4 nb.r.length u4, .int .i64 nb.n]) Kh.out )
    replace Kn := zH (putC_oth ntn.symm (o := 0) (vs := [.slice U1 nb.h.length u1, .slice U2 nb.s.length u2, .slice U3 nb.o.length u3, .slice U4 nb.r.length u4, .int .i64 nb.n]) Kn.out)
    replace KT := zH (putC_blk (o := 0) (vs := [.slice U1 nb.h.length u1, .slice U2 nb.s.length u2, .slice U3 nb.o.length u3, .slice U4 nb.r.length u4, .int .i64 nb.n]) KT.out)
    rw [show putC wc29 (w.heap.size) 0 [.slice U1 nb.h.length u1, .slice U2 nb.s.length u2, .slice U3 nb.o.length u3, .slice U4 nb.r.length u4, .int .i64 nb.n] = ws30 from hws30] at HO
    rw [show putC wc29 (w.heap.size) 0 [.slice U1 nb.h.length u1, .slice U2 nb.s.length u2, .slice U3 nb.o.length u3, .slice U4 nb.r.length u4, .int .i64 nb.n] = ws30 from hws30] at HI HOF KT Ko Kc Ks Kx Ky KG Kh Kn
    replace KT : Hid (ws30.heap[w.heap.size]? = some (.cells #[.slice U1 nb.h.length u1, .slice U2 nb.s.length u2, .slice U3 nb.o.length u3, .slice U4 nb.r.length u4, .int .i64 nb.n] 27 (0, 0))) := KT.out
    clear hws30
    go_wp2_with fail
    refine bodyPost_ret (v := .agg #[.slice U1 nb.h.length u1, .slice U2 nb.s.length u2, .slice U3 nb.o.length u3, .slice U4 nb.r.length u4, .int .i64 nb.n]) ?_ rfl ⟨_, rfl, BkEi.own (HO.out.mono (Nat.zero_le _)), HI.out, HOF.out⟩
    exact ret_cell rfl _ _ _ _ _ _ rfl KT.out Tryz.underlying27 rfl (by kernel_rfl)
end Go.Proofs.YtjcdpmianmgiaaaGreatDoor
