/- Regions that draw their order: operations that make memory, free of each other (calls, allocations), whose answers hang on the order. -/
import Derived.Test.YtfkfpppiikgjbaaRegD
import Derived.Test.YtfkfpppiikgjbaaLib
namespace Go.Proofs.Ytfkfpppiikgjbaa
open Go Go.RowKit
set_option linter.unusedVariables false
set_option linter.unusedSimpArgs false

/-- An operation among others, each of which may come first: its number, its slot, what its answer keeps to (the heap's sizes ahead of it and behind it, the answer, the world). -/
structure FreeC where
  i : Nat
  d : Tmp
  R : Nat → Nat → Value → World → Prop
/-- A run: the sizes ahead and behind, the answer. -/
structure RunC where
  lo : Nat
  hi : Nat
  v : Value
def putsE : List FreeC → List RunC → Act → Act
  | e :: es, v :: vs, a => putsE es vs (a.put (some e.d) v.v)
  | _, _, a => a
theorem putsE_mid (e : FreeC) (v : RunC) (l2 : List FreeC) (v2 : List RunC) : ∀ (l1 : List FreeC) (v1 : List RunC) (a : Act), l1.length = v1.length → (∀ x ∈ l1, x.d ≠ e.d) → putsE (l1 ++ e :: l2) (v1 ++ v :: v2) a = putsE (l1 ++ l2) (v1 ++ v2) (a.put (some e.d) v.v)
  | [], [], a, _, _ => rfl
  | x :: l1, u :: v1, a, hl, hd => by
    show putsE (l1 ++ e :: l2) (v1 ++ v :: v2) (a.put (some x.d) u.v) = putsE (l1 ++ l2) (v1 ++ v2) ((a.put (some e.d) v.v).put (some x.d) u.v)
    rw [putsE_mid e v l2 v2 l1 v1 _ (by simpa using hl) (fun y hy => hd y (by simp [hy])), Act.put_comm a u.v v.v (fun d h1 h2 => hd x (by simp) (by injection h1 with h1; injection h2 with h2; rw [h1, h2]))]
def Holds (B : Nat) : List FreeC → List RunC → World → Prop
  | e :: es, v :: vs, w => (e.R v.lo v.hi v.v w ∧ B ≤ v.lo) ∧ Holds B es vs w
  | [], [], _ => True
  | _, _, _ => False
theorem Holds.len {B : Nat} : ∀ {es : List FreeC} {vs : List RunC} {w : World}, Holds B es vs w → es.length = vs.length
  | [], [], _, _ => rfl
  | e :: es, v :: vs, w, h => by simp [Holds.len h.2]
theorem Holds.split {B : Nat} : ∀ {l1 l2 : List FreeC} {vs : List RunC} {w : World}, Holds B (l1 ++ l2) vs w → ∃ v1 v2, vs = v1 ++ v2 ∧ Holds B l1 v1 w ∧ Holds B l2 v2 w
  | [], l2, vs, w, h => ⟨[], vs, rfl, trivial, h⟩
  | e :: l1, l2, v :: vs, w, h => by
    obtain ⟨v1, v2, rfl, h1, h2⟩ := Holds.split h.2
    exact ⟨v :: v1, v2, rfl, ⟨h.1, h1⟩, h2⟩
theorem Holds.join {B : Nat} : ∀ {l1 l2 : List FreeC} {v1 v2 : List RunC} {w : World}, Holds B l1 v1 w → Holds B l2 v2 w → Holds B (l1 ++ l2) (v1 ++ v2) w
  | [], _, [], _, _, _, h => h
  | e :: l1, l2, v :: v1, v2, w, h, h2 => ⟨h.1, Holds.join h.2 h2⟩
theorem Holds.lower {B B' : Nat} (hB : B' ≤ B) : ∀ {es : List FreeC} {vs : List RunC} {w : World}, Holds B es vs w → Holds B' es vs w
  | [], [], _, _ => trivial
  | e :: es, v :: vs, w, h => ⟨⟨h.1.1, Nat.le_trans hB h.1.2⟩, Holds.lower hB h.2⟩
theorem Holds.all {B : Nat} : ∀ {es : List FreeC} {vs : List RunC} {w : World}, Holds B es vs w → ∀ v ∈ vs, B ≤ v.lo
  | [], [], _, _, x, hx => by simp at hx
  | e :: es, v :: vs, w, h, x, hx => by
    rcases List.mem_cons.1 hx with rfl | hx
    · exact h.1.2
    · exact Holds.all h.2 x hx
/-- No two runs overlap; what is chained comes first. -/
def Apart (bf : Nat → Nat → Bool) : List FreeC → List RunC → Prop
  | e :: es, v :: vs => (∀ (k : Nat) (e' : FreeC) (v' : RunC), es[k]? = some e' → vs[k]? = some v' → (v.hi ≤ v'.lo ∨ v'.hi ≤ v.lo) ∧ (bf e.i e'.i = true → v.hi ≤ v'.lo) ∧ (bf e'.i e.i = true → v'.hi ≤ v.lo)) ∧ Apart bf es vs
  | _, _ => True
theorem Apart.mid {bf : Nat → Nat → Bool} {e : FreeC} {v : RunC} {l2 : List FreeC} {v2 : List RunC} : ∀ {l1 : List FreeC} {v1 : List RunC}, l1.length = v1.length → Apart bf (l1 ++ l2) (v1 ++ v2) → (∀ x ∈ v1 ++ v2, v.hi ≤ x.lo) → (∀ x ∈ l1 ++ l2, bf x.i e.i = false) → Apart bf (l1 ++ e :: l2) (v1 ++ v :: v2)
  | [], [], _, h, hx, hb => ⟨fun k e' v' he hv => ⟨.inl (hx v' (List.mem_of_getElem? hv)), fun _ => hx v' (List.mem_of_getElem? hv), fun h' => by rw [hb e' (List.mem_of_getElem? he)] at h'; cases h'⟩, h⟩
  | x :: l1, u :: v1, hl, h, hx, hb => by
    refine ⟨fun k e' v' he hv => ?_, Apart.mid (by simpa using hl) h.2 (fun y hy => hx y (List.mem_cons_of_mem _ hy)) (fun y hy => hb y (List.mem_cons_of_mem _ hy))⟩
    have hl' : l1.length = v1.length := by simpa using hl
    replace he : (l1 ++ e :: l2)[k]? = some e' := he
    replace hv : (v1 ++ v :: v2)[k]? = some v' := hv
    have h1 : ∀ (k : Nat) (e' : FreeC) (v' : RunC), (l1 ++ l2)[k]? = some e' → (v1 ++ v2)[k]? = some v' → (u.hi ≤ v'.lo ∨ v'.hi ≤ u.lo) ∧ (bf x.i e'.i = true → u.hi ≤ v'.lo) ∧ (bf e'.i x.i = true → v'.hi ≤ u.lo) := h.1
    rw [List.getElem?_append] at he hv
    by_cases hk : k < l1.length
    · rw [if_pos hk] at he
      rw [if_pos (by omega)] at hv
      exact h1 k e' v' (by rw [List.getElem?_append, if_pos hk]; exact he) (by rw [List.getElem?_append, if_pos (by omega)]; exact hv)
    · rw [if_neg hk] at he
      rw [if_neg (by omega)] at hv
      by_cases h0 : k - l1.length = 0
      · rw [h0] at he
        rw [show k - v1.length = 0 by omega] at hv
        obtain rfl : e = e' := by simpa using he
        obtain rfl : v = v' := by simpa using hv
        have hux := hx u (by simp)
        have hbx := hb x (by simp)
        refine ⟨.inr hux, ?_, fun _ => hux⟩
        intro h'
        rw [hbx] at h'
        cases h'
      · obtain ⟨m, hm⟩ : ∃ m, k - l1.length = m + 1 := ⟨k - l1.length - 1, by omega⟩
        rw [hm, List.getElem?_cons_succ] at he
        rw [show k - v1.length = m + 1 by omega, List.getElem?_cons_succ] at hv
        exact h1 (l1.length + m) e' v' (by rw [List.getElem?_append_right (by omega), Nat.add_sub_cancel_left]; exact he) (by rw [List.getElem?_append_right (by omega), hl', Nat.add_sub_cancel_left]; exact hv)
section
variable {P : Program} {ops : Array Oper} {md : Region.Mode} {C : World → Prop} {ex : List Nat}
def readyAll (md : Region.Mode) (ops : Array Oper) (bf : Nat → Nat → Bool) (Lf : Array Bool) : Nat → List Nat → Array Bool → Bool
  | 0, is, L => is.isEmpty && L == Lf
  | n + 1, is, L => !(Region.ready md ops L).isEmpty && (Region.ready md ops L).all fun i => is.contains i && is.all (fun j => !bf j i) && readyAll md ops bf Lf n (is.erase i) (L.setIfInBounds i true)
theorem eval_put_ne (a : Act) (x : Operand) (t : Tmp) (v : Value) (h : x ≠ .tmp t) : (a.put (some t) v).eval x = a.eval x := by
  cases x with
  | tmp s =>
    have hs : t ≠ s := fun e => h (by rw [e])
    simp [Act.put, Act.eval, Array.getD_eq_getD_getElem?, Array.getElem?_setIfInBounds, hs]
  | _ => rfl
/-- An operation that may run at any time: its arguments lie in no slot of T. -/
structure CanC (P : Program) (ops : Array Oper) (T : List Tmp) (W0 : World) (e : FreeC) (a : Act) : Prop where
  ex : ∃ o, ops[e.i]? = some o ∧ o.dst = some e.d ∧ o.guard = none
  run : ∀ (Q : Exit → Act → World → Prop) (a' : Act) (w : World) (K : Act → World → Prop), (∀ x : Operand, (∀ t ∈ T, x ≠ .tmp t) → a'.eval x = a.eval x) → Below W0.heap.size W0 w → (∀ v w', e.R w.heap.size w'.heap.size v w' → Below w.heap.size w w' → K (a'.put (some e.d) v) w') → wpOp P ops Q e.i K a' w
theorem CanC.put {T : List Tmp} {W0 : World} {e : FreeC} {a : Act} (h : CanC P ops T W0 e a) {t : Tmp} (ht : t ∈ T) (v : Value) : CanC P ops T W0 e (a.put (some t) v) :=
  ⟨h.ex, fun Q a' w K ha hB hK => h.run Q a' w K (fun x hx => (ha x hx).trans (eval_put_ne a x t v (hx t ht))) hB hK⟩
/-- A plain call. -/
theorem can_call {T : List Tmp} {W0 : World} {e : FreeC} {a : Act} (f : FuncId) (args : Array Value) (ho : ∃ o as ats, ops[e.i]? = some o ∧ o.dst = some e.d ∧ o.guard = none ∧ o.op = .call { callee := .value (.func f), args := as, argTypes := ats } ∧ as.map a.eval = args ∧ ∀ x ∈ as.toList, ∀ t ∈ T, x ≠ .tmp t)
    (hen : ∀ w, (callFunc f args).run P w = .ok (.enter f args) w)
    (hc : ∀ w, Below W0.heap.size W0 w → Calls P f args w fun x w' => ∃ v, x = .returned v ∧ e.R w.heap.size w'.heap.size v w' ∧ Below w.heap.size w w') : CanC P ops T W0 e a := by
  obtain ⟨o, as, ats, h0, h1, h2, ho, ha, hn⟩ := ho
  refine ⟨⟨o, h0, h1, h2⟩, fun Q a' w K haa hB hK => ?_⟩
  have ha' : as.map a'.eval = args := by
    rw [← ha]
    exact Array.map_congr_left fun x hx => haa x (hn x (by simpa using hx))
  unfold wpOp
  simp only [h0]
  rw [if_pos (by simp [Region.wanted, h2])]
  left
  have he := hen w
  have hrun : (execOp a'.eval o).run P w = .ok (.enter f args) w := by simp [execOp, ho, resolve, invoke, Act.eval, ha', he, Result.andThen, Deferred.ofValue]
  unfold Oper.wp
  rw [hrun]
  refine Calls.mono (hc w hB) ?_
  rintro x w' ⟨v, rfl, hv, hb⟩
  simp only [h1]
  exact hK v w' hv hb
/-- An allocation. -/
theorem can_alloc {T : List Tmp} {W0 : World} {e : FreeC} {a : Act} (o : Oper) (h0 : ops[e.i]? = some o) (h1 : o.dst = some e.d) (h2 : o.guard = none) (cs : Array Value) (t : TypeId)
    (hr : ∀ (ev : Operand → Value) w, (execOp ev o).run P w = .ok (.value (.pointer (some ⟨w.heap.size, 0, none⟩))) (w.alloc (.cells cs t)))
    (hR : ∀ w, Below W0.heap.size W0 w → e.R w.heap.size (w.alloc (.cells cs t)).heap.size (.pointer (some ⟨w.heap.size, 0, none⟩)) (w.alloc (.cells cs t))) : CanC P ops T W0 e a := by
  refine ⟨⟨o, h0, h1, h2⟩, fun Q a' w K haa hB hK => ?_⟩
  unfold wpOp
  simp only [h0]
  rw [if_pos (by simp [Region.wanted, h2])]
  left
  unfold Oper.wp
  rw [hr]
  show K (a'.put o.dst _) _
  rw [h1]
  exact hK _ _ (hR w hB) ((Below.refl _ _).alloc (Nat.le_refl _) _)
theorem free_ops {Q : Exit → Act → World → Prop} {W0 : World} (f : Nat) (Lf : Array Bool) (bf : Nat → Nat → Bool) (hC : ∀ w, Below W0.heap.size W0 w → C w) (T : List Tmp) :
    ∀ (n : Nat) (es : List FreeC) (L : Array Bool) (a : Act) (w : World), es.length = n → Below W0.heap.size W0 w → readyAll md ops bf Lf n (es.map (·.i)) L = true → (es.map (·.i)).Nodup → (es.map (·.d)).Nodup →
    (∀ e ∈ es, CanC P ops T W0 e a ∧ e.d ∈ T) →
    (∀ e ∈ es, ∀ lo hi v w1 w2, e.R lo hi v w1 → Below w1.heap.size w1 w2 → e.R lo hi v w2) →
    (∀ vs w', Holds w.heap.size es vs w' → Apart bf es vs → Below w.heap.size w w' → wpAnyD P md ops C ex (OnlyN Q) f Lf (putsE es vs a) w') →
    wpAnyD P md ops C ex (OnlyN Q) (f + n) L a w
  | 0, es, L, a, w, hn, hB, hr, _, _, _, _, K => by
    obtain rfl : es = [] := List.eq_nil_of_length_eq_zero hn
    simp only [readyAll, Bool.and_eq_true, beq_iff_eq] at hr
    obtain rfl := hr.2
    exact K [] w trivial trivial (Below.refl _ _)
  | n + 1, es, L, a, w, hn, hB, hr, hni, hnd, hga, hst, K => by
    simp only [readyAll, Bool.and_eq_true, List.all_eq_true] at hr
    obtain ⟨hr0, hr2⟩ := hr
    refine ⟨fun h0 => ?_, fun i hi => ?_⟩
    · rw [h0] at hr0
      simp at hr0
    · obtain ⟨⟨hin0, hbf⟩, h2⟩ := hr2 _ hi
      obtain ⟨e, he, rfl⟩ := List.mem_map.1 (show i ∈ es.map (·.i) by simpa using hin0)
      obtain ⟨l1, l2, rfl⟩ := List.append_of_mem he
      have hni' := hni
      have hnd' := hnd
      rw [List.map_append, List.map_cons] at hni' hnd' h2
      have hi1 : e.i ∉ l1.map (·.i) := fun h => (List.nodup_append.1 hni').2.2 _ h _ (by simp) rfl
      have hi2 : e.i ∉ l2.map (·.i) := (List.nodup_cons.1 (List.nodup_append.1 hni').2.1).1
      have hd1 : e.d ∉ l1.map (·.d) := fun h => (List.nodup_append.1 hnd').2.2 _ h _ (by simp) rfl
      rw [List.erase_append_right _ hi1, List.erase_cons_head, ← List.map_append] at h2
      have hin : ∀ x ∈ l1 ++ l2, x ∈ l1 ++ e :: l2 := fun x hx => by
        rcases List.mem_append.1 hx with h | h
        · exact List.mem_append_left _ h
        · exact List.mem_append_right _ (List.mem_cons_of_mem _ h)
      have hsub : List.Sublist (l1 ++ l2) (l1 ++ e :: l2) := List.Sublist.append (List.Sublist.refl l1) (List.sublist_cons_self e l2)
      refine (hga e (by simp)).1.run _ a w _ (fun _ _ => rfl) hB fun v w1 hv hb => ?_
      have hB1 := hB.trans (hb.mono hB.size)
      refine ⟨fun _ => hC _ hB1, ?_⟩
      refine free_ops f Lf bf hC T n (l1 ++ l2) (L.setIfInBounds e.i true) (a.put (some e.d) v) w1 (by simp at hn ⊢; omega) hB1 h2 ((hsub.map _).nodup hni) ((hsub.map _).nodup hnd) (fun x hx => ⟨(hga x (hin x hx)).1.put (hga e (by simp)).2 v, (hga x (hin x hx)).2⟩) (fun x hx => hst x (hin x hx)) ?_
      intro vs w' hh hap hb'
      obtain ⟨v1, v2, rfl, h1, h2'⟩ := Holds.split hh
      have hall := hh.all
      have := K (v1 ++ ⟨w.heap.size, w1.heap.size, v⟩ :: v2) w' (Holds.join (h1.lower hb.size) ⟨⟨hst e (by simp) _ _ v w1 w' hv hb', Nat.le_refl _⟩, h2'.lower hb.size⟩)
        (Apart.mid h1.len hap hall (fun x hx => by have := hbf x.i (List.mem_map_of_mem (hin x hx)); simpa using this)) (hb.trans (hb'.mono hb.size))
      rw [putsE_mid e _ l2 v2 l1 v1 a h1.len (fun x hx h => hd1 (h ▸ List.mem_map_of_mem hx))] at this
      exact this
end
section
variable {P : Program} {ops : Array Oper} {md : Region.Mode} {C : World → Prop} {ex : List Nat}
theorem wpAnyD_two {Q : Exit → Act → World → Prop} (i j : Nat) {oi oj : Oper} {f : Nat} {L Li Lj : Array Bool} {a : Act} {w : World} (hr : Region.ready md ops L = [i, j]) (hLi : L.setIfInBounds i true = Li) (hLj : L.setIfInBounds j true = Lj)
    (h0 : ops[i]? = some oi) (h1 : ops[j]? = some oj) (hgi : Region.wanted oi (yielded ops a.tmps) = true) (hgj : Region.wanted oj (yielded ops a.tmps) = true)
    (hi : wpList P ops (StepQ (keepsC ex C i) (OnlyN Q) (wpAnyD P md ops C ex (OnlyN Q) f Li)) [oi] a w) (hj : wpList P ops (StepQ (keepsC ex C j) (OnlyN Q) (wpAnyD P md ops C ex (OnlyN Q) f Lj)) [oj] a w) :
    wpAnyD P md ops C ex (OnlyN Q) (f + 1) L a w := by
  subst hLi hLj
  refine ⟨fun h1 => (by rw [hr] at h1; cases h1), fun k hk => ?_⟩
  rw [hr] at hk
  rcases List.mem_cons.1 hk with rfl | hk
  · exact wpOp_of_listG h0 hgi hi
  · obtain rfl : k = j := by simpa using hk
    exact wpOp_of_listG h1 hgj hj
end
end Go.Proofs.Ytfkfpppiikgjbaa
