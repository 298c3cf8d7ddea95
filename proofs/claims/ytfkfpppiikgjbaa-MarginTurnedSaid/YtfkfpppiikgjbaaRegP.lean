/- A region that draws its order: what only reads is taken ahead, in a class of worlds that the others keep; the others come in a forced order. Over any program. -/
import Derived.Test.YtfkfpppiikgjbaaRegH
namespace Go.Proofs.Ytfkfpppiikgjbaa
open Go Go.RowKit

section
variable {P : Program} {ops : Array Oper} {md : Region.Mode} {C : World → Prop}

/-- It yields this in every world of the class, and leaves the world as it is. -/
def PureC (P : Program) (ops : Array Oper) (C : World → Prop) (o : Oper) (v : Value) (a : Act) : Prop :=
  (Region.wanted o (yielded ops a.tmps) = true ∧ ∀ w, C w → (execOp a.eval o).run P w = .ok (.value v) w) ∨ (Region.wanted o (yielded ops a.tmps) = false ∧ v = undef)
theorem PureC.keep {oi oj : Oper} {v : Value} (hap : oi.apart ops oj = true) (hsi : ∀ cs b, oi.op ≠ .select cs b) {a : Act} (hy : PureC P ops C oi v a) (u : Value) : PureC P ops C oi v (a.put oj.dst u) := by
  obtain ⟨_, _, h3⟩ := Oper.apart_spec hap
  unfold PureC at *
  rw [execOp_put oi hsi a oj.dst u h3, wanted_put oi a oj.dst u h3]
  exact hy
theorem PureC.keepD {oi oj : Oper} {v : Value} (hap : oi.apart ops oj = true) (hsi : ∀ cs b, oi.op ≠ .select cs b) {a : Act} (hy : PureC P ops C oi v a) (d : Deferred) : PureC P ops C oi v (({ a with defers := d :: a.defers } : Act).put oj.dst undef) := by
  obtain ⟨_, _, h3⟩ := Oper.apart_spec hap
  have hy' : PureC P ops C oi v ({ a with defers := d :: a.defers } : Act) := hy
  exact PureC.keep hap hsi hy' undef
theorem PureC.wpOp {i : Nat} {Q : Exit → Act → World → Prop} {o : Oper} {v : Value} {a : Act} {w : World} {K : Act → World → Prop} (hi : ops[i]? = some o) (hw : C w) (hy : PureC P ops C o v a) (h : K (a.put o.dst v) w) : wpOp P ops Q i K a w := by
  unfold Go.wpOp
  simp only [hi]
  rcases hy with ⟨hwd, hr⟩ | ⟨hwd, rfl⟩
  · simp only [hwd, if_true]
    left
    unfold Oper.wp
    rw [hr w hw]
    exact h
  · simp only [hwd, Bool.false_eq_true, if_false]
    exact h

/-- Whatever order is drawn; each world that is come to is of the class. -/
def wpAnyC (P : Program) (md : Region.Mode) (ops : Array Oper) (C : World → Prop) (Q : Exit → Act → World → Prop) : Nat → Array Bool → Act → World → Prop
  | 0, listed, a, w => Region.ready md ops listed = [] ∧ Q .normal a w
  | f + 1, listed, a, w =>
    (Region.ready md ops listed = [] → Q .normal a w) ∧
    ∀ i ∈ Region.ready md ops listed, wpOp P ops Q i (fun a' w' => C w' ∧ wpAnyC P md ops C Q f (listed.setIfInBounds i true) a' w') a w
theorem wpAny_of_C {Q : Exit → Act → World → Prop} : ∀ (f : Nat) (listed : Array Bool) (a : Act) (w : World), wpAnyC P md ops C Q f listed a w → wpAny P md ops Q f listed a w
  | 0, _, _, _, h => h
  | f + 1, _, _, _, h => ⟨h.1, fun i hi => wpOp_mono (fun a' w' h' => wpAny_of_C f _ a' w' h'.2) (h.2 i hi)⟩

theorem wpAnyC_hoist {i : Nat} {oi : Oper} {v : Value} {Q : Exit → Act → World → Prop} (hi : ops[i]? = some oi) (hsel : ∀ (j : Nat) (o : Oper) cs b, ops[j]? = some o → o.op ≠ .select cs b) :
    ∀ (f : Nat) (listed : Array Bool) (a : Act) (w : World), C w →
      (∀ j oj, ops[j]? = some oj → j ≠ i → listed.getD j true = false → (∀ e ∈ oj.after, Region.binds md e = true → e.on ≠ i) → oi.apart ops oj = true) →
      i ∈ Region.ready md ops listed → PureC P ops C oi v a →
      wpAnyC P md ops C (OnlyN Q) f (listed.setIfInBounds i true) (a.put oi.dst v) w → wpAnyC P md ops C (OnlyN Q) (f + 1) listed a w := by
  intro f
  induction f with
  | zero =>
    intro listed a w hw _ hr hy H
    refine ⟨fun h => (by rw [h] at hr; cases hr), fun j hj => ?_⟩
    by_cases hji : j = i
    · subst hji; exact hy.wpOp hi hw ⟨hw, H⟩
    · have := ready_mono hj hji
      rw [H.1] at this
      cases this
  | succ f ih =>
    intro listed a w hw hfree hr hy H
    refine ⟨fun h => (by rw [h] at hr; cases hr), fun j hj => ?_⟩
    by_cases hji : j = i
    · subst hji; exact hy.wpOp hi hw ⟨hw, H⟩
    · have h1 := H.2 j (ready_mono hj hji)
      obtain ⟨hjun, oj, hoj, hall⟩ := mem_ready.1 hj
      have hnot : ∀ e ∈ oj.after, Region.binds md e = true → e.on ≠ i := fun e he hb heq => by
        have h1 := hall e he hb
        have h0 := (mem_ready.1 hr).1
        rw [heq, getD_both h0] at h1
        cases h1
      have hap := hfree j oj hoj hji hjun hnot
      have h2 := wpOp_put hoj hap (fun cs b => hsel j oj cs b hoj) h1
      have h3 := wpOp_and hoj (F := fun a' => PureC P ops C oi v a') (fun u => hy.keep hap (fun cs b => hsel i oi cs b hi) u) (fun d => hy.keepD hap (fun cs b => hsel i oi cs b hi) d) h2
      have hfree' : ∀ k ok, ops[k]? = some ok → k ≠ i → (listed.setIfInBounds j true).getD k true = false →
          (∀ e ∈ ok.after, Region.binds md e = true → e.on ≠ i) → oi.apart ops ok = true := fun k ok hk hki hun hno => by
        refine hfree k ok hk hki ?_ hno
        by_cases hjk : j = k
        · subst hjk; exact hjun
        · rw [getD_set_ne true hjk] at hun; exact hun
      refine wpOp_mono (fun a' w' h4 => ⟨h4.2.1, ih (listed.setIfInBounds j true) a' w' h4.2.1 hfree' (ready_mono hr (Ne.symm hji)) h4.1 ?_⟩) h3
      rw [Array.setIfInBounds_comm _ _ hji]
      exact h4.2.2

/-- The tail, one by one; each world that is come to is of the class. -/
def wpListC (P : Program) (ops : Array Oper) (C : World → Prop) (Q : Exit → Act → World → Prop) : List Oper → Act → World → Prop
  | [], a, w => Q .normal a w
  | o :: rest, a, w =>
    if Region.wanted o (yielded ops a.tmps) then o.wp P a w (fun a' w' => C w' ∧ wpListC P ops C Q rest a' w') Q ∨ (o.asks P a w ∧ LetsOut Q) else C w ∧ wpListC P ops C Q rest (a.put o.dst undef) w
def StepQ (C : World → Prop) (Q : Exit → Act → World → Prop) (K : Act → World → Prop) : Exit → Act → World → Prop
  | .normal, a, w => C w ∧ K a w
  | x, a, w => Q x a w
theorem StepQ_normal (C : World → Prop) (Q : Exit → Act → World → Prop) (K : Act → World → Prop) (a : Act) (w : World) : StepQ C Q K .normal a w = (C w ∧ K a w) := rfl

def seqT (md : Region.Mode) (ops : Array Oper) : List Nat → Array Bool → Bool
  | [], L => (Region.ready md ops L).isEmpty
  | t :: ts, L => (Region.ready md ops L == [t]) && seqT md ops ts (L.setIfInBounds t true)
def allIn (ops : Array Oper) (l : List Nat) : Bool := l.all fun i => decide (i < ops.size)
theorem wpAnyC_of_seq {Q : Exit → Act → World → Prop} : ∀ (ts : List Nat) (listed : Array Bool) (a : Act) (w : World), allIn ops ts = true → seqT md ops ts listed = true →
    wpListC P ops C Q (opsAt ops ts) a w → wpAnyC P md ops C Q ts.length listed a w
  | [], _, _, _, _, hB, h => ⟨by simpa [seqT] using hB, by simpa [opsAt, wpListC] using h⟩
  | t :: ts, listed, a, w, hin, hB, h => by
    simp only [seqT, Bool.and_eq_true, beq_iff_eq] at hB
    simp only [allIn, List.all_cons, Bool.and_eq_true, decide_eq_true_eq] at hin
    obtain ⟨o, h0⟩ : ∃ o, ops[t]? = some o := ⟨ops[t], Array.getElem?_eq_getElem hin.1⟩
    unfold opsAt at h
    rw [h0] at h
    refine ⟨fun h1 => (by rw [hB.1] at h1; cases h1), fun i hi => ?_⟩
    rw [hB.1] at hi
    have hik : i = t := by simpa using hi
    subst hik
    have hw : wpOp P ops Q i (fun a' w' => C w' ∧ wpListC P ops C Q (opsAt ops ts) a' w') a w := by unfold wpOp; simp only [h0]; exact h
    exact wpOp_mono (fun a' w' h' => ⟨h'.1, wpAnyC_of_seq ts _ a' w' hin.2 hB.2 h'.2⟩) hw

/-- What only reads, one by one. -/
def wpPure (P : Program) (ops : Array Oper) (C : World → Prop) (K : Act → Prop) : List Oper → Act → Prop
  | [], a => K a
  | o :: l, a => ∃ v, PureC P ops C o v a ∧ wpPure P ops C K l (a.put o.dst v)
def headT (md : Region.Mode) (ops : Array Oper) : List Nat → Array Bool → Bool
  | [], _ => true
  | i :: hs, L => decide (i < ops.size) && (Region.ready md ops L).contains i && Region.free md ops L i && headT md ops hs (L.setIfInBounds i true)
theorem pure_all {Q : Exit → Act → World → Prop} {K : Act → Prop} {w : World} (hsel : Region.noSelect ops = true) (hw : C w) (f : Nat) :
    ∀ (hs : List Nat) (listed : Array Bool) (a : Act), headT md ops hs listed = true → wpPure P ops C K (opsAt ops hs) a →
    (∀ a', K a' → wpAnyC P md ops C (OnlyN Q) f (setAll hs listed) a' w) → wpAnyC P md ops C (OnlyN Q) (f + hs.length) listed a w
  | [], listed, a, _, h, H => H a (by simpa [opsAt, wpPure] using h)
  | i :: hs, listed, a, hB, h, H => by
    simp only [headT, Bool.and_eq_true, decide_eq_true_eq] at hB
    obtain ⟨⟨⟨hin, hr⟩, hf⟩, hB'⟩ := hB
    obtain ⟨o, h0⟩ : ∃ o, ops[i]? = some o := ⟨ops[i], Array.getElem?_eq_getElem hin⟩
    unfold opsAt at h
    rw [h0] at h
    obtain ⟨v, hy, h⟩ := h
    have hr' : i ∈ Region.ready md ops listed := by simpa using hr
    have := pure_all (Q := Q) hsel hw f hs _ _ hB' h H
    exact wpAnyC_hoist h0 (Region.noSelect_spec hsel) _ _ _ _ hw (Region.free_spec h0 hf) hr' hy this

def pureB (md : Region.Mode) (ops : Array Oper) (hs ts : List Nat) : Bool :=
  Region.noSelect ops && decide (hs.length + ts.length = ops.size) && allIn ops ts && headT md ops hs (Array.replicate ops.size false) && seqT md ops ts (setAll hs (Array.replicate ops.size false))
theorem wp_region_pure {id : Nat} {Q : Exit → Act → World → Prop} {a : Act} {w : World} {l : List Oper} (hs ts : List Nat) (hm : P.follows .mixedOrders = true) (hB : pureB .any l.toArray hs ts = true) (C : World → Prop) (hC : C { w with drawn := w.drawn + 1 })
    (h : wpPure P l.toArray C (fun a' => wpListC P l.toArray C (OnlyN Q) (opsAt l.toArray ts) a' { w with drawn := w.drawn + 1 }) (opsAt l.toArray hs) a) : (Code.region id l.toArray true).wp P Q a w := by
  simp only [pureB, Bool.and_eq_true, decide_eq_true_eq] at hB
  obtain ⟨⟨⟨⟨hsel, hlen⟩, hin⟩, hh⟩, ht⟩ := hB
  refine wp_region_any hm (wpAny_exit OnlyN.to _ _ _ _ (wpAny_of_C (C := C) _ _ _ _ ?_))
  have H := pure_all (P := P) (Q := Q) (C := C) (w := { w with drawn := w.drawn + 1 }) hsel hC ts.length hs _ a hh h (fun a' hq => wpAnyC_of_seq ts _ a' _ hin ht hq)
  rw [show ts.length + hs.length = l.toArray.size by omega] at H
  exact H

theorem pure_move {K : Act → Prop} {o : Oper} {l : List Oper} {a : Act} {x : Operand} (ho : o.op = .move x) (hg : o.guard = none) (h : wpPure P ops C K l (a.put o.dst (a.eval x))) : wpPure P ops C K (o :: l) a :=
  ⟨_, .inl ⟨wanted_none hg _, fun w _ => move_run ho a w⟩, h⟩
theorem pure_at {K : Act → Prop} {o : Oper} {l : List Oper} {a : Act} (v : Value) (hg : o.guard = none) (hr : ∀ w, C w → (execOp a.eval o).run P w = .ok (.value v) w) (h : wpPure P ops C K l (a.put o.dst v)) : wpPure P ops C K (o :: l) a :=
  ⟨_, .inl ⟨wanted_none hg _, hr⟩, h⟩
theorem pure_row {K : Act → Prop} {o : Oper} {l : List Oper} {a : Act} (ty : TypeId) (x : Operand) (ho : o.op = .load ty x) (hg : o.guard = none) (g : Nat) (hx : a.eval x = .pointer (some ⟨g, 0, none⟩)) (A : Array Value)
    (hr : ∀ w, C w → (loadVar ty ⟨g, 0, none⟩).run P w = .ok (.agg A) w) (h : wpPure P ops C K l (a.put o.dst (.agg A))) : wpPure P ops C K (o :: l) a :=
  pure_at _ hg (fun w hw => by
    unfold execOp
    simp only [ho, hx, Instr.loadAt, Instr.sureAddr, Sem.run_bind, Sem.run_pure, Result.andThen_ok, hr w hw]) h
/-- One operation of the tail, by the plain walk. -/
theorem wpListC_cons {Q : Exit → Act → World → Prop} {o : Oper} {rest : List Oper} {a : Act} {w : World} (hg : o.guard = none) (h : wpList P ops (StepQ C (OnlyN Q) (wpListC P ops C (OnlyN Q) rest)) [o] a w) : wpListC P ops C (OnlyN Q) (o :: rest) a w := by
  unfold wpListC
  unfold wpList at h
  rw [if_pos (wanted_none hg _)] at h ⊢
  have e : ∀ (x : Exit) (a : Act) (w : World), x ≠ .normal → StepQ C (OnlyN Q) (wpListC P ops C (OnlyN Q) rest) x a w → OnlyN Q x a w := by
    intro x a w hx h
    cases x <;> first | exact absurd rfl hx | exact h
  rcases h with h | ⟨_, a', w', h⟩
  · left
    unfold Oper.wp at h ⊢
    generalize (execOp a.eval o).run P w = r at h ⊢
    cases r with
    | ok n w' =>
      cases n with
      | value u => exact h
      | skip => exact h
      | defer d => exact h
      | enter f args =>
        refine Calls.mono (R := fun e w'' => match e, w'' with
          | .returned u, w'' => wpList P ops (StepQ C (OnlyN Q) (wpListC P ops C (OnlyN Q) rest)) [] (a.put o.dst u) w''
          | .panicked chain, w'' => (StepQ C (OnlyN Q) (wpListC P ops C (OnlyN Q) rest)) (.panic chain) a w''
          | .outgrown, _ => LetsOut (StepQ C (OnlyN Q) (wpListC P ops C (OnlyN Q) rest))) h ?_
        intro e' w'' he
        cases e' with
        | returned u => exact he
        | panicked c => exact he
        | outgrown => obtain ⟨a1, w1, h1⟩ := he; exact ⟨a1, w1, h1⟩
      | row row args =>
        have h' : Rows P row args w' fun u w'' => wpList P ops (StepQ C (OnlyN Q) (wpListC P ops C (OnlyN Q) rest)) [] (a.put o.dst u) w'' := h
        exact h'.mono fun u w'' hk => hk
      | _ => exact h
    | halt x w' =>
      cases x with
      | panic u => exact h
      | _ => exact h
  · exact .inr ⟨by assumption, a', w', h⟩
end
end Go.Proofs.Ytfkfpppiikgjbaa
