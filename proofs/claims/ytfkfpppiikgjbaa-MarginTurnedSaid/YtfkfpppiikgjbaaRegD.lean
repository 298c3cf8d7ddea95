/- A region that draws its order: what only reads is taken ahead, in a class of worlds that all operations keep but those (the stores) that wait for all that is read. With guards. Over any program. -/
import Derived.Test.YtfkfpppiikgjbaaRegB
namespace Go.Proofs.Ytfkfpppiikgjbaa
open Go Go.RowKit

section
variable {P : Program} {ops : Array Oper} {md : Region.Mode} {C : World → Prop} {ex : List Nat}

/-- Behind operation i the world is of the class. -/
def keepsC (ex : List Nat) (C : World → Prop) (i : Nat) (w : World) : Prop := ex.contains i = false → C w
def wpAnyD (P : Program) (md : Region.Mode) (ops : Array Oper) (C : World → Prop) (ex : List Nat) (Q : Exit → Act → World → Prop) : Nat → Array Bool → Act → World → Prop
  | 0, listed, a, w => Region.ready md ops listed = [] ∧ Q .normal a w
  | f + 1, listed, a, w =>
    (Region.ready md ops listed = [] → Q .normal a w) ∧
    ∀ i ∈ Region.ready md ops listed, wpOp P ops Q i (fun a' w' => keepsC ex C i w' ∧ wpAnyD P md ops C ex Q f (listed.setIfInBounds i true) a' w') a w
theorem wpAny_of_D {Q : Exit → Act → World → Prop} : ∀ (f : Nat) (listed : Array Bool) (a : Act) (w : World), wpAnyD P md ops C ex Q f listed a w → wpAny P md ops Q f listed a w
  | 0, _, _, _, h => h
  | f + 1, _, _, _, h => ⟨h.1, fun i hi => wpOp_mono (fun a' w' h' => wpAny_of_D f _ a' w' h'.2) (h.2 i hi)⟩

theorem wpAnyD_hoist {i : Nat} {oi : Oper} {v : Value} {Q : Exit → Act → World → Prop} (hi : ops[i]? = some oi) (hsel : ∀ (j : Nat) (o : Oper) cs b, ops[j]? = some o → o.op ≠ .select cs b)
    (hex : ∀ j, ex.contains j = true → Region.waitsFor md ops j i = true) :
    ∀ (f : Nat) (listed : Array Bool) (a : Act) (w : World), C w →
      (∀ j oj, ops[j]? = some oj → j ≠ i → listed.getD j true = false → (∀ e ∈ oj.after, Region.binds md e = true → e.on ≠ i) → oi.apart ops oj = true) →
      i ∈ Region.ready md ops listed → PureC P ops C oi v a →
      wpAnyD P md ops C ex (OnlyN Q) f (listed.setIfInBounds i true) (a.put oi.dst v) w → wpAnyD P md ops C ex (OnlyN Q) (f + 1) listed a w := by
  intro f
  induction f with
  | zero =>
    intro listed a w hw _ hr hy H
    refine ⟨fun h => (by rw [h] at hr; cases hr), fun j hj => ?_⟩
    by_cases hji : j = i
    · subst hji; exact hy.wpOp hi hw ⟨fun _ => hw, H⟩
    · have := ready_mono hj hji
      rw [H.1] at this
      cases this
  | succ f ih =>
    intro listed a w hw hfree hr hy H
    refine ⟨fun h => (by rw [h] at hr; cases hr), fun j hj => ?_⟩
    by_cases hji : j = i
    · subst hji; exact hy.wpOp hi hw ⟨fun _ => hw, H⟩
    · have h1 := H.2 j (ready_mono hj hji)
      obtain ⟨hjun, oj, hoj, hall⟩ := mem_ready.1 hj
      have hnot : ∀ e ∈ oj.after, Region.binds md e = true → e.on ≠ i := fun e he hb heq => by
        have h1 := hall e he hb
        have h0 := (mem_ready.1 hr).1
        rw [heq, getD_both h0] at h1
        cases h1
      have hkeep : ex.contains j = false := by
        cases hc : ex.contains j with
        | false => rfl
        | true =>
          obtain ⟨o', ho', e, he, hb, hon⟩ := Region.waitsFor_spec (hex j hc)
          have : o' = oj := Option.some.inj (ho'.symm.trans hoj)
          subst this
          exact absurd hon (hnot e he hb)
      have hap := hfree j oj hoj hji hjun hnot
      have h2 := wpOp_put hoj hap (fun cs b => hsel j oj cs b hoj) h1
      have h3 := wpOp_and hoj (F := fun a' => PureC P ops C oi v a') (fun u => hy.keep hap (fun cs b => hsel i oi cs b hi) u) (fun d => hy.keepD hap (fun cs b => hsel i oi cs b hi) d) h2
      have hfree' : ∀ k ok, ops[k]? = some ok → k ≠ i → (listed.setIfInBounds j true).getD k true = false →
          (∀ e ∈ ok.after, Region.binds md e = true → e.on ≠ i) → oi.apart ops ok = true := fun k ok hk hki hun hno => by
        refine hfree k ok hk hki ?_ hno
        by_cases hjk : j = k
        · subst hjk; exact hjun
        · rw [getD_set_ne true hjk] at hun; exact hun
      refine wpOp_mono (fun a' w' h4 => ⟨h4.2.1, ih (listed.setIfInBounds j true) a' w' (h4.2.1 hkeep) hfree' (ready_mono hr (Ne.symm hji)) h4.1 ?_⟩) h3
      rw [Array.setIfInBounds_comm _ _ hji]
      exact h4.2.2

/-- One operation, its guard met, by the plain walk. -/
theorem wpOp_of_listG {Q : Exit → Act → World → Prop} {K : Act → World → Prop} {i : Nat} {o : Oper} {a : Act} {w : World} (h0 : ops[i]? = some o) (hg : Region.wanted o (yielded ops a.tmps) = true) (h : wpList P ops (StepQ C (OnlyN Q) K) [o] a w) :
    wpOp P ops (OnlyN Q) i (fun a' w' => C w' ∧ K a' w') a w := by
  unfold wpOp
  simp only [h0]
  unfold wpList at h
  rw [if_pos hg] at h ⊢
  rcases h with h | ⟨h1, a', w', h⟩
  · left
    unfold Oper.wp at h ⊢
    generalize (execOp a.eval o).run P w = r at h ⊢
    cases r with
    | ok n w' =>
      cases n with
      | value u => exact h
      | skip => exact h
      | defer d => exact h
      | enter f args =>
        refine Calls.mono (R := fun e w'' => match e, w'' with
          | .returned u, w'' => wpList P ops (StepQ C (OnlyN Q) K) [] (a.put o.dst u) w''
          | .panicked chain, w'' => (StepQ C (OnlyN Q) K) (.panic chain) a w''
          | .outgrown, _ => LetsOut (StepQ C (OnlyN Q) K)) h ?_
        intro e' w'' he
        cases e' with
        | returned u => exact he
        | panicked c => exact he
        | outgrown => obtain ⟨a1, w1, h1⟩ := he; exact ⟨a1, w1, h1⟩
      | row row args =>
        have h' : Rows P row args w' fun u w'' => wpList P ops (StepQ C (OnlyN Q) K) [] (a.put o.dst u) w'' := h
        exact h'.mono fun u w'' hk => hk
      | _ => exact h
    | halt x w' =>
      cases x with
      | panic u => exact h
      | _ => exact h
  · exact .inr ⟨h1, a', w', h⟩

theorem wpAnyD_one {Q : Exit → Act → World → Prop} (i : Nat) {o : Oper} {f : Nat} {L L' : Array Bool} {a : Act} {w : World} (hr : Region.ready md ops L = [i]) (hL : L.setIfInBounds i true = L') (h0 : ops[i]? = some o) (hg : Region.wanted o (yielded ops a.tmps) = true)
    (h : wpList P ops (StepQ (keepsC ex C i) (OnlyN Q) (wpAnyD P md ops C ex (OnlyN Q) f L')) [o] a w) : wpAnyD P md ops C ex (OnlyN Q) (f + 1) L a w := by
  subst hL
  refine ⟨fun h1 => (by rw [hr] at h1; cases h1), fun j hj => ?_⟩
  rw [hr] at hj
  obtain rfl : j = i := by simpa using hj
  exact wpOp_of_listG h0 hg h

def exB (md : Region.Mode) (ops : Array Oper) (ex : List Nat) (i : Nat) : Bool := ex.all fun j => Region.waitsFor md ops j i
def headDB (md : Region.Mode) (ops : Array Oper) (ex : List Nat) : List Nat → Array Bool → Bool
  | [], _ => true
  | i :: hs, L => decide (i < ops.size) && (Region.ready md ops L).contains i && Region.free md ops L i && exB md ops ex i && headDB md ops ex hs (L.setIfInBounds i true)
theorem pure_allD {Q : Exit → Act → World → Prop} {K : Act → Prop} {w : World} (hsel : Region.noSelect ops = true) (hw : C w) (f : Nat) :
    ∀ (hs : List Nat) (listed : Array Bool) (a : Act), headDB md ops ex hs listed = true → wpPure P ops C K (opsAt ops hs) a →
    (∀ a', K a' → wpAnyD P md ops C ex (OnlyN Q) f (setAll hs listed) a' w) → wpAnyD P md ops C ex (OnlyN Q) (f + hs.length) listed a w
  | [], listed, a, _, h, H => H a (by simpa [opsAt, wpPure] using h)
  | i :: hs, listed, a, hB, h, H => by
    simp only [headDB, Bool.and_eq_true, decide_eq_true_eq] at hB
    obtain ⟨⟨⟨⟨hin, hr⟩, hf⟩, hx⟩, hB'⟩ := hB
    obtain ⟨o, h0⟩ : ∃ o, ops[i]? = some o := ⟨ops[i], Array.getElem?_eq_getElem hin⟩
    unfold opsAt at h
    rw [h0] at h
    obtain ⟨v, hy, h⟩ := h
    have hr' : i ∈ Region.ready md ops listed := by simpa using hr
    have := pure_allD (Q := Q) hsel hw f hs _ _ hB' h H
    exact wpAnyD_hoist h0 (Region.noSelect_spec hsel) (fun j hj => List.all_eq_true.1 hx j (by simpa using hj)) _ _ _ _ hw (Region.free_spec h0 hf) hr' hy this
/-- The same, with the goal's own continuation. -/
theorem pure_moreD {Q : Exit → Act → World → Prop} {L L' : Array Bool} {a : Act} {w : World} (hs : List Nat) (f : Nat) (hB : (Region.noSelect ops && headDB md ops ex hs L) = true) (hL : setAll hs L = L') (hw : C w)
    (h : wpPure P ops C (fun a' => wpAnyD P md ops C ex (OnlyN Q) f L' a' w) (opsAt ops hs) a) : wpAnyD P md ops C ex (OnlyN Q) (f + hs.length) L a w := by
  subst hL
  simp only [Bool.and_eq_true] at hB
  exact pure_allD hB.1 hw f hs _ _ hB.2 h (fun a' hq => hq)

theorem wp_region_D {id : Nat} {Q : Exit → Act → World → Prop} {a : Act} {w : World} {l : List Oper} (ex : List Nat) (C : World → Prop) (f : Nat) (L : Array Bool) (hm : P.follows .mixedOrders = true) (hf : l.length = f) (hL : Array.replicate l.toArray.size false = L)
    (h : wpAnyD P .any l.toArray C ex (OnlyN Q) f L a { w with drawn := w.drawn + 1 }) : (Code.region id l.toArray true).wp P Q a w := by
  subst hL hf
  refine wp_region_any hm (wpAny_exit OnlyN.to _ _ _ _ (wpAny_of_D (C := C) (ex := ex) _ _ _ _ ?_))
  simpa using h
theorem pure_atG {K : Act → Prop} {o : Oper} {l : List Oper} {a : Act} (v : Value) (hg : Region.wanted o (yielded ops a.tmps) = true) (hr : ∀ w, C w → (execOp a.eval o).run P w = .ok (.value v) w) (h : wpPure P ops C K l (a.put o.dst v)) : wpPure P ops C K (o :: l) a :=
  ⟨_, .inl ⟨hg, hr⟩, h⟩
theorem pure_moveG {K : Act → Prop} {o : Oper} {l : List Oper} {a : Act} {x : Operand} (ho : o.op = .move x) (hg : Region.wanted o (yielded ops a.tmps) = true) (h : wpPure P ops C K l (a.put o.dst (a.eval x))) : wpPure P ops C K (o :: l) a :=
  ⟨_, .inl ⟨hg, fun w _ => move_run ho a w⟩, h⟩
end
end Go.Proofs.Ytfkfpppiikgjbaa
