/- A region that draws its order: what only reads is taken ahead; then effects, branch by branch; what is left is quiet. Over any program. -/
import Derived.Test.YtfkfpppiikgjbaaRegP
namespace Go.Proofs.Ytfkfpppiikgjbaa
open Go Go.RowKit

section
variable {P : Program} {ops : Array Oper} {md : Region.Mode} {C : World → Prop}

/-- One operation without a guard, by the plain walk. -/
theorem wpOp_of_list {Q : Exit → Act → World → Prop} {K : Act → World → Prop} {i : Nat} {o : Oper} {a : Act} {w : World} (h0 : ops[i]? = some o) (hg : o.guard = none) (h : wpList P ops (StepQ C (OnlyN Q) K) [o] a w) :
    wpOp P ops (OnlyN Q) i (fun a' w' => C w' ∧ K a' w') a w := by
  unfold wpOp
  simp only [h0]
  unfold wpList at h
  rw [if_pos (wanted_none hg _)] at h ⊢
  rcases h with h | ⟨h1, a', w', h⟩
  · left
    unfold Oper.wp at h ⊢
    generalize (execOp a.eval o).run P w = r at h ⊢
    cases r with
    | ok n w' =>
      cases n with
      | value u => exact h
      | skip => exact h
      | defer d => exact h
      | enter f args =>
        refine Calls.mono (R := fun e w'' => match e, w'' with
          | .returned u, w'' => wpList P ops (StepQ C (OnlyN Q) K) [] (a.put o.dst u) w''
          | .panicked chain, w'' => (StepQ C (OnlyN Q) K) (.panic chain) a w''
          | .outgrown, _ => LetsOut (StepQ C (OnlyN Q) K)) h ?_
        intro e' w'' he
        cases e' with
        | returned u => exact he
        | panicked c => exact he
        | outgrown => obtain ⟨a1, w1, h1⟩ := he; exact ⟨a1, w1, h1⟩
      | row row args =>
        have h' : Rows P row args w' fun u w'' => wpList P ops (StepQ C (OnlyN Q) K) [] (a.put o.dst u) w'' := h
        exact h'.mono fun u w'' hk => hk
      | _ => exact h
    | halt x w' =>
      cases x with
      | panic u => exact h
      | _ => exact h
  · exact .inr ⟨h1, a', w', h⟩

theorem wpAnyC_one {Q : Exit → Act → World → Prop} (i : Nat) {o : Oper} {f : Nat} {L L' : Array Bool} {a : Act} {w : World} (hr : Region.ready md ops L = [i]) (hL : L.setIfInBounds i true = L') (h0 : ops[i]? = some o) (hg : o.guard = none)
    (h : wpList P ops (StepQ C (OnlyN Q) (wpAnyC P md ops C (OnlyN Q) f L')) [o] a w) : wpAnyC P md ops C (OnlyN Q) (f + 1) L a w := by
  subst hL
  refine ⟨fun h1 => (by rw [hr] at h1; cases h1), fun j hj => ?_⟩
  rw [hr] at hj
  obtain rfl : j = i := by simpa using hj
  exact wpOp_of_list h0 hg h
theorem wpAnyC_two {Q : Exit → Act → World → Prop} (i j : Nat) {o o' : Oper} {f : Nat} {L Li Lj : Array Bool} {a : Act} {w : World} (hr : Region.ready md ops L = [i, j]) (hL : L.setIfInBounds i true = Li) (hL' : L.setIfInBounds j true = Lj)
    (h0 : ops[i]? = some o) (hg : o.guard = none) (h0' : ops[j]? = some o') (hg' : o'.guard = none)
    (h : wpList P ops (StepQ C (OnlyN Q) (wpAnyC P md ops C (OnlyN Q) f Li)) [o] a w) (h' : wpList P ops (StepQ C (OnlyN Q) (wpAnyC P md ops C (OnlyN Q) f Lj)) [o'] a w) : wpAnyC P md ops C (OnlyN Q) (f + 1) L a w := by
  subst hL; subst hL'
  refine ⟨fun h1 => (by rw [hr] at h1; cases h1), fun k hk => ?_⟩
  rw [hr] at hk
  simp only [List.mem_cons, List.not_mem_nil, or_false] at hk
  rcases hk with rfl | rfl
  · exact wpOp_of_list h0 hg h
  · exact wpOp_of_list h0' hg' h'

theorem wpAnyC_of_quiet {C3 : World → Prop} {Q : Act → Prop} {Q' : Exit → Act → World → Prop} (hCC : ∀ w, C3 w → C w) (hQ : ∀ a w, C3 w → Q a → Q' .normal a w) : ∀ (f : Nat) (listed : Array Bool) (a : Act) (w : World), C3 w →
    wpAnyQ P md ops C3 Q f listed a → wpAnyC P md ops C Q' f listed a w
  | 0, _, _, _, hw, h => ⟨h.1, hQ _ _ hw h.2⟩
  | f + 1, _, _, _, hw, h => ⟨fun h0 => hQ _ _ hw (h.1 h0), fun i hi => wpOp_of_qOp hw (fun a' w' hw' h' => ⟨hCC _ hw', wpAnyC_of_quiet hCC hQ f _ a' w' hw' h'⟩) (h.2 i hi)⟩

/-- What is left is quiet, in the class of the worlds that grew out of this one. -/
theorem wpAnyC_ext {Q : Exit → Act → World → Prop} (k : Nat) {l : List Oper} {f : Nat} {L : Array Bool} {a : Act} {w : World} (hCC : ∀ x : ExtOf w, C x.w) (hs : Region.noSelect ops = true) (hl : ops.toList.drop k = l) (hf : l.length = f) (hB : Region.lexFrom md ops l.length k L = true)
    (h : wpQuiet P ops (fun w' => ∃ x : ExtOf w, w' = x.w) (fun a' => ∀ w', (∃ x : ExtOf w, w' = x.w) → Q .normal a' w') l a) : wpAnyC P md ops C (OnlyN Q) f L a w := by
  subst hf
  refine wpAnyC_of_quiet (Q' := OnlyN Q) (C3 := fun w' => ∃ x : ExtOf w, w' = x.w) (Q := fun a' => ∀ w', (∃ x : ExtOf w, w' = x.w) → Q .normal a' w') (fun w' ⟨x, hx⟩ => hx ▸ hCC x) (fun a' w' hw' hq => hq w' hw') _ _ _ _ ⟨⟨w, Below.refl _ _⟩, rfl⟩ ?_
  exact wpAnyQ_lex hs l k L a (fun j => by rw [← hl]; simp [List.getElem?_drop]) hB h

def headB (ops : Array Oper) (hs : List Nat) : Bool := Region.noSelect ops && headT .any ops hs (Array.replicate ops.size false)
theorem wp_region_branch {id : Nat} {Q : Exit → Act → World → Prop} {a : Act} {w : World} {l : List Oper} (hs : List Nat) (f : Nat) (L : Array Bool) (hm : P.follows .mixedOrders = true) (hB : headB l.toArray hs = true) (hf : f + hs.length = l.length) (hL : setAll hs (Array.replicate l.toArray.size false) = L) (C : World → Prop) (hC : C { w with drawn := w.drawn + 1 })
    (h : wpPure P l.toArray C (fun a' => wpAnyC P .any l.toArray C (OnlyN Q) f L a' { w with drawn := w.drawn + 1 }) (opsAt l.toArray hs) a) : (Code.region id l.toArray true).wp P Q a w := by
  subst hL
  simp only [headB, Bool.and_eq_true] at hB
  refine wp_region_any hm (wpAny_exit OnlyN.to _ _ _ _ (wpAny_of_C (C := C) _ _ _ _ ?_))
  have H := pure_all (P := P) (Q := Q) (C := C) (w := { w with drawn := w.drawn + 1 }) hB.1 hC f hs _ a hB.2 h (fun a' hq => hq)
  rw [hf] at H
  simpa using H
end
end Go.Proofs.Ytfkfpppiikgjbaa
