/- A region that draws its order: its head in a class of worlds (reads, quiet calls, calls that only make memory), its tail in a forced order. Over any program. -/
import Derived.Test.YtfkfpppiikgjbaaLib
import Derived.StillTail
import Derived.Deep.Quiet
namespace Go.Proofs.Ytfkfpppiikgjbaa
open Go Go.RowKit

section
variable {P : Program} {ops : Array Oper} {md : Region.Mode} {C : World → Prop}

def wpAnyQL (P : Program) (md : Region.Mode) (ops : Array Oper) (C : World → Prop) (n : Nat) (L : Array Bool → Act → Prop) : Nat → Array Bool → Act → Prop
  | 0, listed, a => L listed a
  | f + 1, listed, a =>
    Region.ready md ops listed ≠ [] ∧ ∀ i ∈ Region.ready md ops listed, i < n ∧ qOp P ops C i (wpAnyQL P md ops C n L f (listed.setIfInBounds i true)) a

theorem wpAny_of_headQ {n g : Nat} {L : Array Bool → Act → Prop} {Q' : Exit → Act → World → Prop} (hL : ∀ listed a w, C w → L listed a → wpAny P md ops Q' g listed a w) :
    ∀ (f : Nat) (listed : Array Bool) (a : Act) (w : World), C w → wpAnyQL P md ops C n L f listed a → wpAny P md ops Q' (f + g) listed a w
  | 0, listed, a, w, hw, h => by rw [Nat.zero_add]; exact hL _ _ _ hw h
  | f + 1, listed, a, w, hw, h => by
    rw [show f + 1 + g = (f + g) + 1 by omega]
    exact ⟨fun h0 => absurd h0 h.1, fun i hi => wpOp_of_qOp hw (fun a' w' hw' h' => wpAny_of_headQ hL f _ a' w' hw' h') (h.2 i hi).2⟩

/-- What is not listed yet, below n, is waited for. -/
def SinkAt (md : Region.Mode) (ops : Array Oper) (n : Nat) (listed : Array Bool) : Prop := ∀ i, i < n → listed.getD i true = false → ∃ j, j < n + 1 ∧ i < j ∧ Region.waitsFor md ops j i = true
theorem SinkAt.set {n : Nat} {listed : Array Bool} (h : SinkAt md ops n listed) (k : Nat) : SinkAt md ops n (listed.setIfInBounds k true) := fun i hi hu => by
  by_cases e : k = i
  · subst e
    rcases Nat.lt_or_ge k listed.size with h' | h'
    · rw [Array.getD_eq_getD_getElem?, Array.getElem?_setIfInBounds, if_pos rfl, if_pos h'] at hu
      cases hu
    · rw [Array.getD_eq_getD_getElem?, Array.getElem?_eq_none (by rw [Array.size_setIfInBounds]; exact h')] at hu
      cases hu
  · rw [getD_set_ne true e] at hu
    exact h i hi hu
theorem tail_waits_at {n : Nat} {listed : Array Bool} (hs : SinkAt md ops n listed) (hc : Region.chainB md ops n = true) (hn : n < ops.size) (inv : HeadInv md ops n listed) :
    ∀ (d i : Nat), n - i = d → i < n → listed.getD i true = false → ∀ t, n ≤ t → t ∉ Region.ready md ops listed := by
  intro d
  induction d using Nat.strongRecOn with
  | _ d ih =>
    intro i hd hi hun t ht hr
    obtain ⟨_, ot, hot, hall⟩ := mem_ready.1 hr
    have htlt : t < ops.size := (Array.getElem?_eq_some_iff.1 hot).1
    by_cases htn : t = n
    · subst htn
      obtain ⟨j, hj, hij, hw⟩ := hs i hi hun
      obtain ⟨oj, hoj, e, he, hb, hon⟩ := Region.waitsFor_spec hw
      have hjle : j ≤ t := by omega
      by_cases hjt : j = t
      · subst hjt
        have : oj = ot := Option.some.inj (hoj.symm.trans hot)
        subst this
        have h2 := hall e he hb
        rw [hon, getD_both hun] at h2
        cases h2
      · cases hl : listed.getD j false with
        | true =>
          have h2 := inv.closed j oj hoj hl e he hb
          rw [hon, getD_both hun] at h2
          cases h2
        | false =>
          have hjs : j < listed.size := by rw [inv.size]; omega
          exact ih (t - j) (by omega) j rfl (by omega) (getD_in hjs hl) t (Nat.le_refl _) hr
    · have h1 := List.all_eq_true.1 hc t (List.mem_range.2 htlt)
      simp only [Bool.or_eq_true, decide_eq_true_eq] at h1
      rcases h1 with h1 | h1
      · omega
      · obtain ⟨o', ho', e, he, hb, hon⟩ := Region.waitsFor_spec h1
        have : o' = ot := Option.some.inj (ho'.symm.trans hot)
        subst this
        have h2 := hall e he hb
        rw [hon, getD_both (inv.tail (t - 1) (by omega) (by omega))] at h2
        cases h2

theorem wpAnyQL_first {n i : Nat} {oi : Oper} {v : Value} {L : Array Bool → Act → Prop} (hi : ops[i]? = some oi) (hsel : ∀ (j : Nat) (o : Oper) cs b, ops[j]? = some o → o.op ≠ .select cs b)
    (hc : Region.chainB md ops n = true) (hn : n < ops.size) (hin : i < n)
    (hdone : ∀ listed a, L listed a → ∀ j ∈ Region.ready md ops listed, n ≤ j) :
    ∀ (f : Nat) (listed : Array Bool) (a : Act), HeadInv md ops n listed → SinkAt md ops n listed →
      (∀ j oj, ops[j]? = some oj → j ≠ i → listed.getD j true = false → (∀ e ∈ oj.after, Region.binds md e = true → e.on ≠ i) → oi.apart ops oj = true) →
      i ∈ Region.ready md ops listed → YieldsIn P ops C oi v a →
      wpAnyQL P md ops C n L f (listed.setIfInBounds i true) (a.put oi.dst v) → wpAnyQL P md ops C n L (f + 1) listed a := by
  intro f
  induction f with
  | zero =>
    intro listed a inv hs _ hr hy H
    have hun := (mem_ready.1 hr).1
    refine ⟨fun h => (by rw [h] at hr; cases hr), fun j hj => ?_⟩
    have hjn : j < n := by
      rcases Nat.lt_or_ge j n with h | h
      · exact h
      · exact absurd hj (tail_waits_at hs hc hn inv _ i rfl hin hun j h)
    refine ⟨hjn, ?_⟩
    by_cases hji : j = i
    · subst hji; exact hy.qOp hi H
    · have := hdone _ _ H j (ready_mono hj hji)
      omega
  | succ f ih =>
    intro listed a inv hs hfree hr hy H
    have hun := (mem_ready.1 hr).1
    refine ⟨fun h => (by rw [h] at hr; cases hr), fun j hj => ?_⟩
    have hjn : j < n := by
      rcases Nat.lt_or_ge j n with h | h
      · exact h
      · exact absurd hj (tail_waits_at hs hc hn inv _ i rfl hin hun j h)
    refine ⟨hjn, ?_⟩
    by_cases hji : j = i
    · subst hji; exact hy.qOp hi H
    · have h1 := (H.2 j (ready_mono hj hji)).2
      obtain ⟨hjun, oj, hoj, hall⟩ := mem_ready.1 hj
      have hnot : ∀ e ∈ oj.after, Region.binds md e = true → e.on ≠ i := fun e he hb heq => by
        have h1 := hall e he hb
        rw [heq, getD_both hun] at h1
        cases h1
      have h2 := qOp_put hoj (hfree j oj hoj hji hjun hnot) (fun cs b => hsel i oi cs b hi) (fun cs b => hsel j oj cs b hoj) hy h1
      have hfree' : ∀ k ok, ops[k]? = some ok → k ≠ i → (listed.setIfInBounds j true).getD k true = false →
          (∀ e ∈ ok.after, Region.binds md e = true → e.on ≠ i) → oi.apart ops ok = true := fun k ok hk hki hun hno => by
        refine hfree k ok hk hki ?_ hno
        by_cases hjk : j = k
        · subst hjk; exact hjun
        · rw [getD_set_ne true hjk] at hun; exact hun
      refine qOp_mono (fun a' h3 => ih (listed.setIfInBounds j true) a' (inv.set hj hjn) (hs.set j) hfree' (ready_mono hr (Ne.symm hji)) h3.1 ?_) h2
      rw [Array.setIfInBounds_comm _ _ hji]
      exact h3.2

theorem wpAnyQL_lex {n g : Nat} {Lq : Act → Prop} (hsel : Region.noSelect ops = true) (hc : Region.chainB md ops n = true) (hn : n < ops.size) :
    ∀ (l : List Oper) (k : Nat) (listed : Array Bool) (a : Act), (∀ j, j < l.length → l[j]? = ops[k + j]?) → k + l.length = n → HeadInv md ops n listed → SinkAt md ops n listed →
    Region.lexHead md ops g l.length k listed = true → wpQuiet P ops C Lq l a →
    wpAnyQL P md ops C n (fun listed' a' => Region.seqB md ops g n listed' = true ∧ Lq a') l.length listed a
  | [], k, listed, a, _, hk, _, _, hB, h => by
    have : k = n := by simpa using hk
    subst this
    exact ⟨by simpa [Region.lexHead] using hB, h⟩
  | o :: l, k, listed, a, hl, hk, inv, hs, hB, h => by
    have h0 : ops[k]? = some o := by simpa using (hl 0 (by simp)).symm
    simp only [List.length_cons, Region.lexHead, Bool.and_eq_true] at hB
    obtain ⟨⟨hr, hf⟩, hB'⟩ := hB
    have hkn : k < n := by simp only [List.length_cons] at hk; omega
    have hr' : k ∈ Region.ready md ops listed := by simpa using hr
    have hst : qOp P ops C k (wpQuiet P ops C Lq l) a := by unfold qOp; simp only [h0]; exact h
    obtain ⟨v, hy, hK⟩ := yieldsIn_of_qOp h0 hst
    exact wpAnyQL_first h0 (Region.noSelect_spec hsel) hc hn hkn (fun listed' a' hL => seqB_ready hL.1) l.length listed a inv hs (Region.free_spec h0 hf) hr' hy
      (wpAnyQL_lex hsel hc hn l (k + 1) _ _ (fun j hj => by have := hl (j + 1) (by simp; omega); simpa [Nat.add_assoc, Nat.add_comm 1 j] using this) (by simp only [List.length_cons] at hk; omega) (inv.set hr' hkn) (hs.set k) hB' hK)

theorem sinkAt_of {n : Nat} (h : Region.sinkB md ops n = true) (listed : Array Bool) : SinkAt md ops n listed := fun i hi _ => by
  obtain ⟨j, hj, hj2⟩ := List.any_eq_true.1 (List.all_eq_true.1 h i (List.mem_range.2 hi))
  simp only [Bool.and_eq_true, decide_eq_true_eq] at hj2
  exact ⟨j, List.mem_range.1 hj, hj2.1, hj2.2⟩
/-- The first n operations are quiet in the class; the others come in their order. -/
theorem wp_region_quiet_tail {id : Nat} {Q : Exit → Act → World → Prop} {a : Act} {w : World} {l : List Oper} (n : Nat) (hm : P.follows .mixedOrders = true) (hB : Region.lexTailB .any l.toArray n = true) (hC : C { w with drawn := w.drawn + 1 })
    (h : wpQuiet P l.toArray C (fun a' => ∀ w', C w' → wpList P l.toArray Q (l.drop n) a' w') (l.take n) a) : (Code.region id l.toArray true).wp P Q a w := by
  simp only [Region.lexTailB, Bool.and_eq_true, decide_eq_true_eq] at hB
  obtain ⟨⟨⟨⟨hsel, hn⟩, hs⟩, hc⟩, hlex⟩ := hB
  have hn' : n < l.length := by simpa using hn
  have htl : (l.take n).length = n := by simp; omega
  have hdl : (l.drop n).length = l.toArray.size - n := by simp
  have inv0 : HeadInv .any l.toArray n (Array.replicate l.toArray.size false) :=
    ⟨by simp, fun j oj _ hl => (by rw [getD_replicate_false] at hl; cases hl), fun t _ ht => getD_in (by simpa using ht) (getD_replicate_false _ _)⟩
  have H := wpAnyQL_lex (C := C) (md := .any) (g := l.toArray.size - n) hsel hc hn (l.take n) 0 _ a (fun j hj => by
    have hj' : j < n := by rw [htl] at hj; exact hj
    simp [hj']) (by simpa using htl) inv0 (sinkAt_of hs _) (by rw [htl]; exact hlex) h
  refine wp_region_any hm ?_
  have := wpAny_of_headQ (Q' := Q) (g := l.toArray.size - n) (fun listed a' w' hw' hL => by
    have := wpAny_of_seq (md := .any) (Q' := Q) (l.drop n) n listed a' w' (fun j => by simp [List.getElem?_drop]) (by rw [hdl]; exact hL.1) (hL.2 w' hw')
    rwa [hdl] at this) _ _ _ _ hC H
  rw [htl, show n + (l.toArray.size - n) = l.toArray.size by omega] at this
  exact this

/-! An operation that yields the same in every world may be taken ahead, whatever the others do to the world. -/

def OnlyN (Q : Exit → Act → World → Prop) : Exit → Act → World → Prop
  | .normal, a, w => Q .normal a w
  | .outgrown, a, w => Q .outgrown a w
  | _, _, _ => False
theorem OnlyN_normal (Q : Exit → Act → World → Prop) (a : Act) (w : World) : OnlyN Q .normal a w = Q .normal a w := rfl
theorem OnlyN.to {Q : Exit → Act → World → Prop} : ∀ (x : Exit) (a : Act) (w : World), OnlyN Q x a w → Q x a w
  | .normal, _, _, h => h
  | .outgrown, _, _, h => h
  | .exit _, _, _, h => h.elim
  | .goto _, _, _, h => h.elim
  | .ret, _, _, h => h.elim
  | .panic _, _, _, h => h.elim
theorem letsOut_mono {Q Q' : Exit → Act → World → Prop} (h : ∀ x a w, Q x a w → Q' x a w) (hh : LetsOut Q) : LetsOut Q' :=
  let ⟨a, w, h1⟩ := hh
  ⟨a, w, h _ _ _ h1⟩
theorem upon_exit {Q Q' : Exit → Act → World → Prop} (h : ∀ x a w, Q x a w → Q' x a w) {o : Oper} {a : Act} {K : Act → World → Prop} {r : Result Next} (hh : o.upon P a K Q r) : o.upon P a K Q' r := by
  cases r with
  | ok n w' =>
    cases n with
    | enter f args =>
      refine Calls.mono (R := fun e w'' => match e, w'' with
        | .returned v, w'' => K (a.put o.dst v) w''
        | .panicked chain, w'' => Q (.panic chain) a w''
        | .outgrown, _ => LetsOut Q) hh ?_
      intro e w'' he
      cases e with
      | returned v => exact he
      | panicked c => exact h _ _ _ he
      | outgrown => exact letsOut_mono h he
    | _ => exact hh
  | halt x w' =>
    cases x with
    | panic v => exact h _ _ _ hh
    | _ => exact hh
theorem wpOp_exit {Q Q' : Exit → Act → World → Prop} (h : ∀ x a w, Q x a w → Q' x a w) {i : Nat} {K : Act → World → Prop} {a : Act} {w : World} (hh : wpOp P ops Q i K a w) : wpOp P ops Q' i K a w := by
  unfold wpOp at *
  split
  · simpa [*] using hh
  · rename_i o ho
    simp only [ho] at hh
    split
    · rename_i hw; simp only [hw, if_true] at hh
      exact hh.imp (fun h1 => upon_exit h h1) (fun h1 => ⟨h1.1, letsOut_mono h h1.2⟩)
    · rename_i hw; simp only [hw] at hh; exact hh
theorem wpAny_exit {Q Q' : Exit → Act → World → Prop} (h : ∀ x a w, Q x a w → Q' x a w) : ∀ (f : Nat) (listed : Array Bool) (a : Act) (w : World), wpAny P md ops Q f listed a w → wpAny P md ops Q' f listed a w
  | 0, _, _, _, hh => ⟨hh.1, h _ _ _ hh.2⟩
  | f + 1, _, _, _, hh => ⟨fun h0 => h _ _ _ (hh.1 h0), fun i hi => wpOp_mono (fun a' w' h' => wpAny_exit h f _ a' w' h') (wpOp_exit h (hh.2 i hi))⟩

theorem upon_put {Q : Exit → Act → World → Prop} {oi oj : Oper} {v : Value} {K : Act → World → Prop} {a : Act} {r : Result Next} (h2 : ∀ d, oi.dst = some d → oj.dst ≠ some d)
    (h : oj.upon P (a.put oi.dst v) K (OnlyN Q) r) : oj.upon P a (fun a' w' => K (a'.put oi.dst v) w') (OnlyN Q) r := by
  have hc : ∀ u, (a.put oi.dst v).put oj.dst u = (a.put oj.dst u).put oi.dst v := fun u => Act.put_comm a v u h2
  cases r with
  | ok n w' =>
    cases n with
    | value u => show K _ _; rw [← hc]; exact h
    | skip => show K _ _; rw [← hc]; exact h
    | defer d =>
      show K _ _
      have h' : K (({ (a.put oi.dst v) with defers := d :: (a.put oi.dst v).defers } : Act).put oj.dst undef) w' := h
      have e : (({ (a.put oi.dst v) with defers := d :: (a.put oi.dst v).defers } : Act).put oj.dst undef) = (({ a with defers := d :: a.defers } : Act).put oj.dst undef).put oi.dst v := by
        have e0 : ({ (a.put oi.dst v) with defers := d :: (a.put oi.dst v).defers } : Act) = ({ a with defers := d :: a.defers } : Act).put oi.dst v := by
          cases hd : oi.dst <;> rfl
        rw [e0]
        exact Act.put_comm _ v undef h2
      rw [← e]
      exact h'
    | enter f args =>
      refine Calls.mono (R := fun e w'' => match e, w'' with
        | .returned u, w'' => K ((a.put oi.dst v).put oj.dst u) w''
        | .panicked chain, w'' => OnlyN Q (.panic chain) (a.put oi.dst v) w''
        | .outgrown, _ => LetsOut (OnlyN Q)) h ?_
      intro e w'' he
      cases e with
      | returned u => show K _ _; rw [← hc]; exact he
      | panicked c => exact he.elim
      | outgrown => exact he
    | row row args =>
      have h' : Rows P row args w' fun u w'' => K ((a.put oi.dst v).put oj.dst u) w'' := h
      show Rows P row args w' fun u w'' => K ((a.put oj.dst u).put oi.dst v) w''
      have e : (fun u w'' => K ((a.put oj.dst u).put oi.dst v) w'') = fun u w'' => K ((a.put oi.dst v).put oj.dst u) w'' := by funext u w''; rw [hc]
      rw [e]
      exact h'
    | _ => exact h
  | halt x w' =>
    cases x with
    | panic u => exact h.elim
    | _ => exact h

/-- One operation 'oj' of any kind, apart from 'oi': whether 'oi''s value is already in its temporary makes no difference to it. -/
theorem wpOp_put {j : Nat} {Q : Exit → Act → World → Prop} {oi oj : Oper} {v : Value} (hj : ops[j]? = some oj) (hap : oi.apart ops oj = true) (hsj : ∀ cs b, oj.op ≠ .select cs b) {K : Act → World → Prop} {a : Act} {w : World}
    (h : wpOp P ops (OnlyN Q) j K (a.put oi.dst v) w) : wpOp P ops (OnlyN Q) j (fun a' w' => K (a'.put oi.dst v) w') a w := by
  obtain ⟨h1, h2, h3⟩ := Oper.apart_spec hap
  unfold wpOp at *
  simp only [hj] at *
  rw [wanted_put oj a oi.dst v h1] at h
  split
  · rename_i hw
    simp only [hw, if_true] at h
    refine h.imp (fun h => ?_) (fun h => ?_)
    · unfold Oper.wp at *
      rw [execOp_put oj hsj a oi.dst v h1] at h
      exact upon_put h2 h
    · unfold Oper.asks at *
      rw [execOp_put oj hsj a oi.dst v h1] at h
      exact h
  · rename_i hw
    simp only [hw] at h
    show K _ _
    rw [← Act.put_comm a v undef h2]
    exact h

/-- It yields this, in every world, and leaves the world as it is. -/
def PureAt (P : Program) (ops : Array Oper) (o : Oper) (v : Value) (a : Act) : Prop :=
  (Region.wanted o (yielded ops a.tmps) = true ∧ ∀ w, (execOp a.eval o).run P w = .ok (.value v) w) ∨ (Region.wanted o (yielded ops a.tmps) = false ∧ v = undef)
theorem PureAt.keep {oi oj : Oper} {v : Value} (hap : oi.apart ops oj = true) (hsi : ∀ cs b, oi.op ≠ .select cs b) {a : Act} (hy : PureAt P ops oi v a) (u : Value) : PureAt P ops oi v (a.put oj.dst u) := by
  obtain ⟨_, _, h3⟩ := Oper.apart_spec hap
  unfold PureAt at *
  rw [execOp_put oi hsi a oj.dst u h3, wanted_put oi a oj.dst u h3]
  exact hy
theorem PureAt.keepD {oi oj : Oper} {v : Value} (hap : oi.apart ops oj = true) (hsi : ∀ cs b, oi.op ≠ .select cs b) {a : Act} (hy : PureAt P ops oi v a) (d : Deferred) : PureAt P ops oi v (({ a with defers := d :: a.defers } : Act).put oj.dst undef) := by
  obtain ⟨_, _, h3⟩ := Oper.apart_spec hap
  have hy' : PureAt P ops oi v ({ a with defers := d :: a.defers } : Act) := hy
  exact PureAt.keep hap hsi hy' undef
theorem PureAt.wpOp {i : Nat} {Q : Exit → Act → World → Prop} {o : Oper} {v : Value} {a : Act} {w : World} {K : Act → World → Prop} (hi : ops[i]? = some o) (hy : PureAt P ops o v a) (h : K (a.put o.dst v) w) : wpOp P ops Q i K a w := by
  unfold Go.wpOp
  simp only [hi]
  rcases hy with ⟨hw, hr⟩ | ⟨hw, rfl⟩
  · simp only [hw, if_true]
    left
    unfold Oper.wp
    rw [hr w]
    exact h
  · simp only [hw, Bool.false_eq_true, if_false]
    exact h
theorem upon_and {Q : Exit → Act → World → Prop} {o : Oper} {a : Act} {K : Act → World → Prop} {F : Act → Prop} (hF : ∀ u, F (a.put o.dst u)) (hD : ∀ d, F (({ a with defers := d :: a.defers } : Act).put o.dst undef)) {r : Result Next} (h : o.upon P a K Q r) :
    o.upon P a (fun a' w' => F a' ∧ K a' w') Q r := by
  cases r with
  | ok n w' =>
    cases n with
    | value u => exact ⟨hF u, h⟩
    | skip => exact ⟨hF _, h⟩
    | defer d => exact ⟨hD d, h⟩
    | enter f args =>
      refine Calls.mono (R := fun e w'' => match e, w'' with
        | .returned u, w'' => K (a.put o.dst u) w''
        | .panicked chain, w'' => Q (.panic chain) a w''
        | .outgrown, _ => LetsOut Q) h ?_
      intro e w'' he
      cases e with
      | returned u => exact ⟨hF u, he⟩
      | panicked c => exact he
      | outgrown => exact he
    | row row args =>
      have h' : Rows P row args w' fun u w'' => K (a.put o.dst u) w'' := h
      exact h'.mono fun u w'' hk => ⟨hF u, hk⟩
    | _ => exact h
  | halt x w' =>
    cases x with
    | panic u => exact h
    | _ => exact h
theorem wpOp_and {j : Nat} {Q : Exit → Act → World → Prop} {oj : Oper} (hj : ops[j]? = some oj) {K : Act → World → Prop} {F : Act → Prop} {a : Act} {w : World} (hF : ∀ u, F (a.put oj.dst u)) (hD : ∀ d, F (({ a with defers := d :: a.defers } : Act).put oj.dst undef))
    (h : wpOp P ops Q j K a w) : wpOp P ops Q j (fun a' w' => F a' ∧ K a' w') a w := by
  unfold wpOp at *
  simp only [hj] at *
  split
  · rename_i hw
    simp only [hw, if_true] at h
    exact h.imp (fun h => upon_and hF hD h) id
  · rename_i hw
    simp only [hw] at h
    exact ⟨hF _, h⟩

/-- AN OPERATION THAT YIELDS THE SAME IN EVERY WORLD MAY BE TAKEN FIRST, if all that is pending waits for it or is apart from it. -/
theorem wpAny_hoist {i : Nat} {oi : Oper} {v : Value} {Q : Exit → Act → World → Prop} (hi : ops[i]? = some oi) (hsel : ∀ (j : Nat) (o : Oper) cs b, ops[j]? = some o → o.op ≠ .select cs b) :
    ∀ (f : Nat) (listed : Array Bool) (a : Act) (w : World),
      (∀ j oj, ops[j]? = some oj → j ≠ i → listed.getD j true = false → (∀ e ∈ oj.after, Region.binds md e = true → e.on ≠ i) → oi.apart ops oj = true) →
      i ∈ Region.ready md ops listed → PureAt P ops oi v a →
      wpAny P md ops (OnlyN Q) f (listed.setIfInBounds i true) (a.put oi.dst v) w → wpAny P md ops (OnlyN Q) (f + 1) listed a w := by
  intro f
  induction f with
  | zero =>
    intro listed a w _ hr hy H
    refine ⟨fun h => (by rw [h] at hr; cases hr), fun j hj => ?_⟩
    by_cases hji : j = i
    · subst hji; exact hy.wpOp hi H
    · have := ready_mono hj hji
      rw [H.1] at this
      cases this
  | succ f ih =>
    intro listed a w hfree hr hy H
    refine ⟨fun h => (by rw [h] at hr; cases hr), fun j hj => ?_⟩
    by_cases hji : j = i
    · subst hji; exact hy.wpOp hi H
    · have h1 := H.2 j (ready_mono hj hji)
      obtain ⟨hjun, oj, hoj, hall⟩ := mem_ready.1 hj
      have hnot : ∀ e ∈ oj.after, Region.binds md e = true → e.on ≠ i := fun e he hb heq => by
        have h1 := hall e he hb
        have h0 := (mem_ready.1 hr).1
        rw [heq, getD_both h0] at h1
        cases h1
      have hap := hfree j oj hoj hji hjun hnot
      have h2 := wpOp_put hoj hap (fun cs b => hsel j oj cs b hoj) h1
      have h3 := wpOp_and hoj (F := fun a' => PureAt P ops oi v a') (fun u => hy.keep hap (fun cs b => hsel i oi cs b hi) u) (fun d => hy.keepD hap (fun cs b => hsel i oi cs b hi) d) h2
      have hfree' : ∀ k ok, ops[k]? = some ok → k ≠ i → (listed.setIfInBounds j true).getD k true = false →
          (∀ e ∈ ok.after, Region.binds md e = true → e.on ≠ i) → oi.apart ops ok = true := fun k ok hk hki hun hno => by
        refine hfree k ok hk hki ?_ hno
        by_cases hjk : j = k
        · subst hjk; exact hjun
        · rw [getD_set_ne true hjk] at hun; exact hun
      refine wpOp_mono (fun a' w' h4 => ih (listed.setIfInBounds j true) a' w' hfree' (ready_mono hr (Ne.symm hji)) h4.1 ?_) h3
      rw [Array.setIfInBounds_comm _ _ hji]
      exact h4.2

def sinkL (md : Region.Mode) (ops : Array Oper) (n : Nat) : Bool :=
  (List.range n).all fun i => i == 0 || (List.range (n + 1)).any fun j => decide (i < j) && Region.waitsFor md ops j i
/-- The first operation is taken ahead; those up to n are quiet; the others come in their order. -/
def lexTail1 (md : Region.Mode) (ops : Array Oper) (n : Nat) : Bool :=
  Region.noSelect ops && decide (0 < n) && decide (n < ops.size) && sinkL md ops n && Region.chainB md ops n && (Region.ready md ops (Array.replicate ops.size false)).contains 0 && Region.free md ops (Array.replicate ops.size false) 0 &&
    Region.lexHead md ops (ops.size - n) (n - 1) 1 ((Array.replicate ops.size false).setIfInBounds 0 true)

theorem wp_region_hoist_tail {id : Nat} {Q : Exit → Act → World → Prop} {a : Act} {w : World} {o0 : Oper} {l : List Oper} {v : Value} (n : Nat) (hm : P.follows .mixedOrders = true) (hB : lexTail1 .any (o0 :: l).toArray (n + 1) = true) (hC : C { w with drawn := w.drawn + 1 })
    (h0 : PureAt P (o0 :: l).toArray o0 v a)
    (h : wpQuiet P (o0 :: l).toArray C (fun a' => ∀ w', C w' → wpList P (o0 :: l).toArray (OnlyN Q) (l.drop n) a' w') (l.take n) (a.put o0.dst v)) : (Code.region id (o0 :: l).toArray true).wp P Q a w := by
  simp only [lexTail1, Bool.and_eq_true, decide_eq_true_eq] at hB
  obtain ⟨⟨⟨⟨⟨⟨⟨hsel, _⟩, hn⟩, hs⟩, hc⟩, hr0⟩, hf0⟩, hlex⟩ := hB
  have hn' : n < l.length := by simpa using hn
  have htl : (l.take n).length = n := by simp; omega
  have hsz : (o0 :: l).toArray.size = l.length + 1 := by simp
  have hdl : (l.drop n).length = (o0 :: l).toArray.size - (n + 1) := by rw [hsz]; simp
  have hr : 0 ∈ Region.ready .any (o0 :: l).toArray (Array.replicate (o0 :: l).toArray.size false) := by simpa using hr0
  have inv0 : HeadInv .any (o0 :: l).toArray (n + 1) (Array.replicate (o0 :: l).toArray.size false) :=
    ⟨by simp, fun j oj _ hl => (by rw [getD_replicate_false] at hl; cases hl), fun t _ ht => getD_in (by simpa using ht) (getD_replicate_false _ _)⟩
  have inv1 := inv0.set hr (by omega)
  have hs1 : SinkAt .any (o0 :: l).toArray (n + 1) ((Array.replicate (o0 :: l).toArray.size false).setIfInBounds 0 true) := fun i hi hu => by
    have h1 := List.all_eq_true.1 hs i (List.mem_range.2 hi)
    simp only [Bool.or_eq_true, beq_iff_eq] at h1
    rcases h1 with rfl | h1
    · rw [Array.getD_eq_getD_getElem?, Array.getElem?_setIfInBounds, if_pos rfl, if_pos (by simp)] at hu
      cases hu
    · obtain ⟨j, hj, hj2⟩ := List.any_eq_true.1 h1
      simp only [Bool.and_eq_true, decide_eq_true_eq] at hj2
      exact ⟨j, List.mem_range.1 hj, hj2.1, hj2.2⟩
  have H := wpAnyQL_lex (C := C) (md := .any) (ops := (o0 :: l).toArray) (n := n + 1) (g := (o0 :: l).toArray.size - (n + 1)) hsel hc hn (l.take n) 1 _ (a.put o0.dst v) (fun j hj => by
    have hj' : j < n := by rw [htl] at hj; exact hj
    simp [hj', Nat.add_comm 1 j]) (by rw [htl]; omega) inv1 hs1 (by rw [htl]; exact hlex) h
  have H2 := wpAny_of_headQ (Q' := OnlyN Q) (g := (o0 :: l).toArray.size - (n + 1)) (fun listed a' w' hw' hL => by
    have := wpAny_of_seq (md := .any) (Q' := OnlyN Q) (ops := (o0 :: l).toArray) (l.drop n) (n + 1) listed a' w' (fun j => by rw [List.getElem?_drop, List.getElem?_toArray, show n + 1 + j = (n + j) + 1 by omega]; rfl) (by rw [hdl]; exact hL.1) (hL.2 w' hw')
    rwa [hdl] at this) _ _ _ _ hC H
  have H3 := wpAny_hoist (i := 0) (oi := o0) (by simp) (Region.noSelect_spec hsel) _ _ _ _ (Region.free_spec (by simp) hf0) hr h0 H2
  refine wp_region_any hm (wpAny_exit OnlyN.to _ _ _ _ ?_)
  rw [htl, show n + ((o0 :: l).toArray.size - (n + 1)) + 1 = (o0 :: l).toArray.size by rw [hsz]; omega] at H3
  exact H3

/-- The same, the first operation a move, walked with the others. -/
theorem wp_region_ext_hoist {id : Nat} {Q : Exit → Act → World → Prop} {a : Act} {w : World} {o0 : Oper} {l : List Oper} {x : Operand} (n : Nat) (hm : P.follows .mixedOrders = true) (hB : lexTail1 .any (o0 :: l).toArray (n + 1) = true)
    (hmv : o0.op = .move x) (hw : ∀ Y, Region.wanted o0 Y = true)
    (h : wpQuiet P (o0 :: l).toArray (fun w' => ∃ x : ExtOf w, w' = x.w) (fun a' => ∀ w', (∃ x : ExtOf w, w' = x.w) → wpList P (o0 :: l).toArray (OnlyN Q) ((o0 :: l).drop (n + 1)) a' w') ((o0 :: l).take (n + 1)) a) : (Code.region id (o0 :: l).toArray true).wp P Q a w := by
  rw [List.take_succ_cons, List.drop_succ_cons] at h
  unfold wpQuiet at h
  rw [if_pos (hw _)] at h
  obtain ⟨v, hv, h⟩ := h
  have h1 := hv w ⟨⟨w, Below.refl _ _⟩, rfl⟩
  unfold Oper.quietAt at h1
  have hr : ∀ w, (execOp a.eval o0).run P w = .ok (.value (a.eval x)) w := fun w => by
    unfold execOp
    rw [hmv]
    rfl
  rw [hr w] at h1
  obtain ⟨_, rfl⟩ := h1
  exact wp_region_hoist_tail (C := fun w' => ∃ x : ExtOf w, w' = x.w) n hm hB ⟨⟨w.drew, (Below.refl _ _).drew⟩, rfl⟩ (.inl ⟨hw _, hr⟩) h

/-- The same at the class of the worlds that only grew. -/
theorem wp_region_ext_tail {id : Nat} {Q : Exit → Act → World → Prop} {a : Act} {w : World} {l : List Oper} (n : Nat) (hm : P.follows .mixedOrders = true) (hB : Region.lexTailB .any l.toArray n = true)
    (h : wpQuiet P l.toArray (fun w' => ∃ x : ExtOf w, w' = x.w) (fun a' => ∀ w', (∃ x : ExtOf w, w' = x.w) → wpList P l.toArray Q (l.drop n) a' w') (l.take n) a) : (Code.region id l.toArray true).wp P Q a w :=
  wp_region_quiet_tail (C := fun w' => ∃ x : ExtOf w, w' = x.w) n hm hB ⟨⟨w.drew, (Below.refl _ _).drew⟩, rfl⟩ h
end
end Go.Proofs.Ytfkfpppiikgjbaa
