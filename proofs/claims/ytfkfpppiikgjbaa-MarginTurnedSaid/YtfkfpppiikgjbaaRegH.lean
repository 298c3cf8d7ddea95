/- A region that draws its order: some moves are taken ahead, then other operations in a class of worlds, its tail in a forced order. Over any program. -/
import Derived.Test.YtfkfpppiikgjbaaRegT
namespace Go.Proofs.Ytfkfpppiikgjbaa
open Go Go.RowKit

section
variable {P : Program} {ops : Array Oper} {md : Region.Mode} {C : World → Prop}

def isMv (o : Oper) : Bool := match o.op, o.guard with
  | .move _, none => true
  | _, _ => false
theorem isMv_spec {o : Oper} (h : isMv o = true) : ∃ x, o.op = .move x ∧ o.guard = none := by
  unfold isMv at h
  split at h
  · rename_i h1 h2; exact ⟨_, h1, h2⟩
  · cases h
theorem move_run {o : Oper} {x : Operand} (h : o.op = .move x) (a : Act) (w : World) : (execOp a.eval o).run P w = .ok (.value (a.eval x)) w := by
  unfold execOp
  rw [h]
  rfl
theorem wanted_none {o : Oper} (h : o.guard = none) (Y : Nat → Option Bool) : Region.wanted o Y = true := by
  unfold Region.wanted
  rw [h]

def setAll : List Nat → Array Bool → Array Bool
  | [], L => L
  | i :: hs, L => setAll hs (L.setIfInBounds i true)
def hoistB (md : Region.Mode) (ops : Array Oper) (n : Nat) : List Nat → Array Bool → Bool
  | [], _ => true
  | i :: hs, L => decide (i < n) && (Region.ready md ops L).contains i && Region.free md ops L i && (match ops[i]? with | some o => isMv o | none => false) && hoistB md ops n hs (L.setIfInBounds i true)
def idxHead (md : Region.Mode) (ops : Array Oper) (g n : Nat) : List Nat → Array Bool → Bool
  | [], L => Region.seqB md ops g n L
  | k :: ks, L => decide (k < n) && (Region.ready md ops L).contains k && Region.free md ops L k && idxHead md ops g n ks (L.setIfInBounds k true)
def opsAt (ops : Array Oper) : List Nat → List Oper
  | [] => []
  | k :: ks => match ops[k]? with
    | some o => o :: opsAt ops ks
    | none => []

theorem wpAnyQL_idx {n g : Nat} {Lq : Act → Prop} (hsel : Region.noSelect ops = true) (hc : Region.chainB md ops n = true) (hn : n < ops.size) :
    ∀ (ks : List Nat) (listed : Array Bool) (a : Act), HeadInv md ops n listed → SinkAt md ops n listed → idxHead md ops g n ks listed = true → wpQuiet P ops C Lq (opsAt ops ks) a →
    wpAnyQL P md ops C n (fun listed' a' => Region.seqB md ops g n listed' = true ∧ Lq a') ks.length listed a
  | [], listed, a, _, _, hB, h => ⟨by simpa [idxHead] using hB, h⟩
  | k :: ks, listed, a, inv, hs, hB, h => by
    simp only [idxHead, Bool.and_eq_true, decide_eq_true_eq] at hB
    obtain ⟨⟨⟨hkn, hr⟩, hf⟩, hB'⟩ := hB
    obtain ⟨o, h0⟩ : ∃ o, ops[k]? = some o := ⟨ops[k], Array.getElem?_eq_getElem (by omega)⟩
    have hr' : k ∈ Region.ready md ops listed := by simpa using hr
    unfold opsAt at h
    rw [h0] at h
    have hst : qOp P ops C k (wpQuiet P ops C Lq (opsAt ops ks)) a := by unfold qOp; simp only [h0]; exact h
    obtain ⟨v, hy, hK⟩ := yieldsIn_of_qOp h0 hst
    exact wpAnyQL_first h0 (Region.noSelect_spec hsel) hc hn hkn (fun listed' a' hL => seqB_ready hL.1) ks.length listed a inv hs (Region.free_spec h0 hf) hr' hy
      (wpAnyQL_idx hsel hc hn ks _ _ (inv.set hr' hkn) (hs.set k) hB' hK)

theorem hoist_all {n : Nat} {Q : Exit → Act → World → Prop} {Lq : Act → Prop} {w : World} (hsel : Region.noSelect ops = true) (hC : ∃ w, C w) (f : Nat) :
    ∀ (hs : List Nat) (listed : Array Bool) (a : Act), HeadInv md ops n listed → hoistB md ops n hs listed = true → wpQuiet P ops C Lq (opsAt ops hs) a →
    (∀ a', HeadInv md ops n (setAll hs listed) → Lq a' → wpAny P md ops (OnlyN Q) f (setAll hs listed) a' w) → wpAny P md ops (OnlyN Q) (f + hs.length) listed a w
  | [], listed, a, inv, _, h, H => H a inv (by simpa [opsAt, wpQuiet] using h)
  | i :: hs, listed, a, inv, hB, h, H => by
    simp only [hoistB, Bool.and_eq_true, decide_eq_true_eq] at hB
    obtain ⟨⟨⟨⟨hin, hr⟩, hf⟩, hm⟩, hB'⟩ := hB
    unfold opsAt at h
    cases h0 : ops[i]? with
    | none => rw [h0] at hm; cases hm
    | some o =>
      rw [h0] at hm h
      obtain ⟨x, hx, hg⟩ := isMv_spec hm
      have hr' : i ∈ Region.ready md ops listed := by simpa using hr
      simp only [] at h
      unfold wpQuiet at h
      rw [if_pos (wanted_none hg _)] at h
      obtain ⟨v, hv, h⟩ := h
      obtain ⟨w0, hw0⟩ := hC
      have h1 := hv w0 hw0
      unfold Oper.quietAt at h1
      rw [move_run hx a w0] at h1
      obtain ⟨_, rfl⟩ := h1
      have := hoist_all (w := w) hsel ⟨w0, hw0⟩ f hs _ _ (inv.set hr' hin) hB' h H
      exact wpAny_hoist h0 (Region.noSelect_spec hsel) _ _ _ _ (Region.free_spec h0 hf) hr' (.inl ⟨wanted_none hg _, move_run hx a⟩) this

/-- hs: the moves that are taken ahead; ks: the quiet ones behind them; from n on the tail. -/
def idxB (md : Region.Mode) (ops : Array Oper) (hs ks : List Nat) (n : Nat) : Bool :=
  Region.noSelect ops && decide (n < ops.size) && decide (hs.length + ks.length = n) && Region.chainB md ops n && hoistB md ops n hs (Array.replicate ops.size false) &&
    ((List.range n).all fun i => (setAll hs (Array.replicate ops.size false)).getD i true || (List.range (n + 1)).any fun j => decide (i < j) && Region.waitsFor md ops j i) &&
    idxHead md ops (ops.size - n) n ks (setAll hs (Array.replicate ops.size false))

theorem wpQuiet_append {K : Act → Prop} : ∀ (l1 l2 : List Oper) (a : Act), wpQuiet P ops C K (l1 ++ l2) a → wpQuiet P ops C (fun a' => wpQuiet P ops C K l2 a') l1 a
  | [], l2, a, h => by simpa [wpQuiet] using h
  | o :: l1, l2, a, h => by
    rw [List.cons_append] at h
    unfold wpQuiet at h ⊢
    split
    · rename_i hw
      rw [if_pos hw] at h
      obtain ⟨v, hv, h⟩ := h
      exact ⟨v, hv, wpQuiet_append l1 l2 _ h⟩
    · rename_i hw
      rw [if_neg hw] at h
      exact wpQuiet_append l1 l2 _ h

theorem wp_region_idx {id : Nat} {Q : Exit → Act → World → Prop} {a : Act} {w : World} {l : List Oper} (hs ks : List Nat) (n : Nat) (hm : P.follows .mixedOrders = true) (hB : idxB .any l.toArray hs ks n = true) (hC : C { w with drawn := w.drawn + 1 })
    (h : wpQuiet P l.toArray C (fun a' => ∀ w', C w' → wpList P l.toArray (OnlyN Q) (l.drop n) a' w') (opsAt l.toArray hs ++ opsAt l.toArray ks) a) : (Code.region id l.toArray true).wp P Q a w := by
  simp only [idxB, Bool.and_eq_true, decide_eq_true_eq] at hB
  obtain ⟨⟨⟨⟨⟨⟨hsel, hn⟩, hlen⟩, hc⟩, hho⟩, hsk⟩, hix⟩ := hB
  have hdl : (l.drop n).length = l.toArray.size - n := by simp
  have inv0 : HeadInv .any l.toArray n (Array.replicate l.toArray.size false) :=
    ⟨by simp, fun j oj _ hl => (by rw [getD_replicate_false] at hl; cases hl), fun t _ ht => getD_in (by simpa using ht) (getD_replicate_false _ _)⟩
  have hs1 : SinkAt .any l.toArray n (setAll hs (Array.replicate l.toArray.size false)) := fun i hi hu => by
    have h1 := List.all_eq_true.1 hsk i (List.mem_range.2 hi)
    rw [hu, Bool.false_or] at h1
    obtain ⟨j, hj, hj2⟩ := List.any_eq_true.1 h1
    simp only [Bool.and_eq_true, decide_eq_true_eq] at hj2
    exact ⟨j, List.mem_range.1 hj, hj2.1, hj2.2⟩
  refine wp_region_any hm (wpAny_exit OnlyN.to _ _ _ _ ?_)
  have H := hoist_all (P := P) (Q := Q) (C := C) (w := { w with drawn := w.drawn + 1 }) hsel ⟨_, hC⟩ (ks.length + (l.toArray.size - n)) hs _ a inv0 hho (wpQuiet_append _ _ _ h) (fun a' inv' hq => by
    have H1 := wpAnyQL_idx (C := C) (md := .any) (g := l.toArray.size - n) hsel hc hn ks _ a' inv' hs1 hix hq
    exact wpAny_of_headQ (Q' := OnlyN Q) (g := l.toArray.size - n) (fun listed a' w' hw' hL => by
      have := wpAny_of_seq (md := .any) (Q' := OnlyN Q) (l.drop n) n listed a' w' (fun j => by simp [List.getElem?_drop]) (by rw [hdl]; exact hL.1) (hL.2 w' hw')
      rwa [hdl] at this) _ _ _ _ hC H1)
  rw [show ks.length + (l.toArray.size - n) + hs.length = l.toArray.size by omega] at H
  exact H

theorem wp_region_ext_idx {id : Nat} {Q : Exit → Act → World → Prop} {a : Act} {w : World} {l : List Oper} (hs ks : List Nat) (n : Nat) (hm : P.follows .mixedOrders = true) (hB : idxB .any l.toArray hs ks n = true)
    (h : wpQuiet P l.toArray (fun w' => ∃ x : ExtOf w, w' = x.w) (fun a' => ∀ w', (∃ x : ExtOf w, w' = x.w) → wpList P l.toArray (OnlyN Q) (l.drop n) a' w') (opsAt l.toArray hs ++ opsAt l.toArray ks) a) : (Code.region id l.toArray true).wp P Q a w :=
  wp_region_idx (C := fun w' => ∃ x : ExtOf w, w' = x.w) hs ks n hm hB ⟨⟨w.drew, (Below.refl _ _).drew⟩, rfl⟩ h
end
end Go.Proofs.Ytfkfpppiikgjbaa
