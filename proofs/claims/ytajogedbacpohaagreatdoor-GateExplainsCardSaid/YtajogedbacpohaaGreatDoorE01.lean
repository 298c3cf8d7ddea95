/- Part 2 of what the claim rests on. -/
import Derived.Test.YtajogedbacpohaaGreatDoorE00
import Derived.Laws.CopyOwn
import Derived.Maps.AppendAt
set_option linter.unusedVariables false
set_option linter.unusedSimpArgs false
set_option maxRecDepth 1000000
set_option maxHeartbeats 32000000
namespace Go.Proofs.YtajogedbacpohaaGreatDoor
section
open Go Go.RowKit
section
variable {P : Program} {ops : Array Oper} {md : Region.Mode} {C : World → Prop}
def PureC (P : Program) (ops : Array Oper) (C : World → Prop) (o : Oper) (v : Value) (a : Act) : Prop :=
 (Region.wanted o (yielded ops a.tmps) = true ∧ ∀ w, C w → (execOp a.eval o).run P w = .ok (.value v) w) ∨ (Region.wanted o (yielded ops a.tmps) = false ∧ v = undef)
theorem PureC.keep {oi oj : Oper} {v : Value} (hap : oi.apart ops oj = true) (hsi : ∀ cs b, oi.op ≠ .select cs b) {a : Act} (hy : PureC P ops C oi v a) (u : Value) : PureC P ops C oi v (a.put oj.dst u) := by
 obtain ⟨_, _, h3⟩ := Oper.apart_spec hap;unfold PureC at *;rw [execOp_put oi hsi a oj.dst u h3, wanted_put oi a oj.dst u h3];exact hy
theorem PureC.keepD {oi oj : Oper} {v : Value} (hap : oi.apart ops oj = true) (hsi : ∀ cs b, oi.op ≠ .select cs b) {a : Act} (hy : PureC P ops C oi v a) (d : Deferred) : PureC P ops C oi v (({ a with defers := d :: a.defers } : Act).put oj.dst undef) := by
 obtain ⟨_, _, h3⟩ := Oper.apart_spec hap;have hy' : PureC P ops C oi v ({ a with defers := d :: a.defers } : Act) := hy
 exact PureC.keep hap hsi hy' undef
theorem PureC.wpOp {i : Nat} {Q : Exit → Act → World → Prop} {o : Oper} {v : Value} {a : Act} {w : World} {K : Act → World → Prop} (hi : ops[i]? = some o) (hw : C w) (hy : PureC P ops C o v a) (h : K (a.put o.dst v) w) : wpOp P ops Q i K a w := by
 unfold Go.wpOp;simp only [hi];rcases hy with ⟨hwd, hr⟩ | ⟨hwd, rfl⟩
 ·simp only [hwd, if_true]
  left
  unfold Oper.wp;rw [hr w hw];exact h
 ·simp only [hwd, Bool.false_eq_true, if_false]
  exact h
def wpAnyC (P : Program) (md : Region.Mode) (ops : Array Oper) (C : World → Prop) (Q : Exit → Act → World → Prop) : Nat → Array Bool → Act → World → Prop
 | 0, listed, a, w => Region.ready md ops listed = [] ∧ Q .normal a w
 | f + 1, listed, a, w =>
  (Region.ready md ops listed = [] → Q .normal a w) ∧
  ∀ i ∈ Region.ready md ops listed, wpOp P ops Q i (fun a' w' => C w' ∧ wpAnyC P md ops C Q f (listed.setIfInBounds i true) a' w') a w
theorem zz6g {Q : Exit → Act → World → Prop} : ∀ (f : Nat) (listed : Array Bool) (a : Act) (w : World), wpAnyC P md ops C Q f listed a w → wpAny P md ops Q f listed a w
 | 0, _, _, _, h => h
 | f + 1, _, _, _, h => ⟨h.1, fun i hi => wpOp_mono (fun a' w' h' => zz6g f _ a' w' h'.2) (h.2 i hi)⟩
theorem zz7g {i : Nat} {oi : Oper} {v : Value} {Q : Exit → Act → World → Prop} (hi : ops[i]? = some oi) (hsel : ∀ (j : Nat) (o : Oper) cs b, ops[j]? = some o → o.op ≠ .select cs b) :
  ∀ (f : Nat) (listed : Array Bool) (a : Act) (w : World), C w →
   (∀ j oj, ops[j]? = some oj → j ≠ i → listed.getD j true = false → (∀ e ∈ oj.after, Region.binds md e = true → e.on ≠ i) → oi.apart ops oj = true) →
   i ∈ Region.ready md ops listed → PureC P ops C oi v a →
   wpAnyC P md ops C (OnlyN Q) f (listed.setIfInBounds i true) (a.put oi.dst v) w → wpAnyC P md ops C (OnlyN Q) (f + 1) listed a w := by
 intro f;induction f with
 | zero =>
  intro listed a w hw _ hr hy H;refine ⟨fun h => (by rw [h] at hr; cases hr), fun j hj => ?_⟩
  by_cases hji : j = i
  ·subst hji; exact hy.wpOp hi hw ⟨hw, H⟩
  ·have := ready_mono hj hji
   rw [H.1] at this;cases this
 | succ f ih =>
  intro listed a w hw hfree hr hy H;refine ⟨fun h => (by rw [h] at hr; cases hr), fun j hj => ?_⟩
  by_cases hji : j = i
  ·subst hji; exact hy.wpOp hi hw ⟨hw, H⟩
  ·have h1 := H.2 j (ready_mono hj hji)
   obtain ⟨hjun, oj, hoj, hall⟩ := mem_ready.1 hj;have hnot : ∀ e ∈ oj.after, Region.binds md e = true → e.on ≠ i := fun e he hb heq => by
    have h1 := hall e he hb;have h0 := (mem_ready.1 hr).1;rw [heq, getD_both h0] at h1;cases h1
   have hap := hfree j oj hoj hji hjun hnot;have h2 := zza9 hoj hap (fun cs b => hsel j oj cs b hoj) h1
   have h3 := zzaa hoj (F := fun a' => PureC P ops C oi v a') (fun u => hy.keep hap (fun cs b => hsel i oi cs b hi) u) (fun d => hy.keepD hap (fun cs b => hsel i oi cs b hi) d) h2
   have hfree' : ∀ k ok, ops[k]? = some ok → k ≠ i → (listed.setIfInBounds j true).getD k true = false →
     (∀ e ∈ ok.after, Region.binds md e = true → e.on ≠ i) → oi.apart ops ok = true := fun k ok hk hki hun hno => by
    exact zt80
   refine wpOp_mono (fun a' w' h4 => ⟨h4.2.1, ih (listed.setIfInBounds j true) a' w' h4.2.1 hfree' (ready_mono hr (Ne.symm hji)) h4.1 ?_⟩) h3
   rw [Array.setIfInBounds_comm _ _ hji];exact h4.2.2
def StepQ (C : World → Prop) (Q : Exit → Act → World → Prop) (K : Act → World → Prop) : Exit → Act → World → Prop
 | .normal, a, w => C w ∧ K a w
 | x, a, w => Q x a w
theorem zz1d (C : World → Prop) (Q : Exit → Act → World → Prop) (K : Act → World → Prop) (a : Act) (w : World) : StepQ C Q K .normal a w = (C w ∧ K a w) := rfl
def seqT (md : Region.Mode) (ops : Array Oper) : List Nat → Array Bool → Bool
 | [], L => (Region.ready md ops L).isEmpty
 | t :: ts, L => (Region.ready md ops L == [t]) && seqT md ops ts (L.setIfInBounds t true)
def wpPure (P : Program) (ops : Array Oper) (C : World → Prop) (K : Act → Prop) : List Oper → Act → Prop
 | [], a => K a
 | o :: l, a => ∃ v, PureC P ops C o v a ∧ wpPure P ops C K l (a.put o.dst v)
def headT (md : Region.Mode) (ops : Array Oper) : List Nat → Array Bool → Bool
 | [], _ => true
 | i :: hs, L => decide (i < ops.size) && (Region.ready md ops L).contains i && Region.free md ops L i && headT md ops hs (L.setIfInBounds i true)
theorem zz4f {Q : Exit → Act → World → Prop} {K : Act → Prop} {w : World} (hsel : Region.noSelect ops = true) (hw : C w) (f : Nat) :
  ∀ (hs : List Nat) (listed : Array Bool) (a : Act), headT md ops hs listed = true → wpPure P ops C K (opsAt ops hs) a →
  (∀ a', K a' → wpAnyC P md ops C (OnlyN Q) f (setAll hs listed) a' w) → wpAnyC P md ops C (OnlyN Q) (f + hs.length) listed a w
 | [], listed, a, _, h, H => H a (by simpa [opsAt, wpPure] using h)
 | i :: hs, listed, a, hB, h, H => by
  simp only [headT, Bool.and_eq_true, decide_eq_true_eq] at hB;obtain ⟨⟨⟨hin, hr⟩, hf⟩, hB'⟩ := hB;obtain ⟨o, h0⟩ : ∃ o, ops[i]? = some o := ⟨ops[i], Array.getElem?_eq_getElem hin⟩;unfold opsAt at h;rw [h0] at h;obtain ⟨v, hy, h⟩ := h;have hr' : i ∈ Region.ready md ops listed := by simpa using hr
  have := zz4f (Q := Q) hsel hw f hs _ _ hB' h H;exact zz7g h0 (Region.noSelect_spec hsel) _ _ _ _ hw (Region.free_spec h0 hf) hr' hy this
theorem zz2j {K : Act → Prop} {o : Oper} {l : List Oper} {a : Act} {x : Operand} (ho : o.op = .move x) (hg : o.guard = none) (h : wpPure P ops C K l (a.put o.dst (a.eval x))) : wpPure P ops C K (o :: l) a :=
 ⟨_, .inl ⟨zz36 hg _, fun w _ => zzb3 ho a w⟩, h⟩
theorem zz0z {K : Act → Prop} {o : Oper} {l : List Oper} {a : Act} (v : Value) (hg : o.guard = none) (hr : ∀ w, C w → (execOp a.eval o).run P w = .ok (.value v) w) (h : wpPure P ops C K l (a.put o.dst v)) : wpPure P ops C K (o :: l) a :=
 ⟨_, .inl ⟨zz36 hg _, hr⟩, h⟩
end
section
variable {P : Program} {ops : Array Oper} {md : Region.Mode} {C : World → Prop}
theorem zt26 {p : Prop} (h : p := by
 rcases h with h | ⟨h1, a', w', h⟩
 ·left
  unfold Oper.wp at h ⊢;generalize (execOp a.eval o).run P w = r at h ⊢;cases r with
  | ok n w' =>
   cases n with
   | value u => exact h
   | skip => exact h
   | defer d => exact h
   | enter f args =>
    refine Calls.mono (R := fun e w'' => match e, w'' with
     | .returned u, w'' => wpList P ops (StepQ C (OnlyN Q) K) [] (a.put o.dst u) w''
     | .panicked chain, w'' => (StepQ C (OnlyN Q) K) (.panic chain) a w''
     | .outgrown, _ => LetsOut (StepQ C (OnlyN Q) K)) h ?_
    intro e' w'' he;cases e' with
    | returned u => exact he
    | panicked c => exact he
    | outgrown => obtain ⟨a1, w1, h1⟩ := he; exact ⟨a1, w1, h1⟩
   | row row args =>
    have h' : Rows P row args w' fun u w'' => wpList P ops (StepQ C (OnlyN Q) K) [] (a.put o.dst u) w'' := h
    exact h'.mono fun u w'' hk => hk
   | _ => exact h
  | halt x w' =>
   cases x with
   | panic u => exact h
   | _ => exact h
 ·exact .inr ⟨h1, a', w', h⟩) : p := h
theorem zz2m {Q : Exit → Act → World → Prop} {K : Act → World → Prop} {i : Nat} {o : Oper} {a : Act} {w : World} (h0 : ops[i]? = some o) (hg : o.guard = none) (h : wpList P ops (StepQ C (OnlyN Q) K) [o] a w) :
  wpOp P ops (OnlyN Q) i (fun a' w' => C w' ∧ K a' w') a w := by
 unfold wpOp;simp only [h0];unfold wpList at h;rw [if_pos (zz36 hg _)] at h ⊢;exact zt26
theorem zz0s {Q : Exit → Act → World → Prop} (i : Nat) {o : Oper} {f : Nat} {L L' : Array Bool} {a : Act} {w : World} (hr : Region.ready md ops L = [i]) (hL : L.setIfInBounds i true = L') (h0 : ops[i]? = some o) (hg : o.guard = none)
  (h : wpList P ops (StepQ C (OnlyN Q) (wpAnyC P md ops C (OnlyN Q) f L')) [o] a w) : wpAnyC P md ops C (OnlyN Q) (f + 1) L a w := by
 subst hL;refine ⟨fun h1 => (by rw [hr] at h1; cases h1), fun j hj => ?_⟩
 rw [hr] at hj;obtain rfl : j = i := by simpa using hj
 exact zz2m h0 hg h
theorem zz6i {Q : Exit → Act → World → Prop} (i j : Nat) {o o' : Oper} {f : Nat} {L Li Lj : Array Bool} {a : Act} {w : World} (hr : Region.ready md ops L = [i, j]) (hL : L.setIfInBounds i true = Li) (hL' : L.setIfInBounds j true = Lj)
  (h0 : ops[i]? = some o) (hg : o.guard = none) (h0' : ops[j]? = some o') (hg' : o'.guard = none)
  (h : wpList P ops (StepQ C (OnlyN Q) (wpAnyC P md ops C (OnlyN Q) f Li)) [o] a w) (h' : wpList P ops (StepQ C (OnlyN Q) (wpAnyC P md ops C (OnlyN Q) f Lj)) [o'] a w) : wpAnyC P md ops C (OnlyN Q) (f + 1) L a w := by
 subst hL; subst hL';refine ⟨fun h1 => (by rw [hr] at h1; cases h1), fun k hk => ?_⟩
 rw [hr] at hk;simp only [List.mem_cons, List.not_mem_nil, or_false] at hk;rcases hk with rfl | rfl
 ·exact zz2m h0 hg h
 ·exact zz2m h0' hg' h'
def headB (ops : Array Oper) (hs : List Nat) : Bool := Region.noSelect ops && headT .any ops hs (Array.replicate ops.size false)
theorem zz1l {id : Nat} {Q : Exit → Act → World → Prop} {a : Act} {w : World} {l : List Oper} (hs : List Nat) (f : Nat) (L : Array Bool) (hm : P.follows .mixedOrders = true) (hB : headB l.toArray hs = true) (hf : f + hs.length = l.length) (hL : setAll hs (Array.replicate l.toArray.size false) = L) (C : World → Prop) (hC : C { w with drawn := w.drawn + 1 })
  (h : wpPure P l.toArray C (fun a' => wpAnyC P .any l.toArray C (OnlyN Q) f L a' { w with drawn := w.drawn + 1 }) (opsAt l.toArray hs) a) : (Code.region id l.toArray true).wp P Q a w := by
 subst hL;simp only [headB, Bool.and_eq_true] at hB;refine wp_region_any hm (zz40 OnlyN.to _ _ _ _ (zz6g (C := C) _ _ _ _ ?_));have H := zz4f (P := P) (Q := Q) (C := C) (w := { w with drawn := w.drawn + 1 }) hB.1 hC f hs _ a hB.2 h (fun a' hq => hq)
 rw [hf] at H;simpa using H
end
section
variable {P : Program} {ops : Array Oper} {md : Region.Mode} {C : World → Prop} {ex : List Nat}
def keepsC (ex : List Nat) (C : World → Prop) (i : Nat) (w : World) : Prop := ex.contains i = false → C w
def wpAnyD (P : Program) (md : Region.Mode) (ops : Array Oper) (C : World → Prop) (ex : List Nat) (Q : Exit → Act → World → Prop) : Nat → Array Bool → Act → World → Prop
 | 0, listed, a, w => Region.ready md ops listed = [] ∧ Q .normal a w
 | f + 1, listed, a, w =>
  (Region.ready md ops listed = [] → Q .normal a w) ∧
  ∀ i ∈ Region.ready md ops listed, wpOp P ops Q i (fun a' w' => keepsC ex C i w' ∧ wpAnyD P md ops C ex Q f (listed.setIfInBounds i true) a' w') a w
theorem zz6f {Q : Exit → Act → World → Prop} : ∀ (f : Nat) (listed : Array Bool) (a : Act) (w : World), wpAnyD P md ops C ex Q f listed a w → wpAny P md ops Q f listed a w
 | 0, _, _, _, h => h
 | f + 1, _, _, _, h => ⟨h.1, fun i hi => wpOp_mono (fun a' w' h' => zz6f f _ a' w' h'.2) (h.2 i hi)⟩
theorem zz7f {i : Nat} {oi : Oper} {v : Value} {Q : Exit → Act → World → Prop} (hi : ops[i]? = some oi) (hsel : ∀ (j : Nat) (o : Oper) cs b, ops[j]? = some o → o.op ≠ .select cs b)
  (hex : ∀ j, ex.contains j = true → Region.waitsFor md ops j i = true) :
  ∀ (f : Nat) (listed : Array Bool) (a : Act) (w : World), C w →
   (∀ j oj, ops[j]? = some oj → j ≠ i → listed.getD j true = false → (∀ e ∈ oj.after, Region.binds md e = true → e.on ≠ i) → oi.apart ops oj = true) →
   i ∈ Region.ready md ops listed → PureC P ops C oi v a →
   wpAnyD P md ops C ex (OnlyN Q) f (listed.setIfInBounds i true) (a.put oi.dst v) w → wpAnyD P md ops C ex (OnlyN Q) (f + 1) listed a w := by
 intro f;induction f with
 | zero =>
  intro listed a w hw _ hr hy H;refine ⟨fun h => (by rw [h] at hr; cases hr), fun j hj => ?_⟩
  by_cases hji : j = i
  ·subst hji; exact hy.wpOp hi hw ⟨fun _ => hw, H⟩
  ·have := ready_mono hj hji
   rw [H.1] at this;cases this
 | succ f ih =>
  intro listed a w hw hfree hr hy H;refine ⟨fun h => (by rw [h] at hr; cases hr), fun j hj => ?_⟩
  by_cases hji : j = i
  ·subst hji; exact hy.wpOp hi hw ⟨fun _ => hw, H⟩
  ·have h1 := H.2 j (ready_mono hj hji)
   obtain ⟨hjun, oj, hoj, hall⟩ := mem_ready.1 hj;have hnot : ∀ e ∈ oj.after, Region.binds md e = true → e.on ≠ i := fun e he hb heq => by
    have h1 := hall e he hb;have h0 := (mem_ready.1 hr).1;rw [heq, getD_both h0] at h1;cases h1
   have hkeep : ex.contains j = false := by
    cases hc : ex.contains j with
    | false => rfl
    | true =>
     obtain ⟨o', ho', e, he, hb, hon⟩ := Region.waitsFor_spec (hex j hc);have : o' = oj := Option.some.inj (ho'.symm.trans hoj);subst this;exact absurd hon (hnot e he hb)
   have hap := hfree j oj hoj hji hjun hnot;have h2 := zza9 hoj hap (fun cs b => hsel j oj cs b hoj) h1
   have h3 := zzaa hoj (F := fun a' => PureC P ops C oi v a') (fun u => hy.keep hap (fun cs b => hsel i oi cs b hi) u) (fun d => hy.keepD hap (fun cs b => hsel i oi cs b hi) d) h2
   have hfree' : ∀ k ok, ops[k]? = some ok → k ≠ i → (listed.setIfInBounds j true).getD k true = false →
     (∀ e ∈ ok.after, Region.binds md e = true → e.on ≠ i) → oi.apart ops ok = true := fun k ok hk hki hun hno => by
    exact zt80
   refine wpOp_mono (fun a' w' h4 => ⟨h4.2.1, ih (listed.setIfInBounds j true) a' w' (h4.2.1 hkeep) hfree' (ready_mono hr (Ne.symm hji)) h4.1 ?_⟩) h3
   rw [Array.setIfInBounds_comm _ _ hji];exact h4.2.2
theorem zz6e {Q : Exit → Act → World → Prop} {K : Act → World → Prop} {i : Nat} {o : Oper} {a : Act} {w : World} (h0 : ops[i]? = some o) (hg : Region.wanted o (yielded ops a.tmps) = true) (h : wpList P ops (StepQ C (OnlyN Q) K) [o] a w) :
  wpOp P ops (OnlyN Q) i (fun a' w' => C w' ∧ K a' w') a w := by
 unfold wpOp;simp only [h0];unfold wpList at h;rw [if_pos hg] at h ⊢;exact zt26
theorem zzab {Q : Exit → Act → World → Prop} (i : Nat) {o : Oper} {f : Nat} {L L' : Array Bool} {a : Act} {w : World} (hr : Region.ready md ops L = [i]) (hL : L.setIfInBounds i true = L') (h0 : ops[i]? = some o) (hg : Region.wanted o (yielded ops a.tmps) = true)
  (h : wpList P ops (StepQ (keepsC ex C i) (OnlyN Q) (wpAnyD P md ops C ex (OnlyN Q) f L')) [o] a w) : wpAnyD P md ops C ex (OnlyN Q) (f + 1) L a w := by
 subst hL;refine ⟨fun h1 => (by rw [hr] at h1; cases h1), fun j hj => ?_⟩
 rw [hr] at hj;obtain rfl : j = i := by simpa using hj
 exact zz6e h0 hg h
def exB (md : Region.Mode) (ops : Array Oper) (ex : List Nat) (i : Nat) : Bool := ex.all fun j => Region.waitsFor md ops j i
def headDB (md : Region.Mode) (ops : Array Oper) (ex : List Nat) : List Nat → Array Bool → Bool
 | [], _ => true
 | i :: hs, L => decide (i < ops.size) && (Region.ready md ops L).contains i && Region.free md ops L i && exB md ops ex i && headDB md ops ex hs (L.setIfInBounds i true)
theorem zz8k {Q : Exit → Act → World → Prop} {K : Act → Prop} {w : World} (hsel : Region.noSelect ops = true) (hw : C w) (f : Nat) :
  ∀ (hs : List Nat) (listed : Array Bool) (a : Act), headDB md ops ex hs listed = true → wpPure P ops C K (opsAt ops hs) a →
  (∀ a', K a' → wpAnyD P md ops C ex (OnlyN Q) f (setAll hs listed) a' w) → wpAnyD P md ops C ex (OnlyN Q) (f + hs.length) listed a w
 | [], listed, a, _, h, H => H a (by simpa [opsAt, wpPure] using h)
 | i :: hs, listed, a, hB, h, H => by
  simp only [headDB, Bool.and_eq_true, decide_eq_true_eq] at hB;obtain ⟨⟨⟨⟨hin, hr⟩, hf⟩, hx⟩, hB'⟩ := hB;obtain ⟨o, h0⟩ : ∃ o, ops[i]? = some o := ⟨ops[i], Array.getElem?_eq_getElem hin⟩;unfold opsAt at h;rw [h0] at h;obtain ⟨v, hy, h⟩ := h;have hr' : i ∈ Region.ready md ops listed := by simpa using hr
  have := zz8k (Q := Q) hsel hw f hs _ _ hB' h H;exact zz7f h0 (Region.noSelect_spec hsel) (fun j hj => List.all_eq_true.1 hx j (by simpa using hj)) _ _ _ _ hw (Region.free_spec h0 hf) hr' hy this
theorem zz29 {Q : Exit → Act → World → Prop} {L L' : Array Bool} {a : Act} {w : World} (hs : List Nat) (f : Nat) (hB : (Region.noSelect ops && headDB md ops ex hs L) = true) (hL : setAll hs L = L') (hw : C w)
  (h : wpPure P ops C (fun a' => wpAnyD P md ops C ex (OnlyN Q) f L' a' w) (opsAt ops hs) a) : wpAnyD P md ops C ex (OnlyN Q) (f + hs.length) L a w := by
 subst hL;simp only [Bool.and_eq_true] at hB;exact zz8k hB.1 hw f hs _ _ hB.2 h (fun a' hq => hq)
theorem zz07 {id : Nat} {Q : Exit → Act → World → Prop} {a : Act} {w : World} {l : List Oper} (ex : List Nat) (C : World → Prop) (f : Nat) (L : Array Bool) (hm : P.follows .mixedOrders = true) (hf : l.length = f) (hL : Array.replicate l.toArray.size false = L)
  (h : wpAnyD P .any l.toArray C ex (OnlyN Q) f L a { w with drawn := w.drawn + 1 }) : (Code.region id l.toArray true).wp P Q a w := by
 subst hL hf;refine wp_region_any hm (zz40 OnlyN.to _ _ _ _ (zz6f (C := C) (ex := ex) _ _ _ _ ?_));simpa using h
theorem zz08 {K : Act → Prop} {o : Oper} {l : List Oper} {a : Act} (v : Value) (hg : Region.wanted o (yielded ops a.tmps) = true) (hr : ∀ w, C w → (execOp a.eval o).run P w = .ok (.value v) w) (h : wpPure P ops C K l (a.put o.dst v)) : wpPure P ops C K (o :: l) a :=
 ⟨_, .inl ⟨hg, hr⟩, h⟩
theorem zpv {K : Act → Prop} {o : Oper} {l : List Oper} {a : Act} {x : Operand} (ho : o.op = .move x) (hg : Region.wanted o (yielded ops a.tmps) = true) (h : wpPure P ops C K l (a.put o.dst (a.eval x))) : wpPure P ops C K (o :: l) a :=
 ⟨_, .inl ⟨hg, fun w _ => zzb3 ho a w⟩, h⟩
theorem zW {Q : Exit → Act → World → Prop} (i : Nat) {o : Oper} {f : Nat} {L : Array Bool} {a : Act} {w : World} (h : wpList P ops (StepQ (keepsC ex C i) (OnlyN Q) (wpAnyD P md ops C ex (OnlyN Q) f (L.setIfInBounds i true))) [o] a w) (hr : Region.ready md ops L = [i] := by kernel_rfl) (h0 : ops[i]? = some o := by rfl) (hg : Region.wanted o (yielded ops a.tmps) = true := by rfl) : wpAnyD P md ops C ex (OnlyN Q) (f + 1) L a w := zzab i hr rfl h0 hg h
theorem zM {Q : Exit → Act → World → Prop} {L : Array Bool} {a : Act} {w : World} (hs : List Nat) (f : Nat) (hw : C w) (h : wpPure P ops C (fun a' => wpAnyD P md ops C ex (OnlyN Q) f (setAll hs L) a' w) (opsAt ops hs) a) (hB : (Region.noSelect ops && headDB md ops ex hs L) = true := by kernel_rfl) : wpAnyD P md ops C ex (OnlyN Q) (f + hs.length) L a w := zz29 hs f hB rfl hw h
theorem zp {K : Act → Prop} {o : Oper} {l : List Oper} {a : Act} {v : Value} (h : wpPure P ops C K l (a.put o.dst v)) (hg : Region.wanted o (yielded ops a.tmps) = true := by rfl) (hr : ∀ w, C w → (execOp a.eval o).run P w = .ok (.value v) w := by intro wz _; unfold execOp; (try go_simp); (try rfl)) : wpPure P ops C K (o :: l) a := zz08 v hg hr h
theorem zq {F : World → Prop} {K : Act → Prop} {o : Oper} {l : List Oper} {a : Act} {v : Value} (hF : ∀ w, C w → F w) (h : wpPure P ops C K l (a.put o.dst v)) (hg : Region.wanted o (yielded ops a.tmps) = true := by rfl) (hr : ∀ w, C w → F w → (execOp a.eval o).run P w = .ok (.value v) w := by intro wz _ hF; unfold execOp; (try go_simp); (try rfl)) : wpPure P ops C K (o :: l) a := zz08 v hg (fun w hw => hr w hw (hF w hw)) h
theorem zr {g : Nat} {cs : Value → Array Value} {t : TypeId} {K : Act → Prop} {o : Oper} {l : List Oper} {a : Act} {v : Value} (hF : ∀ w, C w → ∃ u, w.heap[g]? = some (.cells (cs u) t (0, 0))) (h : wpPure P ops C K l (a.put o.dst v)) (hg : Region.wanted o (yielded ops a.tmps) = true := by rfl) (hr : ∀ w u, (∀ i, w.cell? ⟨g, i, none⟩ = (cs u)[i]?) → (execOp a.eval o).run P w = .ok (.value v) w := by intro wz u hF; unfold execOp; (try go_simp); (try rfl)) : wpPure P ops C K (o :: l) a := zz08 v hg (fun w hw => by obtain ⟨u, hu⟩ := hF w hw; exact hr w u (zC hu)) h
theorem zA {α : Type} : (∀ (l : List α) (i : Nat), l.toArray[i]? = l[i]?) ∧ (∀ (a : α) (l : List α), (a :: l)[0]? = some a) ∧ (∀ (a : α) (l : List α) (i : Nat), (a :: l)[i + 1]? = l[i]?) := ⟨fun _ _ => by simp, fun _ _ => rfl, fun _ _ _ => rfl⟩
theorem zS {id : Nat} {Q : Exit → Act → World → Prop} {a : Act} {w : World} {l : List Oper} (ex : List Nat) (C : World → Prop) (n : Nat) (hf : l.length = n) (hm : P.follows .mixedOrders = true) (h : ∀ wd, Below w.heap.size w wd → wpAnyD P .any l.toArray C ex (OnlyN Q) n (Array.replicate n false) a wd) : (Code.region id l.toArray true).wp P Q a w := zz07 ex C n _ hm hf (by subst hf; simp) (h _ (Below.refl _ _).drew)
theorem zS1 {id : Nat} {Q : Exit → Act → World → Prop} {a : Act} {w : World} {l : List Oper} {g : Nat} {c : Array Value} {t : TypeId} (ex : List Nat) (n : Nat) (_ : ZB w g c t) (h : ∀ wd, Below w.heap.size w wd → wpAnyD P .any l.toArray (fun wz => ZB wz g c t) ex (OnlyN Q) n (Array.replicate n false) a wd) (hf : l.length = n := by kernel_rfl) (hm : P.follows .mixedOrders = true := by kernel_rfl) : (Code.region id l.toArray true).wp P Q a w := zS ex _ n hf hm h
theorem zS2 {id : Nat} {Q : Exit → Act → World → Prop} {a : Act} {w : World} {l : List Oper} {g g2 : Nat} {c c2 : Array Value} {t t2 : TypeId} (ex : List Nat) (n : Nat) (_ : ZB w g c t) (_ : ZB w g2 c2 t2) (h : ∀ wd, Below w.heap.size w wd → wpAnyD P .any l.toArray (fun wz => ZB wz g c t ∧ ZB wz g2 c2 t2) ex (OnlyN Q) n (Array.replicate n false) a wd) (hf : l.length = n := by kernel_rfl) (hm : P.follows .mixedOrders = true := by kernel_rfl) : (Code.region id l.toArray true).wp P Q a w := zS ex _ n hf hm h
theorem zS3 {id : Nat} {Q : Exit → Act → World → Prop} {a : Act} {w : World} {l : List Oper} {g g2 g3 : Nat} {c c2 c3 : Array Value} {t t2 t3 : TypeId} (ex : List Nat) (n : Nat) (_ : ZB w g c t) (_ : ZB w g2 c2 t2) (_ : ZB w g3 c3 t3) (h : ∀ wd, Below w.heap.size w wd → wpAnyD P .any l.toArray (fun wz => ZB wz g c t ∧ ZB wz g2 c2 t2 ∧ ZB wz g3 c3 t3) ex (OnlyN Q) n (Array.replicate n false) a wd) (hf : l.length = n := by kernel_rfl) (hm : P.follows .mixedOrders = true := by kernel_rfl) : (Code.region id l.toArray true).wp P Q a w := zS ex _ n hf hm h
theorem zS4 {id : Nat} {Q : Exit → Act → World → Prop} {a : Act} {w : World} {l : List Oper} {g g2 g3 g4 : Nat} {c c2 c3 c4 : Array Value} {t t2 t3 t4 : TypeId} (ex : List Nat) (n : Nat) (_ : ZB w g c t) (_ : ZB w g2 c2 t2) (_ : ZB w g3 c3 t3) (_ : ZB w g4 c4 t4) (h : ∀ wd, Below w.heap.size w wd → wpAnyD P .any l.toArray (fun wz => ZB wz g c t ∧ ZB wz g2 c2 t2 ∧ ZB wz g3 c3 t3 ∧ ZB wz g4 c4 t4) ex (OnlyN Q) n (Array.replicate n false) a wd) (hf : l.length = n := by kernel_rfl) (hm : P.follows .mixedOrders = true := by kernel_rfl) : (Code.region id l.toArray true).wp P Q a w := zS ex _ n hf hm h
theorem zRD {id : Nat} {Q : Exit → Act → World → Prop} {a : Act} {w : World} {l : List Oper} (ex : List Nat) (C : World → Prop) (f : Nat) (h : wpAnyD P .any l.toArray C ex (OnlyN Q) f (Array.replicate f false) a { w with drawn := w.drawn + 1 }) (hm : P.follows .mixedOrders = true := by kernel_rfl) (hf : l.length = f := by kernel_rfl) : (Code.region id l.toArray true).wp P Q a w := zz07 ex C f _ hm hf (by subst hf; simp) h
theorem zQs {C : World → Prop} {Q : Exit → Act → World → Prop} {K : Act → World → Prop} {a : Act} {w : World} (hc : C w) (h : K a w) : StepQ C Q K .normal a w := ⟨hc, h⟩
theorem zQe {Q : Exit → Act → World → Prop} {L : Array Bool} {a : Act} {w : World} (h : Q .normal a w) (hr : Region.ready md ops L = [] := by kernel_rfl) : wpAnyD P md ops C ex (OnlyN Q) 0 L a w := ⟨hr, h⟩
end
def orI (a b : Int) : Int := if a = 0 then b else a
theorem Or_any (a b : Int) (g : Nat) (w : World) (hg : Hid (w.heap[g]? = some (.cells #[a, b] 3))) :
  Calls Tryz.prog 168 #[.slice (some ⟨g, 0, none⟩) 2 2] w fun e w' => e = .returned (.int .i64 (orI a b)) ∧ w = w' := by
 have c0 := zC hg.out;have hR1 : Hid (¬ a = 0 → orI a b = a) := fun h => if_neg h
 have hR2 : Hid (a = 0 → orI a b = b) := fun h => if_pos h
 generalize orI a b = R at *;go_in;go_wp2_with fail;go_loopw [8] (fun s8 wr => ∃ i : Nat, s8 = .int .i64 i ∧ Hid (i ≤ 2) ∧ Hid (0 < i → a = 0) ∧ Hid (1 < i → b = 0) ∧ w = wr) (fun s8 _ => 2 - (intOf s8).toNat)
 case atStart => exact ⟨0, rfl, by show _ ≤ _; omega, fun h => by omega, fun h => by omega, rfl⟩
 case round =>
  obtain ⟨i, rfl, hi, ha, hb, rfl⟩ := hrel;have hi := hi.out;by_cases h0 : i = 0
  ·subst h0
   by_cases hz : a = 0
   ·have t1 : (a == 0) = true := beq_iff_eq.2 hz
    have t2 : (a != 0) = false := by rw [bne, t1]; rfl
    have HZ := zH hz;clear hz;go_wp2_with fail;go_roundw
    case rel => exact ⟨1, by go_num, by show _ ≤ _; omega, fun _ => HZ.out, fun h => by omega, trivial⟩
    case measure => simp [intOf]
   ·have t1 : (a == 0) = false := beq_eq_false_iff_ne.2 hz
    have t2 : (a != 0) = true := by rw [bne, t1]; rfl
    obtain rfl : R = a := hR1.out hz;clear hz hR1 hR2;go_wp2_with fail;go_ret;exact ⟨rfl, rfl⟩
  ·by_cases h1 : i = 1
   ·subst h1
    have haz := ha.out zw;obtain rfl : R = b := hR2.out haz;clear haz hb hR1 hR2;by_cases hz : R = 0
    ·have t1 : (R == 0) = true := beq_iff_eq.2 hz
     have t2 : (R != 0) = false := by rw [bne, t1]; rfl
     have HZ := zH hz;clear hz;go_wp2_with fail;go_roundw
     case rel => exact ⟨2, by go_num, by show _ ≤ _; omega, fun _ => ha.out zw, fun _ => HZ.out, trivial⟩
     case measure => simp [intOf]
    ·have t1 : (R == 0) = false := beq_eq_false_iff_ne.2 hz
     have t2 : (R != 0) = true := by rw [bne, t1]; rfl
     clear hz;go_wp2_with fail;go_ret;exact ⟨rfl, rfl⟩
   ·obtain rfl : i = 2 := by omega
    have hbz := hb.out zw;obtain rfl : R = 0 := (hR2.out (ha.out zw)).trans hbz;clear hR1 hR2 hbz ha hb;go_wp2_with fail;go_ret;exact ⟨rfl, rfl⟩
-- PRINTED FROM HERE ON BY genBookB.py
theorem zz5g (a b c x y : Int) (w : World) : Calls Tryz.prog 134 #[.agg #[a, b, c], .agg #[x, y]] w fun e w' => e = .returned (.int .i64 (orI (cmpI a x) (cmpI b y))) ∧ Below w.heap.size w w' := by
 have q1 := zH (fun w => zz1w a x w)
 have q2 := zH (fun w => zz1w b y w)
 have q3 := zH (fun g w hg => Or_any (cmpI a x) (cmpI b y) g w hg)
 generalize cmpI a x = C1 at *;generalize cmpI b y = C2 at *;generalize orI C1 C2 = R at *;obtain ⟨w2, hw2⟩ : ∃ w2, (w.alloc (.cells #[a, b, c] 80)).alloc (.cells #[x, y] 179) = w2 := ⟨_, rfl⟩;have HW2 := zH hw2;have HB : Hid (Below w.heap.size w w2) := by rw [← hw2]; exact zz01 zBa (by simp) _
 have k1 : w2.heap[w.heap.size]? = some (.cells #[a, b, c] 80 (0, 0)) := by rw [← hw2]; exact zz04 (zz02 _ _) _
 have k2 : w2.heap[w.heap.size + 1]? = some (.cells #[x, y] 179 (0, 0)) := by rw [← hw2]; exact zz0e _ _ _ (by simp)
 have K1 := zH k1;have K2 := zH k2;clear hw2 k1 k2;go_in;go_wp2_with fail;rw [HW2.out];have e0 := zz00 K1.out 0 _ rfl;have e1 := zz00 K1.out 1 _ rfl;have f0 := zz00 K2.out 0 _ rfl;have f1 := zz00 K2.out 1 _ rfl;have l1 := zL K1.out;have l2 := zL K2.out;generalize w.heap.size + 1 = GK at *;have HC : Hid (Below w2.heap.size w2 w2.drew) := (Below.refl _ _).drew;refine zz07 [] (fun wz => Hid (Below w2.heap.size w2 wz)) 13 (zb 13 0) zk zk zk ?_
 refine zM [0, 1, 2, 3, 5, 6, 7, 8] 5 HC ?_;simp only [opsAt, zA];refine zp ?_;refine zz08 (.int .i64 a) rfl (fun wz hC => by have h0 := ((Hid.out hC).cell (p := ⟨w.heap.size, 0, none⟩) l1).trans e0; unfold execOp; go_simp) ?_
 refine zp ?_;refine zz08 (.int .i64 x) rfl (fun wz hC => by have h0 := ((Hid.out hC).cell (p := ⟨GK, 0, none⟩) l2).trans f0; unfold execOp; go_simp) ?_
 refine zp ?_;refine zz08 (.int .i64 b) rfl (fun wz hC => by have h0 := ((Hid.out hC).cell (p := ⟨w.heap.size, 1, none⟩) l1).trans e1; unfold execOp; go_simp) ?_
 refine zp ?_;refine zz08 (.int .i64 y) rfl (fun wz hC => by have h0 := ((Hid.out hC).cell (p := ⟨GK, 1, none⟩) l2).trans f1; unfold execOp; go_simp) ?_
 unfold wpPure;go_simp;refine zW 4 ?_;go_wp2_with fail;(with_reducible refine (q1.out _).mono ?_);rintro e w3 ⟨rfl, rfl⟩;go_wp2_with fail;refine zQs (fun _ => HC) ?_
 refine zW 9 ?_;go_wp2_with fail;(with_reducible refine (q2.out _).mono ?_);rintro e w3 ⟨rfl, rfl⟩;go_wp2_with fail;refine zQs (fun _ => HC) ?_
 refine zW 10 ?_;go_wp2_with fail;have HC2 : Hid (Below w2.heap.size w2 (w2.alloc (.cells #[C1, C2] 3)).drew) := (zz01 (Below.refl _ w2) (Nat.le_refl _) _).drew;have HN : Hid ((w2.alloc (.cells #[C1, C2] 3)).drew.heap[w2.heap.size]? = some (.cells #[C1, C2] 3 (0, 0))) := zz02 w2 _;refine zQs (fun _ => HC2) ?_
 refine zW 11 ?_;go_wp2_with fail;(with_reducible refine (q3.out _ _ HN).mono ?_);rintro e w3 ⟨rfl, rfl⟩;go_wp2_with fail;refine zQs (fun _ => HC2) ?_
 refine zW 12 ?_;go_wp2_with fail;refine zQs (fun _ => HC2) ?_
 refine zQe ?_;go_wp2_with fail;go_ret;exact ⟨rfl, HB.out.trans (HC2.out.mono HB.out.size)⟩
def stLt (r : List Int) (kx ky : Int) : Prop := r.headD 0 < kx ∨ r.headD 0 = kx ∧ r.tail.headD 0 < ky
theorem orI_lt (a b x y : Int) : decide (orI (cmpI a x) (cmpI b y) < 0) = decide (a < x ∨ a = x ∧ b < y) := by
 refine decide_eq_decide.2 ?_;unfold orI cmpI
 split <;> split <;> omega
theorem orI_eq (a b x y : Int) : (orI (cmpI a x) (cmpI b y) == 0) = decide (a = x ∧ b = y) := by
 rw [Bool.eq_iff_iff, beq_iff_eq, decide_eq_true_iff];unfold orI cmpI
 split <;> split <;> omega
theorem zz0y (v : Value) (l : List (List Int)) (kx ky : Int) (p : Nat) (F : Bool) (w : World) (hv : Hid (RecAt w v 3 l)) (hl : l.length ≤ 1000000) (hp : p ≤ l.length) (hlt : Hid (∀ (h : Nat) (r : List Int), l[h]? = some r → (stLt r kx ky ↔ h < p))) (hF : Hid (F = match l[p]? with | some r => decide (r.headD 0 = kx ∧ r.tail.headD 0 = ky) | none => false)) :
  Calls Tryz.prog 188 #[v, .agg #[kx, ky], .func (.func 134) #[] #[]] w fun e w' => e = .returned (.tuple #[.int .i64 p, .bool F]) ∧ Below w.heap.size w w' := by
 obtain ⟨w1, hw1⟩ : ∃ w1, w.alloc (.cells #[kx, ky] 179) = w1 := ⟨_, rfl⟩;have HW1 := zH hw1;have HL : Hid (Below w.heap.size w w1) := by rw [← hw1]; exact zBa
 have HK : ZB w1 w.heap.size #[kx, ky] 179 := by rw [← hw1]; exact zz02 _ _
 have hv1 := zH (hv.out.call HL.out);clear hw1;obtain ⟨A, c, rfl, hi⟩ := hv1.out;have HI := zH hi;clear hi;have q := zH (fun x0 x1 x2 w => zz5g x0 x1 x2 kx ky w)
 have LK := zL HK.out;go_in;go_wp2_with fail;rw [HW1.out];go_loopw [9, 10] (fun s9 s10 wr => ∃ i j : Nat, s9 = .int .i64 i ∧ s10 = .int .i64 j ∧ Hid (i ≤ p) ∧ Hid (p ≤ j) ∧ Hid (j ≤ l.length) ∧ Hid (Below w1.heap.size w1 wr)) (fun s9 s10 _ => (intOf s10).toNat - (intOf s9).toNat)
 case atStart => exact ⟨0, l.length, rfl, rfl, Nat.zero_le _, hp, Nat.le_refl _, Below.refl _ _⟩
 case round =>
  obtain ⟨i, j, rfl, rfl, hip, hpj, hjl, hB⟩ := hrel;have hip := hip.out;have hpj := hpj.out;have hjl := hjl.out;by_cases hij : i < j
  ·have t0 : decide ((i : Int) < (j : Int)) = true := decide_eq_true zw
   obtain ⟨h, hh⟩ : ∃ h, (i + j) / 2 = h := ⟨_, rfl⟩;have hh1 : i ≤ h ∧ h < j := by omega
   have hge : l[h]? = some l[h] := List.getElem?_eq_getElem zw;obtain ⟨hk, b0, o0, rfl, hbl, hc⟩ := HI.out h _ hge;have hs := zH (hlt.out h _ hge);clear hge;generalize l[h] = r at *;obtain ⟨x0, x1, x2, rfl⟩ : ∃ x0 x1 x2, r = [x0, x1, x2] := by
    match r, hk with
    | [x0, x1, x2], _ => exact ⟨x0, x1, x2, rfl⟩
   have hs : Hid (x0 < kx ∨ x0 = kx ∧ x1 < ky ↔ h < p) := hs;have c0 := (hB.out.cell (p := ⟨b0, o0 + h * 3, none⟩) hbl).trans (hc 0 _ rfl);have c1 := (hB.out.cell (p := ⟨b0, o0 + h * 3 + 1, none⟩) hbl).trans (hc 1 _ rfl);have c2 := (hB.out.cell (p := ⟨b0, o0 + h * 3 + 2, none⟩) hbl).trans (hc 2 _ rfl);have eh : ((i : Int) + (j : Int)) / 2 = (h : Int) := by omega
   clear hc hk;have g0 : ∀ x : ExtOf wr, x.w.cell? ⟨w.heap.size, 0, none⟩ = some (.int .i64 kx) := fun x => (x.below.cell (p := ⟨w.heap.size, 0, none⟩) (Nat.lt_of_lt_of_le LK hB.out.size)).trans ((hB.out.cell (p := ⟨w.heap.size, 0, none⟩) LK).trans (zz00 HK.out 0 _ rfl))
   have g1 : ∀ x : ExtOf wr, x.w.cell? ⟨w.heap.size, 1, none⟩ = some (.int .i64 ky) := fun x => (x.below.cell (p := ⟨w.heap.size, 1, none⟩) (Nat.lt_of_lt_of_le LK hB.out.size)).trans ((hB.out.cell (p := ⟨w.heap.size, 1, none⟩) LK).trans (zz00 HK.out 1 _ rfl))
   have d0 : ∀ x : ExtOf wr, x.w.cell? ⟨b0, o0 + h * 3, none⟩ = some (.int .i64 x0) := fun x => (x.below.cell (p := ⟨b0, o0 + h * 3, none⟩) (Nat.lt_of_lt_of_le hbl hB.out.size)).trans c0
   have d1 : ∀ x : ExtOf wr, x.w.cell? ⟨b0, o0 + h * 3 + 1, none⟩ = some (.int .i64 x1) := fun x => (x.below.cell (p := ⟨b0, o0 + h * 3 + 1, none⟩) (Nat.lt_of_lt_of_le hbl hB.out.size)).trans c1
   have d2 : ∀ x : ExtOf wr, x.w.cell? ⟨b0, o0 + h * 3 + 2, none⟩ = some (.int .i64 x2) := fun x => (x.below.cell (p := ⟨b0, o0 + h * 3 + 2, none⟩) (Nat.lt_of_lt_of_le hbl hB.out.size)).trans c2
   clear c0 c1 c2;have qq := zH (fun w => q.out x0 x1 x2 w)
   obtain ⟨CC, hCC⟩ : ∃ CC, orI (cmpI x0 kx) (cmpI x1 ky) = CC := ⟨_, rfl⟩;have HCC := zH hCC;rw [hCC] at qq;clear hCC;go_wp2_with fail;refine zz0r zk zk ?_
   repeat (go_big_quiet_step (with_reducible exact zz1r (qq.out _)))
   refine wpQuiet_nil ?_;rintro w2 ⟨y, rfl⟩;have HB2 : Hid (Below w1.heap.size w1 y.w) := hB.out.trans (y.below.mono hB.out.size);clear g0 g1 d0 d1 d2;have tt := orI_lt x0 x1 kx ky;rw [HCC.out] at tt;by_cases hx : x0 < kx ∨ x0 = kx ∧ x1 < ky
   ·have t1 : decide (CC < 0) = true := tt.trans (decide_eq_true hx)
    have t3 : CC < 0 := of_decide_eq_true t1;have hhp := hs.out.1 hx;clear tt hx;go_wp2_with fail;go_roundw
    case rel => exact ⟨h + 1, j, by go_num, rfl, by show _ ≤ _; omega, hpj, hjl, HB2.out⟩
    case measure => simp [intOf]; omega
   ·have t1 : decide (CC < 0) = false := tt.trans (decide_eq_false hx)
    have t3 : 0 ≤ CC := by have := of_decide_eq_false t1; omega
    have hhp : ¬ h < p := fun h2 => hx (hs.out.2 h2)
    clear tt hx;go_wp2_with fail;go_roundw
    case rel => exact ⟨i, h, rfl, rfl, hip, by show _ ≤ _; omega, by show _ ≤ _; omega, HB2.out⟩
    case measure => simp [intOf]; omega
  ·obtain rfl : i = p := by omega
   obtain rfl : j = i := by omega
   have t0 : decide ((j : Int) < (j : Int)) = false := decide_eq_false zw;by_cases hjn : j < l.length
   ·have t1 : decide ((j : Int) < (l.length : Int)) = true := decide_eq_true zw
    have hge : l[j]? = some l[j] := List.getElem?_eq_getElem hjn;obtain ⟨hk, b0, o0, rfl, hbl, hc⟩ := HI.out j _ hge;rw [hge] at hF;clear hge;generalize l[j] = r at *;obtain ⟨x0, x1, x2, rfl⟩ : ∃ x0 x1 x2, r = [x0, x1, x2] := by
     match r, hk with
     | [x0, x1, x2], _ => exact ⟨x0, x1, x2, rfl⟩
    have hF : Hid (F = decide (x0 = kx ∧ x1 = ky)) := hF;have c0 := (hB.out.cell (p := ⟨b0, o0 + j * 3, none⟩) hbl).trans (hc 0 _ rfl);have c1 := (hB.out.cell (p := ⟨b0, o0 + j * 3 + 1, none⟩) hbl).trans (hc 1 _ rfl);have c2 := (hB.out.cell (p := ⟨b0, o0 + j * 3 + 2, none⟩) hbl).trans (hc 2 _ rfl);clear hc hk;have g0 : ∀ x : ExtOf wr, x.w.cell? ⟨w.heap.size, 0, none⟩ = some (.int .i64 kx) := fun x => (x.below.cell (p := ⟨w.heap.size, 0, none⟩) (Nat.lt_of_lt_of_le LK hB.out.size)).trans ((hB.out.cell (p := ⟨w.heap.size, 0, none⟩) LK).trans (zz00 HK.out 0 _ rfl))
    have g1 : ∀ x : ExtOf wr, x.w.cell? ⟨w.heap.size, 1, none⟩ = some (.int .i64 ky) := fun x => (x.below.cell (p := ⟨w.heap.size, 1, none⟩) (Nat.lt_of_lt_of_le LK hB.out.size)).trans ((hB.out.cell (p := ⟨w.heap.size, 1, none⟩) LK).trans (zz00 HK.out 1 _ rfl))
    have d0 : ∀ x : ExtOf wr, x.w.cell? ⟨b0, o0 + j * 3, none⟩ = some (.int .i64 x0) := fun x => (x.below.cell (p := ⟨b0, o0 + j * 3, none⟩) (Nat.lt_of_lt_of_le hbl hB.out.size)).trans c0
    have d1 : ∀ x : ExtOf wr, x.w.cell? ⟨b0, o0 + j * 3 + 1, none⟩ = some (.int .i64 x1) := fun x => (x.below.cell (p := ⟨b0, o0 + j * 3 + 1, none⟩) (Nat.lt_of_lt_of_le hbl hB.out.size)).trans c1
    have d2 : ∀ x : ExtOf wr, x.w.cell? ⟨b0, o0 + j * 3 + 2, none⟩ = some (.int .i64 x2) := fun x => (x.below.cell (p := ⟨b0, o0 + j * 3 + 2, none⟩) (Nat.lt_of_lt_of_le hbl hB.out.size)).trans c2
    clear c0 c1 c2;have qq := zH (fun w => q.out x0 x1 x2 w)
    obtain ⟨CC, hCC⟩ : ∃ CC, orI (cmpI x0 kx) (cmpI x1 ky) = CC := ⟨_, rfl⟩;have HCC := zH hCC;rw [hCC] at qq;clear hCC;go_wp2_with fail;refine zz0r zk zk ?_
    repeat (go_big_quiet_step (with_reducible exact zz1r (qq.out _)))
    refine wpQuiet_nil ?_;rintro w2 ⟨y, rfl⟩;have HB2 : Hid (Below w1.heap.size w1 y.w) := hB.out.trans (y.below.mono hB.out.size);clear g0 g1 d0 d1 d2;have tt := orI_eq x0 x1 kx ky;rw [HCC.out] at tt;rw [← hF.out] at tt;go_wp2_with fail;go_ret2;exact ⟨by show Ending.returned (.tuple #[.int .i64 j, .bool (CC == 0)]) = _; rw [tt], HL.out.trans (HB2.out.mono HL.out.size)⟩
   ·have t1 : decide ((j : Int) < (l.length : Int)) = false := decide_eq_false zw
    have hF : Hid (F = false) := by
     show F = false;rw [hF.out, List.getElem?_eq_none zw]
    obtain rfl : F = false := hF.out;go_wp2_with fail;go_quiet (fail);go_wp2_with fail;go_ret2;exact ⟨rfl, HL.out.trans ((zz0b hB.out _).mono HL.out.size)⟩
theorem zz34 (v : Value) (l : List (List Int)) (id : Int) (p : Nat) (w : World) (hv : Hid (RecAt w v 4 l)) (hl : l.length ≤ 1000000) (hp : p ≤ l.length) (hlt : Hid (∀ (h : Nat) (r : List Int), l[h]? = some r → (r.headD 0 < id ↔ h < p))) (hF : Hid (false = match l[p]? with | some r => decide (r.headD 0 = id) | none => false)) :
  Calls Tryz.prog 135 #[v, .int .i64 id, .func (.func 125) #[] #[]] w fun e w' => e = .returned (.tuple #[.agg #[.int .i64 0, .int .i64 0, .int .i64 0, .int .i64 0], .bool false]) ∧ Below w.heap.size w w' := by
 have q := zH (fun w hv => zz18 v l id p false w hv hl hp hlt hF)
 have hv1 := zH (hv.out.call (zz01 (Below.refl _ _) (Nat.le_refl _) (.cells #[.int .i64 0, .int .i64 0, .int .i64 0, .int .i64 0] 78)));have HN := zH (zz02 w (.cells #[.int .i64 0, .int .i64 0, .int .i64 0, .int .i64 0] 78));go_in;go_wp2_with fail;(with_reducible refine (q.out _ hv1).mono ?_);rintro e w2 ⟨rfl, hb⟩;have k0 := zz06 HN.out hb;have k1 : (w2.alloc (.cells #[.int .i64 0, .int .i64 0, .int .i64 0, .int .i64 0] 78)).heap[w.heap.size]? = some (.cells #[.int .i64 0, .int .i64 0, .int .i64 0, .int .i64 0] 78 (0, 0)) := zz04 k0 _;have k2 : (w2.alloc (.cells #[.int .i64 0, .int .i64 0, .int .i64 0, .int .i64 0] 78)).heap[w2.heap.size]? = some (.cells #[.int .i64 0, .int .i64 0, .int .i64 0, .int .i64 0] 78 (0, 0)) := zz02 w2 _;have hB3 : Hid (Below w.heap.size w (w2.alloc (.cells #[.int .i64 0, .int .i64 0, .int .i64 0, .int .i64 0] 78))) := zz01 (zBa.trans (hb.mono (by simp))) (by have := hb.size; simp at this; omega) _
 have c0 := zC k2;have d0 := zC k1;have f0 := zF k1;have K1 := zH k1;clear k0 k1 k2 hb;go_wp2_with fail;refine bodyPost_ret (v := .tuple #[.agg #[.int .i64 0, .int .i64 0, .int .i64 0, .int .i64 0], .bool false]) ?_ rfl ⟨rfl, ?_⟩
 ·rw [results_cell_tmp rfl]; go_simp
 ·exact Below.setCell (Below.setCell (Below.setCell (Below.setCell hB3.out (Nat.le_refl _) _) (Nat.le_refl _) _) (Nat.le_refl _) _) (Nat.le_refl _) _
theorem zz6b (v : Value) (l : List (List Int)) (id x0 x1 x2 x3 : Int) (p : Nat) (w : World) (hv : Hid (RecAt w v 4 l)) (hl : l.length ≤ 1000000) (hp : p < l.length) (hlt : Hid (∀ (h : Nat) (r : List Int), l[h]? = some r → (r.headD 0 < id ↔ h < p))) (hF : Hid (true = match l[p]? with | some r => decide (r.headD 0 = id) | none => false)) (hr : Hid (l[p]? = some [x0, x1, x2, x3])) :
  Calls Tryz.prog 135 #[v, .int .i64 id, .func (.func 125) #[] #[]] w fun e w' => e = .returned (.tuple #[.agg #[x0, x1, x2, x3], .bool true]) ∧ Below w.heap.size w w' := by
 have q := zH (fun w hv => zz18 v l id p true w hv hl zw hlt hF)
 have hv1 := zH (hv.out.call (zz01 (Below.refl _ _) (Nat.le_refl _) (.cells #[.int .i64 0, .int .i64 0, .int .i64 0, .int .i64 0] 78)));have HN := zH (zz02 w (.cells #[.int .i64 0, .int .i64 0, .int .i64 0, .int .i64 0] 78));obtain ⟨A, c, rfl, hci⟩ := hv.out;obtain ⟨_, b0, o0, rfl, hbl, hc⟩ := hci p _ hr.out;have e0 := zH (hc 0 _ rfl);have e1 := zH (hc 1 _ rfl);have e2 := zH (hc 2 _ rfl);have e3 := zH (hc 3 _ rfl);clear hci hc;go_in;go_wp2_with fail;(with_reducible refine (q.out _ hv1).mono ?_);rintro e w2 ⟨rfl, hb⟩;have k1 := zz06 HN.out hb;have hB : Below w.heap.size w w2 := zBa.trans (hb.mono (by simp))
 have HB := zH hB;have c0 := (hB.cell (p := ⟨b0, o0 + p * 4, none⟩) hbl).trans e0.out;have c1 := (hB.cell (p := ⟨b0, o0 + p * 4 + 1, none⟩) hbl).trans e1.out;have c2 := (hB.cell (p := ⟨b0, o0 + p * 4 + 2, none⟩) hbl).trans e2.out;have c3 := (hB.cell (p := ⟨b0, o0 + p * 4 + 3, none⟩) hbl).trans e3.out;have d0 := zC k1;have f0 := zF k1;clear k1 hb hB;go_wp2_with fail;refine bodyPost_ret (v := .tuple #[.agg #[x0, x1, x2, x3], .bool true]) ?_ rfl ⟨rfl, ?_⟩
 ·rw [results_cell_tmp rfl]; go_simp
 ·exact Below.setCell (Below.setCell (Below.setCell (Below.setCell HB.out (Nat.le_refl _) _) (Nat.le_refl _) _) (Nat.le_refl _) _) (Nat.le_refl _) _
theorem zz83 {k : Nat} : ∀ {l : List (List Int)}, (∀ r ∈ l, r.length = k) → l.flatten.length = l.length * k
 | [], _ => by simp
 | r :: t, h => by
  rw [List.flatten_cons, List.length_append, zz83 (fun r hr => h r (by simp [hr])), h r (by simp), List.length_cons, Nat.succ_mul, Nat.add_comm]
theorem zz84 {k : Nat} : ∀ {l : List (List Int)} {i j : Nat} {r : List Int} {x : Int}, (∀ r ∈ l, r.length = k) → l[i]? = some r → r[j]? = some x → l.flatten[i * k + j]? = some x
 | [], i, j, r, x, _, hi, _ => by simp at hi
 | a :: t, 0, j, r, x, h, hi, hj => by
  obtain rfl : a = r := by simpa using hi
  rw [List.flatten_cons, Nat.zero_mul, Nat.zero_add, List.getElem?_append_left (List.getElem?_eq_some_iff.1 hj).1, hj]
 | a :: t, i + 1, j, r, x, h, hi, hj => by
  rw [List.flatten_cons, List.getElem?_append_right (by rw [h a (by simp), Nat.succ_mul]; omega), h a (by simp), show (i + 1) * k + j - k = i * k + j by rw [Nat.succ_mul]; omega]
  exact zz84 (fun r hr => h r (by simp [hr])) (by simpa using hi) hj
def RowAt (w : World) (v : Value) (k : Nat) (l : List (List Int)) : Prop :=
 ∃ A c, v = .slice A l.length c ∧ (∀ r ∈ l, r.length = k) ∧ (l = [] ∨ ∃ b o, A = some ⟨b, o, none⟩ ∧ b < w.heap.size ∧ ∀ (j : Nat) (x : Int), l.flatten[j]? = some x → w.cell? ⟨b, o + j, none⟩ = some (.int .i64 x))
theorem RowAt.rec' {w : World} {v : Value} {k : Nat} {l : List (List Int)} (h : RowAt w v k l) : RecAt w v k l := by
 obtain ⟨A, c, rfl, hk, h⟩ := h;refine ⟨A, c, rfl, fun i r hi => ?_⟩
 have hk' := hk r (List.mem_of_getElem? hi);rcases h with rfl | ⟨b, o, rfl, hb, hc⟩
 ·simp at hi
 ·exact ⟨hk', b, o, rfl, hb, fun j x hj => by rw [show o + i * k + j = o + (i * k + j) by omega]; exact hc _ _ (zz84 hk hi hj)⟩
theorem RowAt.call {w w' : World} {v : Value} {k : Nat} {l : List (List Int)} (h : RowAt w v k l) (hb : Below w.heap.size w w') : RowAt w' v k l := by
 obtain ⟨A, c, rfl, hk, h⟩ := h;refine ⟨A, c, rfl, hk, ?_⟩;rcases h with h | ⟨b, o, rfl, hl, hc⟩
 ·exact .inl h
 ·exact .inr ⟨b, o, rfl, Nat.lt_of_lt_of_le hl hb.size, fun j x hj => (hb.cell (p := ⟨b, o + j, none⟩) hl).trans (hc j x hj)⟩
def flatC (l : List (List Int)) : List Value := l.flatten.map (Value.int .i64)
theorem zz0j (l m : List (List Int)) : flatC (l ++ m) = flatC l ++ flatC m := by simp [flatC]
theorem zz0u {k : Nat} {l : List (List Int)} (h : ∀ r ∈ l, r.length = k) : (flatC l).length = l.length * k := by rw [flatC, List.length_map, zz83 h]
theorem zz2x (l : List (List Int)) : ∀ u ∈ flatC l, u.oneCell' = true := by
 intro u hu;obtain ⟨x, _, rfl⟩ := List.mem_map.1 hu
 rfl
def RowOwn (w : World) (B : Nat) (e : TypeId) (v : Value) (k : Nat) (l : List (List Int)) : Prop := w.ownsRow B e k v l.length (flatC l) ∧ ∀ r ∈ l, r.length = k
theorem RowOwn.row {w : World} {B : Nat} {e : TypeId} {v : Value} {k : Nat} {l : List (List Int)} (h : RowOwn w B e v k l) : RowAt w v k l := by
 obtain ⟨ho, hk⟩ := h;rcases ho.2 with ⟨rfl, h0⟩ | ⟨g, cap, cur, rfl, hB, hg, hn, hm, hs, ht⟩
 ·obtain rfl : l = [] := List.eq_nil_of_length_eq_zero h0
  exact ⟨none, 0, rfl, hk, .inl rfl⟩
 ·refine ⟨some ⟨g, 0, none⟩, cap, rfl, hk, .inr ⟨g, 0, rfl, (zL hg), fun j x hj => ?_⟩⟩
  have := ho.cells (g := g) rfl j (.int .i64 x) (by rw [flatC, List.getElem?_map, hj]; rfl)
  rwa [Addr.add_lit] at this
theorem zt87 {p : Prop} (h : p := by
 refine ⟨h.1.kept (row := none) ⟨hb.os, hb.tape, hb.output, hb.size, fun j hj _ => hb.block j hj⟩ ?_, h.2⟩
 cases hv : v.ownBlock with
 | none => exact .inl rfl
 | some b => exact .inr (by simp)) : p := h
theorem RowOwn.kept {w w' : World} {B : Nat} {e : TypeId} {v : Value} {k : Nat} {l : List (List Int)} (h : RowOwn w B e v k l) (hb : Below w.heap.size w w') : RowOwn w' B e v k l := by
 exact zt87
theorem RowOwn.form {w : World} {B : Nat} {e : TypeId} {v : Value} {k : Nat} {l : List (List Int)} (h : RowOwn w B e v k l) : ∃ A c, v = .slice A l.length c := by
 rcases h.1.2 with ⟨rfl, h0⟩ | ⟨g, cap, cur, rfl, _⟩
 ·exact ⟨none, 0, by rw [h0]⟩
 ·exact ⟨_, _, rfl⟩
variable {P : Program}
theorem zz2u (w : World) (dT sT ty elem : TypeId) (k g o dLen dCap : Nat) (a : Addr) (sLen sCap : Nat) (cur : Array Value) (t : TypeId) (cs : List Value)
  (hu : P.underlying dT = some (.slice elem)) (hs : (P.info? elem).map (·.size) = some k)
  (hg : w.heap[g]? = some (.cells cur t (0, 0))) (hn : cs.length = Nat.min sLen dLen * k)
  (hsrc : ∀ j v, cs[j]? = some v → w.cell? (a.add j) = some v) (hfit : o + cs.length ≤ cur.size) (h1 : ∀ v ∈ cs, v.oneCell' = true) :
  (Builtin.copy_ #[dT, sT] ty #[.slice (some ⟨g, o, none⟩) dLen dCap, .slice (some a) sLen sCap]).run P w =
   .ok (goInt (Nat.min sLen dLen)) (w.setRow g (cur.toList.take o ++ cs ++ cur.toList.drop (o + cs.length)).toArray) := by
 have hl := run_loadCells_list (P := P) w a cs hsrc;have hst := run_storeCells_at P g o t cs 0 cur w hg (by simpa using hfit) h1
 cases hq : P.info? elem with
 | none => simp [hq] at hs
 | some i =>
  have hi : i.size = k := by simpa [hq] using hs
  simp [Builtin.copy_, run_underlying hu, Builtin.lenOf, Builtin.firstCells, sizeOf, typeInfo, hq, hi, ← hn, hl, hst]
end
end Go.Proofs.YtajogedbacpohaaGreatDoor
