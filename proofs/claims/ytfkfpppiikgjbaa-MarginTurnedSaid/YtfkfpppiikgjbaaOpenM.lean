/- Arguments that come in by value; the end of a law row. -/
import Derived.Test.YtfkfpppiikgjbaaLib
import Derived.ProofKit
import Derived.OpenShut
import Derived.ShutString
import Derived.Deep.Slices
import Derived.Deep.Fields
import Derived.Test.YtfkfpppiikgjbaaPlain
import Derived.Lib.LaidTab
import Derived.Test.YtfkfpppiikgjbaaBookI
namespace Go.Proofs.Ytfkfpppiikgjbaa
section
open Go.ChangeShapes Go.WideShapes Go.ChangeAt Go.RowKit

section
variable {H : Type} {enc : TypeId × Value → H} {P : Program}

/-- All arguments read behind the call as they did. -/
theorem trodAll_rest (hl : laidOutB P = true) {W W' : World} (hb : Below W.heap.size W W') :
    ∀ (ts : List TypeId) (vs : List Value) (ds : List (DataW H)) (ps : List MemPlace), (ts.all fun t => P.readableRec t && decide (t < P.types.size)) = true →
      (∀ x ∈ ps, x.block < W.heap.size) → DataW.TrodAll enc P W 0 (fun _ => true) true ts vs ds ps → DataW.TrodAll enc P W' 0 (fun b => decide (b < W.heap.size)) true ts vs ds ps := by
  intro ts
  induction ts with
  | nil =>
    intro vs ds ps _ _ h
    obtain ⟨rfl, rfl, rfl⟩ := trodAll_nil h
    exact trodAll_mk0
  | cons t ts ih =>
    intro vs ds ps hr hlt h
    obtain ⟨v, vs', d, ds', p, q, rfl, rfl, rfl, h1, h2⟩ := trodAll_cons h
    simp only [List.all_cons, Bool.and_eq_true, decide_eq_true_eq] at hr
    refine trodAll_cons_mk (Below.trod hl hr.1.1 hr.1.2 h1 hb (fun x hx => hlt x (by simp [hx]))) (ih _ _ _ ?_ (fun x hx => hlt x (by simp [hx])) h2)
    simpa using hr.2

/-- The law's post: true comes back, the arguments read as they did. -/
theorem law_post {f : Func} {s : ChangeSpec} {W W' : World} {args : Array Value} {ds gs : List (DataW H)} {before : List MemPlace} {b : TypeId}
    (hl : laidOutB P = true) (hr : (f.params.toList.all fun t => P.readableRec t && decide (t < P.types.size)) = true) (hb1 : f.resultTypes = #[b]) (hb2 : P.underlying b = some .bool)
    (hv : s.vars = []) (hs : s.fn H (ds ++ gs) = { results := [.lit (.bool true)], args := ds, vars := [] })
    (hW : DataW.Whole enc P f.params.toList s.vars false W args.toList ds gs before) (hb : Below W.heap.size W W') :
    s.post enc P f false true false false W args (.bool true) W' := by
  have hlt : ∀ x ∈ before, x.block < W.heap.size := fun x hx => hW.lt x hx
  have hW' := hW
  obtain ⟨p, q, hA, hV, hpq, _, _⟩ := hW'
  rw [hv] at hV
  obtain ⟨hg, hq⟩ := trodVars_none hV
  refine ⟨ds, gs, before, [], p, [], hW, ?_, ?_, ?_, ?_, fun h => by cases h⟩
  · rw [hs, hb1]
    exact trodAll_cons_mk (shut_bool hb2 true) trodAll_mk0
  · rw [hs]
    exact trodAll_rest hl hb _ _ _ _ hr (fun x hx => hlt x (by rw [hpq]; simp [hx])) hA
  · rw [hs, hv]
    rfl
  · exact hb.frame _
end
end

section
open Go.ChangeShapes Go.WideShapes Go.Deep

section
variable {H : Type} {enc : TypeId × Value → H} {P : Program} {w : World}

theorem spot_none {a : Addr} {v : Value} (h : w.cell? a = some v) : a.spot = none := by
  unfold World.cell? at h
  split at h
  · split at h
    · simp at h
    · rename_i h1; simpa using h1
  · simp at h
theorem addr_none {a : Addr} (h : a.spot = none) : a = ⟨a.block, a.off, none⟩ := by
  cases a; simp at h; subst h; rfl
theorem add_at (b o i : Nat) : (⟨b, o, none⟩ : Addr).add i = ⟨b, o + i, none⟩ := Addr.add_lit b o i

/-- A slice of structs whose fields are one cell each. -/
theorem open_rows {t e : TypeId} {fs : Array Field} {r : Reach} {b0 : Nat} {v : Value} {d : DataW H} {ps : List MemPlace} (ht : P.underlying t = some (.slice e)) (he : P.underlying e = some (.struct fs)) (hone : oneCellFields P fs = true) (hC : P.cellsOf e = fs.size) (hpos : 0 < fs.size)
    (hv : Value.okWide P w r b0 t v) (h : DataW.Trod enc P w 0 (fun _ => true) true t v d ps) :
    ∃ (A : Option Addr) (n c : Nat), v = .slice A n c ∧ n ≤ maxLen ∧ ∀ i, i < n → ∃ b o, A = some ⟨b, o, none⟩ ∧ b < w.heap.size ∧
      ∀ (j : Nat) (f : Field), fs[j]? = some f → ∃ u y m, w.cell? ⟨b, o + i * fs.size + j, none⟩ = some u ∧ DataW.trod enc P w 0 (fun _ => true) true m f.type [u] = some y := by
  obtain ⟨a0, len, cap, rfl⟩ := okWide_slice ht hv
  obtain ⟨fuel, hf⟩ := h
  rcases open_slice ht hf with ⟨hcs, _⟩ | ⟨a, len', cap', m, n, D, Pl, hcs, hb, hl, hm, hmm, _, hi⟩
  · simp [Value.cells] at hcs
    obtain ⟨rfl, rfl, rfl⟩ := hcs
    exact ⟨none, 0, 0, rfl, Nat.zero_le _, fun i hi => by omega⟩
  · simp [Value.cells] at hcs
    obtain ⟨rfl, rfl, rfl⟩ := hcs
    simp only [if_true] at hmm
    subst hmm
    refine ⟨some a, len, m, rfl, by omega, fun i hin => ?_⟩
    have h0 : a = ⟨a.block, a.off, none⟩ := by
      obtain ⟨cs', hc, _⟩ := hi 0 (by omega)
      obtain ⟨_, hcl, hat⟩ := World.cells?_some hc
      have h1 := hat 0 (by rw [hC]; exact hpos)
      rw [Nat.zero_mul] at h1
      have e0 : (a.add 0).add 0 = a := by simp [Addr.add]
      rw [e0, List.getElem?_eq_getElem (by rw [hcl, hC]; exact hpos)] at h1
      exact addr_none (spot_none h1)
    generalize a.block = b at h0
    generalize a.off = o at h0
    subst h0
    obtain ⟨cs', hc, ht'⟩ := hi i (by omega)
    rw [hC] at hc
    obtain ⟨_, hcl, hat⟩ := World.cells?_some hc
    have key : ∀ (j : Nat) (f : Field), fs[j]? = some f → ∃ u y m, w.cell? ⟨b, o + i * fs.size + j, none⟩ = some u ∧ DataW.trod enc P w 0 (fun _ => true) true m f.type [u] = some y := by
      intro j f hj
      obtain ⟨ys, n', _, _, _, hyl, hff⟩ := DataW.trod_struct he ht'
      obtain ⟨ho, hk⟩ := hone_of hone j f hj
      have hjl : j < fs.size := (Array.getElem?_eq_some_iff.1 hj).1
      have hcell := hat j hjl
      rw [add_at, add_at, List.getElem?_eq_getElem (by omega)] at hcell
      have h1 := hff j f hj
      rw [ho, hk] at h1
      have hone' : (cs'.drop j).take 1 = [cs'[j]'(by omega)] := by
        rw [List.drop_eq_getElem_cons (by omega)]
        rfl
      rw [hone', List.getElem?_eq_getElem (by omega)] at h1
      exact ⟨_, _, _, hcell, h1⟩
    refine ⟨b, o, rfl, ?_, key⟩
    obtain ⟨u, _, _, hu, _⟩ := key 0 fs[0] (by simp [hpos])
    exact World.block_lt_of_cell? w _ hu

/-- A slice whose elements are one cell each. -/
theorem open_row {t e : TypeId} {r : Reach} {b0 : Nat} {v : Value} {d : DataW H} {ps : List MemPlace} (ht : P.underlying t = some (.slice e)) (hC : P.cellsOf e = 1)
    (hv : Value.okWide P w r b0 t v) (h : DataW.Trod enc P w 0 (fun _ => true) true t v d ps) :
    ∃ (A : Option Addr) (n c : Nat), v = .slice A n c ∧ n ≤ maxLen ∧ ∀ i, i < n → ∃ b o, A = some ⟨b, o, none⟩ ∧ b < w.heap.size ∧
      ∃ u y m, w.cell? ⟨b, o + i, none⟩ = some u ∧ DataW.trod enc P w 0 (fun _ => true) true m e [u] = some y := by
  obtain ⟨a0, len, cap, rfl⟩ := okWide_slice ht hv
  obtain ⟨fuel, hf⟩ := h
  rcases open_slice ht hf with ⟨hcs, _⟩ | ⟨a, len', cap', m, n, D, Pl, hcs, hb, hl, hm, hmm, _, hi⟩
  · simp [Value.cells] at hcs
    obtain ⟨rfl, rfl, rfl⟩ := hcs
    exact ⟨none, 0, 0, rfl, Nat.zero_le _, fun i hi => by omega⟩
  · simp [Value.cells] at hcs
    obtain ⟨rfl, rfl, rfl⟩ := hcs
    simp only [if_true] at hmm
    subst hmm
    refine ⟨some a, len, m, rfl, by omega, fun i hin => ?_⟩
    have h0 : a = ⟨a.block, a.off, none⟩ := by
      obtain ⟨cs', hc, _⟩ := hi 0 (by omega)
      obtain ⟨_, hcl, hat⟩ := World.cells?_some hc
      have h1 := hat 0 (by rw [hC]; omega)
      rw [Nat.zero_mul] at h1
      have e0 : (a.add 0).add 0 = a := by simp [Addr.add]
      rw [e0, List.getElem?_eq_getElem (by rw [hcl, hC]; omega)] at h1
      exact addr_none (spot_none h1)
    generalize a.block = b at h0
    generalize a.off = o at h0
    subst h0
    obtain ⟨cs', hc, ht'⟩ := hi i (by omega)
    rw [hC] at hc
    obtain ⟨_, hcl, hat⟩ := World.cells?_some hc
    match cs', hcl with
    | [u], _ =>
      have hcell := hat 0 (by omega)
      rw [add_at, add_at] at hcell
      have hcell : w.cell? ⟨b, o + i, none⟩ = some u := by simpa using hcell
      exact ⟨b, o, rfl, World.block_lt_of_cell? w _ hcell, u, _, _, hcell, ht'⟩
end
end

section
open Go.ChangeShapes Go.WideShapes Go.Deep Go.ChangeAt Go.RowKit

/-- The leaves of a type: where each lies, and its type. -/
def leavesOf (P : Program) : Nat → TypeId → List (Nat × TypeId)
  | 0, _ => []
  | n + 1, t =>
    match P.underlying t with
    | some (.struct fs) => fs.toList.flatMap fun f => (leavesOf P n f.type).map fun x => (f.offset + x.1, x.2)
    | some (.array k e) => (List.range k).flatMap fun i => (leavesOf P n e).map fun x => (i * P.cellsOf e + x.1, x.2)
    | _ => [(0, t)]

section
variable {H : Type} {enc : TypeId × Value → H} {P : Program} {w : World} {base : Nat} {sp : Nat → Bool} {held : Bool}

theorem at_sub {cs : List Value} {a k o : Nat} {c : Value} (h : ((cs.drop a).take k)[o]? = some c) : cs[a + o]? = some c := by
  rw [List.getElem?_take] at h
  split at h
  · rwa [List.getElem?_drop] at h
  · cases h

theorem leaf_single {fuel : Nat} {t : TypeId} {cs : List Value} {x : DataW H × List MemPlace} (h : DataW.trod enc P w base sp held fuel t cs = some x)
    (h1 : ∀ fs, P.underlying t ≠ some (.struct fs)) (h2 : ∀ k e, P.underlying t ≠ some (.array k e)) : ∃ c, cs = [c] := by
  cases fuel with
  | zero => simp [DataW.trod] at h
  | succ n =>
    unfold DataW.trod at h
    split at h
    all_goals first
      | exact ⟨_, rfl⟩
      | (exfalso; exact h1 _ (by assumption))
      | (exfalso; exact h2 _ _ (by assumption))
      | (exfalso; simp at h; done)

theorem trod_leaf : ∀ (n fuel : Nat) (t : TypeId) (cs : List Value) (x : DataW H × List MemPlace), DataW.trod enc P w base sp held fuel t cs = some x →
    ∀ o u, (o, u) ∈ leavesOf P n t → ∃ c m y, cs[o]? = some c ∧ DataW.trod enc P w base sp held m u [c] = some y := by
  intro n
  induction n with
  | zero => intro _ _ _ _ _ o u hm; simp [leavesOf] at hm
  | succ n ih =>
    intro fuel t cs x h o u hm
    unfold leavesOf at hm
    split at hm
    · rename_i fs hu
      obtain ⟨xs, m, rfl, _, _, hl, hf⟩ := DataW.trod_struct hu h
      simp only [List.mem_flatMap, List.mem_map, Prod.mk.injEq] at hm
      obtain ⟨f, hfm, ⟨o', u'⟩, hm', rfl, rfl⟩ := hm
      obtain ⟨i, hi, rfl⟩ := List.getElem_of_mem hfm
      have hi' : i < fs.size := by simpa using hi
      have hfi : fs[i]? = some fs.toList[i] := by rw [Array.getElem?_eq_getElem hi']; simp
      have h1 := hf i _ hfi
      rw [List.getElem?_eq_getElem (by omega)] at h1
      obtain ⟨c, m', y, hc, hy⟩ := ih _ _ _ _ h1 o' u' hm'
      exact ⟨c, m', y, at_sub hc, hy⟩
    · rename_i k e hu
      cases fuel with
      | zero => simp [DataW.trod] at h
      | succ m =>
        unfold DataW.trod at h
        rw [hu] at h
        simp only [List.mem_flatMap, List.mem_map, Prod.mk.injEq, List.mem_range] at hm
        obtain ⟨i, hi, ⟨o', u'⟩, hm', rfl, rfl⟩ := hm
        simp only at h
        split at h
        · obtain ⟨xs, hx, _⟩ := Option.map_eq_some_iff.1 h
          obtain ⟨b, hb, hff⟩ := Go.Lib.mapM_at hx i i (by simp [hi])
          obtain ⟨c, m', y, hc, hy⟩ := ih _ _ _ _ hff o' u' hm'
          exact ⟨c, m', y, at_sub hc, hy⟩
        · cases h
    · rename_i hn1 hn2
      simp only [List.mem_singleton, Prod.mk.injEq] at hm
      obtain ⟨rfl, rfl⟩ := hm
      obtain ⟨c, rfl⟩ := leaf_single h (fun fs e => hn1 fs e) (fun k e e' => hn2 k e e')
      exact ⟨c, fuel, x, rfl, h⟩

/-- A struct that comes in by value. -/
theorem open_agg {n : Nat} {t : TypeId} {fs : Array Field} {r : Reach} {b0 : Nat} {v : Value} {d : DataW H} {ps : List MemPlace} (hs : P.underlying t = some (.struct fs))
    (hv : Value.okWide P w r b0 t v) (h : DataW.Trod enc P w base sp held t v d ps) :
    ∃ cs : Array Value, v = .agg cs ∧ cs.size = P.cellsOf t ∧ ∀ o u, (o, u) ∈ leavesOf P n t → ∃ c m y, cs[o]? = some c ∧ DataW.trod enc P w base sp held m u [c] = some y := by
  obtain ⟨cs, rfl, hsz⟩ := okWide_struct hs hv
  obtain ⟨fuel, hf⟩ := h
  refine ⟨cs, rfl, hsz, fun o u hm => ?_⟩
  obtain ⟨c, m, y, hc, hy⟩ := trod_leaf n _ _ _ _ hf o u hm
  exact ⟨c, m, y, by simpa [Value.cells] using hc, hy⟩

/-- One integer. -/
theorem leaf_int {m : Nat} {u : TypeId} {k : IntKind} {c : Value} {y : DataW H × List MemPlace} (hu : P.underlying u = some (.int k)) (h : DataW.trod enc P w base sp held m u [c] = some y) :
    ∃ n, c = .int k n ∧ (Lit.int k n).wf = true := by
  cases m with
  | zero => simp [DataW.trod] at h
  | succ m =>
    unfold DataW.trod at h
    rw [hu] at h
    split at h <;> simp_all
/-- One string. -/
theorem leaf_string {m : Nat} {u : TypeId} {c : Value} {y : DataW H × List MemPlace} (hu : P.underlying u = some .string) (h : DataW.trod enc P w base sp held m u [c] = some y) :
    ∃ s, c = .string s ∧ s.size ≤ maxLen := by
  cases m with
  | zero => simp [DataW.trod] at h
  | succ m =>
    unfold DataW.trod at h
    rw [hu] at h
    split at h <;> simp_all
/-- One bool. -/
theorem leaf_bool {m : Nat} {u : TypeId} {c : Value} {y : DataW H × List MemPlace} (hu : P.underlying u = some .bool) (h : DataW.trod enc P w base sp held m u [c] = some y) :
    ∃ b, c = .bool b := by
  cases m with
  | zero => simp [DataW.trod] at h
  | succ m =>
    unfold DataW.trod at h
    rw [hu] at h
    split at h <;> simp_all

def isI64 : Option TypeDesc → Bool
  | some (.int .i64) => true
  | _ => false
theorem isI64_spec {u : Option TypeDesc} (h : isI64 u = true) : u = some (.int .i64) := by
  unfold isI64 at h
  split at h
  · rfl
  · cases h
/-- Are the first k cells of a type leaves that are numbers of 64 bits? -/
def allI64 (P : Program) (n k : Nat) (t : TypeId) : Bool := (List.range k).all fun i => (leavesOf P n t).any fun x => x.1 == i && isI64 (P.underlying x.2)
theorem allI64_spec {n k : Nat} {t : TypeId} (h : allI64 P n k t = true) : ∀ i, i < k → ∃ u, (i, u) ∈ leavesOf P n t ∧ P.underlying u = some (.int .i64) := by
  intro i hi
  have h1 := List.all_eq_true.1 h i (List.mem_range.2 hi)
  obtain ⟨⟨o, u⟩, hm, h2⟩ := List.any_eq_true.1 h1
  simp only [Bool.and_eq_true, beq_iff_eq] at h2
  obtain ⟨rfl, h3⟩ := h2
  exact ⟨u, hm, isI64_spec h3⟩

/-- A struct of numbers of 64 bits alone. -/
theorem open_agg_i64 (n k : Nat) {t : TypeId} {fs : Array Field} {r : Reach} {b0 : Nat} {v : Value} {d : DataW H} {ps : List MemPlace} (hs : P.underlying t = some (.struct fs)) (hk : P.cellsOf t = k)
    (hl : ∀ i, i < k → ∃ u, (i, u) ∈ leavesOf P n t ∧ P.underlying u = some (.int .i64))
    (hv : Value.okWide P w r b0 t v) (h : DataW.Trod enc P w base sp held t v d ps) :
    ∃ x : Nat → Int, v = .agg ((Array.range k).map fun i => .int .i64 (x i)) ∧ ∀ i, i < k → I64 (x i) := by
  obtain ⟨cs, rfl, hsz, hc⟩ := open_agg (n := n) hs hv h
  have h1 : ∀ i, ∃ z, i < k → cs[i]? = some (.int .i64 z) ∧ I64 z := by
    intro i
    by_cases hi : i < k
    · obtain ⟨u, hm, hu⟩ := hl i hi
      obtain ⟨c, m, y, hci, hy⟩ := hc i u hm
      obtain ⟨z, rfl, hz⟩ := leaf_int hu hy
      exact ⟨z, fun _ => ⟨hci, (wf_i64 hz).out⟩⟩
    · exact ⟨0, fun h => absurd h hi⟩
  obtain ⟨x, hx⟩ := Classical.axiomOfChoice h1
  refine ⟨x, ?_, fun i hi => (hx i hi).2⟩
  congr 1
  apply Array.ext_getElem?
  intro i
  by_cases hi : i < k
  · rw [(hx i hi).1]; simp [hi]
  · rw [Array.getElem?_eq_none (by omega), Array.getElem?_eq_none (by simp; omega)]
theorem range9 {α : Type} (f : Nat → α) : (Array.range 9).map f = #[f 0, f 1, f 2, f 3, f 4, f 5, f 6, f 7, f 8] := by simp [Array.range, Array.ofFn_succ]
theorem range7 {α : Type} (f : Nat → α) : (Array.range 7).map f = #[f 0, f 1, f 2, f 3, f 4, f 5, f 6] := by simp [Array.range, Array.ofFn_succ]
end
end

section
open Go Go.ChangeShapes Go.WideShapes Go.Deep Go.ChangeAt Go.RowKit
set_option linter.unusedVariables false

section
variable {H : Type} {enc : TypeId × Value → H} {P : Program} {w : World}
/-- A slice of records of whole numbers, the one cell of it at hand. -/
theorem open_recs {t e : TypeId} {fs : Array Field} (ht : P.underlying t = some (.slice e)) (he : P.underlying e = some (.struct fs)) (hone : oneCellFields P fs = true) (hC : P.cellsOf e = fs.size) (hpos : 0 < fs.size)
    (hI : ∀ (j : Nat) (f : Field), fs[j]? = some f → P.underlying f.type = some (.int .i64)) {m : Nat} {c : Value} {y : DataW H × List MemPlace} (hf : DataW.trod enc P w 0 (fun _ => true) true m t [c] = some y) :
    ∃ l : List (List Int), RowAt w c fs.size l ∧ l.length ≤ maxLen ∧ ∀ r ∈ l, ∀ x ∈ r, I64 x := by
  rcases open_slice ht hf with ⟨hcs, _⟩ | ⟨a, len, cap, m', n, D, Pl, hcs, hb, hl, hm, hmm, _, hi⟩
  · have hcs := List.cons.inj hcs |>.1
    subst hcs
    exact ⟨[], ⟨none, 0, rfl, fun r hr => by simp at hr, .inl rfl⟩, Nat.zero_le _, fun r hr => by simp at hr⟩
  · have hcs := List.cons.inj hcs |>.1
    subst hcs
    simp only [if_true] at hmm
    subst hmm
    have hA : ∀ ij : Nat × Nat, ∃ x : Int, ij.1 < len → ij.2 < fs.size → ((∃ b o, a = ⟨b, o, none⟩ ∧ b < w.heap.size ∧ w.cell? ⟨b, o + ij.1 * fs.size + ij.2, none⟩ = some (.int .i64 x)) ∧ I64 x) := by
      rintro ⟨i, j⟩
      by_cases hin : i < len
      · by_cases hjn : j < fs.size
        · obtain ⟨cs', hc, ht'⟩ := hi i (by omega)
          rw [hC] at hc
          obtain ⟨_, hcl, hat⟩ := World.cells?_some hc
          obtain ⟨ys, n', _, _, _, hyl, hff⟩ := DataW.trod_struct he ht'
          have hfj : fs[j]? = some fs[j] := Array.getElem?_eq_getElem hjn
          obtain ⟨ho, hk⟩ := hone_of hone j _ hfj
          have hcell := hat j hjn
          rw [List.getElem?_eq_getElem (by omega)] at hcell
          have h1 := hff j _ hfj
          rw [ho, hk] at h1
          have hone' : (cs'.drop j).take 1 = [cs'[j]'(by omega)] := by
            rw [List.drop_eq_getElem_cons (by omega)]
            rfl
          rw [hone', List.getElem?_eq_getElem (by omega)] at h1
          obtain ⟨x, hx, hwf⟩ := leaf_int (hI j _ hfj) h1
          rw [hx] at hcell
          have hsp0 : a.spot = none := by
            obtain ⟨cs0, hc0, _⟩ := hi 0 (by omega)
            rw [hC] at hc0
            obtain ⟨_, hcl0, hat0⟩ := World.cells?_some hc0
            have h2 := hat0 0 hpos
            rw [Nat.zero_mul] at h2
            have e0 : (a.add 0).add 0 = a := by simp [Addr.add]
            rw [e0, List.getElem?_eq_getElem (by omega)] at h2
            exact spot_none h2
          have h0 := addr_none hsp0
          generalize a.block = b at h0
          generalize a.off = o at h0
          subst h0
          rw [add_at, add_at] at hcell
          exact ⟨x, fun _ _ => ⟨⟨b, o, rfl, World.block_lt_of_cell? w _ hcell, hcell⟩, (wf_i64 hwf).out⟩⟩
        · exact ⟨0, fun _ h => absurd h hjn⟩
      · exact ⟨0, fun h => absurd h hin⟩
    obtain ⟨g, hg⟩ := Classical.axiomOfChoice hA
    have hk : ∀ r ∈ (List.range len).map (fun i => (List.range fs.size).map fun j => g (i, j)), r.length = fs.size := fun r hr => by
      obtain ⟨i, _, rfl⟩ := List.mem_map.1 hr
      simp
    have hlen : ((List.range len).map (fun i => (List.range fs.size).map fun j => g (i, j))).length = len := by simp
    refine ⟨(List.range len).map (fun i => (List.range fs.size).map fun j => g (i, j)), ⟨some a, m', by rw [hlen], hk, ?_⟩, by rw [hlen]; omega, fun r hr x hx => ?_⟩
    · by_cases h0 : len = 0
      · subst h0; exact .inl rfl
      · obtain ⟨⟨b, o, rfl, hbl, _⟩, _⟩ := hg (0, 0) (by show 0 < len; omega) hpos
        refine .inr ⟨b, o, rfl, hbl, fun j x hj => ?_⟩
        have hjl := (List.getElem?_eq_some_iff.1 hj).1
        rw [flat_len hk, hlen] at hjl
        have hd : j / fs.size < len := (Nat.div_lt_iff_lt_mul hpos).2 hjl
        have hmd : j % fs.size < fs.size := Nat.mod_lt _ hpos
        have h1 := flat_get (l := (List.range len).map (fun i => (List.range fs.size).map fun j => g (i, j))) (i := j / fs.size) (j := j % fs.size) hk (by rw [List.getElem?_map, List.getElem?_range hd]; rfl) (x := g (j / fs.size, j % fs.size)) (by rw [List.getElem?_map, List.getElem?_range hmd]; rfl)
        have hj' : j / fs.size * fs.size + j % fs.size = j := by rw [Nat.mul_comm]; exact Nat.div_add_mod j fs.size
        rw [hj', hj] at h1
        injection h1 with h1
        obtain ⟨⟨b', o', he', _, hcell⟩, _⟩ := hg (j / fs.size, j % fs.size) hd hmd
        injection he' with hb' ho'
        subst hb' ho' h1
        simp only at hcell
        rw [Nat.add_assoc, hj'] at hcell
        exact hcell
    · obtain ⟨i, hi', rfl⟩ := List.mem_map.1 hr
      obtain ⟨j, hj', rfl⟩ := List.mem_map.1 hx
      exact (hg (i, j) (by simpa using hi') (by simpa using hj')).2
end
def Bk.Ints (b : Bk) : Prop := (∀ r ∈ b.h, ∀ x ∈ r, I64 x) ∧ (∀ r ∈ b.s, ∀ x ∈ r, I64 x) ∧ (∀ r ∈ b.o, ∀ x ∈ r, I64 x) ∧ (∀ r ∈ b.r, ∀ x ∈ r, I64 x) ∧ I64 b.n
def intF (P : Program) (fs : Array Field) : Bool := (List.range fs.size).all fun j => match fs[j]? with | some f => isI64 (P.underlying f.type) | none => true
theorem intF_spec {P : Program} {fs : Array Field} (h : intF P fs = true) (j : Nat) (f : Field) (hj : fs[j]? = some f) : P.underlying f.type = some (.int .i64) := by
  have h1 := List.all_eq_true.1 h j (List.mem_range.2 (Array.getElem?_eq_some_iff.1 hj).1)
  rw [hj] at h1
  exact isI64_spec h1
set_option maxRecDepth 100000 in
theorem open_book {H : Type} {enc : TypeId × Value → H} {W : World} {r : Reach} {b0 : Nat} {v : Value} {d : DataW H} {ps : List MemPlace} (hv : Value.okWide Try.prog W r b0 37 v) (h : DataW.Trod enc Try.prog W 0 (fun _ => true) true 37 v d ps) :
    ∃ b : Bk, BkAt W v b ∧ b.Ints := by
  obtain ⟨cs, rfl, hsz, hc⟩ := open_agg (n := 2) Try.underlying37 hv h
  obtain ⟨v0, m0, y0, e0, t0⟩ := hc 0 32 (by decide +kernel)
  obtain ⟨v1, m1, y1, e1, t1⟩ := hc 1 33 (by decide +kernel)
  obtain ⟨v2, m2, y2, e2, t2⟩ := hc 2 34 (by decide +kernel)
  obtain ⟨v3, m3, y3, e3, t3⟩ := hc 3 35 (by decide +kernel)
  obtain ⟨v4, m4, y4, e4, t4⟩ := hc 4 2 (by decide +kernel)
  obtain ⟨lh, h1, _, i1⟩ := open_recs Try.underlying32 Try.underlying39 (by kernel_rfl) (by kernel_rfl) (by decide) (fun j f hj => intF_spec (P := Try.prog) (by kernel_rfl) j f hj) t0
  obtain ⟨ls, h2, _, i2⟩ := open_recs Try.underlying33 Try.underlying41 (by kernel_rfl) (by kernel_rfl) (by decide) (fun j f hj => intF_spec (P := Try.prog) (by kernel_rfl) j f hj) t1
  obtain ⟨lo, h3, _, i3⟩ := open_recs Try.underlying34 Try.underlying43 (by kernel_rfl) (by kernel_rfl) (by decide) (fun j f hj => intF_spec (P := Try.prog) (by kernel_rfl) j f hj) t2
  obtain ⟨lr, h4, _, i4⟩ := open_recs Try.underlying35 Try.underlying45 (by kernel_rfl) (by kernel_rfl) (by decide) (fun j f hj => intF_spec (P := Try.prog) (by kernel_rfl) j f hj) t3
  obtain ⟨n, hn, wn⟩ := leaf_int Try.underlying2 t4
  have hcs : cs = #[v0, v1, v2, v3, .int .i64 n] := by
    have hz : cs.size = 5 := hsz.trans (by kernel_rfl)
    apply Array.ext_getElem?
    intro i
    match i with
    | 0 => rw [e0]; rfl
    | 1 => rw [e1]; rfl
    | 2 => rw [e2]; rfl
    | 3 => rw [e3]; rfl
    | 4 => rw [e4, hn]; rfl
    | i + 5 => rw [Array.getElem?_eq_none (by omega), Array.getElem?_eq_none (by simp)]
  subst hcs
  exact ⟨⟨lh, ls, lo, lr, n⟩, ⟨v0, v1, v2, v3, rfl, h1, h2, h3, h4⟩, i1, i2, i3, i4, (wf_i64 wn).out⟩
end

end Go.Proofs.Ytfkfpppiikgjbaa
