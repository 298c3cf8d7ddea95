/- Arguments with depth, opened to their cells, however they are nested. Over any program. -/
import Derived.Test.YtjcdpmianmgiaaaOpen
import Derived.Test.YtjcdpmianmgiaaaPlain
import Derived.Lib.LaidTab
namespace Go.Proofs.Ytjcdpmianmgiaaa
open Go.ChangeShapes Go.WideShapes Go.Deep Go.ChangeAt Go.RowKit

/-- The leaves of a type: where each lies, and its type. -/
def leavesOf (P : Program) : Nat → TypeId → List (Nat × TypeId)
  | 0, _ => []
  | n + 1, t =>
    match P.underlying t with
    | some (.struct fs) => fs.toList.flatMap fun f => (leavesOf P n f.type).map fun x => (f.offset + x.1, x.2)
    | some (.array k e) => (List.range k).flatMap fun i => (leavesOf P n e).map fun x => (i * P.cellsOf e + x.1, x.2)
    | _ => [(0, t)]

section
variable {H : Type} {enc : TypeId × Value → H} {P : Program} {w : World} {base : Nat} {sp : Nat → Bool} {held : Bool}

theorem at_sub {cs : List Value} {a k o : Nat} {c : Value} (h : ((cs.drop a).take k)[o]? = some c) : cs[a + o]? = some c := by
  rw [List.getElem?_take] at h
  split at h
  · rwa [List.getElem?_drop] at h
  · cases h

theorem leaf_single {fuel : Nat} {t : TypeId} {cs : List Value} {x : DataW H × List MemPlace} (h : DataW.trod enc P w base sp held fuel t cs = some x)
    (h1 : ∀ fs, P.underlying t ≠ some (.struct fs)) (h2 : ∀ k e, P.underlying t ≠ some (.array k e)) : ∃ c, cs = [c] := by
  cases fuel with
  | zero => simp [DataW.trod] at h
  | succ n =>
    unfold DataW.trod at h
    split at h
    all_goals first
      | exact ⟨_, rfl⟩
      | (exfalso; exact h1 _ (by assumption))
      | (exfalso; exact h2 _ _ (by assumption))
      | (exfalso; simp at h; done)

theorem trod_leaf : ∀ (n fuel : Nat) (t : TypeId) (cs : List Value) (x : DataW H × List MemPlace), DataW.trod enc P w base sp held fuel t cs = some x →
    ∀ o u, (o, u) ∈ leavesOf P n t → ∃ c m y, cs[o]? = some c ∧ DataW.trod enc P w base sp held m u [c] = some y := by
  intro n
  induction n with
  | zero => intro _ _ _ _ _ o u hm; simp [leavesOf] at hm
  | succ n ih =>
    intro fuel t cs x h o u hm
    unfold leavesOf at hm
    split at hm
    · rename_i fs hu
      obtain ⟨xs, m, rfl, _, _, hl, hf⟩ := DataW.trod_struct hu h
      simp only [List.mem_flatMap, List.mem_map, Prod.mk.injEq] at hm
      obtain ⟨f, hfm, ⟨o', u'⟩, hm', rfl, rfl⟩ := hm
      obtain ⟨i, hi, rfl⟩ := List.getElem_of_mem hfm
      have hi' : i < fs.size := by simpa using hi
      have hfi : fs[i]? = some fs.toList[i] := by rw [Array.getElem?_eq_getElem hi']; simp
      have h1 := hf i _ hfi
      rw [List.getElem?_eq_getElem (by omega)] at h1
      obtain ⟨c, m', y, hc, hy⟩ := ih _ _ _ _ h1 o' u' hm'
      exact ⟨c, m', y, at_sub hc, hy⟩
    · rename_i k e hu
      cases fuel with
      | zero => simp [DataW.trod] at h
      | succ m =>
        unfold DataW.trod at h
        rw [hu] at h
        simp only [List.mem_flatMap, List.mem_map, Prod.mk.injEq, List.mem_range] at hm
        obtain ⟨i, hi, ⟨o', u'⟩, hm', rfl, rfl⟩ := hm
        simp only at h
        split at h
        · obtain ⟨xs, hx, _⟩ := Option.map_eq_some_iff.1 h
          obtain ⟨b, hb, hff⟩ := Go.Lib.mapM_at hx i i (by simp [hi])
          obtain ⟨c, m', y, hc, hy⟩ := ih _ _ _ _ hff o' u' hm'
          exact ⟨c, m', y, at_sub hc, hy⟩
        · cases h
    · rename_i hn1 hn2
      simp only [List.mem_singleton, Prod.mk.injEq] at hm
      obtain ⟨rfl, rfl⟩ := hm
      obtain ⟨c, rfl⟩ := leaf_single h (fun fs e => hn1 fs e) (fun k e e' => hn2 k e e')
      exact ⟨c, fuel, x, rfl, h⟩

/-- A struct that comes in by value. -/
theorem open_agg {n : Nat} {t : TypeId} {fs : Array Field} {r : Reach} {b0 : Nat} {v : Value} {d : DataW H} {ps : List MemPlace} (hs : P.underlying t = some (.struct fs))
    (hv : Value.okWide P w r b0 t v) (h : DataW.Trod enc P w base sp held t v d ps) :
    ∃ cs : Array Value, v = .agg cs ∧ cs.size = P.cellsOf t ∧ ∀ o u, (o, u) ∈ leavesOf P n t → ∃ c m y, cs[o]? = some c ∧ DataW.trod enc P w base sp held m u [c] = some y := by
  obtain ⟨cs, rfl, hsz⟩ := okWide_struct hs hv
  obtain ⟨fuel, hf⟩ := h
  refine ⟨cs, rfl, hsz, fun o u hm => ?_⟩
  obtain ⟨c, m, y, hc, hy⟩ := trod_leaf n _ _ _ _ hf o u hm
  exact ⟨c, m, y, by simpa [Value.cells] using hc, hy⟩

/-- One integer. -/
theorem leaf_int {m : Nat} {u : TypeId} {k : IntKind} {c : Value} {y : DataW H × List MemPlace} (hu : P.underlying u = some (.int k)) (h : DataW.trod enc P w base sp held m u [c] = some y) :
    ∃ n, c = .int k n ∧ (Lit.int k n).wf = true := by
  cases m with
  | zero => simp [DataW.trod] at h
  | succ m =>
    unfold DataW.trod at h
    rw [hu] at h
    split at h <;> simp_all
/-- One string. -/
theorem leaf_string {m : Nat} {u : TypeId} {c : Value} {y : DataW H × List MemPlace} (hu : P.underlying u = some .string) (h : DataW.trod enc P w base sp held m u [c] = some y) :
    ∃ s, c = .string s ∧ s.size ≤ maxLen := by
  cases m with
  | zero => simp [DataW.trod] at h
  | succ m =>
    unfold DataW.trod at h
    rw [hu] at h
    split at h <;> simp_all
/-- One bool. -/
theorem leaf_bool {m : Nat} {u : TypeId} {c : Value} {y : DataW H × List MemPlace} (hu : P.underlying u = some .bool) (h : DataW.trod enc P w base sp held m u [c] = some y) :
    ∃ b, c = .bool b := by
  cases m with
  | zero => simp [DataW.trod] at h
  | succ m =>
    unfold DataW.trod at h
    rw [hu] at h
    split at h <;> simp_all

def isI64 : Option TypeDesc → Bool
  | some (.int .i64) => true
  | _ => false
theorem isI64_spec {u : Option TypeDesc} (h : isI64 u = true) : u = some (.int .i64) := by
  unfold isI64 at h
  split at h
  · rfl
  · cases h
/-- Are the first k cells of a type leaves that are numbers of 64 bits? -/
def allI64 (P : Program) (n k : Nat) (t : TypeId) : Bool := (List.range k).all fun i => (leavesOf P n t).any fun x => x.1 == i && isI64 (P.underlying x.2)
theorem allI64_spec {n k : Nat} {t : TypeId} (h : allI64 P n k t = true) : ∀ i, i < k → ∃ u, (i, u) ∈ leavesOf P n t ∧ P.underlying u = some (.int .i64) := by
  intro i hi
  have h1 := List.all_eq_true.1 h i (List.mem_range.2 hi)
  obtain ⟨⟨o, u⟩, hm, h2⟩ := List.any_eq_true.1 h1
  simp only [Bool.and_eq_true, beq_iff_eq] at h2
  obtain ⟨rfl, h3⟩ := h2
  exact ⟨u, hm, isI64_spec h3⟩

/-- A struct of numbers of 64 bits alone. -/
theorem open_agg_i64 (n k : Nat) {t : TypeId} {fs : Array Field} {r : Reach} {b0 : Nat} {v : Value} {d : DataW H} {ps : List MemPlace} (hs : P.underlying t = some (.struct fs)) (hk : P.cellsOf t = k)
    (hl : ∀ i, i < k → ∃ u, (i, u) ∈ leavesOf P n t ∧ P.underlying u = some (.int .i64))
    (hv : Value.okWide P w r b0 t v) (h : DataW.Trod enc P w base sp held t v d ps) :
    ∃ x : Nat → Int, v = .agg ((Array.range k).map fun i => .int .i64 (x i)) ∧ ∀ i, i < k → I64 (x i) := by
  obtain ⟨cs, rfl, hsz, hc⟩ := open_agg (n := n) hs hv h
  have h1 : ∀ i, ∃ z, i < k → cs[i]? = some (.int .i64 z) ∧ I64 z := by
    intro i
    by_cases hi : i < k
    · obtain ⟨u, hm, hu⟩ := hl i hi
      obtain ⟨c, m, y, hci, hy⟩ := hc i u hm
      obtain ⟨z, rfl, hz⟩ := leaf_int hu hy
      exact ⟨z, fun _ => ⟨hci, (wf_i64 hz).out⟩⟩
    · exact ⟨0, fun h => absurd h hi⟩
  obtain ⟨x, hx⟩ := Classical.axiomOfChoice h1
  refine ⟨x, ?_, fun i hi => (hx i hi).2⟩
  congr 1
  apply Array.ext_getElem?
  intro i
  by_cases hi : i < k
  · rw [(hx i hi).1]; simp [hi]
  · rw [Array.getElem?_eq_none (by omega), Array.getElem?_eq_none (by simp; omega)]
theorem range9 {α : Type} (f : Nat → α) : (Array.range 9).map f = #[f 0, f 1, f 2, f 3, f 4, f 5, f 6, f 7, f 8] := by simp [Array.range, Array.ofFn_succ]
theorem range7 {α : Type} (f : Nat → α) : (Array.range 7).map f = #[f 0, f 1, f 2, f 3, f 4, f 5, f 6] := by simp [Array.range, Array.ofFn_succ]
end
end Go.Proofs.Ytjcdpmianmgiaaa
