/- Arguments that are slices: what is known of their cells. Over any program. -/
import Derived.Test.YtjcdpmianmgiaaaPost
import Derived.Deep.Slices
import Derived.Deep.Fields
namespace Go.Proofs.Ytjcdpmianmgiaaa
open Go.ChangeShapes Go.WideShapes Go.Deep

section
variable {H : Type} {enc : TypeId × Value → H} {P : Program} {w : World}

theorem spot_none {a : Addr} {v : Value} (h : w.cell? a = some v) : a.spot = none := by
  unfold World.cell? at h
  split at h
  · split at h
    · simp at h
    · rename_i h1; simpa using h1
  · simp at h
theorem addr_none {a : Addr} (h : a.spot = none) : a = ⟨a.block, a.off, none⟩ := by
  cases a; simp at h; subst h; rfl
theorem add_at (b o i : Nat) : (⟨b, o, none⟩ : Addr).add i = ⟨b, o + i, none⟩ := Addr.add_lit b o i

/-- A slice of structs whose fields are one cell each. -/
theorem open_rows {t e : TypeId} {fs : Array Field} {r : Reach} {b0 : Nat} {v : Value} {d : DataW H} {ps : List MemPlace} (ht : P.underlying t = some (.slice e)) (he : P.underlying e = some (.struct fs)) (hone : oneCellFields P fs = true) (hC : P.cellsOf e = fs.size) (hpos : 0 < fs.size)
    (hv : Value.okWide P w r b0 t v) (h : DataW.Trod enc P w 0 (fun _ => true) true t v d ps) :
    ∃ (A : Option Addr) (n c : Nat), v = .slice A n c ∧ n ≤ maxLen ∧ ∀ i, i < n → ∃ b o, A = some ⟨b, o, none⟩ ∧ b < w.heap.size ∧
      ∀ (j : Nat) (f : Field), fs[j]? = some f → ∃ u y m, w.cell? ⟨b, o + i * fs.size + j, none⟩ = some u ∧ DataW.trod enc P w 0 (fun _ => true) true m f.type [u] = some y := by
  obtain ⟨a0, len, cap, rfl⟩ := okWide_slice ht hv
  obtain ⟨fuel, hf⟩ := h
  rcases open_slice ht hf with ⟨hcs, _⟩ | ⟨a, len', cap', m, n, D, Pl, hcs, hb, hl, hm, hmm, _, hi⟩
  · simp [Value.cells] at hcs
    obtain ⟨rfl, rfl, rfl⟩ := hcs
    exact ⟨none, 0, 0, rfl, Nat.zero_le _, fun i hi => by omega⟩
  · simp [Value.cells] at hcs
    obtain ⟨rfl, rfl, rfl⟩ := hcs
    simp only [if_true] at hmm
    subst hmm
    refine ⟨some a, len, m, rfl, by omega, fun i hin => ?_⟩
    have h0 : a = ⟨a.block, a.off, none⟩ := by
      obtain ⟨cs', hc, _⟩ := hi 0 (by omega)
      obtain ⟨_, hcl, hat⟩ := World.cells?_some hc
      have h1 := hat 0 (by rw [hC]; exact hpos)
      rw [Nat.zero_mul] at h1
      have e0 : (a.add 0).add 0 = a := by simp [Addr.add]
      rw [e0, List.getElem?_eq_getElem (by rw [hcl, hC]; exact hpos)] at h1
      exact addr_none (spot_none h1)
    generalize a.block = b at h0
    generalize a.off = o at h0
    subst h0
    obtain ⟨cs', hc, ht'⟩ := hi i (by omega)
    rw [hC] at hc
    obtain ⟨_, hcl, hat⟩ := World.cells?_some hc
    have key : ∀ (j : Nat) (f : Field), fs[j]? = some f → ∃ u y m, w.cell? ⟨b, o + i * fs.size + j, none⟩ = some u ∧ DataW.trod enc P w 0 (fun _ => true) true m f.type [u] = some y := by
      intro j f hj
      obtain ⟨ys, n', _, _, _, hyl, hff⟩ := DataW.trod_struct he ht'
      obtain ⟨ho, hk⟩ := hone_of hone j f hj
      have hjl : j < fs.size := (Array.getElem?_eq_some_iff.1 hj).1
      have hcell := hat j hjl
      rw [add_at, add_at, List.getElem?_eq_getElem (by omega)] at hcell
      have h1 := hff j f hj
      rw [ho, hk] at h1
      have hone' : (cs'.drop j).take 1 = [cs'[j]'(by omega)] := by
        rw [List.drop_eq_getElem_cons (by omega)]
        rfl
      rw [hone', List.getElem?_eq_getElem (by omega)] at h1
      exact ⟨_, _, _, hcell, h1⟩
    refine ⟨b, o, rfl, ?_, key⟩
    obtain ⟨u, _, _, hu, _⟩ := key 0 fs[0] (by simp [hpos])
    exact World.block_lt_of_cell? w _ hu

/-- A slice whose elements are one cell each. -/
theorem open_row {t e : TypeId} {r : Reach} {b0 : Nat} {v : Value} {d : DataW H} {ps : List MemPlace} (ht : P.underlying t = some (.slice e)) (hC : P.cellsOf e = 1)
    (hv : Value.okWide P w r b0 t v) (h : DataW.Trod enc P w 0 (fun _ => true) true t v d ps) :
    ∃ (A : Option Addr) (n c : Nat), v = .slice A n c ∧ n ≤ maxLen ∧ ∀ i, i < n → ∃ b o, A = some ⟨b, o, none⟩ ∧ b < w.heap.size ∧
      ∃ u y m, w.cell? ⟨b, o + i, none⟩ = some u ∧ DataW.trod enc P w 0 (fun _ => true) true m e [u] = some y := by
  obtain ⟨a0, len, cap, rfl⟩ := okWide_slice ht hv
  obtain ⟨fuel, hf⟩ := h
  rcases open_slice ht hf with ⟨hcs, _⟩ | ⟨a, len', cap', m, n, D, Pl, hcs, hb, hl, hm, hmm, _, hi⟩
  · simp [Value.cells] at hcs
    obtain ⟨rfl, rfl, rfl⟩ := hcs
    exact ⟨none, 0, 0, rfl, Nat.zero_le _, fun i hi => by omega⟩
  · simp [Value.cells] at hcs
    obtain ⟨rfl, rfl, rfl⟩ := hcs
    simp only [if_true] at hmm
    subst hmm
    refine ⟨some a, len, m, rfl, by omega, fun i hin => ?_⟩
    have h0 : a = ⟨a.block, a.off, none⟩ := by
      obtain ⟨cs', hc, _⟩ := hi 0 (by omega)
      obtain ⟨_, hcl, hat⟩ := World.cells?_some hc
      have h1 := hat 0 (by rw [hC]; omega)
      rw [Nat.zero_mul] at h1
      have e0 : (a.add 0).add 0 = a := by simp [Addr.add]
      rw [e0, List.getElem?_eq_getElem (by rw [hcl, hC]; omega)] at h1
      exact addr_none (spot_none h1)
    generalize a.block = b at h0
    generalize a.off = o at h0
    subst h0
    obtain ⟨cs', hc, ht'⟩ := hi i (by omega)
    rw [hC] at hc
    obtain ⟨_, hcl, hat⟩ := World.cells?_some hc
    match cs', hcl with
    | [u], _ =>
      have hcell := hat 0 (by omega)
      rw [add_at, add_at] at hcell
      have hcell : w.cell? ⟨b, o + i, none⟩ = some u := by simpa using hcell
      exact ⟨b, o, rfl, World.block_lt_of_cell? w _ hcell, u, _, _, hcell, ht'⟩
end
end Go.Proofs.Ytjcdpmianmgiaaa
