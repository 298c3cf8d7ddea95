/- A slice of texts that comes in. -/
import Derived.Test.YtjcdpmianmgiaaaLeaf
import Derived.Test.YtjcdpmianmgiaaaTornC
import Derived.SizedLaws
namespace Go.Proofs.Ytjcdpmianmgiaaa
open Go.ChangeShapes Go.WideShapes Go.Deep Go.ChangeAt Go.RowKit

section
variable {H : Type} {enc : TypeId × Value → H} {P : Program} {w : World}
theorem open_row3 {t e : TypeId} {r : Reach} {b0 : Nat} {v : Value} {d : DataW H} {ps : List MemPlace} (ht : P.underlying t = some (.slice e)) (hC : P.cellsOf e = 1)
    (hv : Value.okWide P w r b0 t v) (h : DataW.Trod enc P w 0 (fun _ => true) true t v d ps) :
    ∃ (A : Option Addr) (n c : Nat), v = .slice A n c ∧ n ≤ maxLen ∧ n ≤ c ∧ ∀ i, i < n → ∃ b o, A = some ⟨b, o, none⟩ ∧ b < w.heap.size ∧
      ∃ u y m, w.cell? ⟨b, o + i, none⟩ = some u ∧ DataW.trod enc P w 0 (fun _ => true) true m e [u] = some y := by
  obtain ⟨A, n, c, rfl, hn, hi⟩ := open_row ht hC hv h
  refine ⟨A, n, c, rfl, hn, ?_, hi⟩
  obtain ⟨fuel, hf⟩ := h
  rcases open_slice ht hf with ⟨hcs, _⟩ | ⟨a, len', cap', m, k, D, Pl, hcs, hb, hl, hm, hmm, _, hi⟩
  · simp [Value.cells] at hcs
    omega
  · simp [Value.cells] at hcs
    omega
/-- The texts of a slice that comes in. -/
theorem open_strs {t e : TypeId} {r : Reach} {b0 : Nat} {v : Value} {d : DataW H} {ps : List MemPlace} (ht : P.underlying t = some (.slice e)) (he : P.underlying e = some .string) (hC : P.cellsOf e = 1)
    (hv : Value.okWide P w r b0 t v) (h : DataW.Trod enc P w 0 (fun _ => true) true t v d ps) :
    ∃ l : List ByteArray, StrsAt w v l ∧ l.length ≤ 9223372036854775807 ∧ ∀ (i : Nat) (s : ByteArray), l[i]? = some s → s.size ≤ 9223372036854775807 := by
  obtain ⟨A, n, c, rfl, hn, hnc, hi⟩ := open_row3 ht hC hv h
  have hA2 : ∀ i, ∃ s : ByteArray, i < n → (∃ b o, A = some ⟨b, o, none⟩ ∧ b < w.heap.size ∧ w.cell? ⟨b, o + i, none⟩ = some (.string s)) ∧ s.size ≤ 9223372036854775807 := by
    intro i
    by_cases hlt : i < n
    · obtain ⟨b, o, ha, hb, u, y, m, hc, hty⟩ := hi i hlt
      obtain ⟨s, rfl, hs⟩ := leaf_string he hty
      exact ⟨s, fun _ => ⟨⟨b, o, ha, hb, hc⟩, by unfold maxLen at hs; exact hs⟩⟩
    · exact ⟨ByteArray.empty, fun h => absurd h hlt⟩
  obtain ⟨f, hf⟩ := Classical.axiomOfChoice hA2
  have hlen : ((List.range n).map f).length = n := by simp
  have hget : ∀ (i : Nat) (s : ByteArray), ((List.range n).map f)[i]? = some s → i < n ∧ f i = s := fun i s hs => by
    obtain ⟨hi, he⟩ := List.getElem?_eq_some_iff.1 hs
    rw [hlen] at hi
    exact ⟨hi, by simpa using he⟩
  refine ⟨(List.range n).map f, ⟨A, c, by rw [hlen], by rw [hlen]; exact hnc, fun i s hs => ?_⟩, by rw [hlen]; unfold maxLen at hn; exact hn, fun i s hs => ?_⟩
  · obtain ⟨hin, rfl⟩ := hget i s hs
    exact (hf i hin).1
  · obtain ⟨hin, rfl⟩ := hget i s hs
    exact (hf i hin).2
theorem open_kept {t e : TypeId} {r : Reach} {b0 : Nat} {v : Value} {d : DataW H} {ps : List MemPlace} (ht : P.underlying t = some (.slice e)) (he : P.underlying e = some (.int .u16)) (hC : P.cellsOf e = 1)
    (hv : Value.okWide P w r b0 t v) (h : DataW.Trod enc P w 0 (fun _ => true) true t v d ps) :
    ∃ l : List Nat, KeptAt w v l ∧ l.length ≤ 9223372036854775807 ∧ ∀ k ∈ l, k ≤ 65535 := by
  obtain ⟨A, n, c, rfl, hn, hnc, hi⟩ := open_row3 ht hC hv h
  have hA2 : ∀ i, ∃ s : Nat, (i < n → ∃ b o, A = some ⟨b, o, none⟩ ∧ b < w.heap.size ∧ w.cell? ⟨b, o + i, none⟩ = some (.int .u16 (s : Int))) ∧ s ≤ 65535 := by
    intro i
    by_cases hlt : i < n
    · obtain ⟨b, o, ha, hb, u, y, m, hc, hty⟩ := hi i hlt
      obtain ⟨s, rfl, hs⟩ := leaf_int he hty
      have h1 := (wf_u16 hs).out
      refine ⟨s.toNat, fun _ => ⟨b, o, ha, hb, ?_⟩, by omega⟩
      rw [hc, Int.toNat_of_nonneg h1.1]
    · exact ⟨0, fun h => absurd h hlt, by omega⟩
  obtain ⟨f, hf⟩ := Classical.axiomOfChoice hA2
  have hlen : ((List.range n).map f).length = n := by simp
  refine ⟨(List.range n).map f, ⟨A, c, by rw [hlen], fun i s hs => ?_⟩, by rw [hlen]; unfold maxLen at hn; exact hn, fun k hk => ?_⟩
  · obtain ⟨hi, he⟩ := List.getElem?_eq_some_iff.1 hs
    rw [hlen] at hi
    have he : f i = s := by simpa using he
    subst he
    exact (hf i).1 hi
  · obtain ⟨i, _, rfl⟩ := List.mem_map.1 hk
    exact (hf i).2
end
end Go.Proofs.Ytjcdpmianmgiaaa
