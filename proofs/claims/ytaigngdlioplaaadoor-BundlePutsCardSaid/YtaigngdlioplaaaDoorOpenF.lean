/- The files of a slice that comes in. -/
import Derived.Test.YtaigngdlioplaaaDoorFileB
import Derived.Test.YtaigngdlioplaaaDoorOpen
import Derived.Test.YtaigngdlioplaaaDoorLeaf
namespace Go.Proofs.YtaigngdlioplaaaDoor
open Go Go.ChangeShapes Go.WideShapes Go.ChangeAt Go.RowKit
set_option linter.unusedVariables false

set_option maxRecDepth 100000 in
theorem open_files {H : Type} {enc : TypeId × Value → H} {W : World} {r : Reach} {b0 : Nat} {v : Value} {d : DataW H} {ps : List MemPlace} (hv : Value.okWide Tryd.prog W r b0 67 v) (h : DataW.Trod enc Tryd.prog W 0 (fun _ => true) true 67 v d ps) :
    ∃ l : List Fil, FilesAt W v l ∧ l.length ≤ 9223372036854775807 ∧ ∀ (i : Nat) (f : Fil), l[i]? = some f → f.1.size ≤ 9223372036854775807 ∧ f.2.size ≤ 9223372036854775807 := by
  obtain ⟨A, n, c, rfl, hn, hQ⟩ := open_rows Tryd.underlying67 Tryd.underlying113 (by kernel_rfl) (by kernel_rfl) (by decide) hv h
  have hA2 : ∀ i, ∃ f : Fil, i < n → (∃ b o, A = some ⟨b, o, none⟩ ∧ b < W.heap.size ∧ W.cell? ⟨b, o + i * 2, none⟩ = some (.string f.1) ∧ W.cell? ⟨b, o + i * 2 + 1, none⟩ = some (.string f.2)) ∧ f.1.size ≤ 9223372036854775807 ∧ f.2.size ≤ 9223372036854775807 := by
    intro i
    by_cases hi : i < n
    · obtain ⟨b, o, ha, hb, hF⟩ := hQ i hi
      obtain ⟨u0, y0, m0, k0, t0⟩ := hF 0 _ rfl
      obtain ⟨u1, y1, m1, k1, t1⟩ := hF 1 _ rfl
      obtain ⟨z0, rfl, f0⟩ := leaf_string Tryd.underlying9 t0
      obtain ⟨z1, rfl, f1⟩ := leaf_string Tryd.underlying9 t1
      exact ⟨(z0, z1), fun _ => ⟨⟨b, o, ha, hb, k0, k1⟩, by unfold maxLen at f0; exact f0, by unfold maxLen at f1; exact f1⟩⟩
    · exact ⟨(ByteArray.empty, ByteArray.empty), fun h => absurd h hi⟩
  obtain ⟨f, hf⟩ := Classical.axiomOfChoice hA2
  have hlen : ((List.range n).map f).length = n := by simp
  have hget : ∀ (i : Nat) (s : Fil), ((List.range n).map f)[i]? = some s → i < n ∧ f i = s := fun i s hs => by
    obtain ⟨hi, he⟩ := List.getElem?_eq_some_iff.1 hs
    rw [hlen] at hi
    exact ⟨hi, by simpa using he⟩
  refine ⟨(List.range n).map f, ⟨A, c, by rw [hlen], fun i s hs => ?_⟩, by rw [hlen]; unfold maxLen at hn; exact hn, fun i s hs => ?_⟩
  · obtain ⟨hin, rfl⟩ := hget i s hs
    exact (hf i hin).1
  · obtain ⟨hin, rfl⟩ := hget i s hs
    exact (hf i hin).2
end Go.Proofs.YtaigngdlioplaaaDoor
