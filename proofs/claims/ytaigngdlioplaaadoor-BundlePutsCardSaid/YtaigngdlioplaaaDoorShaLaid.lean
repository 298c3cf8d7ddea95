/- What the rows' list gives: the digest's two tables; a world for the witness. -/
import Derived.Test.YtaigngdlioplaaaDoorCards
import Derived.Test.YtaigngdlioplaaaDoorTie
import Derived.Test.YtaigngdlioplaaaDoorShaJ
import Derived.Test.YtaigngdlioplaaaDoorPost
import Derived.Deep.DeepHandedRow
import Derived.Lib.LaidTab
namespace Go.Proofs.YtaigngdlioplaaaDoor
open Go Go.Lib Go.ChangeShapes Go.WideShapes Go.ChangeAt Go.RowKit

theorem laid_tab {P : Program} {W : World} {name : String} {k : IntKind} {zs : List Int} {rest : List (String × DataW Unit)} {ps : List MemPlace} {g : Nat} {t e : TypeId} {n : Nat}
    (hg : P.globalNamed name = some g) (hty : (P.globals[g]?).map (·.type) = some t) (ht : P.underlying t = some (.array n e)) (he : P.underlying e = some (.int k)) (hce : P.cellsOf e = 1) (hct : P.cellsOf t = n)
    (h : DataW.LaidVars P W ((name, tabData k zs) :: rest) ps) : TabIs P W name k zs ∧ ∃ qs, DataW.LaidVars P W rest qs := by
  obtain ⟨g', t', cs, fuel, p, q, hg', ht', hvar, hd, hrest, _⟩ := h
  obtain rfl := Option.some.inj (hg.symm.trans hg')
  obtain rfl := Option.some.inj (hty.symm.trans ht')
  refine ⟨?_, q, hrest⟩
  unfold TabIs
  rw [hvar, ← cells_of_tab ht he hce hct hd]

theorem lt_of_cell {w : World} {g o : Nat} {v : Value} (h : w.cell? ⟨g, o, none⟩ = some v) : g < w.heap.size := by
  rcases Nat.lt_or_ge g w.heap.size with h1 | h1
  · exact h1
  · unfold World.cell? at h
    rw [Array.getElem?_eq_none h1] at h
    simp at h
theorem gShaK : Tryd.prog.globalNamed "engross/sha.constants" = some 1 := by kernel_rfl
theorem gShaF : Tryd.prog.globalNamed "engross/sha.first" = some 0 := by kernel_rfl
theorem gShaKType : (Tryd.prog.globals[1]?).map (·.type) = some 34 := by kernel_rfl
theorem gShaFType : (Tryd.prog.globals[0]?).map (·.type) = some 35 := by kernel_rfl
theorem hSt_fine : hSt.Ok := by
  refine ⟨?_, ?_, ?_, ?_, ?_, ?_, ?_, ?_⟩ <;> (unfold U32 hSt; decide)
def hList : List Int := [1779033703, 3144134277, 1013904242, 2773480762, 1359893119, 2600822924, 528734635, 1541459225]

theorem sha_laid {W : World} {rest : List (String × DataW Unit)} {ps : List MemPlace} (hl : DataW.LaidVars Tryd.prog W (("engross/sha.constants", Rows.laid_engross_sha_constants) :: ("engross/sha.first", Rows.laid_engross_sha_first) :: rest) ps) : Hid (ShaT W (nth kList) hSt) := by
  have hl' : DataW.LaidVars Tryd.prog W (("engross/sha.constants", tabData .u32 kList) :: ("engross/sha.first", tabData .u32 hList) :: rest) ps := hl
  obtain ⟨h1, qs, hr⟩ := laid_tab gShaK gShaKType Tryd.underlying34 Tryd.underlying33 (by kernel_rfl) (by kernel_rfl) hl'
  obtain ⟨h2, _⟩ := laid_tab gShaF gShaFType Tryd.underlying35 Tryd.underlying33 (by kernel_rfl) (by kernel_rfl) hr
  have k1 : ∀ i, i < 64 → W.cell? ⟨1, i, none⟩ = some (.int .u32 (nth kList i)) := fun i hi => by
    have := h1.cell gShaK i hi
    rwa [List.getD_eq_getElem?_getD] at this
  have k2 : ∀ i, i < 8 → W.cell? ⟨0, i, none⟩ = some (.int .u32 (sv hSt i)) := fun i hi => by
    have := h2.cell gShaF i hi
    rw [this]
    match i, hi with
    | 0, _ => rfl
    | 1, _ => rfl
    | 2, _ => rfl
    | 3, _ => rfl
    | 4, _ => rfl
    | 5, _ => rfl
    | 6, _ => rfl
    | 7, _ => rfl
  exact ⟨k1, k2, lt_of_cell (k1 0 (by decide)), lt_of_cell (k2 0 (by decide)), hSt_fine⟩
theorem sha_of {W : World} (h : laidMet Tryd.prog [("engross/sha.constants", Rows.laid_engross_sha_constants), ("engross/sha.first", Rows.laid_engross_sha_first)] W) : Hid (ShaT W (nth kList) hSt) := by
  obtain ⟨ps, hl, _⟩ := h
  exact sha_laid hl

def shaCells (cs : Array Value) : Obj → Obj
  | .cells _ t frozen => .cells cs t frozen
  | o => o
noncomputable def shaWorld (os : Os) : World :=
  { World.holding Tryd.prog os ⟨#[], #[], []⟩ with heap := ((World.holding Tryd.prog os ⟨#[], #[], []⟩).heap.modify 1 (shaCells (kList.map (Value.int .u32)).toArray)).modify 0 (shaCells (hList.map (Value.int .u32)).toArray) }
end Go.Proofs.YtaigngdlioplaaaDoor
