/- What the rows' list gives: the table of the powers of ten; a world for the witness. -/
import Derived.Test.YteeemoknbnlopaaDoorCards
import Derived.Test.YteeemoknbnlopaaDoorTie
import Derived.Test.YteeemoknbnlopaaDoorShelfE
import Derived.Test.YteeemoknbnlopaaDoorPost
import Derived.Deep.DeepHandedRow
import Derived.Lib.LaidTab
namespace Go.Proofs.YteeemoknbnlopaaDoor
open Go Go.Lib Go.ChangeShapes Go.WideShapes Go.ChangeAt Go.RowKit

theorem laid_tab {P : Program} {W : World} {name : String} {k : IntKind} {zs : List Int} {rest : List (String × DataW Unit)} {ps : List MemPlace} {g : Nat} {t e : TypeId} {n : Nat}
    (hg : P.globalNamed name = some g) (hty : (P.globals[g]?).map (·.type) = some t) (ht : P.underlying t = some (.array n e)) (he : P.underlying e = some (.int k)) (hce : P.cellsOf e = 1) (hct : P.cellsOf t = n)
    (h : DataW.LaidVars P W ((name, tabData k zs) :: rest) ps) : TabIs P W name k zs ∧ ∃ qs, DataW.LaidVars P W rest qs := by
  obtain ⟨g', t', cs, fuel, p, q, hg', ht', hvar, hd, hrest, _⟩ := h
  obtain rfl := Option.some.inj (hg.symm.trans hg')
  obtain rfl := Option.some.inj (hty.symm.trans ht')
  refine ⟨?_, q, hrest⟩
  unfold TabIs
  rw [hvar, ← cells_of_tab ht he hce hct hd]


def d32List : List Int := [0, 1, 28, 2, 29, 14, 24, 3, 30, 22, 20, 15, 25, 17, 4, 8, 31, 27, 13, 23, 21, 19, 16, 7, 26, 12, 18, 6, 11, 5, 10, 9]
theorem gD32 : Tryd.prog.globalNamed "math/bits.deBruijn32tab" = some 4 := by kernel_rfl
theorem gD32Type : (Tryd.prog.globals[4]?).map (·.type) = some 99 := by kernel_rfl
def d64List : List Int := [0, 1, 56, 2, 57, 49, 28, 3, 61, 58, 42, 50, 38, 29, 17, 4, 62, 47, 59, 36, 45, 43, 51, 22, 53, 39, 33, 30, 24, 18, 12, 5, 63, 55, 48, 27, 60, 41, 37, 16, 46, 35, 44, 21, 52, 32, 23, 11, 54, 26, 40, 15, 34, 20, 31, 10, 25, 14, 19, 9, 13, 8, 7, 6]
theorem gD64 : Tryd.prog.globalNamed "math/bits.deBruijn64tab" = some 5 := by kernel_rfl
theorem gD64Type : (Tryd.prog.globals[5]?).map (·.type) = some 100 := by kernel_rfl
def p10List : List Int := [1, 10, 100, 1000, 10000, 100000, 1000000, 10000000, 100000000, 1000000000, 10000000000, 100000000000, 1000000000000, 10000000000000, 100000000000000, 1000000000000000, 10000000000000000, 100000000000000000, 1000000000000000000, 10000000000000000000]
theorem gP10 : Tryd.prog.globalNamed "internal/strconv.uint64pow10" = some 2 := by kernel_rfl
theorem gP10Type : (Tryd.prog.globals[2]?).map (·.type) = some 90 := by kernel_rfl
theorem p10_eq : p10List = pow10Tab := by decide
theorem tab_of {W : World} (h : laidMet Tryd.prog [("math/bits.deBruijn32tab", Rows.laid_math_bits_deBruijn32tab), ("math/bits.deBruijn64tab", Rows.laid_math_bits_deBruijn64tab), ("internal/strconv.uint64pow10", Rows.laid_internal_strconv_uint64pow10)] W) : Hid (TabW W) := by
  obtain ⟨ps, hl, _⟩ := h
  have hl' : DataW.LaidVars Tryd.prog W [("math/bits.deBruijn32tab", tabData .u8 d32List), ("math/bits.deBruijn64tab", tabData .u8 d64List), ("internal/strconv.uint64pow10", tabData .u64 p10List)] ps := hl
  obtain ⟨h0, qs0, r0⟩ := laid_tab gD32 gD32Type Tryd.underlying99 Tryd.underlying5 (by kernel_rfl) (by kernel_rfl) hl'
  obtain ⟨h1, qs1, r1⟩ := laid_tab gD64 gD64Type Tryd.underlying100 Tryd.underlying5 (by kernel_rfl) (by kernel_rfl) r0
  obtain ⟨h2, qs2, r2⟩ := laid_tab gP10 gP10Type Tryd.underlying90 Tryd.underlying83 (by kernel_rfl) (by kernel_rfl) r1
  show TabIs _ _ _ _ _
  rw [← p10_eq]
  exact h2

def tabCells (cs : Array Value) : Obj → Obj
  | .cells _ t frozen => .cells cs t frozen
  | o => o
noncomputable def tabWorld (os : Os) : World :=
  { World.holding Tryd.prog os ⟨#[], #[], []⟩ with heap := ((((World.holding Tryd.prog os ⟨#[], #[], []⟩).heap.modify 4 (tabCells (d32List.map (Value.int .u8)).toArray)).modify 5 (tabCells (d64List.map (Value.int .u8)).toArray)).modify 2 (tabCells (p10List.map (Value.int .u64)).toArray)) }
end Go.Proofs.YteeemoknbnlopaaDoor
