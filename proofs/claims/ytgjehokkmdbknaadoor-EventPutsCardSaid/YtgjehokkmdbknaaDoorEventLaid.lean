/- What the rows' lists give: the two tables; a world for the witness. -/
import Derived.Test.YtgjehokkmdbknaaDoorCards
import Derived.Test.YtgjehokkmdbknaaDoorTie
import Derived.Test.YtgjehokkmdbknaaDoorTabs
import Derived.Test.YtgjehokkmdbknaaDoorEventB
import Derived.Test.YtgjehokkmdbknaaDoorPost
import Derived.Deep.DeepHandedRow
namespace Go.Proofs.YtgjehokkmdbknaaDoor
open Go.ChangeShapes Go.WideShapes Go.ChangeAt Go.RowKit

theorem gNames : Tryd.prog.globalNamed "engross/event.names" = some 0 := by kernel_rfl
theorem gReasons : Tryd.prog.globalNamed "engross/event.reasons" = some 1 := by kernel_rfl
theorem gNamesType : (Tryd.prog.globals[0]?).map (·.type) = some 71 := by kernel_rfl
theorem gReasonsType : (Tryd.prog.globals[1]?).map (·.type) = some 72 := by kernel_rfl

theorem tabs_of {W : World} (h : laidMet Tryd.prog [("engross/event.names", strData namesL), ("engross/event.reasons", strData reasonsL)] W) : Tabs W := by
  obtain ⟨ps, hl, _⟩ := h
  obtain ⟨h1, qs, hr⟩ := laid_str gNames gNamesType Tryd.underlying71 Tryd.underlying9 (by kernel_rfl) (by kernel_rfl) hl
  obtain ⟨h2, _⟩ := laid_str gReasons gReasonsType Tryd.underlying72 Tryd.underlying9 (by kernel_rfl) (by kernel_rfl) hr
  exact ⟨h1, h2⟩

def evCells (cs : Array Value) : Obj → Obj
  | .cells _ t frozen => .cells cs t frozen
  | o => o
noncomputable def evWorld (os : Os) : World :=
  { World.holding Tryd.prog os ⟨#[], #[], []⟩ with heap := ((World.holding Tryd.prog os ⟨#[], #[], []⟩).heap.modify 0 (evCells #[.string ⟨#[]⟩, .string ⟨#[97, 99, 99, 111, 117, 110, 116]⟩, .string ⟨#[108, 105, 109, 105, 116]⟩, .string ⟨#[113, 117, 111, 116, 101]⟩, .string ⟨#[111, 114, 100, 101, 114]⟩, .string ⟨#[102, 105, 108, 108]⟩, .string ⟨#[99, 97, 110, 99, 101, 108]⟩, .string ⟨#[115, 110, 97, 112]⟩])).modify 1 (evCells #[.string ⟨#[97, 99, 99, 101, 112, 116]⟩, .string ⟨#[107, 105, 110, 100]⟩, .string ⟨#[118, 97, 108, 117, 101]⟩, .string ⟨#[110, 111, 32, 97, 99, 99, 111, 117, 110, 116]⟩, .string ⟨#[97, 99, 99, 111, 117, 110, 116, 32, 116, 104, 101, 114, 101]⟩, .string ⟨#[111, 114, 100, 101, 114, 32, 116, 104, 101, 114, 101]⟩, .string ⟨#[110, 111, 32, 111, 114, 100, 101, 114]⟩, .string ⟨#[110, 111, 32, 112, 114, 105, 99, 101]⟩, .string ⟨#[102, 117, 108, 108]⟩, .string ⟨#[111, 114, 100, 101, 114, 32, 116, 111, 111, 32, 103, 114, 101, 97, 116]⟩, .string ⟨#[112, 111, 115, 105, 116, 105, 111, 110, 32, 116, 111, 111, 32, 103, 114, 101, 97, 116]⟩, .string ⟨#[109, 97, 114, 103, 105, 110]⟩, .string ⟨#[111, 118, 101, 114, 102, 108, 111, 119]⟩, .string ⟨#[117, 110, 97, 118, 97, 105, 108, 97, 98, 108, 101]⟩]) }
end Go.Proofs.YtgjehokkmdbknaaDoor
