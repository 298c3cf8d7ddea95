/-
  DERIVED. GIVEN WITH THE SEED: THE CARDS: each row of YteeemoknbnlopaaDoorRows.lean that lists a variable, with what it lists TIED to the program's text (the seventh form; the later family's looks); each row that meets fmt, with fmt's text TOLD by the authors' own Lean function (tested against real Go, not proved from fmt's source: count such statements apart). THE CARD IS WHAT COUNTS. Prove the row's statement (the work); the ties are given (YteeemoknbnlopaaDoorTie.lean); close each card by the builder's one call (the guide's Derived/Test/ToyasCard.lean, 'card_holds'). Laid BY PROGRAM, IN A SANDBOX (cutbox-door.mjs). By AI agents, Wed Nov 11 2026. No macro, syntax, notation, axiom, sorry.
-/
import Derived.Test.YteeemoknbnlopaaDoorRows
import GoSem.ClaimSeven
namespace Go.Proofs.YteeemoknbnlopaaDoor
namespace Rows

/-- THE TIED CARD OF 'engrosslaw10.ShelfKinds'. -/
def shelfKindsCard : Claim7 := { stood := { row := shelfKindsRow, standIns := [], harness := (true, "94cd6ab2a7f7795d13b083ced4f18fe46460bfe6a7aecb39a68d5c178f7809d0"), looks := false }, kinds := [], alts := [], laidByText := true, laidKinds := [.data, .data, .data], laidTests := true, laidLooks := .later }
def ShelfKindsCardSaid : Prop := Claim7.holds Tryd.pinned (.plain (OpenSpec.ofChange shelfKindsSpec)) shelfKindsCard

/-- THE TIED CARD OF 'engrosslaw10.ShelfNames'. -/
def shelfNamesCard : Claim7 := { stood := { row := shelfNamesRow, standIns := [], harness := (true, "94cd6ab2a7f7795d13b083ced4f18fe46460bfe6a7aecb39a68d5c178f7809d0"), looks := false }, kinds := [], alts := [], laidByText := true, laidKinds := [.data, .data, .data], laidTests := true, laidLooks := .later }
def ShelfNamesCardSaid : Prop := Claim7.holds Tryd.pinned (.plain (OpenSpec.ofChange shelfNamesSpec)) shelfNamesCard

/-- THE TIED CARD OF 'engrosslaw10.ShelfSorts'. -/
def shelfSortsCard : Claim7 := { stood := { row := shelfSortsRow, standIns := [], harness := (true, "94cd6ab2a7f7795d13b083ced4f18fe46460bfe6a7aecb39a68d5c178f7809d0"), looks := false }, kinds := [], alts := [], laidByText := true, laidKinds := [.data, .data, .data], laidTests := true, laidLooks := .later }
def ShelfSortsCardSaid : Prop := Claim7.holds Tryd.pinned (.plain (OpenSpec.ofChange shelfSortsSpec)) shelfSortsCard

/-- THE TIED CARD OF 'engrosslaw16.RulesTable'. -/
def rulesTableCard : Claim7 := { stood := { row := rulesTableRow, standIns := [], harness := (true, "94cd6ab2a7f7795d13b083ced4f18fe46460bfe6a7aecb39a68d5c178f7809d0"), looks := false }, kinds := [], alts := [], laidByText := true, laidKinds := [.data, .data, .data, .data, .funcs], laidTests := true, laidLooks := .later }
def RulesTableCardSaid : Prop := Claim7.holds Tryd.pinned (.plain (OpenSpec.ofChange rulesTableSpec)) rulesTableCard

/-- THE TIED CARD OF 'engrosslaw16.RulesWeighs'. -/
def rulesWeighsCard : Claim7 := { stood := { row := rulesWeighsRow, standIns := [], harness := (true, "94cd6ab2a7f7795d13b083ced4f18fe46460bfe6a7aecb39a68d5c178f7809d0"), looks := false }, kinds := [], alts := [], laidByText := true, laidKinds := [.data, .data, .data, .data, .funcs], laidTests := true, laidLooks := .later }
def RulesWeighsCardSaid : Prop := Claim7.holds Tryd.pinned (.plain (OpenSpec.ofChange rulesWeighsSpec)) rulesWeighsCard

/-- THE TIED CARD OF 'engrosslaw16.RulesOpposed'. -/
def rulesOpposedCard : Claim7 := { stood := { row := rulesOpposedRow, standIns := [], harness := (true, "94cd6ab2a7f7795d13b083ced4f18fe46460bfe6a7aecb39a68d5c178f7809d0"), looks := false }, kinds := [], alts := [], laidByText := true, laidKinds := [.data, .data, .data, .data, .funcs], laidTests := true, laidLooks := .later }
def RulesOpposedCardSaid : Prop := Claim7.holds Tryd.pinned (.plain (OpenSpec.ofChange rulesOpposedSpec)) rulesOpposedCard

/-- THE SECOND FORM's CARD OF 'engrosslaw10.ShelfKinds'. -/
def shelfKindsUptoCard : Claim7 := { stood := { row := shelfKindsUptoRow, standIns := [], harness := (true, "94cd6ab2a7f7795d13b083ced4f18fe46460bfe6a7aecb39a68d5c178f7809d0"), looks := false }, kinds := [], alts := [], laidByText := true, laidKinds := [.data, .data, .data], laidTests := true, laidLooks := .later }
def ShelfKindsUptoCardSaid : Prop := Claim7.holds Tryd.pinned (.plain (OpenSpec.upto shelfKindsSpec)) shelfKindsUptoCard

/-- THE SECOND FORM's CARD OF 'engrosslaw10.ShelfNames'. -/
def shelfNamesUptoCard : Claim7 := { stood := { row := shelfNamesUptoRow, standIns := [], harness := (true, "94cd6ab2a7f7795d13b083ced4f18fe46460bfe6a7aecb39a68d5c178f7809d0"), looks := false }, kinds := [], alts := [], laidByText := true, laidKinds := [.data, .data, .data], laidTests := true, laidLooks := .later }
def ShelfNamesUptoCardSaid : Prop := Claim7.holds Tryd.pinned (.plain (OpenSpec.upto shelfNamesSpec)) shelfNamesUptoCard

/-- THE SECOND FORM's CARD OF 'engrosslaw10.ShelfSorts'. -/
def shelfSortsUptoCard : Claim7 := { stood := { row := shelfSortsUptoRow, standIns := [], harness := (true, "94cd6ab2a7f7795d13b083ced4f18fe46460bfe6a7aecb39a68d5c178f7809d0"), looks := false }, kinds := [], alts := [], laidByText := true, laidKinds := [.data, .data, .data], laidTests := true, laidLooks := .later }
def ShelfSortsUptoCardSaid : Prop := Claim7.holds Tryd.pinned (.plain (OpenSpec.upto shelfSortsSpec)) shelfSortsUptoCard

/-- THE SECOND FORM's CARD OF 'engrosslaw16.RulesTable'. -/
def rulesTableUptoCard : Claim7 := { stood := { row := rulesTableUptoRow, standIns := [], harness := (true, "94cd6ab2a7f7795d13b083ced4f18fe46460bfe6a7aecb39a68d5c178f7809d0"), looks := false }, kinds := [], alts := [], laidByText := true, laidKinds := [.data, .data, .data, .data, .funcs], laidTests := true, laidLooks := .later }
def RulesTableUptoCardSaid : Prop := Claim7.holds Tryd.pinned (.plain (OpenSpec.upto rulesTableSpec)) rulesTableUptoCard

/-- THE SECOND FORM's CARD OF 'engrosslaw16.RulesWeighs'. -/
def rulesWeighsUptoCard : Claim7 := { stood := { row := rulesWeighsUptoRow, standIns := [], harness := (true, "94cd6ab2a7f7795d13b083ced4f18fe46460bfe6a7aecb39a68d5c178f7809d0"), looks := false }, kinds := [], alts := [], laidByText := true, laidKinds := [.data, .data, .data, .data, .funcs], laidTests := true, laidLooks := .later }
def RulesWeighsUptoCardSaid : Prop := Claim7.holds Tryd.pinned (.plain (OpenSpec.upto rulesWeighsSpec)) rulesWeighsUptoCard

/-- THE SECOND FORM's CARD OF 'engrosslaw16.RulesOpposed'. -/
def rulesOpposedUptoCard : Claim7 := { stood := { row := rulesOpposedUptoRow, standIns := [], harness := (true, "94cd6ab2a7f7795d13b083ced4f18fe46460bfe6a7aecb39a68d5c178f7809d0"), looks := false }, kinds := [], alts := [], laidByText := true, laidKinds := [.data, .data, .data, .data, .funcs], laidTests := true, laidLooks := .later }
def RulesOpposedUptoCardSaid : Prop := Claim7.holds Tryd.pinned (.plain (OpenSpec.upto rulesOpposedSpec)) rulesOpposedUptoCard
end Rows
end Go.Proofs.YteeemoknbnlopaaDoor
