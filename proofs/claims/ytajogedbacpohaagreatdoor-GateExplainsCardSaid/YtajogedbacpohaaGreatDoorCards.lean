/-
  DERIVED. GIVEN WITH THE SEED: THE CARDS: each row of YtajogedbacpohaaGreatDoorRows.lean that lists a variable, with what it lists TIED to the program's text (the seventh form; the later family's looks); each row that meets fmt, with fmt's text TOLD by the authors' own Lean function (tested against real Go, not proved from fmt's source: count such statements apart). THE CARD IS WHAT COUNTS. Prove the row's statement (the work); the ties are given (YtajogedbacpohaaGreatDoorTie.lean); close each card by the builder's one call (the guide's Derived/Test/ToyasCard.lean, 'card_holds'). Laid BY PROGRAM, IN A SANDBOX (cutbox-door.mjs). By AI agents, Wed Nov 11 2026. No macro, syntax, notation, axiom, sorry.
-/
import Derived.Test.YtajogedbacpohaaGreatDoorRows
import GoSem.ClaimSeven
namespace Go.Proofs.YtajogedbacpohaaGreatDoor
namespace Rows

/-- THE TIED CARD OF 'engrosslaw17.GateSteps'. -/
def gateStepsCard : Claim7 := { stood := { row := gateStepsRow, standIns := [], harness := (true, "fa6c94c9e64dbf09e5e44c148d51b570e2b554740945c493aa547b3ee246cada"), looks := false }, kinds := [], alts := [], laidByText := true, laidKinds := [.data, .funcs], laidTests := true, laidLooks := .later }
def GateStepsCardSaid : Prop := Claim7.holds Tryz.pinned (.plain (OpenSpec.ofChange gateStepsSpec)) gateStepsCard

/-- THE TIED CARD OF 'engrosslaw18.FoldRuns'. -/
def foldRunsCard : Claim7 := { stood := { row := foldRunsRow, standIns := [], harness := (true, "fa6c94c9e64dbf09e5e44c148d51b570e2b554740945c493aa547b3ee246cada"), looks := false }, kinds := [], alts := [], laidByText := true, laidKinds := [.data, .funcs], laidTests := true, laidLooks := .later }
def FoldRunsCardSaid : Prop := Claim7.holds Tryz.pinned (.plain (OpenSpec.ofChange foldRunsSpec)) foldRunsCard

/-- THE TIED CARD OF 'engrosslaw18.FoldBooks'. -/
def foldBooksCard : Claim7 := { stood := { row := foldBooksRow, standIns := [], harness := (true, "fa6c94c9e64dbf09e5e44c148d51b570e2b554740945c493aa547b3ee246cada"), looks := false }, kinds := [], alts := [], laidByText := true, laidKinds := [.data, .funcs], laidTests := true, laidLooks := .later }
def FoldBooksCardSaid : Prop := Claim7.holds Tryz.pinned (.plain (OpenSpec.ofChange foldBooksSpec)) foldBooksCard

/-- THE TIED CARD OF 'engrosslaw18.FoldChecks'. -/
def foldChecksCard : Claim7 := { stood := { row := foldChecksRow, standIns := [], harness := (true, "fa6c94c9e64dbf09e5e44c148d51b570e2b554740945c493aa547b3ee246cada"), looks := false }, kinds := [], alts := [], laidByText := true, laidKinds := [.data, .funcs], laidTests := true, laidLooks := .later }
def FoldChecksCardSaid : Prop := Claim7.holds Tryz.pinned (.plain (OpenSpec.ofChange foldChecksSpec)) foldChecksCard

/-- THE TIED CARD OF 'engrosslaw17.GateExplains'. -/
def gateExplainsCard : Claim7 := { stood := { row := gateExplainsRow, standIns := [], harness := (true, "fa6c94c9e64dbf09e5e44c148d51b570e2b554740945c493aa547b3ee246cada"), looks := false }, kinds := [], alts := [], laidByText := true, laidKinds := [.data, .data, .data, .data, .data, .data, .funcs], laidTests := true, laidLooks := .later }
def GateExplainsCardSaid : Prop := Claim7.holds Tryz.pinned (.plain (OpenSpec.ofChange gateExplainsSpec)) gateExplainsCard

/-- THE SECOND FORM's CARD OF 'engrosslaw17.GateSteps'. -/
def gateStepsUptoCard : Claim7 := { stood := { row := gateStepsUptoRow, standIns := [], harness := (true, "fa6c94c9e64dbf09e5e44c148d51b570e2b554740945c493aa547b3ee246cada"), looks := false }, kinds := [], alts := [], laidByText := true, laidKinds := [.data, .funcs], laidTests := true, laidLooks := .later }
def GateStepsUptoCardSaid : Prop := Claim7.holds Tryz.pinned (.plain (OpenSpec.upto gateStepsSpec)) gateStepsUptoCard

/-- THE SECOND FORM's CARD OF 'engrosslaw18.FoldRuns'. -/
def foldRunsUptoCard : Claim7 := { stood := { row := foldRunsUptoRow, standIns := [], harness := (true, "fa6c94c9e64dbf09e5e44c148d51b570e2b554740945c493aa547b3ee246cada"), looks := false }, kinds := [], alts := [], laidByText := true, laidKinds := [.data, .funcs], laidTests := true, laidLooks := .later }
def FoldRunsUptoCardSaid : Prop := Claim7.holds Tryz.pinned (.plain (OpenSpec.upto foldRunsSpec)) foldRunsUptoCard

/-- THE SECOND FORM's CARD OF 'engrosslaw18.FoldBooks'. -/
def foldBooksUptoCard : Claim7 := { stood := { row := foldBooksUptoRow, standIns := [], harness := (true, "fa6c94c9e64dbf09e5e44c148d51b570e2b554740945c493aa547b3ee246cada"), looks := false }, kinds := [], alts := [], laidByText := true, laidKinds := [.data, .funcs], laidTests := true, laidLooks := .later }
def FoldBooksUptoCardSaid : Prop := Claim7.holds Tryz.pinned (.plain (OpenSpec.upto foldBooksSpec)) foldBooksUptoCard

/-- THE SECOND FORM's CARD OF 'engrosslaw18.FoldChecks'. -/
def foldChecksUptoCard : Claim7 := { stood := { row := foldChecksUptoRow, standIns := [], harness := (true, "fa6c94c9e64dbf09e5e44c148d51b570e2b554740945c493aa547b3ee246cada"), looks := false }, kinds := [], alts := [], laidByText := true, laidKinds := [.data, .funcs], laidTests := true, laidLooks := .later }
def FoldChecksUptoCardSaid : Prop := Claim7.holds Tryz.pinned (.plain (OpenSpec.upto foldChecksSpec)) foldChecksUptoCard

/-- THE SECOND FORM's CARD OF 'engrosslaw17.GateExplains'. -/
def gateExplainsUptoCard : Claim7 := { stood := { row := gateExplainsUptoRow, standIns := [], harness := (true, "fa6c94c9e64dbf09e5e44c148d51b570e2b554740945c493aa547b3ee246cada"), looks := false }, kinds := [], alts := [], laidByText := true, laidKinds := [.data, .data, .data, .data, .data, .data, .funcs], laidTests := true, laidLooks := .later }
def GateExplainsUptoCardSaid : Prop := Claim7.holds Tryz.pinned (.plain (OpenSpec.upto gateExplainsSpec)) gateExplainsUptoCard
end Rows
end Go.Proofs.YtajogedbacpohaaGreatDoor
