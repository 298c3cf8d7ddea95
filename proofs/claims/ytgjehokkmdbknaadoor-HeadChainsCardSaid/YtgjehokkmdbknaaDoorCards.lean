/-
  DERIVED. GIVEN WITH THE SEED: THE CARDS: each row of YtgjehokkmdbknaaDoorRows.lean that lists a variable, with what it lists TIED to the program's text (the seventh form; the later family's looks); each row that meets fmt, with fmt's text TOLD by the authors' own Lean function (tested against real Go, not proved from fmt's source: count such statements apart). THE CARD IS WHAT COUNTS. Prove the row's statement (the work); the ties are given (YtgjehokkmdbknaaDoorTie.lean); close each card by the builder's one call (the guide's Derived/Test/ToyasCard.lean, 'card_holds'). Laid BY PROGRAM, IN A SANDBOX (cutbox-door.mjs). By AI agents, Wed Nov 11 2026. No macro, syntax, notation, axiom, sorry.
-/
import Derived.Test.YtgjehokkmdbknaaDoorRows
import GoSem.ClaimSeven
namespace Go.Proofs.YtgjehokkmdbknaaDoor
namespace Rows

/-- THE TIED CARD OF 'engrosslaw06.EventNames'. -/
def eventNamesCard : Claim7 := { stood := { row := eventNamesRow, standIns := [], harness := (true, "085369f0adc5b1b230767bbec1d5e1d5372d475b0c17fce2466aa6b63f84221c"), looks := false }, kinds := [], alts := [], laidByText := true, laidKinds := [.data, .data], laidTests := true, laidLooks := .later }
def EventNamesCardSaid : Prop := Claim7.holds Tryd.pinned (.plain (OpenSpec.ofChange eventNamesSpec)) eventNamesCard

/-- THE TIED CARD OF 'engrosslaw02.ShaSums'. -/
def shaSumsCard : Claim7 := { stood := { row := shaSumsRow, standIns := [], harness := (true, "085369f0adc5b1b230767bbec1d5e1d5372d475b0c17fce2466aa6b63f84221c"), looks := false }, kinds := [], alts := [], laidByText := true, laidKinds := [.data, .data], laidTests := true, laidLooks := .later }
def ShaSumsCardSaid : Prop := Claim7.holds Tryd.pinned (.plain (OpenSpec.ofChange shaSumsSpec)) shaSumsCard

/-- THE TIED CARD OF 'engrosslaw02.ShaEnds'. -/
def shaEndsCard : Claim7 := { stood := { row := shaEndsRow, standIns := [], harness := (true, "085369f0adc5b1b230767bbec1d5e1d5372d475b0c17fce2466aa6b63f84221c"), looks := false }, kinds := [], alts := [], laidByText := true, laidKinds := [.data, .data], laidTests := true, laidLooks := .later }
def ShaEndsCardSaid : Prop := Claim7.holds Tryd.pinned (.plain (OpenSpec.ofChange shaEndsSpec)) shaEndsCard

/-- THE TIED CARD OF 'engrosslaw02.ShaPieces'. -/
def shaPiecesCard : Claim7 := { stood := { row := shaPiecesRow, standIns := [], harness := (true, "085369f0adc5b1b230767bbec1d5e1d5372d475b0c17fce2466aa6b63f84221c"), looks := false }, kinds := [], alts := [], laidByText := true, laidKinds := [.data, .data], laidTests := true, laidLooks := .later }
def ShaPiecesCardSaid : Prop := Claim7.holds Tryd.pinned (.plain (OpenSpec.ofChange shaPiecesSpec)) shaPiecesCard

/-- THE TIED CARD OF 'engrosslaw06.EventPuts'. -/
def eventPutsCard : Claim7 := { stood := { row := eventPutsRow, standIns := [], harness := (true, "085369f0adc5b1b230767bbec1d5e1d5372d475b0c17fce2466aa6b63f84221c"), looks := false }, kinds := [], alts := [], laidByText := true, laidKinds := [.data, .data], laidTests := true, laidLooks := .later }
def EventPutsCardSaid : Prop := Claim7.holds Tryd.pinned (.plain (OpenSpec.ofChange eventPutsSpec)) eventPutsCard

/-- THE TIED CARD OF 'engrosslaw06.EventGets'. -/
def eventGetsCard : Claim7 := { stood := { row := eventGetsRow, standIns := [], harness := (true, "085369f0adc5b1b230767bbec1d5e1d5372d475b0c17fce2466aa6b63f84221c"), looks := false }, kinds := [], alts := [], laidByText := true, laidKinds := [.data, .data], laidTests := true, laidLooks := .later }
def EventGetsCardSaid : Prop := Claim7.holds Tryd.pinned (.plain (OpenSpec.ofChange eventGetsSpec)) eventGetsCard

/-- THE TIED CARD OF 'engrosslaw08.HeadChains'. -/
def headChainsCard : Claim7 := { stood := { row := headChainsRow, standIns := [], harness := (true, "085369f0adc5b1b230767bbec1d5e1d5372d475b0c17fce2466aa6b63f84221c"), looks := false }, kinds := [], alts := [], laidByText := true, laidKinds := [.data, .data], laidTests := true, laidLooks := .later }
def HeadChainsCardSaid : Prop := Claim7.holds Tryd.pinned (.plain (OpenSpec.ofChange headChainsSpec)) headChainsCard

/-- THE SECOND FORM's CARD OF 'engrosslaw06.EventNames'. -/
def eventNamesUptoCard : Claim7 := { stood := { row := eventNamesUptoRow, standIns := [], harness := (true, "085369f0adc5b1b230767bbec1d5e1d5372d475b0c17fce2466aa6b63f84221c"), looks := false }, kinds := [], alts := [], laidByText := true, laidKinds := [.data, .data], laidTests := true, laidLooks := .later }
def EventNamesUptoCardSaid : Prop := Claim7.holds Tryd.pinned (.plain (OpenSpec.upto eventNamesSpec)) eventNamesUptoCard

/-- THE SECOND FORM's CARD OF 'engrosslaw02.ShaSums'. -/
def shaSumsUptoCard : Claim7 := { stood := { row := shaSumsUptoRow, standIns := [], harness := (true, "085369f0adc5b1b230767bbec1d5e1d5372d475b0c17fce2466aa6b63f84221c"), looks := false }, kinds := [], alts := [], laidByText := true, laidKinds := [.data, .data], laidTests := true, laidLooks := .later }
def ShaSumsUptoCardSaid : Prop := Claim7.holds Tryd.pinned (.plain (OpenSpec.upto shaSumsSpec)) shaSumsUptoCard

/-- THE SECOND FORM's CARD OF 'engrosslaw02.ShaEnds'. -/
def shaEndsUptoCard : Claim7 := { stood := { row := shaEndsUptoRow, standIns := [], harness := (true, "085369f0adc5b1b230767bbec1d5e1d5372d475b0c17fce2466aa6b63f84221c"), looks := false }, kinds := [], alts := [], laidByText := true, laidKinds := [.data, .data], laidTests := true, laidLooks := .later }
def ShaEndsUptoCardSaid : Prop := Claim7.holds Tryd.pinned (.plain (OpenSpec.upto shaEndsSpec)) shaEndsUptoCard

/-- THE SECOND FORM's CARD OF 'engrosslaw02.ShaPieces'. -/
def shaPiecesUptoCard : Claim7 := { stood := { row := shaPiecesUptoRow, standIns := [], harness := (true, "085369f0adc5b1b230767bbec1d5e1d5372d475b0c17fce2466aa6b63f84221c"), looks := false }, kinds := [], alts := [], laidByText := true, laidKinds := [.data, .data], laidTests := true, laidLooks := .later }
def ShaPiecesUptoCardSaid : Prop := Claim7.holds Tryd.pinned (.plain (OpenSpec.upto shaPiecesSpec)) shaPiecesUptoCard

/-- THE SECOND FORM's CARD OF 'engrosslaw06.EventPuts'. -/
def eventPutsUptoCard : Claim7 := { stood := { row := eventPutsUptoRow, standIns := [], harness := (true, "085369f0adc5b1b230767bbec1d5e1d5372d475b0c17fce2466aa6b63f84221c"), looks := false }, kinds := [], alts := [], laidByText := true, laidKinds := [.data, .data], laidTests := true, laidLooks := .later }
def EventPutsUptoCardSaid : Prop := Claim7.holds Tryd.pinned (.plain (OpenSpec.upto eventPutsSpec)) eventPutsUptoCard

/-- THE SECOND FORM's CARD OF 'engrosslaw06.EventGets'. -/
def eventGetsUptoCard : Claim7 := { stood := { row := eventGetsUptoRow, standIns := [], harness := (true, "085369f0adc5b1b230767bbec1d5e1d5372d475b0c17fce2466aa6b63f84221c"), looks := false }, kinds := [], alts := [], laidByText := true, laidKinds := [.data, .data], laidTests := true, laidLooks := .later }
def EventGetsUptoCardSaid : Prop := Claim7.holds Tryd.pinned (.plain (OpenSpec.upto eventGetsSpec)) eventGetsUptoCard

/-- THE SECOND FORM's CARD OF 'engrosslaw08.HeadChains'. -/
def headChainsUptoCard : Claim7 := { stood := { row := headChainsUptoRow, standIns := [], harness := (true, "085369f0adc5b1b230767bbec1d5e1d5372d475b0c17fce2466aa6b63f84221c"), looks := false }, kinds := [], alts := [], laidByText := true, laidKinds := [.data, .data], laidTests := true, laidLooks := .later }
def HeadChainsUptoCardSaid : Prop := Claim7.holds Tryd.pinned (.plain (OpenSpec.upto headChainsSpec)) headChainsUptoCard
end Rows
end Go.Proofs.YtgjehokkmdbknaaDoor
