/-
  DERIVED. GIVEN WITH THE SEED: THE CARDS: each row of YtaigngdlioplaaaDoorRows.lean that lists a variable, with what it lists TIED to the program's text (the seventh form; the later family's looks); each row that meets fmt, with fmt's text TOLD by the authors' own Lean function (tested against real Go, not proved from fmt's source: count such statements apart). THE CARD IS WHAT COUNTS. Prove the row's statement (the work); the ties are given (YtaigngdlioplaaaDoorTie.lean); close each card by the builder's one call (the guide's Derived/Test/ToyasCard.lean, 'card_holds'). Laid BY PROGRAM, IN A SANDBOX (cutbox-door.mjs). By AI agents, Wed Nov 11 2026. No macro, syntax, notation, axiom, sorry.
-/
import Derived.Test.YtaigngdlioplaaaDoorRows
import GoSem.ClaimSeven
namespace Go.Proofs.YtaigngdlioplaaaDoor
namespace Rows

/-- THE TIED CARD OF 'engrosslaw08.HeadPuts'. -/
def headPutsCard : Claim7 := { stood := { row := headPutsRow, standIns := [], harness := (true, "ff800ae0fc2a66e37d5120e77f41359dee9940c6639afab85ded078711c4ad67"), looks := false }, kinds := [], alts := [], laidByText := true, laidKinds := [.data, .data], laidTests := true, laidLooks := .later }
def HeadPutsCardSaid : Prop := Claim7.holds Tryd.pinned (.plain (OpenSpec.ofChange headPutsSpec)) headPutsCard

/-- THE TIED CARD OF 'engrosslaw08.HeadGets'. -/
def headGetsCard : Claim7 := { stood := { row := headGetsRow, standIns := [], harness := (true, "ff800ae0fc2a66e37d5120e77f41359dee9940c6639afab85ded078711c4ad67"), looks := false }, kinds := [], alts := [], laidByText := true, laidKinds := [.data, .data], laidTests := true, laidLooks := .later }
def HeadGetsCardSaid : Prop := Claim7.holds Tryd.pinned (.plain (OpenSpec.ofChange headGetsSpec)) headGetsCard

/-- THE TIED CARD OF 'engrosslaw03.TreeHashes'. -/
def treeHashesCard : Claim7 := { stood := { row := treeHashesRow, standIns := [], harness := (true, "ff800ae0fc2a66e37d5120e77f41359dee9940c6639afab85ded078711c4ad67"), looks := false }, kinds := [], alts := [], laidByText := true, laidKinds := [.data, .data], laidTests := true, laidLooks := .later }
def TreeHashesCardSaid : Prop := Claim7.holds Tryd.pinned (.plain (OpenSpec.ofChange treeHashesSpec)) treeHashesCard

/-- THE TIED CARD OF 'engrosslaw03.TreeRoots'. -/
def treeRootsCard : Claim7 := { stood := { row := treeRootsRow, standIns := [], harness := (true, "ff800ae0fc2a66e37d5120e77f41359dee9940c6639afab85ded078711c4ad67"), looks := false }, kinds := [], alts := [], laidByText := true, laidKinds := [.data, .data], laidTests := true, laidLooks := .later }
def TreeRootsCardSaid : Prop := Claim7.holds Tryd.pinned (.plain (OpenSpec.ofChange treeRootsSpec)) treeRootsCard

/-- THE TIED CARD OF 'engrosslaw03.TreeChecks'. -/
def treeChecksCard : Claim7 := { stood := { row := treeChecksRow, standIns := [], harness := (true, "ff800ae0fc2a66e37d5120e77f41359dee9940c6639afab85ded078711c4ad67"), looks := false }, kinds := [], alts := [], laidByText := true, laidKinds := [.data, .data], laidTests := true, laidLooks := .later }
def TreeChecksCardSaid : Prop := Claim7.holds Tryd.pinned (.plain (OpenSpec.ofChange treeChecksSpec)) treeChecksCard

/-- THE TIED CARD OF 'engrosslaw03.TreeShows'. -/
def treeShowsCard : Claim7 := { stood := { row := treeShowsRow, standIns := [], harness := (true, "ff800ae0fc2a66e37d5120e77f41359dee9940c6639afab85ded078711c4ad67"), looks := false }, kinds := [], alts := [], laidByText := true, laidKinds := [.data, .data], laidTests := true, laidLooks := .later }
def TreeShowsCardSaid : Prop := Claim7.holds Tryd.pinned (.plain (OpenSpec.ofChange treeShowsSpec)) treeShowsCard

/-- THE TIED CARD OF 'engrosslaw04.ClashFinds'. -/
def clashFindsCard : Claim7 := { stood := { row := clashFindsRow, standIns := [], harness := (true, "ff800ae0fc2a66e37d5120e77f41359dee9940c6639afab85ded078711c4ad67"), looks := false }, kinds := [], alts := [], laidByText := true, laidKinds := [.data, .data], laidTests := true, laidLooks := .later }
def ClashFindsCardSaid : Prop := Claim7.holds Tryd.pinned (.plain (OpenSpec.ofChange clashFindsSpec)) clashFindsCard

/-- THE TIED CARD OF 'engrosslaw04.ClashChains'. -/
def clashChainsCard : Claim7 := { stood := { row := clashChainsRow, standIns := [], harness := (true, "ff800ae0fc2a66e37d5120e77f41359dee9940c6639afab85ded078711c4ad67"), looks := false }, kinds := [], alts := [], laidByText := true, laidKinds := [.data, .data], laidTests := true, laidLooks := .later }
def ClashChainsCardSaid : Prop := Claim7.holds Tryd.pinned (.plain (OpenSpec.ofChange clashChainsSpec)) clashChainsCard

/-- THE TIED CARD OF 'engrosslaw04.ClashTrue'. -/
def clashTrueCard : Claim7 := { stood := { row := clashTrueRow, standIns := [], harness := (true, "ff800ae0fc2a66e37d5120e77f41359dee9940c6639afab85ded078711c4ad67"), looks := false }, kinds := [], alts := [], laidByText := true, laidKinds := [.data, .data], laidTests := true, laidLooks := .later }
def ClashTrueCardSaid : Prop := Claim7.holds Tryd.pinned (.plain (OpenSpec.ofChange clashTrueSpec)) clashTrueCard

/-- THE TIED CARD OF 'engrosslaw29.BundlePuts'. -/
def bundlePutsCard : Claim7 := { stood := { row := bundlePutsRow, standIns := [], harness := (true, "ff800ae0fc2a66e37d5120e77f41359dee9940c6639afab85ded078711c4ad67"), looks := false }, kinds := [], alts := [], laidByText := true, laidKinds := [.data, .data], laidTests := true, laidLooks := .later }
def BundlePutsCardSaid : Prop := Claim7.holds Tryd.pinned (.plain (OpenSpec.ofChange bundlePutsSpec)) bundlePutsCard

/-- THE SECOND FORM's CARD OF 'engrosslaw08.HeadPuts'. -/
def headPutsUptoCard : Claim7 := { stood := { row := headPutsUptoRow, standIns := [], harness := (true, "ff800ae0fc2a66e37d5120e77f41359dee9940c6639afab85ded078711c4ad67"), looks := false }, kinds := [], alts := [], laidByText := true, laidKinds := [.data, .data], laidTests := true, laidLooks := .later }
def HeadPutsUptoCardSaid : Prop := Claim7.holds Tryd.pinned (.plain (OpenSpec.upto headPutsSpec)) headPutsUptoCard

/-- THE SECOND FORM's CARD OF 'engrosslaw08.HeadGets'. -/
def headGetsUptoCard : Claim7 := { stood := { row := headGetsUptoRow, standIns := [], harness := (true, "ff800ae0fc2a66e37d5120e77f41359dee9940c6639afab85ded078711c4ad67"), looks := false }, kinds := [], alts := [], laidByText := true, laidKinds := [.data, .data], laidTests := true, laidLooks := .later }
def HeadGetsUptoCardSaid : Prop := Claim7.holds Tryd.pinned (.plain (OpenSpec.upto headGetsSpec)) headGetsUptoCard

/-- THE SECOND FORM's CARD OF 'engrosslaw03.TreeHashes'. -/
def treeHashesUptoCard : Claim7 := { stood := { row := treeHashesUptoRow, standIns := [], harness := (true, "ff800ae0fc2a66e37d5120e77f41359dee9940c6639afab85ded078711c4ad67"), looks := false }, kinds := [], alts := [], laidByText := true, laidKinds := [.data, .data], laidTests := true, laidLooks := .later }
def TreeHashesUptoCardSaid : Prop := Claim7.holds Tryd.pinned (.plain (OpenSpec.upto treeHashesSpec)) treeHashesUptoCard

/-- THE SECOND FORM's CARD OF 'engrosslaw03.TreeRoots'. -/
def treeRootsUptoCard : Claim7 := { stood := { row := treeRootsUptoRow, standIns := [], harness := (true, "ff800ae0fc2a66e37d5120e77f41359dee9940c6639afab85ded078711c4ad67"), looks := false }, kinds := [], alts := [], laidByText := true, laidKinds := [.data, .data], laidTests := true, laidLooks := .later }
def TreeRootsUptoCardSaid : Prop := Claim7.holds Tryd.pinned (.plain (OpenSpec.upto treeRootsSpec)) treeRootsUptoCard

/-- THE SECOND FORM's CARD OF 'engrosslaw03.TreeChecks'. -/
def treeChecksUptoCard : Claim7 := { stood := { row := treeChecksUptoRow, standIns := [], harness := (true, "ff800ae0fc2a66e37d5120e77f41359dee9940c6639afab85ded078711c4ad67"), looks := false }, kinds := [], alts := [], laidByText := true, laidKinds := [.data, .data], laidTests := true, laidLooks := .later }
def TreeChecksUptoCardSaid : Prop := Claim7.holds Tryd.pinned (.plain (OpenSpec.upto treeChecksSpec)) treeChecksUptoCard

/-- THE SECOND FORM's CARD OF 'engrosslaw03.TreeShows'. -/
def treeShowsUptoCard : Claim7 := { stood := { row := treeShowsUptoRow, standIns := [], harness := (true, "ff800ae0fc2a66e37d5120e77f41359dee9940c6639afab85ded078711c4ad67"), looks := false }, kinds := [], alts := [], laidByText := true, laidKinds := [.data, .data], laidTests := true, laidLooks := .later }
def TreeShowsUptoCardSaid : Prop := Claim7.holds Tryd.pinned (.plain (OpenSpec.upto treeShowsSpec)) treeShowsUptoCard

/-- THE SECOND FORM's CARD OF 'engrosslaw04.ClashFinds'. -/
def clashFindsUptoCard : Claim7 := { stood := { row := clashFindsUptoRow, standIns := [], harness := (true, "ff800ae0fc2a66e37d5120e77f41359dee9940c6639afab85ded078711c4ad67"), looks := false }, kinds := [], alts := [], laidByText := true, laidKinds := [.data, .data], laidTests := true, laidLooks := .later }
def ClashFindsUptoCardSaid : Prop := Claim7.holds Tryd.pinned (.plain (OpenSpec.upto clashFindsSpec)) clashFindsUptoCard

/-- THE SECOND FORM's CARD OF 'engrosslaw04.ClashChains'. -/
def clashChainsUptoCard : Claim7 := { stood := { row := clashChainsUptoRow, standIns := [], harness := (true, "ff800ae0fc2a66e37d5120e77f41359dee9940c6639afab85ded078711c4ad67"), looks := false }, kinds := [], alts := [], laidByText := true, laidKinds := [.data, .data], laidTests := true, laidLooks := .later }
def ClashChainsUptoCardSaid : Prop := Claim7.holds Tryd.pinned (.plain (OpenSpec.upto clashChainsSpec)) clashChainsUptoCard

/-- THE SECOND FORM's CARD OF 'engrosslaw04.ClashTrue'. -/
def clashTrueUptoCard : Claim7 := { stood := { row := clashTrueUptoRow, standIns := [], harness := (true, "ff800ae0fc2a66e37d5120e77f41359dee9940c6639afab85ded078711c4ad67"), looks := false }, kinds := [], alts := [], laidByText := true, laidKinds := [.data, .data], laidTests := true, laidLooks := .later }
def ClashTrueUptoCardSaid : Prop := Claim7.holds Tryd.pinned (.plain (OpenSpec.upto clashTrueSpec)) clashTrueUptoCard

/-- THE SECOND FORM's CARD OF 'engrosslaw29.BundlePuts'. -/
def bundlePutsUptoCard : Claim7 := { stood := { row := bundlePutsUptoRow, standIns := [], harness := (true, "ff800ae0fc2a66e37d5120e77f41359dee9940c6639afab85ded078711c4ad67"), looks := false }, kinds := [], alts := [], laidByText := true, laidKinds := [.data, .data], laidTests := true, laidLooks := .later }
def BundlePutsUptoCardSaid : Prop := Claim7.holds Tryd.pinned (.plain (OpenSpec.upto bundlePutsSpec)) bundlePutsUptoCard
end Rows
end Go.Proofs.YtaigngdlioplaaaDoor
