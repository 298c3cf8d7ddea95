/-
  NARROWER THAN 'FOR EVERY INPUT', by the rows' own cells (each row's printed sentence says how): GateSteps: laid · FoldRuns: laid · FoldBooks: laid · FoldChecks: laid · GateExplains: laid.
  DERIVED. THE GIVEN ROWS OF THIS SEAT. 5 by the template 'for every input the law returns true; each argument reads behind the call as it read before'; 0 by the template 'total and deterministic' (their statements: YtajogedbacpohaaGreatDoorTotals.lean).
  GIVEN WITH THE SEED: the statements are not yours to turn. If you find one false, say at which input.
  Laid BY PROGRAM, IN A SANDBOX (cutbox-rows.mjs): the forced cells as the released guide's own fill.sh prints them over the translation 9c4a3edfc5b2f67b… (all of the seat's roots in one cut). By AI agents, Wed Nov 11 2026. No macro, syntax, notation, axiom, sorry.
-/
import Derived.Test.YtajogedbacpohaaGreatDoorChecked
import GoSem.Claim
import GoSem.ClaimJoined
import GoSem.ClaimMapViews
import Derived.JoinedTies
import Derived.KernelRfl
namespace Go.Proofs.YtajogedbacpohaaGreatDoor
/- THE CELL 'sum', in the pinned program and in every row, IS THE sha256 OF THE DUMP (.gsa) THAT YtajogedbacpohaaGreatDoorProg.lean LOADS. Nothing in Lean hashes anything: it is a label: what it is worth is what the hold of that sum in a sandbox is worth. -/
noncomputable def Tryz.pinned : Pinned := { name := "ytajogedbacpohaagreatdoor", sum := "9c4a3edfc5b2f67bce8e1f0924181b241ac08f0ae47b4bddcd598516a5456c81", checked := Tryz.checked }
namespace Rows
def none {H : Type} : Left H := { results := [], args := [] }

/- WHAT THE LISTED PACKAGE-LEVEL VARIABLES READ AS WHEN THE CALL BEGINS. Each datum BY PROGRAM (the guide's laid-datum.mjs) off the statement by which the dump's own 'gosem.cut.vars' lays the variable. In a bare row this is a premise. The card (YtajogedbacpohaaGreatDoorCards.lean) ties it to the program's text. -/
def laid_engross_rules_table {H : Type} : DataW H := .agg [.agg [.lit (.string []), .lit (.int .i64 0), .lit (.int .i64 0)], .agg [.lit (.string [107, 105, 110, 100, 32, 97, 116, 32, 108, 101, 97, 115, 116]), .lit (.int .i64 2), .lit (.int .i64 1)], .agg [.lit (.string [107, 105, 110, 100, 32, 97, 116, 32, 109, 111, 115, 116]), .lit (.int .i64 1), .lit (.int .i64 1)], .agg [.lit (.string [115, 105, 100, 101, 32, 97, 116, 32, 108, 101, 97, 115, 116]), .lit (.int .i64 2), .lit (.int .i64 2)], .agg [.lit (.string [115, 105, 100, 101, 32, 97, 116, 32, 109, 111, 115, 116]), .lit (.int .i64 1), .lit (.int .i64 2)], .agg [.lit (.string [113, 117, 97, 110, 116, 105, 116, 121]), .lit (.int .i64 2), .lit (.int .i64 2)], .agg [.lit (.string [112, 114, 105, 99, 101]), .lit (.int .i64 2), .lit (.int .i64 2)], .agg [.lit (.string [99, 97, 115, 104]), .lit (.int .i64 2), .lit (.int .i64 2)], .agg [.lit (.string [108, 105, 109, 105, 116, 32, 111, 102, 32, 112, 111, 115, 105, 116, 105, 111, 110]), .lit (.int .i64 2), .lit (.int .i64 2)], .agg [.lit (.string [108, 105, 109, 105, 116, 32, 111, 102, 32, 111, 114, 100, 101, 114]), .lit (.int .i64 2), .lit (.int .i64 2)], .agg [.lit (.string [97, 99, 99, 111, 117, 110, 116, 32, 107, 110, 111, 119, 110]), .lit (.int .i64 3), .lit (.int .i64 3)], .agg [.lit (.string [97, 99, 99, 111, 117, 110, 116, 32, 110, 101, 119]), .lit (.int .i64 3), .lit (.int .i64 4)], .agg [.lit (.string [111, 114, 100, 101, 114, 32, 110, 101, 119]), .lit (.int .i64 3), .lit (.int .i64 5)], .agg [.lit (.string [111, 114, 100, 101, 114, 32, 107, 110, 111, 119, 110]), .lit (.int .i64 3), .lit (.int .i64 6)], .agg [.lit (.string [115, 121, 109, 98, 111, 108, 32, 112, 114, 105, 99, 101, 100]), .lit (.int .i64 3), .lit (.int .i64 7)], .agg [.lit (.string [114, 111, 111, 109, 32, 111, 102, 32, 97, 99, 99, 111, 117, 110, 116, 115]), .lit (.int .i64 1), .lit (.int .i64 8)], .agg [.lit (.string [114, 111, 111, 109, 32, 111, 102, 32, 111, 114, 100, 101, 114, 115]), .lit (.int .i64 1), .lit (.int .i64 8)], .agg [.lit (.string [114, 111, 111, 109, 32, 111, 102, 32, 112, 114, 105, 99, 101, 115]), .lit (.int .i64 1), .lit (.int .i64 8)], .agg [.lit (.string [119, 111, 114, 116, 104]), .lit (.int .i64 1), .lit (.int .i64 9)], .agg [.lit (.string [114, 101, 97, 99, 104]), .lit (.int .i64 1), .lit (.int .i64 10)], .agg [.lit (.string [109, 97, 114, 103, 105, 110]), .lit (.int .i64 1), .lit (.int .i64 11)], .agg [.lit (.string [102, 105, 108, 108, 101, 100]), .lit (.int .i64 1), .lit (.int .i64 2)], .agg [.lit (.string [99, 97, 115, 104, 32, 98, 101, 104, 105, 110, 100]), .lit (.int .i64 3), .lit (.int .i64 12)], .agg [.lit (.string [112, 111, 115, 105, 116, 105, 111, 110, 32, 98, 101, 104, 105, 110, 100]), .lit (.int .i64 3), .lit (.int .i64 12)]]
def laid_engross_rules_relations {H : Type} : DataW H := .iface "func table" (.agg [.agg [.lit (.string [63]), .iface "func" (.lit (.string [101, 110, 103, 114, 111, 115, 115, 47, 114, 117, 108, 101, 115, 46, 114, 101, 108, 97, 116, 105, 111, 110, 115, 36, 49]))], .agg [.lit (.string [60, 61]), .iface "func" (.lit (.string [101, 110, 103, 114, 111, 115, 115, 47, 114, 117, 108, 101, 115, 46, 114, 101, 108, 97, 116, 105, 111, 110, 115, 36, 50]))], .agg [.lit (.string [62, 61]), .iface "func" (.lit (.string [101, 110, 103, 114, 111, 115, 115, 47, 114, 117, 108, 101, 115, 46, 114, 101, 108, 97, 116, 105, 111, 110, 115, 36, 51]))], .agg [.lit (.string [61]), .iface "func" (.lit (.string [101, 110, 103, 114, 111, 115, 115, 47, 114, 117, 108, 101, 115, 46, 114, 101, 108, 97, 116, 105, 111, 110, 115, 36, 52]))]])
def laid_engross_event_names {H : Type} : DataW H := .agg [.lit (.string []), .lit (.string [97, 99, 99, 111, 117, 110, 116]), .lit (.string [108, 105, 109, 105, 116]), .lit (.string [113, 117, 111, 116, 101]), .lit (.string [111, 114, 100, 101, 114]), .lit (.string [102, 105, 108, 108]), .lit (.string [99, 97, 110, 99, 101, 108]), .lit (.string [115, 110, 97, 112])]
def laid_engross_event_reasons {H : Type} : DataW H := .agg [.lit (.string [97, 99, 99, 101, 112, 116]), .lit (.string [107, 105, 110, 100]), .lit (.string [118, 97, 108, 117, 101]), .lit (.string [110, 111, 32, 97, 99, 99, 111, 117, 110, 116]), .lit (.string [97, 99, 99, 111, 117, 110, 116, 32, 116, 104, 101, 114, 101]), .lit (.string [111, 114, 100, 101, 114, 32, 116, 104, 101, 114, 101]), .lit (.string [110, 111, 32, 111, 114, 100, 101, 114]), .lit (.string [110, 111, 32, 112, 114, 105, 99, 101]), .lit (.string [102, 117, 108, 108]), .lit (.string [111, 114, 100, 101, 114, 32, 116, 111, 111, 32, 103, 114, 101, 97, 116]), .lit (.string [112, 111, 115, 105, 116, 105, 111, 110, 32, 116, 111, 111, 32, 103, 114, 101, 97, 116]), .lit (.string [109, 97, 114, 103, 105, 110]), .lit (.string [111, 118, 101, 114, 102, 108, 111, 119]), .lit (.string [117, 110, 97, 118, 97, 105, 108, 97, 98, 108, 101])]
def laid_math_bits_deBruijn32tab {H : Type} : DataW H := .agg [.lit (.int .u8 0), .lit (.int .u8 1), .lit (.int .u8 28), .lit (.int .u8 2), .lit (.int .u8 29), .lit (.int .u8 14), .lit (.int .u8 24), .lit (.int .u8 3), .lit (.int .u8 30), .lit (.int .u8 22), .lit (.int .u8 20), .lit (.int .u8 15), .lit (.int .u8 25), .lit (.int .u8 17), .lit (.int .u8 4), .lit (.int .u8 8), .lit (.int .u8 31), .lit (.int .u8 27), .lit (.int .u8 13), .lit (.int .u8 23), .lit (.int .u8 21), .lit (.int .u8 19), .lit (.int .u8 16), .lit (.int .u8 7), .lit (.int .u8 26), .lit (.int .u8 12), .lit (.int .u8 18), .lit (.int .u8 6), .lit (.int .u8 11), .lit (.int .u8 5), .lit (.int .u8 10), .lit (.int .u8 9)]
def laid_math_bits_deBruijn64tab {H : Type} : DataW H := .agg [.lit (.int .u8 0), .lit (.int .u8 1), .lit (.int .u8 56), .lit (.int .u8 2), .lit (.int .u8 57), .lit (.int .u8 49), .lit (.int .u8 28), .lit (.int .u8 3), .lit (.int .u8 61), .lit (.int .u8 58), .lit (.int .u8 42), .lit (.int .u8 50), .lit (.int .u8 38), .lit (.int .u8 29), .lit (.int .u8 17), .lit (.int .u8 4), .lit (.int .u8 62), .lit (.int .u8 47), .lit (.int .u8 59), .lit (.int .u8 36), .lit (.int .u8 45), .lit (.int .u8 43), .lit (.int .u8 51), .lit (.int .u8 22), .lit (.int .u8 53), .lit (.int .u8 39), .lit (.int .u8 33), .lit (.int .u8 30), .lit (.int .u8 24), .lit (.int .u8 18), .lit (.int .u8 12), .lit (.int .u8 5), .lit (.int .u8 63), .lit (.int .u8 55), .lit (.int .u8 48), .lit (.int .u8 27), .lit (.int .u8 60), .lit (.int .u8 41), .lit (.int .u8 37), .lit (.int .u8 16), .lit (.int .u8 46), .lit (.int .u8 35), .lit (.int .u8 44), .lit (.int .u8 21), .lit (.int .u8 52), .lit (.int .u8 32), .lit (.int .u8 23), .lit (.int .u8 11), .lit (.int .u8 54), .lit (.int .u8 26), .lit (.int .u8 40), .lit (.int .u8 15), .lit (.int .u8 34), .lit (.int .u8 20), .lit (.int .u8 31), .lit (.int .u8 10), .lit (.int .u8 25), .lit (.int .u8 14), .lit (.int .u8 19), .lit (.int .u8 9), .lit (.int .u8 13), .lit (.int .u8 8), .lit (.int .u8 7), .lit (.int .u8 6)]
def laid_internal_strconv_uint64pow10 {H : Type} : DataW H := .agg [.lit (.int .u64 1), .lit (.int .u64 10), .lit (.int .u64 100), .lit (.int .u64 1000), .lit (.int .u64 10000), .lit (.int .u64 100000), .lit (.int .u64 1000000), .lit (.int .u64 10000000), .lit (.int .u64 100000000), .lit (.int .u64 1000000000), .lit (.int .u64 10000000000), .lit (.int .u64 100000000000), .lit (.int .u64 1000000000000), .lit (.int .u64 10000000000000), .lit (.int .u64 100000000000000), .lit (.int .u64 1000000000000000), .lit (.int .u64 10000000000000000), .lit (.int .u64 100000000000000000), .lit (.int .u64 1000000000000000000), .lit (.int .u64 10000000000000000000)]

/-- 'engrosslaw17.GateSteps': WHATEVER THE INPUT: true; the input reads as it did. -/
def gateStepsSpec : ChangeSpec := { name := "gateSteps", fn := fun _ => fun
  | [d1, d2, d3] => { results := [.lit (.bool true)], args := [d1, d2, d3] }
  | _ => none }
def gateStepsRow : OpenClaim := { program := "ytajogedbacpohaagreatdoor", sum := "9c4a3edfc5b2f67bce8e1f0924181b241ac08f0ae47b4bddcd598516a5456c81", func := "engross/engrosslaw17.GateSteps", spec := "gateSteps", inPlace := ["slices.overlaps[engross/api.Holder]", "slices.overlaps[engross/api.Rate]", "math/bits.Add64", "slices.overlaps[engross/api.Open]", "slices.overlaps[engross/api.Stake]"], unfollowed := true, recurses := true, named := ["engross/rules.relations", "engross/rules.table", "math/bits.divideError", "math/bits.overflowError"], apart := false, laid := [("engross/rules.table", laid_engross_rules_table), ("engross/rules.relations", laid_engross_rules_relations)] }
def GateStepsSaid : Prop := gateStepsRow.holds Tryz.pinned (OpenSpec.ofChange gateStepsSpec)

/-- ITS FALSE NEIGHBOUR: 'it returns false'. Refute it at one input. -/
def gateStepsWrong : ChangeSpec := { name := "gateSteps", fn := fun _ => fun
  | [d1, d2, d3] => { results := [.lit (.bool false)], args := [d1, d2, d3] }
  | _ => none }
def GateStepsWrongFalsely : Prop := gateStepsRow.holds Tryz.pinned (OpenSpec.ofChange gateStepsWrong)

/-- 'engrosslaw18.FoldRuns': WHATEVER THE INPUT: true; the input reads as it did. -/
def foldRunsSpec : ChangeSpec := { name := "foldRuns", fn := fun _ => fun
  | [d1, d2, d3] => { results := [.lit (.bool true)], args := [d1, d2, d3] }
  | _ => none }
def foldRunsRow : OpenClaim := { program := "ytajogedbacpohaagreatdoor", sum := "9c4a3edfc5b2f67bce8e1f0924181b241ac08f0ae47b4bddcd598516a5456c81", func := "engross/engrosslaw18.FoldRuns", spec := "foldRuns", inPlace := ["slices.overlaps[engross/api.Holder]", "slices.overlaps[engross/api.Rate]", "math/bits.Add64", "slices.overlaps[engross/api.Open]", "slices.overlaps[engross/api.Stake]"], unfollowed := true, recurses := true, named := ["engross/rules.relations", "engross/rules.table", "math/bits.divideError", "math/bits.overflowError"], apart := false, laid := [("engross/rules.table", laid_engross_rules_table), ("engross/rules.relations", laid_engross_rules_relations)] }
def FoldRunsSaid : Prop := foldRunsRow.holds Tryz.pinned (OpenSpec.ofChange foldRunsSpec)

/-- ITS FALSE NEIGHBOUR: 'it returns false'. Refute it at one input. -/
def foldRunsWrong : ChangeSpec := { name := "foldRuns", fn := fun _ => fun
  | [d1, d2, d3] => { results := [.lit (.bool false)], args := [d1, d2, d3] }
  | _ => none }
def FoldRunsWrongFalsely : Prop := foldRunsRow.holds Tryz.pinned (OpenSpec.ofChange foldRunsWrong)

/-- 'engrosslaw18.FoldBooks': WHATEVER THE INPUT: true; the input reads as it did. -/
def foldBooksSpec : ChangeSpec := { name := "foldBooks", fn := fun _ => fun
  | [d1, d2] => { results := [.lit (.bool true)], args := [d1, d2] }
  | _ => none }
def foldBooksRow : OpenClaim := { program := "ytajogedbacpohaagreatdoor", sum := "9c4a3edfc5b2f67bce8e1f0924181b241ac08f0ae47b4bddcd598516a5456c81", func := "engross/engrosslaw18.FoldBooks", spec := "foldBooks", inPlace := ["slices.overlaps[engross/api.Holder]", "slices.overlaps[engross/api.Rate]", "math/bits.Add64", "slices.overlaps[engross/api.Open]", "slices.overlaps[engross/api.Stake]"], unfollowed := true, recurses := true, named := ["engross/rules.relations", "engross/rules.table", "math/bits.divideError", "math/bits.overflowError"], apart := false, laid := [("engross/rules.table", laid_engross_rules_table), ("engross/rules.relations", laid_engross_rules_relations)] }
def FoldBooksSaid : Prop := foldBooksRow.holds Tryz.pinned (OpenSpec.ofChange foldBooksSpec)

/-- ITS FALSE NEIGHBOUR: 'it returns false'. Refute it at one input. -/
def foldBooksWrong : ChangeSpec := { name := "foldBooks", fn := fun _ => fun
  | [d1, d2] => { results := [.lit (.bool false)], args := [d1, d2] }
  | _ => none }
def FoldBooksWrongFalsely : Prop := foldBooksRow.holds Tryz.pinned (OpenSpec.ofChange foldBooksWrong)

/-- 'engrosslaw18.FoldChecks': WHATEVER THE INPUT: true; the input reads as it did. -/
def foldChecksSpec : ChangeSpec := { name := "foldChecks", fn := fun _ => fun
  | [d1, d2] => { results := [.lit (.bool true)], args := [d1, d2] }
  | _ => none }
def foldChecksRow : OpenClaim := { program := "ytajogedbacpohaagreatdoor", sum := "9c4a3edfc5b2f67bce8e1f0924181b241ac08f0ae47b4bddcd598516a5456c81", func := "engross/engrosslaw18.FoldChecks", spec := "foldChecks", inPlace := ["slices.overlaps[engross/api.Holder]", "slices.overlaps[engross/api.Rate]", "math/bits.Add64", "slices.overlaps[engross/api.Open]", "slices.overlaps[engross/api.Stake]"], unfollowed := true, recurses := true, named := ["engross/rules.relations", "engross/rules.table", "math/bits.divideError", "math/bits.overflowError"], apart := false, laid := [("engross/rules.table", laid_engross_rules_table), ("engross/rules.relations", laid_engross_rules_relations)] }
def FoldChecksSaid : Prop := foldChecksRow.holds Tryz.pinned (OpenSpec.ofChange foldChecksSpec)

/-- ITS FALSE NEIGHBOUR: 'it returns false'. Refute it at one input. -/
def foldChecksWrong : ChangeSpec := { name := "foldChecks", fn := fun _ => fun
  | [d1, d2] => { results := [.lit (.bool false)], args := [d1, d2] }
  | _ => none }
def FoldChecksWrongFalsely : Prop := foldChecksRow.holds Tryz.pinned (OpenSpec.ofChange foldChecksWrong)

/-- 'engrosslaw17.GateExplains': WHATEVER THE INPUT: true; the input reads as it did. -/
def gateExplainsSpec : ChangeSpec := { name := "gateExplains", fn := fun _ => fun
  | [d1, d2, d3] => { results := [.lit (.bool true)], args := [d1, d2, d3] }
  | _ => none }
def gateExplainsRow : OpenClaim := { program := "ytajogedbacpohaagreatdoor", sum := "9c4a3edfc5b2f67bce8e1f0924181b241ac08f0ae47b4bddcd598516a5456c81", func := "engross/engrosslaw17.GateExplains", spec := "gateExplains", inPlace := ["slices.overlaps[engross/api.Holder]", "slices.overlaps[engross/api.Rate]", "math/bits.Add64", "slices.overlaps[engross/api.Open]", "slices.overlaps[engross/api.Stake]", "internal/abi.NoEscape", "internal/bytealg.MakeNoZero"], unfollowed := true, recurses := true, named := ["engross/rules.relations", "engross/rules.table", "math/bits.divideError", "math/bits.overflowError", "engross/event.names", "internal/strconv.uint64pow10", "math/bits.deBruijn32tab", "math/bits.deBruijn64tab", "engross/event.reasons"], apart := false, laid := [("engross/event.names", laid_engross_event_names), ("engross/event.reasons", laid_engross_event_reasons), ("math/bits.deBruijn32tab", laid_math_bits_deBruijn32tab), ("math/bits.deBruijn64tab", laid_math_bits_deBruijn64tab), ("internal/strconv.uint64pow10", laid_internal_strconv_uint64pow10), ("engross/rules.table", laid_engross_rules_table), ("engross/rules.relations", laid_engross_rules_relations)] }
def GateExplainsSaid : Prop := gateExplainsRow.holds Tryz.pinned (OpenSpec.ofChange gateExplainsSpec)

/-- ITS FALSE NEIGHBOUR: 'it returns false'. Refute it at one input. -/
def gateExplainsWrong : ChangeSpec := { name := "gateExplains", fn := fun _ => fun
  | [d1, d2, d3] => { results := [.lit (.bool false)], args := [d1, d2, d3] }
  | _ => none }
def GateExplainsWrongFalsely : Prop := gateExplainsRow.holds Tryz.pinned (OpenSpec.ofChange gateExplainsWrong)

/- THE SECOND FORM. 'bulk': how many values and letters a reading holds, each counted each time it is reached (what is shared counts as often as it is met; a slice's spare places count too). A statement '..UptoSaid' is the law's where the arguments, and the package variables that the reading takes, are together of bulk at most 1048576: NARROWER than '..Said'. Prove '..Said' where nothing that the law and all that it calls make is longer than what came in: it says more and counts as full. Else prove '..UptoSaid'. A law counts once. -/
mutual
def uptoBulk {H : Type} : DataW H → Nat
  | .lit (.string bytes) => bytes.length + 1
  | .lit _ => 1
  | .nil => 1
  | .ptr d => uptoBulk d + 1
  | .slice elems spare => uptoBulkAll elems + uptoBulkAll spare + 1
  | .agg parts => uptoBulkAll parts + 1
  | .iface _ d => uptoBulk d + 1
  | .map entries => uptoBulkEntries entries + 1
  | .held _ => 1
def uptoBulkAll {H : Type} : List (DataW H) → Nat
  | [] => 0
  | d :: r => uptoBulk d + uptoBulkAll r
def uptoBulkEntries {H : Type} : List (Lit × DataW H) → Nat
  | [] => 0
  | x :: r => uptoBulkEntry x + uptoBulkEntries r
def uptoBulkEntry {H : Type} : Lit × DataW H → Nat
  | (.string bytes, d) => bytes.length + uptoBulk d + 1
  | (_, d) => uptoBulk d + 1
 end
def uptoSmall : (H : Type) → List (DataW H) → Bool := fun _ ds => decide (uptoBulkAll ds ≤ 1048576)
def OpenSpec.upto (s : _root_.Go.ChangeSpec) : _root_.Go.OpenSpec := { _root_.Go.OpenSpec.ofChange s with cond := some uptoSmall }

/-- 'engrosslaw17.GateSteps', WHERE WHAT IT READS IS OF BULK AT MOST 1048576: true; the input reads as it did. -/
def gateStepsUptoRow : OpenClaim := { program := "ytajogedbacpohaagreatdoor", sum := "9c4a3edfc5b2f67bce8e1f0924181b241ac08f0ae47b4bddcd598516a5456c81", func := "engross/engrosslaw17.GateSteps", spec := "gateSteps", inPlace := ["slices.overlaps[engross/api.Holder]", "slices.overlaps[engross/api.Rate]", "math/bits.Add64", "slices.overlaps[engross/api.Open]", "slices.overlaps[engross/api.Stake]"], unfollowed := true, recurses := true, named := ["engross/rules.relations", "engross/rules.table", "math/bits.divideError", "math/bits.overflowError"], apart := false, laid := [("engross/rules.table", laid_engross_rules_table), ("engross/rules.relations", laid_engross_rules_relations)], narrowed := true }
def GateStepsUptoSaid : Prop := gateStepsUptoRow.holds Tryz.pinned (OpenSpec.upto gateStepsSpec)

/-- 'engrosslaw18.FoldRuns', WHERE WHAT IT READS IS OF BULK AT MOST 1048576: true; the input reads as it did. -/
def foldRunsUptoRow : OpenClaim := { program := "ytajogedbacpohaagreatdoor", sum := "9c4a3edfc5b2f67bce8e1f0924181b241ac08f0ae47b4bddcd598516a5456c81", func := "engross/engrosslaw18.FoldRuns", spec := "foldRuns", inPlace := ["slices.overlaps[engross/api.Holder]", "slices.overlaps[engross/api.Rate]", "math/bits.Add64", "slices.overlaps[engross/api.Open]", "slices.overlaps[engross/api.Stake]"], unfollowed := true, recurses := true, named := ["engross/rules.relations", "engross/rules.table", "math/bits.divideError", "math/bits.overflowError"], apart := false, laid := [("engross/rules.table", laid_engross_rules_table), ("engross/rules.relations", laid_engross_rules_relations)], narrowed := true }
def FoldRunsUptoSaid : Prop := foldRunsUptoRow.holds Tryz.pinned (OpenSpec.upto foldRunsSpec)

/-- 'engrosslaw18.FoldBooks', WHERE WHAT IT READS IS OF BULK AT MOST 1048576: true; the input reads as it did. -/
def foldBooksUptoRow : OpenClaim := { program := "ytajogedbacpohaagreatdoor", sum := "9c4a3edfc5b2f67bce8e1f0924181b241ac08f0ae47b4bddcd598516a5456c81", func := "engross/engrosslaw18.FoldBooks", spec := "foldBooks", inPlace := ["slices.overlaps[engross/api.Holder]", "slices.overlaps[engross/api.Rate]", "math/bits.Add64", "slices.overlaps[engross/api.Open]", "slices.overlaps[engross/api.Stake]"], unfollowed := true, recurses := true, named := ["engross/rules.relations", "engross/rules.table", "math/bits.divideError", "math/bits.overflowError"], apart := false, laid := [("engross/rules.table", laid_engross_rules_table), ("engross/rules.relations", laid_engross_rules_relations)], narrowed := true }
def FoldBooksUptoSaid : Prop := foldBooksUptoRow.holds Tryz.pinned (OpenSpec.upto foldBooksSpec)

/-- 'engrosslaw18.FoldChecks', WHERE WHAT IT READS IS OF BULK AT MOST 1048576: true; the input reads as it did. -/
def foldChecksUptoRow : OpenClaim := { program := "ytajogedbacpohaagreatdoor", sum := "9c4a3edfc5b2f67bce8e1f0924181b241ac08f0ae47b4bddcd598516a5456c81", func := "engross/engrosslaw18.FoldChecks", spec := "foldChecks", inPlace := ["slices.overlaps[engross/api.Holder]", "slices.overlaps[engross/api.Rate]", "math/bits.Add64", "slices.overlaps[engross/api.Open]", "slices.overlaps[engross/api.Stake]"], unfollowed := true, recurses := true, named := ["engross/rules.relations", "engross/rules.table", "math/bits.divideError", "math/bits.overflowError"], apart := false, laid := [("engross/rules.table", laid_engross_rules_table), ("engross/rules.relations", laid_engross_rules_relations)], narrowed := true }
def FoldChecksUptoSaid : Prop := foldChecksUptoRow.holds Tryz.pinned (OpenSpec.upto foldChecksSpec)

/-- 'engrosslaw17.GateExplains', WHERE WHAT IT READS IS OF BULK AT MOST 1048576: true; the input reads as it did. -/
def gateExplainsUptoRow : OpenClaim := { program := "ytajogedbacpohaagreatdoor", sum := "9c4a3edfc5b2f67bce8e1f0924181b241ac08f0ae47b4bddcd598516a5456c81", func := "engross/engrosslaw17.GateExplains", spec := "gateExplains", inPlace := ["slices.overlaps[engross/api.Holder]", "slices.overlaps[engross/api.Rate]", "math/bits.Add64", "slices.overlaps[engross/api.Open]", "slices.overlaps[engross/api.Stake]", "internal/abi.NoEscape", "internal/bytealg.MakeNoZero"], unfollowed := true, recurses := true, named := ["engross/rules.relations", "engross/rules.table", "math/bits.divideError", "math/bits.overflowError", "engross/event.names", "internal/strconv.uint64pow10", "math/bits.deBruijn32tab", "math/bits.deBruijn64tab", "engross/event.reasons"], apart := false, laid := [("engross/event.names", laid_engross_event_names), ("engross/event.reasons", laid_engross_event_reasons), ("math/bits.deBruijn32tab", laid_math_bits_deBruijn32tab), ("math/bits.deBruijn64tab", laid_math_bits_deBruijn64tab), ("internal/strconv.uint64pow10", laid_internal_strconv_uint64pow10), ("engross/rules.table", laid_engross_rules_table), ("engross/rules.relations", laid_engross_rules_relations)], narrowed := true }
def GateExplainsUptoSaid : Prop := gateExplainsUptoRow.holds Tryz.pinned (OpenSpec.upto gateExplainsSpec)

end Rows
end Go.Proofs.YtajogedbacpohaaGreatDoor
