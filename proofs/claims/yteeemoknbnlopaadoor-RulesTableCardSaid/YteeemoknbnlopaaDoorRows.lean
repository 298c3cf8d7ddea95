/-
  NARROWER THAN 'FOR EVERY INPUT', by the rows' own cells (each row's printed sentence says how): ShelfKinds: laid · ShelfNames: laid · ShelfSorts: laid · RulesTable: laid · RulesWeighs: laid · RulesOpposed: laid.
  DERIVED. THE GIVEN ROWS OF THIS SEAT. 6 by the template 'for every input the law returns true; each argument reads behind the call as it read before'; 0 by the template 'total and deterministic' (their statements: YteeemoknbnlopaaDoorTotals.lean).
  GIVEN WITH THE SEED: the statements are not yours to turn. If you find one false, say at which input.
  Laid BY PROGRAM, IN A SANDBOX (cutbox-rows.mjs): the forced cells as the released guide's own fill.sh prints them over the translation 4f5d76d55bf2bea9… (all of the seat's roots in one cut). By AI agents, Wed Nov 11 2026. No macro, syntax, notation, axiom, sorry.
-/
import Derived.Test.YteeemoknbnlopaaDoorChecked
import GoSem.Claim
import GoSem.ClaimJoined
import GoSem.ClaimMapViews
import Derived.JoinedTies
import Derived.KernelRfl
namespace Go.Proofs.YteeemoknbnlopaaDoor
/- THE CELL 'sum', in the pinned program and in every row, IS THE sha256 OF THE DUMP (.gsa) THAT YteeemoknbnlopaaDoorProg.lean LOADS. Nothing in Lean hashes anything: it is a label: what it is worth is what the hold of that sum in a sandbox is worth. -/
noncomputable def Tryd.pinned : Pinned := { name := "yteeemoknbnlopaadoor", sum := "4f5d76d55bf2bea976f2b308fce09283b9a7fa33a0cd15f0bcd58f340f480b3f", checked := Tryd.checked }
namespace Rows
def none {H : Type} : Left H := { results := [], args := [] }

/- WHAT THE LISTED PACKAGE-LEVEL VARIABLES READ AS WHEN THE CALL BEGINS. Each datum BY PROGRAM (the guide's laid-datum.mjs) off the statement by which the dump's own 'gosem.cut.vars' lays the variable. In a bare row this is a premise. The card (YteeemoknbnlopaaDoorCards.lean) ties it to the program's text. -/
def laid_math_bits_deBruijn32tab {H : Type} : DataW H := .agg [.lit (.int .u8 0), .lit (.int .u8 1), .lit (.int .u8 28), .lit (.int .u8 2), .lit (.int .u8 29), .lit (.int .u8 14), .lit (.int .u8 24), .lit (.int .u8 3), .lit (.int .u8 30), .lit (.int .u8 22), .lit (.int .u8 20), .lit (.int .u8 15), .lit (.int .u8 25), .lit (.int .u8 17), .lit (.int .u8 4), .lit (.int .u8 8), .lit (.int .u8 31), .lit (.int .u8 27), .lit (.int .u8 13), .lit (.int .u8 23), .lit (.int .u8 21), .lit (.int .u8 19), .lit (.int .u8 16), .lit (.int .u8 7), .lit (.int .u8 26), .lit (.int .u8 12), .lit (.int .u8 18), .lit (.int .u8 6), .lit (.int .u8 11), .lit (.int .u8 5), .lit (.int .u8 10), .lit (.int .u8 9)]
def laid_math_bits_deBruijn64tab {H : Type} : DataW H := .agg [.lit (.int .u8 0), .lit (.int .u8 1), .lit (.int .u8 56), .lit (.int .u8 2), .lit (.int .u8 57), .lit (.int .u8 49), .lit (.int .u8 28), .lit (.int .u8 3), .lit (.int .u8 61), .lit (.int .u8 58), .lit (.int .u8 42), .lit (.int .u8 50), .lit (.int .u8 38), .lit (.int .u8 29), .lit (.int .u8 17), .lit (.int .u8 4), .lit (.int .u8 62), .lit (.int .u8 47), .lit (.int .u8 59), .lit (.int .u8 36), .lit (.int .u8 45), .lit (.int .u8 43), .lit (.int .u8 51), .lit (.int .u8 22), .lit (.int .u8 53), .lit (.int .u8 39), .lit (.int .u8 33), .lit (.int .u8 30), .lit (.int .u8 24), .lit (.int .u8 18), .lit (.int .u8 12), .lit (.int .u8 5), .lit (.int .u8 63), .lit (.int .u8 55), .lit (.int .u8 48), .lit (.int .u8 27), .lit (.int .u8 60), .lit (.int .u8 41), .lit (.int .u8 37), .lit (.int .u8 16), .lit (.int .u8 46), .lit (.int .u8 35), .lit (.int .u8 44), .lit (.int .u8 21), .lit (.int .u8 52), .lit (.int .u8 32), .lit (.int .u8 23), .lit (.int .u8 11), .lit (.int .u8 54), .lit (.int .u8 26), .lit (.int .u8 40), .lit (.int .u8 15), .lit (.int .u8 34), .lit (.int .u8 20), .lit (.int .u8 31), .lit (.int .u8 10), .lit (.int .u8 25), .lit (.int .u8 14), .lit (.int .u8 19), .lit (.int .u8 9), .lit (.int .u8 13), .lit (.int .u8 8), .lit (.int .u8 7), .lit (.int .u8 6)]
def laid_internal_strconv_uint64pow10 {H : Type} : DataW H := .agg [.lit (.int .u64 1), .lit (.int .u64 10), .lit (.int .u64 100), .lit (.int .u64 1000), .lit (.int .u64 10000), .lit (.int .u64 100000), .lit (.int .u64 1000000), .lit (.int .u64 10000000), .lit (.int .u64 100000000), .lit (.int .u64 1000000000), .lit (.int .u64 10000000000), .lit (.int .u64 100000000000), .lit (.int .u64 1000000000000), .lit (.int .u64 10000000000000), .lit (.int .u64 100000000000000), .lit (.int .u64 1000000000000000), .lit (.int .u64 10000000000000000), .lit (.int .u64 100000000000000000), .lit (.int .u64 1000000000000000000), .lit (.int .u64 10000000000000000000)]
def laid_engross_rules_table {H : Type} : DataW H := .agg [.agg [.lit (.string []), .lit (.int .i64 0), .lit (.int .i64 0)], .agg [.lit (.string [107, 105, 110, 100, 32, 97, 116, 32, 108, 101, 97, 115, 116]), .lit (.int .i64 2), .lit (.int .i64 1)], .agg [.lit (.string [107, 105, 110, 100, 32, 97, 116, 32, 109, 111, 115, 116]), .lit (.int .i64 1), .lit (.int .i64 1)], .agg [.lit (.string [115, 105, 100, 101, 32, 97, 116, 32, 108, 101, 97, 115, 116]), .lit (.int .i64 2), .lit (.int .i64 2)], .agg [.lit (.string [115, 105, 100, 101, 32, 97, 116, 32, 109, 111, 115, 116]), .lit (.int .i64 1), .lit (.int .i64 2)], .agg [.lit (.string [113, 117, 97, 110, 116, 105, 116, 121]), .lit (.int .i64 2), .lit (.int .i64 2)], .agg [.lit (.string [112, 114, 105, 99, 101]), .lit (.int .i64 2), .lit (.int .i64 2)], .agg [.lit (.string [99, 97, 115, 104]), .lit (.int .i64 2), .lit (.int .i64 2)], .agg [.lit (.string [108, 105, 109, 105, 116, 32, 111, 102, 32, 112, 111, 115, 105, 116, 105, 111, 110]), .lit (.int .i64 2), .lit (.int .i64 2)], .agg [.lit (.string [108, 105, 109, 105, 116, 32, 111, 102, 32, 111, 114, 100, 101, 114]), .lit (.int .i64 2), .lit (.int .i64 2)], .agg [.lit (.string [97, 99, 99, 111, 117, 110, 116, 32, 107, 110, 111, 119, 110]), .lit (.int .i64 3), .lit (.int .i64 3)], .agg [.lit (.string [97, 99, 99, 111, 117, 110, 116, 32, 110, 101, 119]), .lit (.int .i64 3), .lit (.int .i64 4)], .agg [.lit (.string [111, 114, 100, 101, 114, 32, 110, 101, 119]), .lit (.int .i64 3), .lit (.int .i64 5)], .agg [.lit (.string [111, 114, 100, 101, 114, 32, 107, 110, 111, 119, 110]), .lit (.int .i64 3), .lit (.int .i64 6)], .agg [.lit (.string [115, 121, 109, 98, 111, 108, 32, 112, 114, 105, 99, 101, 100]), .lit (.int .i64 3), .lit (.int .i64 7)], .agg [.lit (.string [114, 111, 111, 109, 32, 111, 102, 32, 97, 99, 99, 111, 117, 110, 116, 115]), .lit (.int .i64 1), .lit (.int .i64 8)], .agg [.lit (.string [114, 111, 111, 109, 32, 111, 102, 32, 111, 114, 100, 101, 114, 115]), .lit (.int .i64 1), .lit (.int .i64 8)], .agg [.lit (.string [114, 111, 111, 109, 32, 111, 102, 32, 112, 114, 105, 99, 101, 115]), .lit (.int .i64 1), .lit (.int .i64 8)], .agg [.lit (.string [119, 111, 114, 116, 104]), .lit (.int .i64 1), .lit (.int .i64 9)], .agg [.lit (.string [114, 101, 97, 99, 104]), .lit (.int .i64 1), .lit (.int .i64 10)], .agg [.lit (.string [109, 97, 114, 103, 105, 110]), .lit (.int .i64 1), .lit (.int .i64 11)], .agg [.lit (.string [102, 105, 108, 108, 101, 100]), .lit (.int .i64 1), .lit (.int .i64 2)], .agg [.lit (.string [99, 97, 115, 104, 32, 98, 101, 104, 105, 110, 100]), .lit (.int .i64 3), .lit (.int .i64 12)], .agg [.lit (.string [112, 111, 115, 105, 116, 105, 111, 110, 32, 98, 101, 104, 105, 110, 100]), .lit (.int .i64 3), .lit (.int .i64 12)]]
def laid_engross_rules_relations {H : Type} : DataW H := .iface "func table" (.agg [.agg [.lit (.string [63]), .iface "func" (.lit (.string [101, 110, 103, 114, 111, 115, 115, 47, 114, 117, 108, 101, 115, 46, 114, 101, 108, 97, 116, 105, 111, 110, 115, 36, 49]))], .agg [.lit (.string [60, 61]), .iface "func" (.lit (.string [101, 110, 103, 114, 111, 115, 115, 47, 114, 117, 108, 101, 115, 46, 114, 101, 108, 97, 116, 105, 111, 110, 115, 36, 50]))], .agg [.lit (.string [62, 61]), .iface "func" (.lit (.string [101, 110, 103, 114, 111, 115, 115, 47, 114, 117, 108, 101, 115, 46, 114, 101, 108, 97, 116, 105, 111, 110, 115, 36, 51]))], .agg [.lit (.string [61]), .iface "func" (.lit (.string [101, 110, 103, 114, 111, 115, 115, 47, 114, 117, 108, 101, 115, 46, 114, 101, 108, 97, 116, 105, 111, 110, 115, 36, 52]))]])

/-- 'engrosslaw10.ShelfKinds': WHATEVER THE INPUT: true; the input reads as it did. -/
def shelfKindsSpec : ChangeSpec := { name := "shelfKinds", fn := fun _ => fun
  | [d] => { results := [.lit (.bool true)], args := [d] }
  | _ => none }
def shelfKindsRow : OpenClaim := { program := "yteeemoknbnlopaadoor", sum := "4f5d76d55bf2bea976f2b308fce09283b9a7fa33a0cd15f0bcd58f340f480b3f", func := "engross/engrosslaw10.ShelfKinds", spec := "shelfKinds", recurses := true, named := ["internal/strconv.uint64pow10", "math/bits.deBruijn32tab", "math/bits.deBruijn64tab"], apart := false, laid := [("math/bits.deBruijn32tab", laid_math_bits_deBruijn32tab), ("math/bits.deBruijn64tab", laid_math_bits_deBruijn64tab), ("internal/strconv.uint64pow10", laid_internal_strconv_uint64pow10)] }
def ShelfKindsSaid : Prop := shelfKindsRow.holds Tryd.pinned (OpenSpec.ofChange shelfKindsSpec)

/-- ITS FALSE NEIGHBOUR: 'it returns false'. Refute it at one input. -/
def shelfKindsWrong : ChangeSpec := { name := "shelfKinds", fn := fun _ => fun
  | [d] => { results := [.lit (.bool false)], args := [d] }
  | _ => none }
def ShelfKindsWrongFalsely : Prop := shelfKindsRow.holds Tryd.pinned (OpenSpec.ofChange shelfKindsWrong)

/-- 'engrosslaw10.ShelfNames': WHATEVER THE INPUT: true; the input reads as it did. -/
def shelfNamesSpec : ChangeSpec := { name := "shelfNames", fn := fun _ => fun
  | [d] => { results := [.lit (.bool true)], args := [d] }
  | _ => none }
def shelfNamesRow : OpenClaim := { program := "yteeemoknbnlopaadoor", sum := "4f5d76d55bf2bea976f2b308fce09283b9a7fa33a0cd15f0bcd58f340f480b3f", func := "engross/engrosslaw10.ShelfNames", spec := "shelfNames", recurses := true, named := ["internal/strconv.uint64pow10", "math/bits.deBruijn32tab", "math/bits.deBruijn64tab"], apart := false, laid := [("math/bits.deBruijn32tab", laid_math_bits_deBruijn32tab), ("math/bits.deBruijn64tab", laid_math_bits_deBruijn64tab), ("internal/strconv.uint64pow10", laid_internal_strconv_uint64pow10)] }
def ShelfNamesSaid : Prop := shelfNamesRow.holds Tryd.pinned (OpenSpec.ofChange shelfNamesSpec)

/-- ITS FALSE NEIGHBOUR: 'it returns false'. Refute it at one input. -/
def shelfNamesWrong : ChangeSpec := { name := "shelfNames", fn := fun _ => fun
  | [d] => { results := [.lit (.bool false)], args := [d] }
  | _ => none }
def ShelfNamesWrongFalsely : Prop := shelfNamesRow.holds Tryd.pinned (OpenSpec.ofChange shelfNamesWrong)

/-- 'engrosslaw10.ShelfSorts': WHATEVER THE INPUT: true; the input reads as it did. -/
def shelfSortsSpec : ChangeSpec := { name := "shelfSorts", fn := fun _ => fun
  | [d] => { results := [.lit (.bool true)], args := [d] }
  | _ => none }
def shelfSortsRow : OpenClaim := { program := "yteeemoknbnlopaadoor", sum := "4f5d76d55bf2bea976f2b308fce09283b9a7fa33a0cd15f0bcd58f340f480b3f", func := "engross/engrosslaw10.ShelfSorts", spec := "shelfSorts", recurses := true, named := ["internal/strconv.uint64pow10", "math/bits.deBruijn32tab", "math/bits.deBruijn64tab"], apart := false, laid := [("math/bits.deBruijn32tab", laid_math_bits_deBruijn32tab), ("math/bits.deBruijn64tab", laid_math_bits_deBruijn64tab), ("internal/strconv.uint64pow10", laid_internal_strconv_uint64pow10)] }
def ShelfSortsSaid : Prop := shelfSortsRow.holds Tryd.pinned (OpenSpec.ofChange shelfSortsSpec)

/-- ITS FALSE NEIGHBOUR: 'it returns false'. Refute it at one input. -/
def shelfSortsWrong : ChangeSpec := { name := "shelfSorts", fn := fun _ => fun
  | [d] => { results := [.lit (.bool false)], args := [d] }
  | _ => none }
def ShelfSortsWrongFalsely : Prop := shelfSortsRow.holds Tryd.pinned (OpenSpec.ofChange shelfSortsWrong)

/-- 'engrosslaw16.RulesTable': WHATEVER THE INPUT: true; the input reads as it did. -/
def rulesTableSpec : ChangeSpec := { name := "rulesTable", fn := fun _ => fun
  | [d1, d2] => { results := [.lit (.bool true)], args := [d1, d2] }
  | _ => none }
def rulesTableRow : OpenClaim := { program := "yteeemoknbnlopaadoor", sum := "4f5d76d55bf2bea976f2b308fce09283b9a7fa33a0cd15f0bcd58f340f480b3f", func := "engross/engrosslaw16.RulesTable", spec := "rulesTable", inPlace := ["internal/abi.NoEscape", "internal/bytealg.MakeNoZero"], unfollowed := true, recurses := true, named := ["engross/rules.relations", "engross/rules.table", "internal/strconv.uint64pow10", "math/bits.deBruijn32tab", "math/bits.deBruijn64tab"], apart := false, laid := [("math/bits.deBruijn32tab", laid_math_bits_deBruijn32tab), ("math/bits.deBruijn64tab", laid_math_bits_deBruijn64tab), ("internal/strconv.uint64pow10", laid_internal_strconv_uint64pow10), ("engross/rules.table", laid_engross_rules_table), ("engross/rules.relations", laid_engross_rules_relations)] }
def RulesTableSaid : Prop := rulesTableRow.holds Tryd.pinned (OpenSpec.ofChange rulesTableSpec)

/-- ITS FALSE NEIGHBOUR: 'it returns false'. Refute it at one input. -/
def rulesTableWrong : ChangeSpec := { name := "rulesTable", fn := fun _ => fun
  | [d1, d2] => { results := [.lit (.bool false)], args := [d1, d2] }
  | _ => none }
def RulesTableWrongFalsely : Prop := rulesTableRow.holds Tryd.pinned (OpenSpec.ofChange rulesTableWrong)

/-- 'engrosslaw16.RulesWeighs': WHATEVER THE INPUT: true; the input reads as it did. -/
def rulesWeighsSpec : ChangeSpec := { name := "rulesWeighs", fn := fun _ => fun
  | [d] => { results := [.lit (.bool true)], args := [d] }
  | _ => none }
def rulesWeighsRow : OpenClaim := { program := "yteeemoknbnlopaadoor", sum := "4f5d76d55bf2bea976f2b308fce09283b9a7fa33a0cd15f0bcd58f340f480b3f", func := "engross/engrosslaw16.RulesWeighs", spec := "rulesWeighs", inPlace := ["internal/abi.NoEscape", "internal/bytealg.MakeNoZero"], unfollowed := true, recurses := true, named := ["engross/rules.relations", "engross/rules.table", "internal/strconv.uint64pow10", "math/bits.deBruijn32tab", "math/bits.deBruijn64tab"], apart := false, laid := [("math/bits.deBruijn32tab", laid_math_bits_deBruijn32tab), ("math/bits.deBruijn64tab", laid_math_bits_deBruijn64tab), ("internal/strconv.uint64pow10", laid_internal_strconv_uint64pow10), ("engross/rules.table", laid_engross_rules_table), ("engross/rules.relations", laid_engross_rules_relations)] }
def RulesWeighsSaid : Prop := rulesWeighsRow.holds Tryd.pinned (OpenSpec.ofChange rulesWeighsSpec)

/-- ITS FALSE NEIGHBOUR: 'it returns false'. Refute it at one input. -/
def rulesWeighsWrong : ChangeSpec := { name := "rulesWeighs", fn := fun _ => fun
  | [d] => { results := [.lit (.bool false)], args := [d] }
  | _ => none }
def RulesWeighsWrongFalsely : Prop := rulesWeighsRow.holds Tryd.pinned (OpenSpec.ofChange rulesWeighsWrong)

/-- 'engrosslaw16.RulesOpposed': WHATEVER THE INPUT: true; the input reads as it did. -/
def rulesOpposedSpec : ChangeSpec := { name := "rulesOpposed", fn := fun _ => fun
  | [d1, d2, d3] => { results := [.lit (.bool true)], args := [d1, d2, d3] }
  | _ => none }
def rulesOpposedRow : OpenClaim := { program := "yteeemoknbnlopaadoor", sum := "4f5d76d55bf2bea976f2b308fce09283b9a7fa33a0cd15f0bcd58f340f480b3f", func := "engross/engrosslaw16.RulesOpposed", spec := "rulesOpposed", inPlace := ["internal/abi.NoEscape", "internal/bytealg.MakeNoZero"], unfollowed := true, recurses := true, named := ["engross/rules.relations", "engross/rules.table", "internal/strconv.uint64pow10", "math/bits.deBruijn32tab", "math/bits.deBruijn64tab"], apart := false, laid := [("math/bits.deBruijn32tab", laid_math_bits_deBruijn32tab), ("math/bits.deBruijn64tab", laid_math_bits_deBruijn64tab), ("internal/strconv.uint64pow10", laid_internal_strconv_uint64pow10), ("engross/rules.table", laid_engross_rules_table), ("engross/rules.relations", laid_engross_rules_relations)] }
def RulesOpposedSaid : Prop := rulesOpposedRow.holds Tryd.pinned (OpenSpec.ofChange rulesOpposedSpec)

/-- ITS FALSE NEIGHBOUR: 'it returns false'. Refute it at one input. -/
def rulesOpposedWrong : ChangeSpec := { name := "rulesOpposed", fn := fun _ => fun
  | [d1, d2, d3] => { results := [.lit (.bool false)], args := [d1, d2, d3] }
  | _ => none }
def RulesOpposedWrongFalsely : Prop := rulesOpposedRow.holds Tryd.pinned (OpenSpec.ofChange rulesOpposedWrong)

/- THE SECOND FORM. 'bulk': how many values and letters a reading holds, each counted each time it is reached (what is shared counts as often as it is met; a slice's spare places count too). A statement '..UptoSaid' is the law's where the arguments, and the package variables that the reading takes, are together of bulk at most 1048576: NARROWER than '..Said'. Prove '..Said' where nothing that the law and all that it calls make is longer than what came in: it says more and counts as full. Else prove '..UptoSaid'. A law counts once. -/
mutual
def uptoBulk {H : Type} : DataW H → Nat
  | .lit (.string bytes) => bytes.length + 1
  | .lit _ => 1
  | .nil => 1
  | .ptr d => uptoBulk d + 1
  | .slice elems spare => uptoBulkAll elems + uptoBulkAll spare + 1
  | .agg parts => uptoBulkAll parts + 1
  | .iface _ d => uptoBulk d + 1
  | .map entries => uptoBulkEntries entries + 1
  | .held _ => 1
def uptoBulkAll {H : Type} : List (DataW H) → Nat
  | [] => 0
  | d :: r => uptoBulk d + uptoBulkAll r
def uptoBulkEntries {H : Type} : List (Lit × DataW H) → Nat
  | [] => 0
  | x :: r => uptoBulkEntry x + uptoBulkEntries r
def uptoBulkEntry {H : Type} : Lit × DataW H → Nat
  | (.string bytes, d) => bytes.length + uptoBulk d + 1
  | (_, d) => uptoBulk d + 1
 end
def uptoSmall : (H : Type) → List (DataW H) → Bool := fun _ ds => decide (uptoBulkAll ds ≤ 1048576)
def OpenSpec.upto (s : _root_.Go.ChangeSpec) : _root_.Go.OpenSpec := { _root_.Go.OpenSpec.ofChange s with cond := some uptoSmall }

/-- 'engrosslaw10.ShelfKinds', WHERE WHAT IT READS IS OF BULK AT MOST 1048576: true; the input reads as it did. -/
def shelfKindsUptoRow : OpenClaim := { program := "yteeemoknbnlopaadoor", sum := "4f5d76d55bf2bea976f2b308fce09283b9a7fa33a0cd15f0bcd58f340f480b3f", func := "engross/engrosslaw10.ShelfKinds", spec := "shelfKinds", recurses := true, named := ["internal/strconv.uint64pow10", "math/bits.deBruijn32tab", "math/bits.deBruijn64tab"], apart := false, laid := [("math/bits.deBruijn32tab", laid_math_bits_deBruijn32tab), ("math/bits.deBruijn64tab", laid_math_bits_deBruijn64tab), ("internal/strconv.uint64pow10", laid_internal_strconv_uint64pow10)], narrowed := true }
def ShelfKindsUptoSaid : Prop := shelfKindsUptoRow.holds Tryd.pinned (OpenSpec.upto shelfKindsSpec)

/-- 'engrosslaw10.ShelfNames', WHERE WHAT IT READS IS OF BULK AT MOST 1048576: true; the input reads as it did. -/
def shelfNamesUptoRow : OpenClaim := { program := "yteeemoknbnlopaadoor", sum := "4f5d76d55bf2bea976f2b308fce09283b9a7fa33a0cd15f0bcd58f340f480b3f", func := "engross/engrosslaw10.ShelfNames", spec := "shelfNames", recurses := true, named := ["internal/strconv.uint64pow10", "math/bits.deBruijn32tab", "math/bits.deBruijn64tab"], apart := false, laid := [("math/bits.deBruijn32tab", laid_math_bits_deBruijn32tab), ("math/bits.deBruijn64tab", laid_math_bits_deBruijn64tab), ("internal/strconv.uint64pow10", laid_internal_strconv_uint64pow10)], narrowed := true }
def ShelfNamesUptoSaid : Prop := shelfNamesUptoRow.holds Tryd.pinned (OpenSpec.upto shelfNamesSpec)

/-- 'engrosslaw10.ShelfSorts', WHERE WHAT IT READS IS OF BULK AT MOST 1048576: true; the input reads as it did. -/
def shelfSortsUptoRow : OpenClaim := { program := "yteeemoknbnlopaadoor", sum := "4f5d76d55bf2bea976f2b308fce09283b9a7fa33a0cd15f0bcd58f340f480b3f", func := "engross/engrosslaw10.ShelfSorts", spec := "shelfSorts", recurses := true, named := ["internal/strconv.uint64pow10", "math/bits.deBruijn32tab", "math/bits.deBruijn64tab"], apart := false, laid := [("math/bits.deBruijn32tab", laid_math_bits_deBruijn32tab), ("math/bits.deBruijn64tab", laid_math_bits_deBruijn64tab), ("internal/strconv.uint64pow10", laid_internal_strconv_uint64pow10)], narrowed := true }
def ShelfSortsUptoSaid : Prop := shelfSortsUptoRow.holds Tryd.pinned (OpenSpec.upto shelfSortsSpec)

/-- 'engrosslaw16.RulesTable', WHERE WHAT IT READS IS OF BULK AT MOST 1048576: true; the input reads as it did. -/
def rulesTableUptoRow : OpenClaim := { program := "yteeemoknbnlopaadoor", sum := "4f5d76d55bf2bea976f2b308fce09283b9a7fa33a0cd15f0bcd58f340f480b3f", func := "engross/engrosslaw16.RulesTable", spec := "rulesTable", inPlace := ["internal/abi.NoEscape", "internal/bytealg.MakeNoZero"], unfollowed := true, recurses := true, named := ["engross/rules.relations", "engross/rules.table", "internal/strconv.uint64pow10", "math/bits.deBruijn32tab", "math/bits.deBruijn64tab"], apart := false, laid := [("math/bits.deBruijn32tab", laid_math_bits_deBruijn32tab), ("math/bits.deBruijn64tab", laid_math_bits_deBruijn64tab), ("internal/strconv.uint64pow10", laid_internal_strconv_uint64pow10), ("engross/rules.table", laid_engross_rules_table), ("engross/rules.relations", laid_engross_rules_relations)], narrowed := true }
def RulesTableUptoSaid : Prop := rulesTableUptoRow.holds Tryd.pinned (OpenSpec.upto rulesTableSpec)

/-- 'engrosslaw16.RulesWeighs', WHERE WHAT IT READS IS OF BULK AT MOST 1048576: true; the input reads as it did. -/
def rulesWeighsUptoRow : OpenClaim := { program := "yteeemoknbnlopaadoor", sum := "4f5d76d55bf2bea976f2b308fce09283b9a7fa33a0cd15f0bcd58f340f480b3f", func := "engross/engrosslaw16.RulesWeighs", spec := "rulesWeighs", inPlace := ["internal/abi.NoEscape", "internal/bytealg.MakeNoZero"], unfollowed := true, recurses := true, named := ["engross/rules.relations", "engross/rules.table", "internal/strconv.uint64pow10", "math/bits.deBruijn32tab", "math/bits.deBruijn64tab"], apart := false, laid := [("math/bits.deBruijn32tab", laid_math_bits_deBruijn32tab), ("math/bits.deBruijn64tab", laid_math_bits_deBruijn64tab), ("internal/strconv.uint64pow10", laid_internal_strconv_uint64pow10), ("engross/rules.table", laid_engross_rules_table), ("engross/rules.relations", laid_engross_rules_relations)], narrowed := true }
def RulesWeighsUptoSaid : Prop := rulesWeighsUptoRow.holds Tryd.pinned (OpenSpec.upto rulesWeighsSpec)

/-- 'engrosslaw16.RulesOpposed', WHERE WHAT IT READS IS OF BULK AT MOST 1048576: true; the input reads as it did. -/
def rulesOpposedUptoRow : OpenClaim := { program := "yteeemoknbnlopaadoor", sum := "4f5d76d55bf2bea976f2b308fce09283b9a7fa33a0cd15f0bcd58f340f480b3f", func := "engross/engrosslaw16.RulesOpposed", spec := "rulesOpposed", inPlace := ["internal/abi.NoEscape", "internal/bytealg.MakeNoZero"], unfollowed := true, recurses := true, named := ["engross/rules.relations", "engross/rules.table", "internal/strconv.uint64pow10", "math/bits.deBruijn32tab", "math/bits.deBruijn64tab"], apart := false, laid := [("math/bits.deBruijn32tab", laid_math_bits_deBruijn32tab), ("math/bits.deBruijn64tab", laid_math_bits_deBruijn64tab), ("internal/strconv.uint64pow10", laid_internal_strconv_uint64pow10), ("engross/rules.table", laid_engross_rules_table), ("engross/rules.relations", laid_engross_rules_relations)], narrowed := true }
def RulesOpposedUptoSaid : Prop := rulesOpposedUptoRow.holds Tryd.pinned (OpenSpec.upto rulesOpposedSpec)

end Rows
end Go.Proofs.YteeemoknbnlopaaDoor
