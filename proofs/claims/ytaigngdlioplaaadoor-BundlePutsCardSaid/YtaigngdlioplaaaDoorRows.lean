/-
  NARROWER THAN 'FOR EVERY INPUT', by the rows' own cells (each row's printed sentence says how): HeadPuts: laid · HeadGets: laid · TreeHashes: laid · TreeRoots: laid · TreeChecks: laid · TreeShows: laid · ClashFinds: laid · ClashChains: laid · ClashTrue: laid · BundlePuts: laid.
  DERIVED. THE GIVEN ROWS OF THIS SEAT. 10 by the template 'for every input the law returns true; each argument reads behind the call as it read before'; 0 by the template 'total and deterministic' (their statements: YtaigngdlioplaaaDoorTotals.lean).
  GIVEN WITH THE SEED: the statements are not yours to turn. If you find one false, say at which input.
  Laid BY PROGRAM, IN A SANDBOX (cutbox-rows.mjs): the forced cells as the released guide's own fill.sh prints them over the translation b786a4b6e5ac0446… (all of the seat's roots in one cut). By AI agents, Wed Nov 11 2026. No macro, syntax, notation, axiom, sorry.
-/
import Derived.Test.YtaigngdlioplaaaDoorChecked
import GoSem.Claim
import GoSem.ClaimJoined
import GoSem.ClaimMapViews
import Derived.JoinedTies
import Derived.KernelRfl
namespace Go.Proofs.YtaigngdlioplaaaDoor
/- THE CELL 'sum', in the pinned program and in every row, IS THE sha256 OF THE DUMP (.gsa) THAT YtaigngdlioplaaaDoorProg.lean LOADS. Nothing in Lean hashes anything: it is a label: what it is worth is what the hold of that sum in a sandbox is worth. -/
noncomputable def Tryd.pinned : Pinned := { name := "ytaigngdlioplaaadoor", sum := "b786a4b6e5ac04461661a1ecaac0b90621be0068278d049b00d79474009002f8", checked := Tryd.checked }
namespace Rows
def none {H : Type} : Left H := { results := [], args := [] }

/- WHAT THE LISTED PACKAGE-LEVEL VARIABLES READ AS WHEN THE CALL BEGINS. Each datum BY PROGRAM (the guide's laid-datum.mjs) off the statement by which the dump's own 'gosem.cut.vars' lays the variable. In a bare row this is a premise. The card (YtaigngdlioplaaaDoorCards.lean) ties it to the program's text. -/
def laid_engross_sha_constants {H : Type} : DataW H := .agg [.lit (.int .u32 1116352408), .lit (.int .u32 1899447441), .lit (.int .u32 3049323471), .lit (.int .u32 3921009573), .lit (.int .u32 961987163), .lit (.int .u32 1508970993), .lit (.int .u32 2453635748), .lit (.int .u32 2870763221), .lit (.int .u32 3624381080), .lit (.int .u32 310598401), .lit (.int .u32 607225278), .lit (.int .u32 1426881987), .lit (.int .u32 1925078388), .lit (.int .u32 2162078206), .lit (.int .u32 2614888103), .lit (.int .u32 3248222580), .lit (.int .u32 3835390401), .lit (.int .u32 4022224774), .lit (.int .u32 264347078), .lit (.int .u32 604807628), .lit (.int .u32 770255983), .lit (.int .u32 1249150122), .lit (.int .u32 1555081692), .lit (.int .u32 1996064986), .lit (.int .u32 2554220882), .lit (.int .u32 2821834349), .lit (.int .u32 2952996808), .lit (.int .u32 3210313671), .lit (.int .u32 3336571891), .lit (.int .u32 3584528711), .lit (.int .u32 113926993), .lit (.int .u32 338241895), .lit (.int .u32 666307205), .lit (.int .u32 773529912), .lit (.int .u32 1294757372), .lit (.int .u32 1396182291), .lit (.int .u32 1695183700), .lit (.int .u32 1986661051), .lit (.int .u32 2177026350), .lit (.int .u32 2456956037), .lit (.int .u32 2730485921), .lit (.int .u32 2820302411), .lit (.int .u32 3259730800), .lit (.int .u32 3345764771), .lit (.int .u32 3516065817), .lit (.int .u32 3600352804), .lit (.int .u32 4094571909), .lit (.int .u32 275423344), .lit (.int .u32 430227734), .lit (.int .u32 506948616), .lit (.int .u32 659060556), .lit (.int .u32 883997877), .lit (.int .u32 958139571), .lit (.int .u32 1322822218), .lit (.int .u32 1537002063), .lit (.int .u32 1747873779), .lit (.int .u32 1955562222), .lit (.int .u32 2024104815), .lit (.int .u32 2227730452), .lit (.int .u32 2361852424), .lit (.int .u32 2428436474), .lit (.int .u32 2756734187), .lit (.int .u32 3204031479), .lit (.int .u32 3329325298)]
def laid_engross_sha_first {H : Type} : DataW H := .agg [.lit (.int .u32 1779033703), .lit (.int .u32 3144134277), .lit (.int .u32 1013904242), .lit (.int .u32 2773480762), .lit (.int .u32 1359893119), .lit (.int .u32 2600822924), .lit (.int .u32 528734635), .lit (.int .u32 1541459225)]

/-- 'engrosslaw08.HeadPuts': WHATEVER THE INPUT: true; the input reads as it did. -/
def headPutsSpec : ChangeSpec := { name := "headPuts", fn := fun _ => fun
  | [d1, d2] => { results := [.lit (.bool true)], args := [d1, d2] }
  | _ => none }
def headPutsRow : OpenClaim := { program := "ytaigngdlioplaaadoor", sum := "b786a4b6e5ac04461661a1ecaac0b90621be0068278d049b00d79474009002f8", func := "engross/engrosslaw08.HeadPuts", spec := "headPuts", unfollowed := true, recurses := true, named := ["engross/sha.first", "engross/sha.constants"], apart := false, laid := [("engross/sha.constants", laid_engross_sha_constants), ("engross/sha.first", laid_engross_sha_first)] }
def HeadPutsSaid : Prop := headPutsRow.holds Tryd.pinned (OpenSpec.ofChange headPutsSpec)

/-- ITS FALSE NEIGHBOUR: 'it returns false'. Refute it at one input. -/
def headPutsWrong : ChangeSpec := { name := "headPuts", fn := fun _ => fun
  | [d1, d2] => { results := [.lit (.bool false)], args := [d1, d2] }
  | _ => none }
def HeadPutsWrongFalsely : Prop := headPutsRow.holds Tryd.pinned (OpenSpec.ofChange headPutsWrong)

/-- 'engrosslaw08.HeadGets': WHATEVER THE INPUT: true; the input reads as it did. -/
def headGetsSpec : ChangeSpec := { name := "headGets", fn := fun _ => fun
  | [d1, d2] => { results := [.lit (.bool true)], args := [d1, d2] }
  | _ => none }
def headGetsRow : OpenClaim := { program := "ytaigngdlioplaaadoor", sum := "b786a4b6e5ac04461661a1ecaac0b90621be0068278d049b00d79474009002f8", func := "engross/engrosslaw08.HeadGets", spec := "headGets", unfollowed := true, recurses := true, named := ["engross/sha.first", "engross/sha.constants"], apart := false, laid := [("engross/sha.constants", laid_engross_sha_constants), ("engross/sha.first", laid_engross_sha_first)] }
def HeadGetsSaid : Prop := headGetsRow.holds Tryd.pinned (OpenSpec.ofChange headGetsSpec)

/-- ITS FALSE NEIGHBOUR: 'it returns false'. Refute it at one input. -/
def headGetsWrong : ChangeSpec := { name := "headGets", fn := fun _ => fun
  | [d1, d2] => { results := [.lit (.bool false)], args := [d1, d2] }
  | _ => none }
def HeadGetsWrongFalsely : Prop := headGetsRow.holds Tryd.pinned (OpenSpec.ofChange headGetsWrong)

/-- 'engrosslaw03.TreeHashes': WHATEVER THE INPUT: true; the input reads as it did. -/
def treeHashesSpec : ChangeSpec := { name := "treeHashes", fn := fun _ => fun
  | [d1, d2, d3, d4] => { results := [.lit (.bool true)], args := [d1, d2, d3, d4] }
  | _ => none }
def treeHashesRow : OpenClaim := { program := "ytaigngdlioplaaadoor", sum := "b786a4b6e5ac04461661a1ecaac0b90621be0068278d049b00d79474009002f8", func := "engross/engrosslaw03.TreeHashes", spec := "treeHashes", recurses := true, named := ["engross/sha.first", "engross/sha.constants"], apart := false, laid := [("engross/sha.constants", laid_engross_sha_constants), ("engross/sha.first", laid_engross_sha_first)] }
def TreeHashesSaid : Prop := treeHashesRow.holds Tryd.pinned (OpenSpec.ofChange treeHashesSpec)

/-- ITS FALSE NEIGHBOUR: 'it returns false'. Refute it at one input. -/
def treeHashesWrong : ChangeSpec := { name := "treeHashes", fn := fun _ => fun
  | [d1, d2, d3, d4] => { results := [.lit (.bool false)], args := [d1, d2, d3, d4] }
  | _ => none }
def TreeHashesWrongFalsely : Prop := treeHashesRow.holds Tryd.pinned (OpenSpec.ofChange treeHashesWrong)

/-- 'engrosslaw03.TreeRoots': WHATEVER THE INPUT: true; the input reads as it did. -/
def treeRootsSpec : ChangeSpec := { name := "treeRoots", fn := fun _ => fun
  | [d1, d2, d3] => { results := [.lit (.bool true)], args := [d1, d2, d3] }
  | _ => none }
def treeRootsRow : OpenClaim := { program := "ytaigngdlioplaaadoor", sum := "b786a4b6e5ac04461661a1ecaac0b90621be0068278d049b00d79474009002f8", func := "engross/engrosslaw03.TreeRoots", spec := "treeRoots", recurses := true, named := ["engross/sha.first", "engross/sha.constants"], apart := false, laid := [("engross/sha.constants", laid_engross_sha_constants), ("engross/sha.first", laid_engross_sha_first)] }
def TreeRootsSaid : Prop := treeRootsRow.holds Tryd.pinned (OpenSpec.ofChange treeRootsSpec)

/-- ITS FALSE NEIGHBOUR: 'it returns false'. Refute it at one input. -/
def treeRootsWrong : ChangeSpec := { name := "treeRoots", fn := fun _ => fun
  | [d1, d2, d3] => { results := [.lit (.bool false)], args := [d1, d2, d3] }
  | _ => none }
def TreeRootsWrongFalsely : Prop := treeRootsRow.holds Tryd.pinned (OpenSpec.ofChange treeRootsWrong)

/-- 'engrosslaw03.TreeChecks': WHATEVER THE INPUT: true; the input reads as it did. -/
def treeChecksSpec : ChangeSpec := { name := "treeChecks", fn := fun _ => fun
  | [d1, d2, d3, d4, d5, d6] => { results := [.lit (.bool true)], args := [d1, d2, d3, d4, d5, d6] }
  | _ => none }
def treeChecksRow : OpenClaim := { program := "ytaigngdlioplaaadoor", sum := "b786a4b6e5ac04461661a1ecaac0b90621be0068278d049b00d79474009002f8", func := "engross/engrosslaw03.TreeChecks", spec := "treeChecks", unfollowed := true, recurses := true, named := ["engross/sha.first", "engross/sha.constants"], apart := false, laid := [("engross/sha.constants", laid_engross_sha_constants), ("engross/sha.first", laid_engross_sha_first)] }
def TreeChecksSaid : Prop := treeChecksRow.holds Tryd.pinned (OpenSpec.ofChange treeChecksSpec)

/-- ITS FALSE NEIGHBOUR: 'it returns false'. Refute it at one input. -/
def treeChecksWrong : ChangeSpec := { name := "treeChecks", fn := fun _ => fun
  | [d1, d2, d3, d4, d5, d6] => { results := [.lit (.bool false)], args := [d1, d2, d3, d4, d5, d6] }
  | _ => none }
def TreeChecksWrongFalsely : Prop := treeChecksRow.holds Tryd.pinned (OpenSpec.ofChange treeChecksWrong)

/-- 'engrosslaw03.TreeShows': WHATEVER THE INPUT: true; the input reads as it did. -/
def treeShowsSpec : ChangeSpec := { name := "treeShows", fn := fun _ => fun
  | [d1, d2, d3] => { results := [.lit (.bool true)], args := [d1, d2, d3] }
  | _ => none }
def treeShowsRow : OpenClaim := { program := "ytaigngdlioplaaadoor", sum := "b786a4b6e5ac04461661a1ecaac0b90621be0068278d049b00d79474009002f8", func := "engross/engrosslaw03.TreeShows", spec := "treeShows", unfollowed := true, recurses := true, named := ["engross/sha.first", "engross/sha.constants"], apart := false, laid := [("engross/sha.constants", laid_engross_sha_constants), ("engross/sha.first", laid_engross_sha_first)] }
def TreeShowsSaid : Prop := treeShowsRow.holds Tryd.pinned (OpenSpec.ofChange treeShowsSpec)

/-- ITS FALSE NEIGHBOUR: 'it returns false'. Refute it at one input. -/
def treeShowsWrong : ChangeSpec := { name := "treeShows", fn := fun _ => fun
  | [d1, d2, d3] => { results := [.lit (.bool false)], args := [d1, d2, d3] }
  | _ => none }
def TreeShowsWrongFalsely : Prop := treeShowsRow.holds Tryd.pinned (OpenSpec.ofChange treeShowsWrong)

/-- 'engrosslaw04.ClashFinds': WHATEVER THE INPUT: true; the input reads as it did. -/
def clashFindsSpec : ChangeSpec := { name := "clashFinds", fn := fun _ => fun
  | [d1, d2, d3] => { results := [.lit (.bool true)], args := [d1, d2, d3] }
  | _ => none }
def clashFindsRow : OpenClaim := { program := "ytaigngdlioplaaadoor", sum := "b786a4b6e5ac04461661a1ecaac0b90621be0068278d049b00d79474009002f8", func := "engross/engrosslaw04.ClashFinds", spec := "clashFinds", unfollowed := true, recurses := true, named := ["engross/sha.first", "engross/sha.constants"], apart := false, laid := [("engross/sha.constants", laid_engross_sha_constants), ("engross/sha.first", laid_engross_sha_first)] }
def ClashFindsSaid : Prop := clashFindsRow.holds Tryd.pinned (OpenSpec.ofChange clashFindsSpec)

/-- ITS FALSE NEIGHBOUR: 'it returns false'. Refute it at one input. -/
def clashFindsWrong : ChangeSpec := { name := "clashFinds", fn := fun _ => fun
  | [d1, d2, d3] => { results := [.lit (.bool false)], args := [d1, d2, d3] }
  | _ => none }
def ClashFindsWrongFalsely : Prop := clashFindsRow.holds Tryd.pinned (OpenSpec.ofChange clashFindsWrong)

/-- 'engrosslaw04.ClashChains': WHATEVER THE INPUT: true; the input reads as it did. -/
def clashChainsSpec : ChangeSpec := { name := "clashChains", fn := fun _ => fun
  | [d1, d2, d3] => { results := [.lit (.bool true)], args := [d1, d2, d3] }
  | _ => none }
def clashChainsRow : OpenClaim := { program := "ytaigngdlioplaaadoor", sum := "b786a4b6e5ac04461661a1ecaac0b90621be0068278d049b00d79474009002f8", func := "engross/engrosslaw04.ClashChains", spec := "clashChains", unfollowed := true, recurses := true, named := ["engross/sha.first", "engross/sha.constants"], apart := false, laid := [("engross/sha.constants", laid_engross_sha_constants), ("engross/sha.first", laid_engross_sha_first)] }
def ClashChainsSaid : Prop := clashChainsRow.holds Tryd.pinned (OpenSpec.ofChange clashChainsSpec)

/-- ITS FALSE NEIGHBOUR: 'it returns false'. Refute it at one input. -/
def clashChainsWrong : ChangeSpec := { name := "clashChains", fn := fun _ => fun
  | [d1, d2, d3] => { results := [.lit (.bool false)], args := [d1, d2, d3] }
  | _ => none }
def ClashChainsWrongFalsely : Prop := clashChainsRow.holds Tryd.pinned (OpenSpec.ofChange clashChainsWrong)

/-- 'engrosslaw04.ClashTrue': WHATEVER THE INPUT: true; the input reads as it did. -/
def clashTrueSpec : ChangeSpec := { name := "clashTrue", fn := fun _ => fun
  | [d1, d2, d3, d4] => { results := [.lit (.bool true)], args := [d1, d2, d3, d4] }
  | _ => none }
def clashTrueRow : OpenClaim := { program := "ytaigngdlioplaaadoor", sum := "b786a4b6e5ac04461661a1ecaac0b90621be0068278d049b00d79474009002f8", func := "engross/engrosslaw04.ClashTrue", spec := "clashTrue", unfollowed := true, recurses := true, named := ["engross/sha.first", "engross/sha.constants"], apart := false, laid := [("engross/sha.constants", laid_engross_sha_constants), ("engross/sha.first", laid_engross_sha_first)] }
def ClashTrueSaid : Prop := clashTrueRow.holds Tryd.pinned (OpenSpec.ofChange clashTrueSpec)

/-- ITS FALSE NEIGHBOUR: 'it returns false'. Refute it at one input. -/
def clashTrueWrong : ChangeSpec := { name := "clashTrue", fn := fun _ => fun
  | [d1, d2, d3, d4] => { results := [.lit (.bool false)], args := [d1, d2, d3, d4] }
  | _ => none }
def ClashTrueWrongFalsely : Prop := clashTrueRow.holds Tryd.pinned (OpenSpec.ofChange clashTrueWrong)

/-- 'engrosslaw29.BundlePuts': WHATEVER THE INPUT: true; the input reads as it did. -/
def bundlePutsSpec : ChangeSpec := { name := "bundlePuts", fn := fun _ => fun
  | [d1, d2, d3] => { results := [.lit (.bool true)], args := [d1, d2, d3] }
  | _ => none }
def bundlePutsRow : OpenClaim := { program := "ytaigngdlioplaaadoor", sum := "b786a4b6e5ac04461661a1ecaac0b90621be0068278d049b00d79474009002f8", func := "engross/engrosslaw29.BundlePuts", spec := "bundlePuts", unfollowed := true, recurses := true, named := ["engross/sha.first", "engross/sha.constants"], apart := false, laid := [("engross/sha.constants", laid_engross_sha_constants), ("engross/sha.first", laid_engross_sha_first)] }
def BundlePutsSaid : Prop := bundlePutsRow.holds Tryd.pinned (OpenSpec.ofChange bundlePutsSpec)

/-- ITS FALSE NEIGHBOUR: 'it returns false'. Refute it at one input. -/
def bundlePutsWrong : ChangeSpec := { name := "bundlePuts", fn := fun _ => fun
  | [d1, d2, d3] => { results := [.lit (.bool false)], args := [d1, d2, d3] }
  | _ => none }
def BundlePutsWrongFalsely : Prop := bundlePutsRow.holds Tryd.pinned (OpenSpec.ofChange bundlePutsWrong)

/- THE SECOND FORM. 'bulk': how many values and letters a reading holds, each counted each time it is reached (what is shared counts as often as it is met; a slice's spare places count too). A statement '..UptoSaid' is the law's where the arguments, and the package variables that the reading takes, are together of bulk at most 1048576: NARROWER than '..Said'. Prove '..Said' where nothing that the law and all that it calls make is longer than what came in: it says more and counts as full. Else prove '..UptoSaid'. A law counts once. -/
mutual
def uptoBulk {H : Type} : DataW H → Nat
  | .lit (.string bytes) => bytes.length + 1
  | .lit _ => 1
  | .nil => 1
  | .ptr d => uptoBulk d + 1
  | .slice elems spare => uptoBulkAll elems + uptoBulkAll spare + 1
  | .agg parts => uptoBulkAll parts + 1
  | .iface _ d => uptoBulk d + 1
  | .map entries => uptoBulkEntries entries + 1
  | .held _ => 1
def uptoBulkAll {H : Type} : List (DataW H) → Nat
  | [] => 0
  | d :: r => uptoBulk d + uptoBulkAll r
def uptoBulkEntries {H : Type} : List (Lit × DataW H) → Nat
  | [] => 0
  | x :: r => uptoBulkEntry x + uptoBulkEntries r
def uptoBulkEntry {H : Type} : Lit × DataW H → Nat
  | (.string bytes, d) => bytes.length + uptoBulk d + 1
  | (_, d) => uptoBulk d + 1
 end
def uptoSmall : (H : Type) → List (DataW H) → Bool := fun _ ds => decide (uptoBulkAll ds ≤ 1048576)
def OpenSpec.upto (s : _root_.Go.ChangeSpec) : _root_.Go.OpenSpec := { _root_.Go.OpenSpec.ofChange s with cond := some uptoSmall }

/-- 'engrosslaw08.HeadPuts', WHERE WHAT IT READS IS OF BULK AT MOST 1048576: true; the input reads as it did. -/
def headPutsUptoRow : OpenClaim := { program := "ytaigngdlioplaaadoor", sum := "b786a4b6e5ac04461661a1ecaac0b90621be0068278d049b00d79474009002f8", func := "engross/engrosslaw08.HeadPuts", spec := "headPuts", unfollowed := true, recurses := true, named := ["engross/sha.first", "engross/sha.constants"], apart := false, laid := [("engross/sha.constants", laid_engross_sha_constants), ("engross/sha.first", laid_engross_sha_first)], narrowed := true }
def HeadPutsUptoSaid : Prop := headPutsUptoRow.holds Tryd.pinned (OpenSpec.upto headPutsSpec)

/-- 'engrosslaw08.HeadGets', WHERE WHAT IT READS IS OF BULK AT MOST 1048576: true; the input reads as it did. -/
def headGetsUptoRow : OpenClaim := { program := "ytaigngdlioplaaadoor", sum := "b786a4b6e5ac04461661a1ecaac0b90621be0068278d049b00d79474009002f8", func := "engross/engrosslaw08.HeadGets", spec := "headGets", unfollowed := true, recurses := true, named := ["engross/sha.first", "engross/sha.constants"], apart := false, laid := [("engross/sha.constants", laid_engross_sha_constants), ("engross/sha.first", laid_engross_sha_first)], narrowed := true }
def HeadGetsUptoSaid : Prop := headGetsUptoRow.holds Tryd.pinned (OpenSpec.upto headGetsSpec)

/-- 'engrosslaw03.TreeHashes', WHERE WHAT IT READS IS OF BULK AT MOST 1048576: true; the input reads as it did. -/
def treeHashesUptoRow : OpenClaim := { program := "ytaigngdlioplaaadoor", sum := "b786a4b6e5ac04461661a1ecaac0b90621be0068278d049b00d79474009002f8", func := "engross/engrosslaw03.TreeHashes", spec := "treeHashes", recurses := true, named := ["engross/sha.first", "engross/sha.constants"], apart := false, laid := [("engross/sha.constants", laid_engross_sha_constants), ("engross/sha.first", laid_engross_sha_first)], narrowed := true }
def TreeHashesUptoSaid : Prop := treeHashesUptoRow.holds Tryd.pinned (OpenSpec.upto treeHashesSpec)

/-- 'engrosslaw03.TreeRoots', WHERE WHAT IT READS IS OF BULK AT MOST 1048576: true; the input reads as it did. -/
def treeRootsUptoRow : OpenClaim := { program := "ytaigngdlioplaaadoor", sum := "b786a4b6e5ac04461661a1ecaac0b90621be0068278d049b00d79474009002f8", func := "engross/engrosslaw03.TreeRoots", spec := "treeRoots", recurses := true, named := ["engross/sha.first", "engross/sha.constants"], apart := false, laid := [("engross/sha.constants", laid_engross_sha_constants), ("engross/sha.first", laid_engross_sha_first)], narrowed := true }
def TreeRootsUptoSaid : Prop := treeRootsUptoRow.holds Tryd.pinned (OpenSpec.upto treeRootsSpec)

/-- 'engrosslaw03.TreeChecks', WHERE WHAT IT READS IS OF BULK AT MOST 1048576: true; the input reads as it did. -/
def treeChecksUptoRow : OpenClaim := { program := "ytaigngdlioplaaadoor", sum := "b786a4b6e5ac04461661a1ecaac0b90621be0068278d049b00d79474009002f8", func := "engross/engrosslaw03.TreeChecks", spec := "treeChecks", unfollowed := true, recurses := true, named := ["engross/sha.first", "engross/sha.constants"], apart := false, laid := [("engross/sha.constants", laid_engross_sha_constants), ("engross/sha.first", laid_engross_sha_first)], narrowed := true }
def TreeChecksUptoSaid : Prop := treeChecksUptoRow.holds Tryd.pinned (OpenSpec.upto treeChecksSpec)

/-- 'engrosslaw03.TreeShows', WHERE WHAT IT READS IS OF BULK AT MOST 1048576: true; the input reads as it did. -/
def treeShowsUptoRow : OpenClaim := { program := "ytaigngdlioplaaadoor", sum := "b786a4b6e5ac04461661a1ecaac0b90621be0068278d049b00d79474009002f8", func := "engross/engrosslaw03.TreeShows", spec := "treeShows", unfollowed := true, recurses := true, named := ["engross/sha.first", "engross/sha.constants"], apart := false, laid := [("engross/sha.constants", laid_engross_sha_constants), ("engross/sha.first", laid_engross_sha_first)], narrowed := true }
def TreeShowsUptoSaid : Prop := treeShowsUptoRow.holds Tryd.pinned (OpenSpec.upto treeShowsSpec)

/-- 'engrosslaw04.ClashFinds', WHERE WHAT IT READS IS OF BULK AT MOST 1048576: true; the input reads as it did. -/
def clashFindsUptoRow : OpenClaim := { program := "ytaigngdlioplaaadoor", sum := "b786a4b6e5ac04461661a1ecaac0b90621be0068278d049b00d79474009002f8", func := "engross/engrosslaw04.ClashFinds", spec := "clashFinds", unfollowed := true, recurses := true, named := ["engross/sha.first", "engross/sha.constants"], apart := false, laid := [("engross/sha.constants", laid_engross_sha_constants), ("engross/sha.first", laid_engross_sha_first)], narrowed := true }
def ClashFindsUptoSaid : Prop := clashFindsUptoRow.holds Tryd.pinned (OpenSpec.upto clashFindsSpec)

/-- 'engrosslaw04.ClashChains', WHERE WHAT IT READS IS OF BULK AT MOST 1048576: true; the input reads as it did. -/
def clashChainsUptoRow : OpenClaim := { program := "ytaigngdlioplaaadoor", sum := "b786a4b6e5ac04461661a1ecaac0b90621be0068278d049b00d79474009002f8", func := "engross/engrosslaw04.ClashChains", spec := "clashChains", unfollowed := true, recurses := true, named := ["engross/sha.first", "engross/sha.constants"], apart := false, laid := [("engross/sha.constants", laid_engross_sha_constants), ("engross/sha.first", laid_engross_sha_first)], narrowed := true }
def ClashChainsUptoSaid : Prop := clashChainsUptoRow.holds Tryd.pinned (OpenSpec.upto clashChainsSpec)

/-- 'engrosslaw04.ClashTrue', WHERE WHAT IT READS IS OF BULK AT MOST 1048576: true; the input reads as it did. -/
def clashTrueUptoRow : OpenClaim := { program := "ytaigngdlioplaaadoor", sum := "b786a4b6e5ac04461661a1ecaac0b90621be0068278d049b00d79474009002f8", func := "engross/engrosslaw04.ClashTrue", spec := "clashTrue", unfollowed := true, recurses := true, named := ["engross/sha.first", "engross/sha.constants"], apart := false, laid := [("engross/sha.constants", laid_engross_sha_constants), ("engross/sha.first", laid_engross_sha_first)], narrowed := true }
def ClashTrueUptoSaid : Prop := clashTrueUptoRow.holds Tryd.pinned (OpenSpec.upto clashTrueSpec)

/-- 'engrosslaw29.BundlePuts', WHERE WHAT IT READS IS OF BULK AT MOST 1048576: true; the input reads as it did. -/
def bundlePutsUptoRow : OpenClaim := { program := "ytaigngdlioplaaadoor", sum := "b786a4b6e5ac04461661a1ecaac0b90621be0068278d049b00d79474009002f8", func := "engross/engrosslaw29.BundlePuts", spec := "bundlePuts", unfollowed := true, recurses := true, named := ["engross/sha.first", "engross/sha.constants"], apart := false, laid := [("engross/sha.constants", laid_engross_sha_constants), ("engross/sha.first", laid_engross_sha_first)], narrowed := true }
def BundlePutsUptoSaid : Prop := bundlePutsUptoRow.holds Tryd.pinned (OpenSpec.upto bundlePutsSpec)

end Rows
end Go.Proofs.YtaigngdlioplaaaDoor
