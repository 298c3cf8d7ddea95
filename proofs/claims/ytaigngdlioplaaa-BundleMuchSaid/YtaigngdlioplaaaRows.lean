/-
  No cell of these rows narrows 'for every input' (looked for: loops, veiled, ifaces, maps, wideKeys, modest, calm, conditions, laid).
  DERIVED. THE GIVEN ROWS OF THIS SEAT. 2 by the template 'for every input the law returns true; each argument reads behind the call as it read before'; 0 by the template 'total and deterministic' (their statements: YtaigngdlioplaaaTotals.lean).
  GIVEN WITH THE SEED: the statements are not yours to turn. If you find one false, say at which input.
  Laid BY PROGRAM, IN A SANDBOX (cutbox-rows.mjs): the forced cells as the released guide's own fill.sh prints them over the translation 0e948d0da7571d73… (all of the seat's roots in one cut). By AI agents, Wed Nov 11 2026. No macro, syntax, notation, axiom, sorry.
-/
import Derived.Test.YtaigngdlioplaaaChecked
import GoSem.Claim
import GoSem.ClaimJoined
import GoSem.ClaimMapViews
import Derived.JoinedTies
import Derived.KernelRfl
namespace Go.Proofs.Ytaigngdlioplaaa
/- THE CELL 'sum', in the pinned program and in every row, IS THE sha256 OF THE DUMP (.gsa) THAT YtaigngdlioplaaaProg.lean LOADS. Nothing in Lean hashes anything: it is a label: what it is worth is what the hold of that sum in a sandbox is worth. -/
noncomputable def Try.pinned : Pinned := { name := "ytaigngdlioplaaa", sum := "0e948d0da7571d731414d45435fbb1422a49d5833c215d4d5d48e61354b3b7ad", checked := Try.checked }
namespace Rows
def none {H : Type} : Left H := { results := [], args := [] }

/-- 'engrosslaw29.BundleGets': WHATEVER THE INPUT: true; the input reads as it did. -/
def bundleGetsSpec : ChangeSpec := { name := "bundleGets", fn := fun _ => fun
  | [d] => { results := [.lit (.bool true)], args := [d] }
  | _ => none }
def bundleGetsRow : OpenClaim := { program := "ytaigngdlioplaaa", sum := "0e948d0da7571d731414d45435fbb1422a49d5833c215d4d5d48e61354b3b7ad", func := "engross/engrosslaw29.BundleGets", spec := "bundleGets", unfollowed := true, recurses := true, apart := false }
def BundleGetsSaid : Prop := bundleGetsRow.holds Try.pinned (OpenSpec.ofChange bundleGetsSpec)

/-- ITS FALSE NEIGHBOUR: 'it returns false'. Refute it at one input. -/
def bundleGetsWrong : ChangeSpec := { name := "bundleGets", fn := fun _ => fun
  | [d] => { results := [.lit (.bool false)], args := [d] }
  | _ => none }
def BundleGetsWrongFalsely : Prop := bundleGetsRow.holds Try.pinned (OpenSpec.ofChange bundleGetsWrong)

/-- 'engrosslaw29.BundleMuch': WHATEVER THE INPUT: true; the input reads as it did. -/
def bundleMuchSpec : ChangeSpec := { name := "bundleMuch", fn := fun _ => fun
  | [d] => { results := [.lit (.bool true)], args := [d] }
  | _ => none }
def bundleMuchRow : OpenClaim := { program := "ytaigngdlioplaaa", sum := "0e948d0da7571d731414d45435fbb1422a49d5833c215d4d5d48e61354b3b7ad", func := "engross/engrosslaw29.BundleMuch", spec := "bundleMuch", unfollowed := true, recurses := true, apart := false }
def BundleMuchSaid : Prop := bundleMuchRow.holds Try.pinned (OpenSpec.ofChange bundleMuchSpec)

/-- ITS FALSE NEIGHBOUR: 'it returns false'. Refute it at one input. -/
def bundleMuchWrong : ChangeSpec := { name := "bundleMuch", fn := fun _ => fun
  | [d] => { results := [.lit (.bool false)], args := [d] }
  | _ => none }
def BundleMuchWrongFalsely : Prop := bundleMuchRow.holds Try.pinned (OpenSpec.ofChange bundleMuchWrong)

/- THE SECOND FORM. 'bulk': how many values and letters a reading holds, each counted each time it is reached (what is shared counts as often as it is met; a slice's spare places count too). A statement '..UptoSaid' is the law's where the arguments, and the package variables that the reading takes, are together of bulk at most 1048576: NARROWER than '..Said'. Prove '..Said' where nothing that the law and all that it calls make is longer than what came in: it says more and counts as full. Else prove '..UptoSaid'. A law counts once. -/
mutual
def uptoBulk {H : Type} : DataW H → Nat
  | .lit (.string bytes) => bytes.length + 1
  | .lit _ => 1
  | .nil => 1
  | .ptr d => uptoBulk d + 1
  | .slice elems spare => uptoBulkAll elems + uptoBulkAll spare + 1
  | .agg parts => uptoBulkAll parts + 1
  | .iface _ d => uptoBulk d + 1
  | .map entries => uptoBulkEntries entries + 1
  | .held _ => 1
def uptoBulkAll {H : Type} : List (DataW H) → Nat
  | [] => 0
  | d :: r => uptoBulk d + uptoBulkAll r
def uptoBulkEntries {H : Type} : List (Lit × DataW H) → Nat
  | [] => 0
  | x :: r => uptoBulkEntry x + uptoBulkEntries r
def uptoBulkEntry {H : Type} : Lit × DataW H → Nat
  | (.string bytes, d) => bytes.length + uptoBulk d + 1
  | (_, d) => uptoBulk d + 1
 end
def uptoSmall : (H : Type) → List (DataW H) → Bool := fun _ ds => decide (uptoBulkAll ds ≤ 1048576)
def OpenSpec.upto (s : _root_.Go.ChangeSpec) : _root_.Go.OpenSpec := { _root_.Go.OpenSpec.ofChange s with cond := some uptoSmall }

/-- 'engrosslaw29.BundleGets', WHERE WHAT IT READS IS OF BULK AT MOST 1048576: true; the input reads as it did. -/
def bundleGetsUptoRow : OpenClaim := { program := "ytaigngdlioplaaa", sum := "0e948d0da7571d731414d45435fbb1422a49d5833c215d4d5d48e61354b3b7ad", func := "engross/engrosslaw29.BundleGets", spec := "bundleGets", unfollowed := true, recurses := true, apart := false, narrowed := true }
def BundleGetsUptoSaid : Prop := bundleGetsUptoRow.holds Try.pinned (OpenSpec.upto bundleGetsSpec)

/-- 'engrosslaw29.BundleMuch', WHERE WHAT IT READS IS OF BULK AT MOST 1048576: true; the input reads as it did. -/
def bundleMuchUptoRow : OpenClaim := { program := "ytaigngdlioplaaa", sum := "0e948d0da7571d731414d45435fbb1422a49d5833c215d4d5d48e61354b3b7ad", func := "engross/engrosslaw29.BundleMuch", spec := "bundleMuch", unfollowed := true, recurses := true, apart := false, narrowed := true }
def BundleMuchUptoSaid : Prop := bundleMuchUptoRow.holds Try.pinned (OpenSpec.upto bundleMuchSpec)

end Rows
end Go.Proofs.Ytaigngdlioplaaa
