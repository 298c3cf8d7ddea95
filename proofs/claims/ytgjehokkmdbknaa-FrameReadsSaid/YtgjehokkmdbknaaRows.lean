/-
  No cell of these rows narrows 'for every input' (looked for: loops, veiled, ifaces, maps, wideKeys, modest, calm, conditions, laid).
  DERIVED. THE GIVEN ROWS OF THIS SEAT. 7 by the template 'for every input the law returns true; each argument reads behind the call as it read before'; 0 by the template 'total and deterministic' (their statements: YtgjehokkmdbknaaTotals.lean).
  GIVEN WITH THE SEED: the statements are not yours to turn. If you find one false, say at which input.
  Laid BY PROGRAM, IN A SANDBOX (cutbox-rows.mjs): the forced cells as the released guide's own fill.sh prints them over the translation b0ad777381745705… (all of the seat's roots in one cut). By AI agents, Wed Nov 11 2026. No macro, syntax, notation, axiom, sorry.
-/
import Derived.Test.YtgjehokkmdbknaaChecked
import GoSem.Claim
import GoSem.ClaimJoined
import GoSem.ClaimMapViews
import Derived.JoinedTies
import Derived.KernelRfl
namespace Go.Proofs.Ytgjehokkmdbknaa
/- THE CELL 'sum', in the pinned program and in every row, IS THE sha256 OF THE DUMP (.gsa) THAT YtgjehokkmdbknaaProg.lean LOADS. Nothing in Lean hashes anything: it is a label: what it is worth is what the hold of that sum in a sandbox is worth. -/
noncomputable def Try.pinned : Pinned := { name := "ytgjehokkmdbknaa", sum := "b0ad7773817457058c008ab66b41561c80b4bb04ef5631e3da6a78b5d5e98707", checked := Try.checked }
namespace Rows
def none {H : Type} : Left H := { results := [], args := [] }

/-- 'engrosslaw01.NumsWrites': WHATEVER THE INPUT: true; the input reads as it did. -/
def numsWritesSpec : ChangeSpec := { name := "numsWrites", fn := fun _ => fun
  | [d1, d2, d3] => { results := [.lit (.bool true)], args := [d1, d2, d3] }
  | _ => none }
def numsWritesRow : OpenClaim := { program := "ytgjehokkmdbknaa", sum := "b0ad7773817457058c008ab66b41561c80b4bb04ef5631e3da6a78b5d5e98707", func := "engross/engrosslaw01.NumsWrites", spec := "numsWrites", unfollowed := true, recurses := true, apart := false }
def NumsWritesSaid : Prop := numsWritesRow.holds Try.pinned (OpenSpec.ofChange numsWritesSpec)

/-- ITS FALSE NEIGHBOUR: 'it returns false'. Refute it at one input. -/
def numsWritesWrong : ChangeSpec := { name := "numsWrites", fn := fun _ => fun
  | [d1, d2, d3] => { results := [.lit (.bool false)], args := [d1, d2, d3] }
  | _ => none }
def NumsWritesWrongFalsely : Prop := numsWritesRow.holds Try.pinned (OpenSpec.ofChange numsWritesWrong)

/-- 'engrosslaw01.NumsOne': WHATEVER THE INPUT: true; the input reads as it did. -/
def numsOneSpec : ChangeSpec := { name := "numsOne", fn := fun _ => fun
  | [d] => { results := [.lit (.bool true)], args := [d] }
  | _ => none }
def numsOneRow : OpenClaim := { program := "ytgjehokkmdbknaa", sum := "b0ad7773817457058c008ab66b41561c80b4bb04ef5631e3da6a78b5d5e98707", func := "engross/engrosslaw01.NumsOne", spec := "numsOne", unfollowed := true, recurses := true, apart := false }
def NumsOneSaid : Prop := numsOneRow.holds Try.pinned (OpenSpec.ofChange numsOneSpec)

/-- ITS FALSE NEIGHBOUR: 'it returns false'. Refute it at one input. -/
def numsOneWrong : ChangeSpec := { name := "numsOne", fn := fun _ => fun
  | [d] => { results := [.lit (.bool false)], args := [d] }
  | _ => none }
def NumsOneWrongFalsely : Prop := numsOneRow.holds Try.pinned (OpenSpec.ofChange numsOneWrong)

/-- 'engrosslaw01.NumsBack': WHATEVER THE INPUT: true; the input reads as it did. -/
def numsBackSpec : ChangeSpec := { name := "numsBack", fn := fun _ => fun
  | [d1, d2, d3, d4] => { results := [.lit (.bool true)], args := [d1, d2, d3, d4] }
  | _ => none }
def numsBackRow : OpenClaim := { program := "ytgjehokkmdbknaa", sum := "b0ad7773817457058c008ab66b41561c80b4bb04ef5631e3da6a78b5d5e98707", func := "engross/engrosslaw01.NumsBack", spec := "numsBack", unfollowed := true, recurses := true, apart := false }
def NumsBackSaid : Prop := numsBackRow.holds Try.pinned (OpenSpec.ofChange numsBackSpec)

/-- ITS FALSE NEIGHBOUR: 'it returns false'. Refute it at one input. -/
def numsBackWrong : ChangeSpec := { name := "numsBack", fn := fun _ => fun
  | [d1, d2, d3, d4] => { results := [.lit (.bool false)], args := [d1, d2, d3, d4] }
  | _ => none }
def NumsBackWrongFalsely : Prop := numsBackRow.holds Try.pinned (OpenSpec.ofChange numsBackWrong)

/-- 'engrosslaw01.NumsReads': WHATEVER THE INPUT: true; the input reads as it did. -/
def numsReadsSpec : ChangeSpec := { name := "numsReads", fn := fun _ => fun
  | [d1, d2] => { results := [.lit (.bool true)], args := [d1, d2] }
  | _ => none }
def numsReadsRow : OpenClaim := { program := "ytgjehokkmdbknaa", sum := "b0ad7773817457058c008ab66b41561c80b4bb04ef5631e3da6a78b5d5e98707", func := "engross/engrosslaw01.NumsReads", spec := "numsReads", unfollowed := true, recurses := true, apart := false }
def NumsReadsSaid : Prop := numsReadsRow.holds Try.pinned (OpenSpec.ofChange numsReadsSpec)

/-- ITS FALSE NEIGHBOUR: 'it returns false'. Refute it at one input. -/
def numsReadsWrong : ChangeSpec := { name := "numsReads", fn := fun _ => fun
  | [d1, d2] => { results := [.lit (.bool false)], args := [d1, d2] }
  | _ => none }
def NumsReadsWrongFalsely : Prop := numsReadsRow.holds Try.pinned (OpenSpec.ofChange numsReadsWrong)

/-- 'engrosslaw07.FrameWraps': WHATEVER THE INPUT: true; the input reads as it did. -/
def frameWrapsSpec : ChangeSpec := { name := "frameWraps", fn := fun _ => fun
  | [d1, d2] => { results := [.lit (.bool true)], args := [d1, d2] }
  | _ => none }
def frameWrapsRow : OpenClaim := { program := "ytgjehokkmdbknaa", sum := "b0ad7773817457058c008ab66b41561c80b4bb04ef5631e3da6a78b5d5e98707", func := "engross/engrosslaw07.FrameWraps", spec := "frameWraps", unfollowed := true, recurses := true, apart := false }
def FrameWrapsSaid : Prop := frameWrapsRow.holds Try.pinned (OpenSpec.ofChange frameWrapsSpec)

/-- ITS FALSE NEIGHBOUR: 'it returns false'. Refute it at one input. -/
def frameWrapsWrong : ChangeSpec := { name := "frameWraps", fn := fun _ => fun
  | [d1, d2] => { results := [.lit (.bool false)], args := [d1, d2] }
  | _ => none }
def FrameWrapsWrongFalsely : Prop := frameWrapsRow.holds Try.pinned (OpenSpec.ofChange frameWrapsWrong)

/-- 'engrosslaw07.FrameTorn': WHATEVER THE INPUT: true; the input reads as it did. -/
def frameTornSpec : ChangeSpec := { name := "frameTorn", fn := fun _ => fun
  | [d1, d2, d3] => { results := [.lit (.bool true)], args := [d1, d2, d3] }
  | _ => none }
def frameTornRow : OpenClaim := { program := "ytgjehokkmdbknaa", sum := "b0ad7773817457058c008ab66b41561c80b4bb04ef5631e3da6a78b5d5e98707", func := "engross/engrosslaw07.FrameTorn", spec := "frameTorn", unfollowed := true, recurses := true, apart := false }
def FrameTornSaid : Prop := frameTornRow.holds Try.pinned (OpenSpec.ofChange frameTornSpec)

/-- ITS FALSE NEIGHBOUR: 'it returns false'. Refute it at one input. -/
def frameTornWrong : ChangeSpec := { name := "frameTorn", fn := fun _ => fun
  | [d1, d2, d3] => { results := [.lit (.bool false)], args := [d1, d2, d3] }
  | _ => none }
def FrameTornWrongFalsely : Prop := frameTornRow.holds Try.pinned (OpenSpec.ofChange frameTornWrong)

/-- 'engrosslaw07.FrameReads': WHATEVER THE INPUT: true; the input reads as it did. -/
def frameReadsSpec : ChangeSpec := { name := "frameReads", fn := fun _ => fun
  | [d] => { results := [.lit (.bool true)], args := [d] }
  | _ => none }
def frameReadsRow : OpenClaim := { program := "ytgjehokkmdbknaa", sum := "b0ad7773817457058c008ab66b41561c80b4bb04ef5631e3da6a78b5d5e98707", func := "engross/engrosslaw07.FrameReads", spec := "frameReads", unfollowed := true, recurses := true, apart := false }
def FrameReadsSaid : Prop := frameReadsRow.holds Try.pinned (OpenSpec.ofChange frameReadsSpec)

/-- ITS FALSE NEIGHBOUR: 'it returns false'. Refute it at one input. -/
def frameReadsWrong : ChangeSpec := { name := "frameReads", fn := fun _ => fun
  | [d] => { results := [.lit (.bool false)], args := [d] }
  | _ => none }
def FrameReadsWrongFalsely : Prop := frameReadsRow.holds Try.pinned (OpenSpec.ofChange frameReadsWrong)

/- THE SECOND FORM. 'bulk': how many values and letters a reading holds, each counted each time it is reached (what is shared counts as often as it is met; a slice's spare places count too). A statement '..UptoSaid' is the law's where the arguments, and the package variables that the reading takes, are together of bulk at most 1048576: NARROWER than '..Said'. Prove '..Said' where nothing that the law and all that it calls make is longer than what came in: it says more and counts as full. Else prove '..UptoSaid'. A law counts once. -/
mutual
def uptoBulk {H : Type} : DataW H → Nat
  | .lit (.string bytes) => bytes.length + 1
  | .lit _ => 1
  | .nil => 1
  | .ptr d => uptoBulk d + 1
  | .slice elems spare => uptoBulkAll elems + uptoBulkAll spare + 1
  | .agg parts => uptoBulkAll parts + 1
  | .iface _ d => uptoBulk d + 1
  | .map entries => uptoBulkEntries entries + 1
  | .held _ => 1
def uptoBulkAll {H : Type} : List (DataW H) → Nat
  | [] => 0
  | d :: r => uptoBulk d + uptoBulkAll r
def uptoBulkEntries {H : Type} : List (Lit × DataW H) → Nat
  | [] => 0
  | x :: r => uptoBulkEntry x + uptoBulkEntries r
def uptoBulkEntry {H : Type} : Lit × DataW H → Nat
  | (.string bytes, d) => bytes.length + uptoBulk d + 1
  | (_, d) => uptoBulk d + 1
 end
def uptoSmall : (H : Type) → List (DataW H) → Bool := fun _ ds => decide (uptoBulkAll ds ≤ 1048576)
def OpenSpec.upto (s : _root_.Go.ChangeSpec) : _root_.Go.OpenSpec := { _root_.Go.OpenSpec.ofChange s with cond := some uptoSmall }

/-- 'engrosslaw01.NumsWrites', WHERE WHAT IT READS IS OF BULK AT MOST 1048576: true; the input reads as it did. -/
def numsWritesUptoRow : OpenClaim := { program := "ytgjehokkmdbknaa", sum := "b0ad7773817457058c008ab66b41561c80b4bb04ef5631e3da6a78b5d5e98707", func := "engross/engrosslaw01.NumsWrites", spec := "numsWrites", unfollowed := true, recurses := true, apart := false, narrowed := true }
def NumsWritesUptoSaid : Prop := numsWritesUptoRow.holds Try.pinned (OpenSpec.upto numsWritesSpec)

/-- 'engrosslaw01.NumsOne', WHERE WHAT IT READS IS OF BULK AT MOST 1048576: true; the input reads as it did. -/
def numsOneUptoRow : OpenClaim := { program := "ytgjehokkmdbknaa", sum := "b0ad7773817457058c008ab66b41561c80b4bb04ef5631e3da6a78b5d5e98707", func := "engross/engrosslaw01.NumsOne", spec := "numsOne", unfollowed := true, recurses := true, apart := false, narrowed := true }
def NumsOneUptoSaid : Prop := numsOneUptoRow.holds Try.pinned (OpenSpec.upto numsOneSpec)

/-- 'engrosslaw01.NumsBack', WHERE WHAT IT READS IS OF BULK AT MOST 1048576: true; the input reads as it did. -/
def numsBackUptoRow : OpenClaim := { program := "ytgjehokkmdbknaa", sum := "b0ad7773817457058c008ab66b41561c80b4bb04ef5631e3da6a78b5d5e98707", func := "engross/engrosslaw01.NumsBack", spec := "numsBack", unfollowed := true, recurses := true, apart := false, narrowed := true }
def NumsBackUptoSaid : Prop := numsBackUptoRow.holds Try.pinned (OpenSpec.upto numsBackSpec)

/-- 'engrosslaw01.NumsReads', WHERE WHAT IT READS IS OF BULK AT MOST 1048576: true; the input reads as it did. -/
def numsReadsUptoRow : OpenClaim := { program := "ytgjehokkmdbknaa", sum := "b0ad7773817457058c008ab66b41561c80b4bb04ef5631e3da6a78b5d5e98707", func := "engross/engrosslaw01.NumsReads", spec := "numsReads", unfollowed := true, recurses := true, apart := false, narrowed := true }
def NumsReadsUptoSaid : Prop := numsReadsUptoRow.holds Try.pinned (OpenSpec.upto numsReadsSpec)

/-- 'engrosslaw07.FrameWraps', WHERE WHAT IT READS IS OF BULK AT MOST 1048576: true; the input reads as it did. -/
def frameWrapsUptoRow : OpenClaim := { program := "ytgjehokkmdbknaa", sum := "b0ad7773817457058c008ab66b41561c80b4bb04ef5631e3da6a78b5d5e98707", func := "engross/engrosslaw07.FrameWraps", spec := "frameWraps", unfollowed := true, recurses := true, apart := false, narrowed := true }
def FrameWrapsUptoSaid : Prop := frameWrapsUptoRow.holds Try.pinned (OpenSpec.upto frameWrapsSpec)

/-- 'engrosslaw07.FrameTorn', WHERE WHAT IT READS IS OF BULK AT MOST 1048576: true; the input reads as it did. -/
def frameTornUptoRow : OpenClaim := { program := "ytgjehokkmdbknaa", sum := "b0ad7773817457058c008ab66b41561c80b4bb04ef5631e3da6a78b5d5e98707", func := "engross/engrosslaw07.FrameTorn", spec := "frameTorn", unfollowed := true, recurses := true, apart := false, narrowed := true }
def FrameTornUptoSaid : Prop := frameTornUptoRow.holds Try.pinned (OpenSpec.upto frameTornSpec)

/-- 'engrosslaw07.FrameReads', WHERE WHAT IT READS IS OF BULK AT MOST 1048576: true; the input reads as it did. -/
def frameReadsUptoRow : OpenClaim := { program := "ytgjehokkmdbknaa", sum := "b0ad7773817457058c008ab66b41561c80b4bb04ef5631e3da6a78b5d5e98707", func := "engross/engrosslaw07.FrameReads", spec := "frameReads", unfollowed := true, recurses := true, apart := false, narrowed := true }
def FrameReadsUptoSaid : Prop := frameReadsUptoRow.holds Try.pinned (OpenSpec.upto frameReadsSpec)

end Rows
end Go.Proofs.Ytgjehokkmdbknaa
