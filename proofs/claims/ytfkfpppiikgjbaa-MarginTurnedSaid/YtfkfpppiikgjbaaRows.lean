/-
  No cell of these rows narrows 'for every input' (looked for: loops, veiled, ifaces, maps, wideKeys, modest, calm, conditions, laid).
  DERIVED. THE GIVEN ROWS OF THIS SEAT. 7 by the template 'for every input the law returns true; each argument reads behind the call as it read before'; 0 by the template 'total and deterministic' (their statements: YtfkfpppiikgjbaaTotals.lean).
  GIVEN WITH THE SEED: the statements are not yours to turn. If you find one false, say at which input.
  Laid BY PROGRAM, IN A SANDBOX (cutbox-rows.mjs): the forced cells as the released guide's own fill.sh prints them over the translation 49d9b672acd91230… (all of the seat's roots in one cut). By AI agents, Wed Nov 11 2026. No macro, syntax, notation, axiom, sorry.
-/
import Derived.Test.YtfkfpppiikgjbaaChecked
import GoSem.Claim
import GoSem.ClaimJoined
import GoSem.ClaimMapViews
import Derived.JoinedTies
import Derived.KernelRfl
namespace Go.Proofs.Ytfkfpppiikgjbaa
/- THE CELL 'sum', in the pinned program and in every row, IS THE sha256 OF THE DUMP (.gsa) THAT YtfkfpppiikgjbaaProg.lean LOADS. Nothing in Lean hashes anything: it is a label: what it is worth is what the hold of that sum in a sandbox is worth. -/
noncomputable def Try.pinned : Pinned := { name := "ytfkfpppiikgjbaa", sum := "49d9b672acd91230d3b71719139c865f200b57486192783b890f65825a0fbaa5", checked := Try.checked }
namespace Rows
def none {H : Type} : Left H := { results := [], args := [] }

/-- 'engrosslaw07.FrameTorn': WHATEVER THE INPUT: true; the input reads as it did. -/
def frameTornSpec : ChangeSpec := { name := "frameTorn", fn := fun _ => fun
  | [d1, d2, d3] => { results := [.lit (.bool true)], args := [d1, d2, d3] }
  | _ => none }
def frameTornRow : OpenClaim := { program := "ytfkfpppiikgjbaa", sum := "49d9b672acd91230d3b71719139c865f200b57486192783b890f65825a0fbaa5", func := "engross/engrosslaw07.FrameTorn", spec := "frameTorn", unfollowed := true, recurses := true, apart := false }
def FrameTornSaid : Prop := frameTornRow.holds Try.pinned (OpenSpec.ofChange frameTornSpec)

/-- ITS FALSE NEIGHBOUR: 'it returns false'. Refute it at one input. -/
def frameTornWrong : ChangeSpec := { name := "frameTorn", fn := fun _ => fun
  | [d1, d2, d3] => { results := [.lit (.bool false)], args := [d1, d2, d3] }
  | _ => none }
def FrameTornWrongFalsely : Prop := frameTornRow.holds Try.pinned (OpenSpec.ofChange frameTornWrong)

/-- 'engrosslaw12.BookSets': WHATEVER THE INPUT: true; the input reads as it did. -/
def bookSetsSpec : ChangeSpec := { name := "bookSets", fn := fun _ => fun
  | [d1, d2, d3, d4, d5] => { results := [.lit (.bool true)], args := [d1, d2, d3, d4, d5] }
  | _ => none }
def bookSetsRow : OpenClaim := { program := "ytfkfpppiikgjbaa", sum := "49d9b672acd91230d3b71719139c865f200b57486192783b890f65825a0fbaa5", func := "engross/engrosslaw12.BookSets", spec := "bookSets", inPlace := ["slices.overlaps[engross/api.Holder]", "slices.overlaps[engross/api.Stake]", "slices.overlaps[engross/api.Open]", "slices.overlaps[engross/api.Rate]"], unfollowed := true, recurses := true, apart := false }
def BookSetsSaid : Prop := bookSetsRow.holds Try.pinned (OpenSpec.ofChange bookSetsSpec)

/-- ITS FALSE NEIGHBOUR: 'it returns false'. Refute it at one input. -/
def bookSetsWrong : ChangeSpec := { name := "bookSets", fn := fun _ => fun
  | [d1, d2, d3, d4, d5] => { results := [.lit (.bool false)], args := [d1, d2, d3, d4, d5] }
  | _ => none }
def BookSetsWrongFalsely : Prop := bookSetsRow.holds Try.pinned (OpenSpec.ofChange bookSetsWrong)

/-- 'engrosslaw12.BookMay': WHATEVER THE INPUT: true; the input reads as it did. -/
def bookMaySpec : ChangeSpec := { name := "bookMay", fn := fun _ => fun
  | [d1, d2] => { results := [.lit (.bool true)], args := [d1, d2] }
  | _ => none }
def bookMayRow : OpenClaim := { program := "ytfkfpppiikgjbaa", sum := "49d9b672acd91230d3b71719139c865f200b57486192783b890f65825a0fbaa5", func := "engross/engrosslaw12.BookMay", spec := "bookMay", inPlace := ["slices.overlaps[engross/api.Holder]", "slices.overlaps[engross/api.Stake]"], unfollowed := true, recurses := true, apart := false }
def BookMaySaid : Prop := bookMayRow.holds Try.pinned (OpenSpec.ofChange bookMaySpec)

/-- ITS FALSE NEIGHBOUR: 'it returns false'. Refute it at one input. -/
def bookMayWrong : ChangeSpec := { name := "bookMay", fn := fun _ => fun
  | [d1, d2] => { results := [.lit (.bool false)], args := [d1, d2] }
  | _ => none }
def BookMayWrongFalsely : Prop := bookMayRow.holds Try.pinned (OpenSpec.ofChange bookMayWrong)

/-- 'engrosslaw15.MarginNeeds': WHATEVER THE INPUT: true; the input reads as it did. -/
def marginNeedsSpec : ChangeSpec := { name := "marginNeeds", fn := fun _ => fun
  | [d1, d2, d3, d4, d5] => { results := [.lit (.bool true)], args := [d1, d2, d3, d4, d5] }
  | _ => none }
def marginNeedsRow : OpenClaim := { program := "ytfkfpppiikgjbaa", sum := "49d9b672acd91230d3b71719139c865f200b57486192783b890f65825a0fbaa5", func := "engross/engrosslaw15.MarginNeeds", spec := "marginNeeds", inPlace := ["math/bits.Add64"], unfollowed := true, recurses := true, named := ["math/bits.divideError", "math/bits.overflowError"], apart := false }
def MarginNeedsSaid : Prop := marginNeedsRow.holds Try.pinned (OpenSpec.ofChange marginNeedsSpec)

/-- ITS FALSE NEIGHBOUR: 'it returns false'. Refute it at one input. -/
def marginNeedsWrong : ChangeSpec := { name := "marginNeeds", fn := fun _ => fun
  | [d1, d2, d3, d4, d5] => { results := [.lit (.bool false)], args := [d1, d2, d3, d4, d5] }
  | _ => none }
def MarginNeedsWrongFalsely : Prop := marginNeedsRow.holds Try.pinned (OpenSpec.ofChange marginNeedsWrong)

/-- 'engrosslaw15.MarginTurned': WHATEVER THE INPUT: true; the input reads as it did. -/
def marginTurnedSpec : ChangeSpec := { name := "marginTurned", fn := fun _ => fun
  | [d1, d2, d3] => { results := [.lit (.bool true)], args := [d1, d2, d3] }
  | _ => none }
def marginTurnedRow : OpenClaim := { program := "ytfkfpppiikgjbaa", sum := "49d9b672acd91230d3b71719139c865f200b57486192783b890f65825a0fbaa5", func := "engross/engrosslaw15.MarginTurned", spec := "marginTurned", inPlace := ["math/bits.Add64"], unfollowed := true, recurses := true, named := ["math/bits.divideError", "math/bits.overflowError"], apart := false }
def MarginTurnedSaid : Prop := marginTurnedRow.holds Try.pinned (OpenSpec.ofChange marginTurnedSpec)

/-- ITS FALSE NEIGHBOUR: 'it returns false'. Refute it at one input. -/
def marginTurnedWrong : ChangeSpec := { name := "marginTurned", fn := fun _ => fun
  | [d1, d2, d3] => { results := [.lit (.bool false)], args := [d1, d2, d3] }
  | _ => none }
def MarginTurnedWrongFalsely : Prop := marginTurnedRow.holds Try.pinned (OpenSpec.ofChange marginTurnedWrong)

/-- 'engrosslaw15.MarginReaches': WHATEVER THE INPUT: true; the input reads as it did. -/
def marginReachesSpec : ChangeSpec := { name := "marginReaches", fn := fun _ => fun
  | [d1, d2, d3, d4, d5] => { results := [.lit (.bool true)], args := [d1, d2, d3, d4, d5] }
  | _ => none }
def marginReachesRow : OpenClaim := { program := "ytfkfpppiikgjbaa", sum := "49d9b672acd91230d3b71719139c865f200b57486192783b890f65825a0fbaa5", func := "engross/engrosslaw15.MarginReaches", spec := "marginReaches", inPlace := ["math/bits.Add64"], unfollowed := true, recurses := true, named := ["math/bits.divideError", "math/bits.overflowError"], apart := false }
def MarginReachesSaid : Prop := marginReachesRow.holds Try.pinned (OpenSpec.ofChange marginReachesSpec)

/-- ITS FALSE NEIGHBOUR: 'it returns false'. Refute it at one input. -/
def marginReachesWrong : ChangeSpec := { name := "marginReaches", fn := fun _ => fun
  | [d1, d2, d3, d4, d5] => { results := [.lit (.bool false)], args := [d1, d2, d3, d4, d5] }
  | _ => none }
def MarginReachesWrongFalsely : Prop := marginReachesRow.holds Try.pinned (OpenSpec.ofChange marginReachesWrong)

/-- 'engrosslaw15.MarginAfter': WHATEVER THE INPUT: true; the input reads as it did. -/
def marginAfterSpec : ChangeSpec := { name := "marginAfter", fn := fun _ => fun
  | [d1, d2, d3, d4] => { results := [.lit (.bool true)], args := [d1, d2, d3, d4] }
  | _ => none }
def marginAfterRow : OpenClaim := { program := "ytfkfpppiikgjbaa", sum := "49d9b672acd91230d3b71719139c865f200b57486192783b890f65825a0fbaa5", func := "engross/engrosslaw15.MarginAfter", spec := "marginAfter", inPlace := ["math/bits.Add64"], unfollowed := true, recurses := true, named := ["math/bits.divideError", "math/bits.overflowError"], apart := false }
def MarginAfterSaid : Prop := marginAfterRow.holds Try.pinned (OpenSpec.ofChange marginAfterSpec)

/-- ITS FALSE NEIGHBOUR: 'it returns false'. Refute it at one input. -/
def marginAfterWrong : ChangeSpec := { name := "marginAfter", fn := fun _ => fun
  | [d1, d2, d3, d4] => { results := [.lit (.bool false)], args := [d1, d2, d3, d4] }
  | _ => none }
def MarginAfterWrongFalsely : Prop := marginAfterRow.holds Try.pinned (OpenSpec.ofChange marginAfterWrong)

/- THE SECOND FORM. 'bulk': how many values and letters a reading holds, each counted each time it is reached (what is shared counts as often as it is met; a slice's spare places count too). A statement '..UptoSaid' is the law's where the arguments, and the package variables that the reading takes, are together of bulk at most 1048576: NARROWER than '..Said'. Prove '..Said' where nothing that the law and all that it calls make is longer than what came in: it says more and counts as full. Else prove '..UptoSaid'. A law counts once. -/
mutual
def uptoBulk {H : Type} : DataW H → Nat
  | .lit (.string bytes) => bytes.length + 1
  | .lit _ => 1
  | .nil => 1
  | .ptr d => uptoBulk d + 1
  | .slice elems spare => uptoBulkAll elems + uptoBulkAll spare + 1
  | .agg parts => uptoBulkAll parts + 1
  | .iface _ d => uptoBulk d + 1
  | .map entries => uptoBulkEntries entries + 1
  | .held _ => 1
def uptoBulkAll {H : Type} : List (DataW H) → Nat
  | [] => 0
  | d :: r => uptoBulk d + uptoBulkAll r
def uptoBulkEntries {H : Type} : List (Lit × DataW H) → Nat
  | [] => 0
  | x :: r => uptoBulkEntry x + uptoBulkEntries r
def uptoBulkEntry {H : Type} : Lit × DataW H → Nat
  | (.string bytes, d) => bytes.length + uptoBulk d + 1
  | (_, d) => uptoBulk d + 1
 end
def uptoSmall : (H : Type) → List (DataW H) → Bool := fun _ ds => decide (uptoBulkAll ds ≤ 1048576)
def OpenSpec.upto (s : _root_.Go.ChangeSpec) : _root_.Go.OpenSpec := { _root_.Go.OpenSpec.ofChange s with cond := some uptoSmall }

/-- 'engrosslaw07.FrameTorn', WHERE WHAT IT READS IS OF BULK AT MOST 1048576: true; the input reads as it did. -/
def frameTornUptoRow : OpenClaim := { program := "ytfkfpppiikgjbaa", sum := "49d9b672acd91230d3b71719139c865f200b57486192783b890f65825a0fbaa5", func := "engross/engrosslaw07.FrameTorn", spec := "frameTorn", unfollowed := true, recurses := true, apart := false, narrowed := true }
def FrameTornUptoSaid : Prop := frameTornUptoRow.holds Try.pinned (OpenSpec.upto frameTornSpec)

/-- 'engrosslaw12.BookSets', WHERE WHAT IT READS IS OF BULK AT MOST 1048576: true; the input reads as it did. -/
def bookSetsUptoRow : OpenClaim := { program := "ytfkfpppiikgjbaa", sum := "49d9b672acd91230d3b71719139c865f200b57486192783b890f65825a0fbaa5", func := "engross/engrosslaw12.BookSets", spec := "bookSets", inPlace := ["slices.overlaps[engross/api.Holder]", "slices.overlaps[engross/api.Stake]", "slices.overlaps[engross/api.Open]", "slices.overlaps[engross/api.Rate]"], unfollowed := true, recurses := true, apart := false, narrowed := true }
def BookSetsUptoSaid : Prop := bookSetsUptoRow.holds Try.pinned (OpenSpec.upto bookSetsSpec)

/-- 'engrosslaw12.BookMay', WHERE WHAT IT READS IS OF BULK AT MOST 1048576: true; the input reads as it did. -/
def bookMayUptoRow : OpenClaim := { program := "ytfkfpppiikgjbaa", sum := "49d9b672acd91230d3b71719139c865f200b57486192783b890f65825a0fbaa5", func := "engross/engrosslaw12.BookMay", spec := "bookMay", inPlace := ["slices.overlaps[engross/api.Holder]", "slices.overlaps[engross/api.Stake]"], unfollowed := true, recurses := true, apart := false, narrowed := true }
def BookMayUptoSaid : Prop := bookMayUptoRow.holds Try.pinned (OpenSpec.upto bookMaySpec)

/-- 'engrosslaw15.MarginNeeds', WHERE WHAT IT READS IS OF BULK AT MOST 1048576: true; the input reads as it did. -/
def marginNeedsUptoRow : OpenClaim := { program := "ytfkfpppiikgjbaa", sum := "49d9b672acd91230d3b71719139c865f200b57486192783b890f65825a0fbaa5", func := "engross/engrosslaw15.MarginNeeds", spec := "marginNeeds", inPlace := ["math/bits.Add64"], unfollowed := true, recurses := true, named := ["math/bits.divideError", "math/bits.overflowError"], apart := false, narrowed := true }
def MarginNeedsUptoSaid : Prop := marginNeedsUptoRow.holds Try.pinned (OpenSpec.upto marginNeedsSpec)

/-- 'engrosslaw15.MarginTurned', WHERE WHAT IT READS IS OF BULK AT MOST 1048576: true; the input reads as it did. -/
def marginTurnedUptoRow : OpenClaim := { program := "ytfkfpppiikgjbaa", sum := "49d9b672acd91230d3b71719139c865f200b57486192783b890f65825a0fbaa5", func := "engross/engrosslaw15.MarginTurned", spec := "marginTurned", inPlace := ["math/bits.Add64"], unfollowed := true, recurses := true, named := ["math/bits.divideError", "math/bits.overflowError"], apart := false, narrowed := true }
def MarginTurnedUptoSaid : Prop := marginTurnedUptoRow.holds Try.pinned (OpenSpec.upto marginTurnedSpec)

/-- 'engrosslaw15.MarginReaches', WHERE WHAT IT READS IS OF BULK AT MOST 1048576: true; the input reads as it did. -/
def marginReachesUptoRow : OpenClaim := { program := "ytfkfpppiikgjbaa", sum := "49d9b672acd91230d3b71719139c865f200b57486192783b890f65825a0fbaa5", func := "engross/engrosslaw15.MarginReaches", spec := "marginReaches", inPlace := ["math/bits.Add64"], unfollowed := true, recurses := true, named := ["math/bits.divideError", "math/bits.overflowError"], apart := false, narrowed := true }
def MarginReachesUptoSaid : Prop := marginReachesUptoRow.holds Try.pinned (OpenSpec.upto marginReachesSpec)

/-- 'engrosslaw15.MarginAfter', WHERE WHAT IT READS IS OF BULK AT MOST 1048576: true; the input reads as it did. -/
def marginAfterUptoRow : OpenClaim := { program := "ytfkfpppiikgjbaa", sum := "49d9b672acd91230d3b71719139c865f200b57486192783b890f65825a0fbaa5", func := "engross/engrosslaw15.MarginAfter", spec := "marginAfter", inPlace := ["math/bits.Add64"], unfollowed := true, recurses := true, named := ["math/bits.divideError", "math/bits.overflowError"], apart := false, narrowed := true }
def MarginAfterUptoSaid : Prop := marginAfterUptoRow.holds Try.pinned (OpenSpec.upto marginAfterSpec)

end Rows
end Go.Proofs.Ytfkfpppiikgjbaa
