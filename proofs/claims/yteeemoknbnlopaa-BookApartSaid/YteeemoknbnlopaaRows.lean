/-
  No cell of these rows narrows 'for every input' (looked for: loops, veiled, ifaces, maps, wideKeys, modest, calm, conditions, laid).
  DERIVED. THE GIVEN ROWS OF THIS SEAT. 7 by the template 'for every input the law returns true; each argument reads behind the call as it read before'; 0 by the template 'total and deterministic' (their statements: YteeemoknbnlopaaTotals.lean).
  GIVEN WITH THE SEED: the statements are not yours to turn. If you find one false, say at which input.
  Laid BY PROGRAM, IN A SANDBOX (cutbox-rows.mjs): the forced cells as the released guide's own fill.sh prints them over the translation d866635abc8f5533… (all of the seat's roots in one cut). By AI agents, Wed Nov 11 2026. No macro, syntax, notation, axiom, sorry.
-/
import Derived.Test.YteeemoknbnlopaaChecked
import GoSem.Claim
import GoSem.ClaimJoined
import GoSem.ClaimMapViews
import Derived.JoinedTies
import Derived.KernelRfl
namespace Go.Proofs.Yteeemoknbnlopaa
/- THE CELL 'sum', in the pinned program and in every row, IS THE sha256 OF THE DUMP (.gsa) THAT YteeemoknbnlopaaProg.lean LOADS. Nothing in Lean hashes anything: it is a label: what it is worth is what the hold of that sum in a sandbox is worth. -/
noncomputable def Try.pinned : Pinned := { name := "yteeemoknbnlopaa", sum := "d866635abc8f55332c02ba84a509bc69d9f8c3b717c6a0d2c79ca737865958b3", checked := Try.checked }
namespace Rows
def none {H : Type} : Left H := { results := [], args := [] }

/-- 'engrosslaw05.MoneySums': WHATEVER THE INPUT: true; the input reads as it did. -/
def moneySumsSpec : ChangeSpec := { name := "moneySums", fn := fun _ => fun
  | [d1, d2] => { results := [.lit (.bool true)], args := [d1, d2] }
  | _ => none }
def moneySumsRow : OpenClaim := { program := "yteeemoknbnlopaa", sum := "d866635abc8f55332c02ba84a509bc69d9f8c3b717c6a0d2c79ca737865958b3", func := "engross/engrosslaw05.MoneySums", spec := "moneySums", inPlace := ["math/bits.Add64"], named := ["math/bits.divideError", "math/bits.overflowError"], apart := false }
def MoneySumsSaid : Prop := moneySumsRow.holds Try.pinned (OpenSpec.ofChange moneySumsSpec)

/-- ITS FALSE NEIGHBOUR: 'it returns false'. Refute it at one input. -/
def moneySumsWrong : ChangeSpec := { name := "moneySums", fn := fun _ => fun
  | [d1, d2] => { results := [.lit (.bool false)], args := [d1, d2] }
  | _ => none }
def MoneySumsWrongFalsely : Prop := moneySumsRow.holds Try.pinned (OpenSpec.ofChange moneySumsWrong)

/-- 'engrosslaw05.MoneyOrder': WHATEVER THE INPUT: true; the input reads as it did. -/
def moneyOrderSpec : ChangeSpec := { name := "moneyOrder", fn := fun _ => fun
  | [d1, d2, d3] => { results := [.lit (.bool true)], args := [d1, d2, d3] }
  | _ => none }
def moneyOrderRow : OpenClaim := { program := "yteeemoknbnlopaa", sum := "d866635abc8f55332c02ba84a509bc69d9f8c3b717c6a0d2c79ca737865958b3", func := "engross/engrosslaw05.MoneyOrder", spec := "moneyOrder", inPlace := ["math/bits.Add64"], named := ["math/bits.divideError", "math/bits.overflowError"], apart := false }
def MoneyOrderSaid : Prop := moneyOrderRow.holds Try.pinned (OpenSpec.ofChange moneyOrderSpec)

/-- ITS FALSE NEIGHBOUR: 'it returns false'. Refute it at one input. -/
def moneyOrderWrong : ChangeSpec := { name := "moneyOrder", fn := fun _ => fun
  | [d1, d2, d3] => { results := [.lit (.bool false)], args := [d1, d2, d3] }
  | _ => none }
def MoneyOrderWrongFalsely : Prop := moneyOrderRow.holds Try.pinned (OpenSpec.ofChange moneyOrderWrong)

/-- 'engrosslaw05.MoneyTwo': WHATEVER THE INPUT: true; the input reads as it did. -/
def moneyTwoSpec : ChangeSpec := { name := "moneyTwo", fn := fun _ => fun
  | [d1, d2] => { results := [.lit (.bool true)], args := [d1, d2] }
  | _ => none }
def moneyTwoRow : OpenClaim := { program := "yteeemoknbnlopaa", sum := "d866635abc8f55332c02ba84a509bc69d9f8c3b717c6a0d2c79ca737865958b3", func := "engross/engrosslaw05.MoneyTwo", spec := "moneyTwo", inPlace := ["math/bits.Add64"], named := ["math/bits.divideError", "math/bits.overflowError"], apart := false }
def MoneyTwoSaid : Prop := moneyTwoRow.holds Try.pinned (OpenSpec.ofChange moneyTwoSpec)

/-- ITS FALSE NEIGHBOUR: 'it returns false'. Refute it at one input. -/
def moneyTwoWrong : ChangeSpec := { name := "moneyTwo", fn := fun _ => fun
  | [d1, d2] => { results := [.lit (.bool false)], args := [d1, d2] }
  | _ => none }
def MoneyTwoWrongFalsely : Prop := moneyTwoRow.holds Try.pinned (OpenSpec.ofChange moneyTwoWrong)

/-- 'engrosslaw12.BookApart': WHATEVER THE INPUT: true; the input reads as it did. -/
def bookApartSpec : ChangeSpec := { name := "bookApart", fn := fun _ => fun
  | [d1, d2, d3] => { results := [.lit (.bool true)], args := [d1, d2, d3] }
  | _ => none }
def bookApartRow : OpenClaim := { program := "yteeemoknbnlopaa", sum := "d866635abc8f55332c02ba84a509bc69d9f8c3b717c6a0d2c79ca737865958b3", func := "engross/engrosslaw12.BookApart", spec := "bookApart", inPlace := ["slices.overlaps[engross/api.Holder]", "slices.overlaps[engross/api.Stake]", "slices.overlaps[engross/api.Rate]"], unfollowed := true, recurses := true, apart := false }
def BookApartSaid : Prop := bookApartRow.holds Try.pinned (OpenSpec.ofChange bookApartSpec)

/-- ITS FALSE NEIGHBOUR: 'it returns false'. Refute it at one input. -/
def bookApartWrong : ChangeSpec := { name := "bookApart", fn := fun _ => fun
  | [d1, d2, d3] => { results := [.lit (.bool false)], args := [d1, d2, d3] }
  | _ => none }
def BookApartWrongFalsely : Prop := bookApartRow.holds Try.pinned (OpenSpec.ofChange bookApartWrong)

/-- 'engrosslaw12.BookFinds': WHATEVER THE INPUT: true; the input reads as it did. -/
def bookFindsSpec : ChangeSpec := { name := "bookFinds", fn := fun _ => fun
  | [d1, d2, d3, d4] => { results := [.lit (.bool true)], args := [d1, d2, d3, d4] }
  | _ => none }
def bookFindsRow : OpenClaim := { program := "yteeemoknbnlopaa", sum := "d866635abc8f55332c02ba84a509bc69d9f8c3b717c6a0d2c79ca737865958b3", func := "engross/engrosslaw12.BookFinds", spec := "bookFinds", inPlace := ["slices.overlaps[engross/api.Holder]", "slices.overlaps[engross/api.Stake]"], unfollowed := true, recurses := true, apart := false }
def BookFindsSaid : Prop := bookFindsRow.holds Try.pinned (OpenSpec.ofChange bookFindsSpec)

/-- ITS FALSE NEIGHBOUR: 'it returns false'. Refute it at one input. -/
def bookFindsWrong : ChangeSpec := { name := "bookFinds", fn := fun _ => fun
  | [d1, d2, d3, d4] => { results := [.lit (.bool false)], args := [d1, d2, d3, d4] }
  | _ => none }
def BookFindsWrongFalsely : Prop := bookFindsRow.holds Try.pinned (OpenSpec.ofChange bookFindsWrong)

/-- 'engrosslaw12.BookSets': WHATEVER THE INPUT: true; the input reads as it did. -/
def bookSetsSpec : ChangeSpec := { name := "bookSets", fn := fun _ => fun
  | [d1, d2, d3, d4, d5] => { results := [.lit (.bool true)], args := [d1, d2, d3, d4, d5] }
  | _ => none }
def bookSetsRow : OpenClaim := { program := "yteeemoknbnlopaa", sum := "d866635abc8f55332c02ba84a509bc69d9f8c3b717c6a0d2c79ca737865958b3", func := "engross/engrosslaw12.BookSets", spec := "bookSets", inPlace := ["slices.overlaps[engross/api.Holder]", "slices.overlaps[engross/api.Stake]", "slices.overlaps[engross/api.Open]", "slices.overlaps[engross/api.Rate]"], unfollowed := true, recurses := true, apart := false }
def BookSetsSaid : Prop := bookSetsRow.holds Try.pinned (OpenSpec.ofChange bookSetsSpec)

/-- ITS FALSE NEIGHBOUR: 'it returns false'. Refute it at one input. -/
def bookSetsWrong : ChangeSpec := { name := "bookSets", fn := fun _ => fun
  | [d1, d2, d3, d4, d5] => { results := [.lit (.bool false)], args := [d1, d2, d3, d4, d5] }
  | _ => none }
def BookSetsWrongFalsely : Prop := bookSetsRow.holds Try.pinned (OpenSpec.ofChange bookSetsWrong)

/-- 'engrosslaw12.BookMay': WHATEVER THE INPUT: true; the input reads as it did. -/
def bookMaySpec : ChangeSpec := { name := "bookMay", fn := fun _ => fun
  | [d1, d2] => { results := [.lit (.bool true)], args := [d1, d2] }
  | _ => none }
def bookMayRow : OpenClaim := { program := "yteeemoknbnlopaa", sum := "d866635abc8f55332c02ba84a509bc69d9f8c3b717c6a0d2c79ca737865958b3", func := "engross/engrosslaw12.BookMay", spec := "bookMay", inPlace := ["slices.overlaps[engross/api.Holder]", "slices.overlaps[engross/api.Stake]"], unfollowed := true, recurses := true, apart := false }
def BookMaySaid : Prop := bookMayRow.holds Try.pinned (OpenSpec.ofChange bookMaySpec)

/-- ITS FALSE NEIGHBOUR: 'it returns false'. Refute it at one input. -/
def bookMayWrong : ChangeSpec := { name := "bookMay", fn := fun _ => fun
  | [d1, d2] => { results := [.lit (.bool false)], args := [d1, d2] }
  | _ => none }
def BookMayWrongFalsely : Prop := bookMayRow.holds Try.pinned (OpenSpec.ofChange bookMayWrong)

/- THE SECOND FORM. 'bulk': how many values and letters a reading holds, each counted each time it is reached (what is shared counts as often as it is met; a slice's spare places count too). A statement '..UptoSaid' is the law's where the arguments, and the package variables that the reading takes, are together of bulk at most 1048576: NARROWER than '..Said'. Prove '..Said' where nothing that the law and all that it calls make is longer than what came in: it says more and counts as full. Else prove '..UptoSaid'. A law counts once. -/
mutual
def uptoBulk {H : Type} : DataW H → Nat
  | .lit (.string bytes) => bytes.length + 1
  | .lit _ => 1
  | .nil => 1
  | .ptr d => uptoBulk d + 1
  | .slice elems spare => uptoBulkAll elems + uptoBulkAll spare + 1
  | .agg parts => uptoBulkAll parts + 1
  | .iface _ d => uptoBulk d + 1
  | .map entries => uptoBulkEntries entries + 1
  | .held _ => 1
def uptoBulkAll {H : Type} : List (DataW H) → Nat
  | [] => 0
  | d :: r => uptoBulk d + uptoBulkAll r
def uptoBulkEntries {H : Type} : List (Lit × DataW H) → Nat
  | [] => 0
  | x :: r => uptoBulkEntry x + uptoBulkEntries r
def uptoBulkEntry {H : Type} : Lit × DataW H → Nat
  | (.string bytes, d) => bytes.length + uptoBulk d + 1
  | (_, d) => uptoBulk d + 1
 end
def uptoSmall : (H : Type) → List (DataW H) → Bool := fun _ ds => decide (uptoBulkAll ds ≤ 1048576)
def OpenSpec.upto (s : _root_.Go.ChangeSpec) : _root_.Go.OpenSpec := { _root_.Go.OpenSpec.ofChange s with cond := some uptoSmall }

/-- 'engrosslaw05.MoneySums', WHERE WHAT IT READS IS OF BULK AT MOST 1048576: true; the input reads as it did. -/
def moneySumsUptoRow : OpenClaim := { program := "yteeemoknbnlopaa", sum := "d866635abc8f55332c02ba84a509bc69d9f8c3b717c6a0d2c79ca737865958b3", func := "engross/engrosslaw05.MoneySums", spec := "moneySums", inPlace := ["math/bits.Add64"], named := ["math/bits.divideError", "math/bits.overflowError"], apart := false, narrowed := true }
def MoneySumsUptoSaid : Prop := moneySumsUptoRow.holds Try.pinned (OpenSpec.upto moneySumsSpec)

/-- 'engrosslaw05.MoneyOrder', WHERE WHAT IT READS IS OF BULK AT MOST 1048576: true; the input reads as it did. -/
def moneyOrderUptoRow : OpenClaim := { program := "yteeemoknbnlopaa", sum := "d866635abc8f55332c02ba84a509bc69d9f8c3b717c6a0d2c79ca737865958b3", func := "engross/engrosslaw05.MoneyOrder", spec := "moneyOrder", inPlace := ["math/bits.Add64"], named := ["math/bits.divideError", "math/bits.overflowError"], apart := false, narrowed := true }
def MoneyOrderUptoSaid : Prop := moneyOrderUptoRow.holds Try.pinned (OpenSpec.upto moneyOrderSpec)

/-- 'engrosslaw05.MoneyTwo', WHERE WHAT IT READS IS OF BULK AT MOST 1048576: true; the input reads as it did. -/
def moneyTwoUptoRow : OpenClaim := { program := "yteeemoknbnlopaa", sum := "d866635abc8f55332c02ba84a509bc69d9f8c3b717c6a0d2c79ca737865958b3", func := "engross/engrosslaw05.MoneyTwo", spec := "moneyTwo", inPlace := ["math/bits.Add64"], named := ["math/bits.divideError", "math/bits.overflowError"], apart := false, narrowed := true }
def MoneyTwoUptoSaid : Prop := moneyTwoUptoRow.holds Try.pinned (OpenSpec.upto moneyTwoSpec)

/-- 'engrosslaw12.BookApart', WHERE WHAT IT READS IS OF BULK AT MOST 1048576: true; the input reads as it did. -/
def bookApartUptoRow : OpenClaim := { program := "yteeemoknbnlopaa", sum := "d866635abc8f55332c02ba84a509bc69d9f8c3b717c6a0d2c79ca737865958b3", func := "engross/engrosslaw12.BookApart", spec := "bookApart", inPlace := ["slices.overlaps[engross/api.Holder]", "slices.overlaps[engross/api.Stake]", "slices.overlaps[engross/api.Rate]"], unfollowed := true, recurses := true, apart := false, narrowed := true }
def BookApartUptoSaid : Prop := bookApartUptoRow.holds Try.pinned (OpenSpec.upto bookApartSpec)

/-- 'engrosslaw12.BookFinds', WHERE WHAT IT READS IS OF BULK AT MOST 1048576: true; the input reads as it did. -/
def bookFindsUptoRow : OpenClaim := { program := "yteeemoknbnlopaa", sum := "d866635abc8f55332c02ba84a509bc69d9f8c3b717c6a0d2c79ca737865958b3", func := "engross/engrosslaw12.BookFinds", spec := "bookFinds", inPlace := ["slices.overlaps[engross/api.Holder]", "slices.overlaps[engross/api.Stake]"], unfollowed := true, recurses := true, apart := false, narrowed := true }
def BookFindsUptoSaid : Prop := bookFindsUptoRow.holds Try.pinned (OpenSpec.upto bookFindsSpec)

/-- 'engrosslaw12.BookSets', WHERE WHAT IT READS IS OF BULK AT MOST 1048576: true; the input reads as it did. -/
def bookSetsUptoRow : OpenClaim := { program := "yteeemoknbnlopaa", sum := "d866635abc8f55332c02ba84a509bc69d9f8c3b717c6a0d2c79ca737865958b3", func := "engross/engrosslaw12.BookSets", spec := "bookSets", inPlace := ["slices.overlaps[engross/api.Holder]", "slices.overlaps[engross/api.Stake]", "slices.overlaps[engross/api.Open]", "slices.overlaps[engross/api.Rate]"], unfollowed := true, recurses := true, apart := false, narrowed := true }
def BookSetsUptoSaid : Prop := bookSetsUptoRow.holds Try.pinned (OpenSpec.upto bookSetsSpec)

/-- 'engrosslaw12.BookMay', WHERE WHAT IT READS IS OF BULK AT MOST 1048576: true; the input reads as it did. -/
def bookMayUptoRow : OpenClaim := { program := "yteeemoknbnlopaa", sum := "d866635abc8f55332c02ba84a509bc69d9f8c3b717c6a0d2c79ca737865958b3", func := "engross/engrosslaw12.BookMay", spec := "bookMay", inPlace := ["slices.overlaps[engross/api.Holder]", "slices.overlaps[engross/api.Stake]"], unfollowed := true, recurses := true, apart := false, narrowed := true }
def BookMayUptoSaid : Prop := bookMayUptoRow.holds Try.pinned (OpenSpec.upto bookMaySpec)

end Rows
end Go.Proofs.Yteeemoknbnlopaa
