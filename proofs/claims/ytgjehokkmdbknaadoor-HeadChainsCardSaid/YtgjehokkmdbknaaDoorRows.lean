/-
  NARROWER THAN 'FOR EVERY INPUT', by the rows' own cells (each row's printed sentence says how): EventNames: laid · ShaSums: laid · ShaEnds: laid · ShaPieces: laid · EventPuts: laid · EventGets: laid · HeadChains: laid.
  DERIVED. THE GIVEN ROWS OF THIS SEAT. 7 by the template 'for every input the law returns true; each argument reads behind the call as it read before'; 0 by the template 'total and deterministic' (their statements: YtgjehokkmdbknaaDoorTotals.lean).
  GIVEN WITH THE SEED: the statements are not yours to turn. If you find one false, say at which input.
  Laid BY PROGRAM, IN A SANDBOX (cutbox-rows.mjs): the forced cells as the released guide's own fill.sh prints them over the translation 4cbfc6698ffa95f0… (all of the seat's roots in one cut). By AI agents, Wed Nov 11 2026. No macro, syntax, notation, axiom, sorry.
-/
import Derived.Test.YtgjehokkmdbknaaDoorChecked
import GoSem.Claim
import GoSem.ClaimJoined
import GoSem.ClaimMapViews
import Derived.JoinedTies
import Derived.KernelRfl
namespace Go.Proofs.YtgjehokkmdbknaaDoor
/- THE CELL 'sum', in the pinned program and in every row, IS THE sha256 OF THE DUMP (.gsa) THAT YtgjehokkmdbknaaDoorProg.lean LOADS. Nothing in Lean hashes anything: it is a label: what it is worth is what the hold of that sum in a sandbox is worth. -/
noncomputable def Tryd.pinned : Pinned := { name := "ytgjehokkmdbknaadoor", sum := "4cbfc6698ffa95f00a4227751423346ec37b21daf29eea03c14cf08013cde0eb", checked := Tryd.checked }
namespace Rows
def none {H : Type} : Left H := { results := [], args := [] }

/- WHAT THE LISTED PACKAGE-LEVEL VARIABLES READ AS WHEN THE CALL BEGINS. Each datum BY PROGRAM (the guide's laid-datum.mjs) off the statement by which the dump's own 'gosem.cut.vars' lays the variable. In a bare row this is a premise. The card (YtgjehokkmdbknaaDoorCards.lean) ties it to the program's text. -/
def laid_engross_event_names {H : Type} : DataW H := .agg [.lit (.string []), .lit (.string [97, 99, 99, 111, 117, 110, 116]), .lit (.string [108, 105, 109, 105, 116]), .lit (.string [113, 117, 111, 116, 101]), .lit (.string [111, 114, 100, 101, 114]), .lit (.string [102, 105, 108, 108]), .lit (.string [99, 97, 110, 99, 101, 108]), .lit (.string [115, 110, 97, 112])]
def laid_engross_event_reasons {H : Type} : DataW H := .agg [.lit (.string [97, 99, 99, 101, 112, 116]), .lit (.string [107, 105, 110, 100]), .lit (.string [118, 97, 108, 117, 101]), .lit (.string [110, 111, 32, 97, 99, 99, 111, 117, 110, 116]), .lit (.string [97, 99, 99, 111, 117, 110, 116, 32, 116, 104, 101, 114, 101]), .lit (.string [111, 114, 100, 101, 114, 32, 116, 104, 101, 114, 101]), .lit (.string [110, 111, 32, 111, 114, 100, 101, 114]), .lit (.string [110, 111, 32, 112, 114, 105, 99, 101]), .lit (.string [102, 117, 108, 108]), .lit (.string [111, 114, 100, 101, 114, 32, 116, 111, 111, 32, 103, 114, 101, 97, 116]), .lit (.string [112, 111, 115, 105, 116, 105, 111, 110, 32, 116, 111, 111, 32, 103, 114, 101, 97, 116]), .lit (.string [109, 97, 114, 103, 105, 110]), .lit (.string [111, 118, 101, 114, 102, 108, 111, 119]), .lit (.string [117, 110, 97, 118, 97, 105, 108, 97, 98, 108, 101])]
def laid_engross_sha_constants {H : Type} : DataW H := .agg [.lit (.int .u32 1116352408), .lit (.int .u32 1899447441), .lit (.int .u32 3049323471), .lit (.int .u32 3921009573), .lit (.int .u32 961987163), .lit (.int .u32 1508970993), .lit (.int .u32 2453635748), .lit (.int .u32 2870763221), .lit (.int .u32 3624381080), .lit (.int .u32 310598401), .lit (.int .u32 607225278), .lit (.int .u32 1426881987), .lit (.int .u32 1925078388), .lit (.int .u32 2162078206), .lit (.int .u32 2614888103), .lit (.int .u32 3248222580), .lit (.int .u32 3835390401), .lit (.int .u32 4022224774), .lit (.int .u32 264347078), .lit (.int .u32 604807628), .lit (.int .u32 770255983), .lit (.int .u32 1249150122), .lit (.int .u32 1555081692), .lit (.int .u32 1996064986), .lit (.int .u32 2554220882), .lit (.int .u32 2821834349), .lit (.int .u32 2952996808), .lit (.int .u32 3210313671), .lit (.int .u32 3336571891), .lit (.int .u32 3584528711), .lit (.int .u32 113926993), .lit (.int .u32 338241895), .lit (.int .u32 666307205), .lit (.int .u32 773529912), .lit (.int .u32 1294757372), .lit (.int .u32 1396182291), .lit (.int .u32 1695183700), .lit (.int .u32 1986661051), .lit (.int .u32 2177026350), .lit (.int .u32 2456956037), .lit (.int .u32 2730485921), .lit (.int .u32 2820302411), .lit (.int .u32 3259730800), .lit (.int .u32 3345764771), .lit (.int .u32 3516065817), .lit (.int .u32 3600352804), .lit (.int .u32 4094571909), .lit (.int .u32 275423344), .lit (.int .u32 430227734), .lit (.int .u32 506948616), .lit (.int .u32 659060556), .lit (.int .u32 883997877), .lit (.int .u32 958139571), .lit (.int .u32 1322822218), .lit (.int .u32 1537002063), .lit (.int .u32 1747873779), .lit (.int .u32 1955562222), .lit (.int .u32 2024104815), .lit (.int .u32 2227730452), .lit (.int .u32 2361852424), .lit (.int .u32 2428436474), .lit (.int .u32 2756734187), .lit (.int .u32 3204031479), .lit (.int .u32 3329325298)]
def laid_engross_sha_first {H : Type} : DataW H := .agg [.lit (.int .u32 1779033703), .lit (.int .u32 3144134277), .lit (.int .u32 1013904242), .lit (.int .u32 2773480762), .lit (.int .u32 1359893119), .lit (.int .u32 2600822924), .lit (.int .u32 528734635), .lit (.int .u32 1541459225)]

/-- 'engrosslaw06.EventNames': WHATEVER THE INPUT: true; the input reads as it did. -/
def eventNamesSpec : ChangeSpec := { name := "eventNames", fn := fun _ => fun
  | [d] => { results := [.lit (.bool true)], args := [d] }
  | _ => none }
def eventNamesRow : OpenClaim := { program := "ytgjehokkmdbknaadoor", sum := "4cbfc6698ffa95f00a4227751423346ec37b21daf29eea03c14cf08013cde0eb", func := "engross/engrosslaw06.EventNames", spec := "eventNames", named := ["engross/event.names", "engross/event.reasons"], apart := false, laid := [("engross/event.names", laid_engross_event_names), ("engross/event.reasons", laid_engross_event_reasons)] }
def EventNamesSaid : Prop := eventNamesRow.holds Tryd.pinned (OpenSpec.ofChange eventNamesSpec)

/-- ITS FALSE NEIGHBOUR: 'it returns false'. Refute it at one input. -/
def eventNamesWrong : ChangeSpec := { name := "eventNames", fn := fun _ => fun
  | [d] => { results := [.lit (.bool false)], args := [d] }
  | _ => none }
def EventNamesWrongFalsely : Prop := eventNamesRow.holds Tryd.pinned (OpenSpec.ofChange eventNamesWrong)

/-- 'engrosslaw02.ShaSums': WHATEVER THE INPUT: true; the input reads as it did. -/
def shaSumsSpec : ChangeSpec := { name := "shaSums", fn := fun _ => fun
  | [d1, d2] => { results := [.lit (.bool true)], args := [d1, d2] }
  | _ => none }
def shaSumsRow : OpenClaim := { program := "ytgjehokkmdbknaadoor", sum := "4cbfc6698ffa95f00a4227751423346ec37b21daf29eea03c14cf08013cde0eb", func := "engross/engrosslaw02.ShaSums", spec := "shaSums", named := ["engross/sha.first", "engross/sha.constants"], apart := false, laid := [("engross/sha.constants", laid_engross_sha_constants), ("engross/sha.first", laid_engross_sha_first)] }
def ShaSumsSaid : Prop := shaSumsRow.holds Tryd.pinned (OpenSpec.ofChange shaSumsSpec)

/-- ITS FALSE NEIGHBOUR: 'it returns false'. Refute it at one input. -/
def shaSumsWrong : ChangeSpec := { name := "shaSums", fn := fun _ => fun
  | [d1, d2] => { results := [.lit (.bool false)], args := [d1, d2] }
  | _ => none }
def ShaSumsWrongFalsely : Prop := shaSumsRow.holds Tryd.pinned (OpenSpec.ofChange shaSumsWrong)

/-- 'engrosslaw02.ShaEnds': WHATEVER THE INPUT: true; the input reads as it did. -/
def shaEndsSpec : ChangeSpec := { name := "shaEnds", fn := fun _ => fun
  | [d1, d2] => { results := [.lit (.bool true)], args := [d1, d2] }
  | _ => none }
def shaEndsRow : OpenClaim := { program := "ytgjehokkmdbknaadoor", sum := "4cbfc6698ffa95f00a4227751423346ec37b21daf29eea03c14cf08013cde0eb", func := "engross/engrosslaw02.ShaEnds", spec := "shaEnds", named := ["engross/sha.first", "engross/sha.constants"], apart := false, laid := [("engross/sha.constants", laid_engross_sha_constants), ("engross/sha.first", laid_engross_sha_first)] }
def ShaEndsSaid : Prop := shaEndsRow.holds Tryd.pinned (OpenSpec.ofChange shaEndsSpec)

/-- ITS FALSE NEIGHBOUR: 'it returns false'. Refute it at one input. -/
def shaEndsWrong : ChangeSpec := { name := "shaEnds", fn := fun _ => fun
  | [d1, d2] => { results := [.lit (.bool false)], args := [d1, d2] }
  | _ => none }
def ShaEndsWrongFalsely : Prop := shaEndsRow.holds Tryd.pinned (OpenSpec.ofChange shaEndsWrong)

/-- 'engrosslaw02.ShaPieces': WHATEVER THE INPUT: true; the input reads as it did. -/
def shaPiecesSpec : ChangeSpec := { name := "shaPieces", fn := fun _ => fun
  | [d] => { results := [.lit (.bool true)], args := [d] }
  | _ => none }
def shaPiecesRow : OpenClaim := { program := "ytgjehokkmdbknaadoor", sum := "4cbfc6698ffa95f00a4227751423346ec37b21daf29eea03c14cf08013cde0eb", func := "engross/engrosslaw02.ShaPieces", spec := "shaPieces", named := ["engross/sha.first", "engross/sha.constants"], apart := false, laid := [("engross/sha.constants", laid_engross_sha_constants), ("engross/sha.first", laid_engross_sha_first)] }
def ShaPiecesSaid : Prop := shaPiecesRow.holds Tryd.pinned (OpenSpec.ofChange shaPiecesSpec)

/-- ITS FALSE NEIGHBOUR: 'it returns false'. Refute it at one input. -/
def shaPiecesWrong : ChangeSpec := { name := "shaPieces", fn := fun _ => fun
  | [d] => { results := [.lit (.bool false)], args := [d] }
  | _ => none }
def ShaPiecesWrongFalsely : Prop := shaPiecesRow.holds Tryd.pinned (OpenSpec.ofChange shaPiecesWrong)

/-- 'engrosslaw06.EventPuts': WHATEVER THE INPUT: true; the input reads as it did. -/
def eventPutsSpec : ChangeSpec := { name := "eventPuts", fn := fun _ => fun
  | [d] => { results := [.lit (.bool true)], args := [d] }
  | _ => none }
def eventPutsRow : OpenClaim := { program := "ytgjehokkmdbknaadoor", sum := "4cbfc6698ffa95f00a4227751423346ec37b21daf29eea03c14cf08013cde0eb", func := "engross/engrosslaw06.EventPuts", spec := "eventPuts", unfollowed := true, recurses := true, named := ["engross/event.names", "engross/event.reasons"], apart := false, laid := [("engross/event.names", laid_engross_event_names), ("engross/event.reasons", laid_engross_event_reasons)] }
def EventPutsSaid : Prop := eventPutsRow.holds Tryd.pinned (OpenSpec.ofChange eventPutsSpec)

/-- ITS FALSE NEIGHBOUR: 'it returns false'. Refute it at one input. -/
def eventPutsWrong : ChangeSpec := { name := "eventPuts", fn := fun _ => fun
  | [d] => { results := [.lit (.bool false)], args := [d] }
  | _ => none }
def EventPutsWrongFalsely : Prop := eventPutsRow.holds Tryd.pinned (OpenSpec.ofChange eventPutsWrong)

/-- 'engrosslaw06.EventGets': WHATEVER THE INPUT: true; the input reads as it did. -/
def eventGetsSpec : ChangeSpec := { name := "eventGets", fn := fun _ => fun
  | [d] => { results := [.lit (.bool true)], args := [d] }
  | _ => none }
def eventGetsRow : OpenClaim := { program := "ytgjehokkmdbknaadoor", sum := "4cbfc6698ffa95f00a4227751423346ec37b21daf29eea03c14cf08013cde0eb", func := "engross/engrosslaw06.EventGets", spec := "eventGets", unfollowed := true, recurses := true, named := ["engross/event.names", "engross/event.reasons"], apart := false, laid := [("engross/event.names", laid_engross_event_names), ("engross/event.reasons", laid_engross_event_reasons)] }
def EventGetsSaid : Prop := eventGetsRow.holds Tryd.pinned (OpenSpec.ofChange eventGetsSpec)

/-- ITS FALSE NEIGHBOUR: 'it returns false'. Refute it at one input. -/
def eventGetsWrong : ChangeSpec := { name := "eventGets", fn := fun _ => fun
  | [d] => { results := [.lit (.bool false)], args := [d] }
  | _ => none }
def EventGetsWrongFalsely : Prop := eventGetsRow.holds Tryd.pinned (OpenSpec.ofChange eventGetsWrong)

/-- 'engrosslaw08.HeadChains': WHATEVER THE INPUT: true; the input reads as it did. -/
def headChainsSpec : ChangeSpec := { name := "headChains", fn := fun _ => fun
  | [d1, d2] => { results := [.lit (.bool true)], args := [d1, d2] }
  | _ => none }
def headChainsRow : OpenClaim := { program := "ytgjehokkmdbknaadoor", sum := "4cbfc6698ffa95f00a4227751423346ec37b21daf29eea03c14cf08013cde0eb", func := "engross/engrosslaw08.HeadChains", spec := "headChains", unfollowed := true, recurses := true, named := ["engross/sha.first", "engross/sha.constants"], apart := false, laid := [("engross/sha.constants", laid_engross_sha_constants), ("engross/sha.first", laid_engross_sha_first)] }
def HeadChainsSaid : Prop := headChainsRow.holds Tryd.pinned (OpenSpec.ofChange headChainsSpec)

/-- ITS FALSE NEIGHBOUR: 'it returns false'. Refute it at one input. -/
def headChainsWrong : ChangeSpec := { name := "headChains", fn := fun _ => fun
  | [d1, d2] => { results := [.lit (.bool false)], args := [d1, d2] }
  | _ => none }
def HeadChainsWrongFalsely : Prop := headChainsRow.holds Tryd.pinned (OpenSpec.ofChange headChainsWrong)

/- THE SECOND FORM. 'bulk': how many values and letters a reading holds, each counted each time it is reached (what is shared counts as often as it is met; a slice's spare places count too). A statement '..UptoSaid' is the law's where the arguments, and the package variables that the reading takes, are together of bulk at most 1048576: NARROWER than '..Said'. Prove '..Said' where nothing that the law and all that it calls make is longer than what came in: it says more and counts as full. Else prove '..UptoSaid'. A law counts once. -/
mutual
def uptoBulk {H : Type} : DataW H → Nat
  | .lit (.string bytes) => bytes.length + 1
  | .lit _ => 1
  | .nil => 1
  | .ptr d => uptoBulk d + 1
  | .slice elems spare => uptoBulkAll elems + uptoBulkAll spare + 1
  | .agg parts => uptoBulkAll parts + 1
  | .iface _ d => uptoBulk d + 1
  | .map entries => uptoBulkEntries entries + 1
  | .held _ => 1
def uptoBulkAll {H : Type} : List (DataW H) → Nat
  | [] => 0
  | d :: r => uptoBulk d + uptoBulkAll r
def uptoBulkEntries {H : Type} : List (Lit × DataW H) → Nat
  | [] => 0
  | x :: r => uptoBulkEntry x + uptoBulkEntries r
def uptoBulkEntry {H : Type} : Lit × DataW H → Nat
  | (.string bytes, d) => bytes.length + uptoBulk d + 1
  | (_, d) => uptoBulk d + 1
 end
def uptoSmall : (H : Type) → List (DataW H) → Bool := fun _ ds => decide (uptoBulkAll ds ≤ 1048576)
def OpenSpec.upto (s : _root_.Go.ChangeSpec) : _root_.Go.OpenSpec := { _root_.Go.OpenSpec.ofChange s with cond := some uptoSmall }

/-- 'engrosslaw06.EventNames', WHERE WHAT IT READS IS OF BULK AT MOST 1048576: true; the input reads as it did. -/
def eventNamesUptoRow : OpenClaim := { program := "ytgjehokkmdbknaadoor", sum := "4cbfc6698ffa95f00a4227751423346ec37b21daf29eea03c14cf08013cde0eb", func := "engross/engrosslaw06.EventNames", spec := "eventNames", named := ["engross/event.names", "engross/event.reasons"], apart := false, laid := [("engross/event.names", laid_engross_event_names), ("engross/event.reasons", laid_engross_event_reasons)], narrowed := true }
def EventNamesUptoSaid : Prop := eventNamesUptoRow.holds Tryd.pinned (OpenSpec.upto eventNamesSpec)

/-- 'engrosslaw02.ShaSums', WHERE WHAT IT READS IS OF BULK AT MOST 1048576: true; the input reads as it did. -/
def shaSumsUptoRow : OpenClaim := { program := "ytgjehokkmdbknaadoor", sum := "4cbfc6698ffa95f00a4227751423346ec37b21daf29eea03c14cf08013cde0eb", func := "engross/engrosslaw02.ShaSums", spec := "shaSums", named := ["engross/sha.first", "engross/sha.constants"], apart := false, laid := [("engross/sha.constants", laid_engross_sha_constants), ("engross/sha.first", laid_engross_sha_first)], narrowed := true }
def ShaSumsUptoSaid : Prop := shaSumsUptoRow.holds Tryd.pinned (OpenSpec.upto shaSumsSpec)

/-- 'engrosslaw02.ShaEnds', WHERE WHAT IT READS IS OF BULK AT MOST 1048576: true; the input reads as it did. -/
def shaEndsUptoRow : OpenClaim := { program := "ytgjehokkmdbknaadoor", sum := "4cbfc6698ffa95f00a4227751423346ec37b21daf29eea03c14cf08013cde0eb", func := "engross/engrosslaw02.ShaEnds", spec := "shaEnds", named := ["engross/sha.first", "engross/sha.constants"], apart := false, laid := [("engross/sha.constants", laid_engross_sha_constants), ("engross/sha.first", laid_engross_sha_first)], narrowed := true }
def ShaEndsUptoSaid : Prop := shaEndsUptoRow.holds Tryd.pinned (OpenSpec.upto shaEndsSpec)

/-- 'engrosslaw02.ShaPieces', WHERE WHAT IT READS IS OF BULK AT MOST 1048576: true; the input reads as it did. -/
def shaPiecesUptoRow : OpenClaim := { program := "ytgjehokkmdbknaadoor", sum := "4cbfc6698ffa95f00a4227751423346ec37b21daf29eea03c14cf08013cde0eb", func := "engross/engrosslaw02.ShaPieces", spec := "shaPieces", named := ["engross/sha.first", "engross/sha.constants"], apart := false, laid := [("engross/sha.constants", laid_engross_sha_constants), ("engross/sha.first", laid_engross_sha_first)], narrowed := true }
def ShaPiecesUptoSaid : Prop := shaPiecesUptoRow.holds Tryd.pinned (OpenSpec.upto shaPiecesSpec)

/-- 'engrosslaw06.EventPuts', WHERE WHAT IT READS IS OF BULK AT MOST 1048576: true; the input reads as it did. -/
def eventPutsUptoRow : OpenClaim := { program := "ytgjehokkmdbknaadoor", sum := "4cbfc6698ffa95f00a4227751423346ec37b21daf29eea03c14cf08013cde0eb", func := "engross/engrosslaw06.EventPuts", spec := "eventPuts", unfollowed := true, recurses := true, named := ["engross/event.names", "engross/event.reasons"], apart := false, laid := [("engross/event.names", laid_engross_event_names), ("engross/event.reasons", laid_engross_event_reasons)], narrowed := true }
def EventPutsUptoSaid : Prop := eventPutsUptoRow.holds Tryd.pinned (OpenSpec.upto eventPutsSpec)

/-- 'engrosslaw06.EventGets', WHERE WHAT IT READS IS OF BULK AT MOST 1048576: true; the input reads as it did. -/
def eventGetsUptoRow : OpenClaim := { program := "ytgjehokkmdbknaadoor", sum := "4cbfc6698ffa95f00a4227751423346ec37b21daf29eea03c14cf08013cde0eb", func := "engross/engrosslaw06.EventGets", spec := "eventGets", unfollowed := true, recurses := true, named := ["engross/event.names", "engross/event.reasons"], apart := false, laid := [("engross/event.names", laid_engross_event_names), ("engross/event.reasons", laid_engross_event_reasons)], narrowed := true }
def EventGetsUptoSaid : Prop := eventGetsUptoRow.holds Tryd.pinned (OpenSpec.upto eventGetsSpec)

/-- 'engrosslaw08.HeadChains', WHERE WHAT IT READS IS OF BULK AT MOST 1048576: true; the input reads as it did. -/
def headChainsUptoRow : OpenClaim := { program := "ytgjehokkmdbknaadoor", sum := "4cbfc6698ffa95f00a4227751423346ec37b21daf29eea03c14cf08013cde0eb", func := "engross/engrosslaw08.HeadChains", spec := "headChains", unfollowed := true, recurses := true, named := ["engross/sha.first", "engross/sha.constants"], apart := false, laid := [("engross/sha.constants", laid_engross_sha_constants), ("engross/sha.first", laid_engross_sha_first)], narrowed := true }
def HeadChainsUptoSaid : Prop := headChainsUptoRow.holds Tryd.pinned (OpenSpec.upto headChainsSpec)

end Rows
end Go.Proofs.YtgjehokkmdbknaaDoor
