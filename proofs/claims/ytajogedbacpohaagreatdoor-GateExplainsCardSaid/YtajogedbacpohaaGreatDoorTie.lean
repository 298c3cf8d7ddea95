/-
  DERIVED. GIVEN WITH THE SEED: THE PROGRAM's TIES (one call each: nine closed facts by the kernel) AND EACH ROW's TIE, after the 31st guide's Derived/Test/Toyas{Tie, Card}.lean. No idea stands in it: it is a product of the set-up. Laid BY PROGRAM, IN A SANDBOX (cutbox-door.mjs). By AI agents, Wed Nov 11 2026. No macro, syntax, notation, axiom, sorry.
-/
import Derived.Test.YtajogedbacpohaaGreatDoorRows
import Derived.LaidByTextLater
import Derived.SevenTiedAt
import Derived.LaidSub
import Derived.LaidOnce
namespace Go.Proofs.YtajogedbacpohaaGreatDoor
open Go
set_option maxRecDepth 100000
theorem seatTie1 : Tryz.prog.laidByTextLater [("engross/rules.table", Rows.laid_engross_rules_table), ("engross/rules.relations", Rows.laid_engross_rules_relations)] [.data, .funcs] true :=
  Program.laidByTextLater_by_one 72 8 73 (by kernel_rfl) (by kernel_rfl) (by kernel_rfl) (by kernel_rfl) (by kernel_rfl) (by kernel_rfl) (fun _ _ => by kernel_rfl)
theorem seatTie2 : Tryz.prog.laidByTextLater [("engross/event.names", Rows.laid_engross_event_names), ("engross/event.reasons", Rows.laid_engross_event_reasons), ("math/bits.deBruijn32tab", Rows.laid_math_bits_deBruijn32tab), ("math/bits.deBruijn64tab", Rows.laid_math_bits_deBruijn64tab), ("internal/strconv.uint64pow10", Rows.laid_internal_strconv_uint64pow10), ("engross/rules.table", Rows.laid_engross_rules_table), ("engross/rules.relations", Rows.laid_engross_rules_relations)] [.data, .data, .data, .data, .data, .data, .funcs] true :=
  Program.laidByTextLater_by_one 72 8 73 (by kernel_rfl) (by kernel_rfl) (by kernel_rfl) (by kernel_rfl) (by kernel_rfl) (by kernel_rfl) (fun _ _ => by kernel_rfl)
theorem noOwnUnsafe : Tryz.pinned.checked.prog.headLifts.contains "ownunsafe" = false := by kernel_rfl
theorem tie : Tryz.prog.laidByTextLater [("engross/rules.table", Rows.laid_engross_rules_table), ("engross/rules.relations", Rows.laid_engross_rules_relations)] [.data, .funcs] true :=
  Program.laidByTextLater.sub seatTie1 ["engross/rules.table", "engross/rules.relations"] (by kernel_rfl) (by kernel_rfl)
theorem gateSteps_row_tie : Rows.gateStepsRow.laidByTextAt .later Tryz.pinned [.data, .funcs] true :=
  OpenClaim.laidByTextAt_later rfl rfl tie noOwnUnsafe
theorem foldRuns_row_tie : Rows.foldRunsRow.laidByTextAt .later Tryz.pinned [.data, .funcs] true :=
  OpenClaim.laidByTextAt_later rfl rfl tie noOwnUnsafe
theorem foldBooks_row_tie : Rows.foldBooksRow.laidByTextAt .later Tryz.pinned [.data, .funcs] true :=
  OpenClaim.laidByTextAt_later rfl rfl tie noOwnUnsafe
theorem foldChecks_row_tie : Rows.foldChecksRow.laidByTextAt .later Tryz.pinned [.data, .funcs] true :=
  OpenClaim.laidByTextAt_later rfl rfl tie noOwnUnsafe
theorem tie2 : Tryz.prog.laidByTextLater [("engross/event.names", Rows.laid_engross_event_names), ("engross/event.reasons", Rows.laid_engross_event_reasons), ("math/bits.deBruijn32tab", Rows.laid_math_bits_deBruijn32tab), ("math/bits.deBruijn64tab", Rows.laid_math_bits_deBruijn64tab), ("internal/strconv.uint64pow10", Rows.laid_internal_strconv_uint64pow10), ("engross/rules.table", Rows.laid_engross_rules_table), ("engross/rules.relations", Rows.laid_engross_rules_relations)] [.data, .data, .data, .data, .data, .data, .funcs] true :=
  Program.laidByTextLater.sub seatTie2 ["engross/event.names", "engross/event.reasons", "math/bits.deBruijn32tab", "math/bits.deBruijn64tab", "internal/strconv.uint64pow10", "engross/rules.table", "engross/rules.relations"] (by kernel_rfl) (by kernel_rfl)
theorem gateExplains_row_tie : Rows.gateExplainsRow.laidByTextAt .later Tryz.pinned [.data, .data, .data, .data, .data, .data, .funcs] true :=
  OpenClaim.laidByTextAt_later rfl rfl tie2 noOwnUnsafe
theorem gateStepsUpto_row_tie : Rows.gateStepsUptoRow.laidByTextAt .later Tryz.pinned [.data, .funcs] true :=
  OpenClaim.laidByTextAt_later rfl rfl tie noOwnUnsafe
theorem foldRunsUpto_row_tie : Rows.foldRunsUptoRow.laidByTextAt .later Tryz.pinned [.data, .funcs] true :=
  OpenClaim.laidByTextAt_later rfl rfl tie noOwnUnsafe
theorem foldBooksUpto_row_tie : Rows.foldBooksUptoRow.laidByTextAt .later Tryz.pinned [.data, .funcs] true :=
  OpenClaim.laidByTextAt_later rfl rfl tie noOwnUnsafe
theorem foldChecksUpto_row_tie : Rows.foldChecksUptoRow.laidByTextAt .later Tryz.pinned [.data, .funcs] true :=
  OpenClaim.laidByTextAt_later rfl rfl tie noOwnUnsafe
theorem gateExplainsUpto_row_tie : Rows.gateExplainsUptoRow.laidByTextAt .later Tryz.pinned [.data, .data, .data, .data, .data, .data, .funcs] true :=
  OpenClaim.laidByTextAt_later rfl rfl tie2 noOwnUnsafe
end Go.Proofs.YtajogedbacpohaaGreatDoor
