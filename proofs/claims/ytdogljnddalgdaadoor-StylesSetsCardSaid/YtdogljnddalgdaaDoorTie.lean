/-
  DERIVED. GIVEN WITH THE SEED: THE PROGRAM's TIES (one call each: nine closed facts by the kernel) AND EACH ROW's TIE, after the 31st guide's Derived/Test/Toyas{Tie, Card}.lean. No idea stands in it: it is a product of the set-up. Laid BY PROGRAM, IN A SANDBOX (cutbox-door.mjs). By AI agents, Wed Nov 11 2026. No macro, syntax, notation, axiom, sorry.
-/
import Derived.Test.YtdogljnddalgdaaDoorRows
import Derived.LaidByTextLater
import Derived.SevenTiedAt
import Derived.LaidSub
import Derived.LaidOnce
namespace Go.Proofs.YtdogljnddalgdaaDoor
open Go
set_option maxRecDepth 100000
theorem seatTie1 : Tryd.prog.laidByTextLater [("flong/escape.names", Rows.laid_flong_escape_names), ("flong/escape.fonts", Rows.laid_flong_escape_fonts), ("flong/styles.gap", Rows.laid_flong_styles_gap)] [.mapped, .mapped, .data] true :=
  Program.laidByTextLater_by_one 219 8 3 (by kernel_rfl) (by kernel_rfl) (by kernel_rfl) (by kernel_rfl) (by kernel_rfl) (by kernel_rfl) (fun _ _ => by kernel_rfl)
theorem noOwnUnsafe : Tryd.pinned.checked.prog.headLifts.contains "ownunsafe" = false := by kernel_rfl
theorem tie : Tryd.prog.laidByTextLater [("flong/escape.names", Rows.laid_flong_escape_names), ("flong/escape.fonts", Rows.laid_flong_escape_fonts)] [.mapped, .mapped] true :=
  Program.laidByTextLater.sub seatTie1 ["flong/escape.names", "flong/escape.fonts"] (by kernel_rfl) (by kernel_rfl)
theorem escapeScans_row_tie : Rows.escapeScansRow.laidByTextAt .later Tryd.pinned [.mapped, .mapped] true :=
  OpenClaim.laidByTextAt_later rfl rfl tie noOwnUnsafe
theorem escapeNames_row_tie : Rows.escapeNamesRow.laidByTextAt .later Tryd.pinned [.mapped, .mapped] true :=
  OpenClaim.laidByTextAt_later rfl rfl tie noOwnUnsafe
theorem escapeSafe_row_tie : Rows.escapeSafeRow.laidByTextAt .later Tryd.pinned [.mapped, .mapped] true :=
  OpenClaim.laidByTextAt_later rfl rfl tie noOwnUnsafe
theorem escapeQuotes_row_tie : Rows.escapeQuotesRow.laidByTextAt .later Tryd.pinned [.mapped, .mapped] true :=
  OpenClaim.laidByTextAt_later rfl rfl tie noOwnUnsafe
theorem escapeFonts_row_tie : Rows.escapeFontsRow.laidByTextAt .later Tryd.pinned [.mapped, .mapped] true :=
  OpenClaim.laidByTextAt_later rfl rfl tie noOwnUnsafe
theorem escapeNamed_row_tie : Rows.escapeNamedRow.laidByTextAt .later Tryd.pinned [.mapped, .mapped] true :=
  OpenClaim.laidByTextAt_later rfl rfl tie noOwnUnsafe
theorem escapeJoins_row_tie : Rows.escapeJoinsRow.laidByTextAt .later Tryd.pinned [.mapped, .mapped] true :=
  OpenClaim.laidByTextAt_later rfl rfl tie noOwnUnsafe
theorem tie2 : Tryd.prog.laidByTextLater [("flong/escape.names", Rows.laid_flong_escape_names), ("flong/escape.fonts", Rows.laid_flong_escape_fonts), ("flong/styles.gap", Rows.laid_flong_styles_gap)] [.mapped, .mapped, .data] true :=
  Program.laidByTextLater.sub seatTie1 ["flong/escape.names", "flong/escape.fonts", "flong/styles.gap"] (by kernel_rfl) (by kernel_rfl)
theorem stylesSets_row_tie : Rows.stylesSetsRow.laidByTextAt .later Tryd.pinned [.mapped, .mapped, .data] true :=
  OpenClaim.laidByTextAt_later rfl rfl tie2 noOwnUnsafe
theorem stylesBack_row_tie : Rows.stylesBackRow.laidByTextAt .later Tryd.pinned [.mapped, .mapped, .data] true :=
  OpenClaim.laidByTextAt_later rfl rfl tie2 noOwnUnsafe
theorem stylesLines_row_tie : Rows.stylesLinesRow.laidByTextAt .later Tryd.pinned [.mapped, .mapped, .data] true :=
  OpenClaim.laidByTextAt_later rfl rfl tie2 noOwnUnsafe
theorem stylesJoins_row_tie : Rows.stylesJoinsRow.laidByTextAt .later Tryd.pinned [.mapped, .mapped, .data] true :=
  OpenClaim.laidByTextAt_later rfl rfl tie2 noOwnUnsafe
theorem escapeScansUpto_row_tie : Rows.escapeScansUptoRow.laidByTextAt .later Tryd.pinned [.mapped, .mapped] true :=
  OpenClaim.laidByTextAt_later rfl rfl tie noOwnUnsafe
theorem escapeNamesUpto_row_tie : Rows.escapeNamesUptoRow.laidByTextAt .later Tryd.pinned [.mapped, .mapped] true :=
  OpenClaim.laidByTextAt_later rfl rfl tie noOwnUnsafe
theorem escapeSafeUpto_row_tie : Rows.escapeSafeUptoRow.laidByTextAt .later Tryd.pinned [.mapped, .mapped] true :=
  OpenClaim.laidByTextAt_later rfl rfl tie noOwnUnsafe
theorem escapeQuotesUpto_row_tie : Rows.escapeQuotesUptoRow.laidByTextAt .later Tryd.pinned [.mapped, .mapped] true :=
  OpenClaim.laidByTextAt_later rfl rfl tie noOwnUnsafe
theorem escapeFontsUpto_row_tie : Rows.escapeFontsUptoRow.laidByTextAt .later Tryd.pinned [.mapped, .mapped] true :=
  OpenClaim.laidByTextAt_later rfl rfl tie noOwnUnsafe
theorem escapeNamedUpto_row_tie : Rows.escapeNamedUptoRow.laidByTextAt .later Tryd.pinned [.mapped, .mapped] true :=
  OpenClaim.laidByTextAt_later rfl rfl tie noOwnUnsafe
theorem escapeJoinsUpto_row_tie : Rows.escapeJoinsUptoRow.laidByTextAt .later Tryd.pinned [.mapped, .mapped] true :=
  OpenClaim.laidByTextAt_later rfl rfl tie noOwnUnsafe
theorem stylesSetsUpto_row_tie : Rows.stylesSetsUptoRow.laidByTextAt .later Tryd.pinned [.mapped, .mapped, .data] true :=
  OpenClaim.laidByTextAt_later rfl rfl tie2 noOwnUnsafe
theorem stylesBackUpto_row_tie : Rows.stylesBackUptoRow.laidByTextAt .later Tryd.pinned [.mapped, .mapped, .data] true :=
  OpenClaim.laidByTextAt_later rfl rfl tie2 noOwnUnsafe
theorem stylesLinesUpto_row_tie : Rows.stylesLinesUptoRow.laidByTextAt .later Tryd.pinned [.mapped, .mapped, .data] true :=
  OpenClaim.laidByTextAt_later rfl rfl tie2 noOwnUnsafe
theorem stylesJoinsUpto_row_tie : Rows.stylesJoinsUptoRow.laidByTextAt .later Tryd.pinned [.mapped, .mapped, .data] true :=
  OpenClaim.laidByTextAt_later rfl rfl tie2 noOwnUnsafe
end Go.Proofs.YtdogljnddalgdaaDoor
