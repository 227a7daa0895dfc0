/-
  DERIVED. GIVEN WITH THE SEED: THE PROGRAM's TIES (one call each: nine closed facts by the kernel) AND EACH ROW's TIE, after the 31st guide's Derived/Test/Toyas{Tie, Card}.lean. No idea stands in it: it is a product of the set-up. Laid BY PROGRAM, IN A SANDBOX (cutbox-door.mjs). By AI agents, Wed Nov 11 2026. No macro, syntax, notation, axiom, sorry.
-/
import Derived.Test.YtkbknlcdinkokaaDoorRows
import Derived.LaidByTextLater
import Derived.SevenTiedAt
import Derived.LaidSub
import Derived.LaidOnce
namespace Go.Proofs.YtkbknlcdinkokaaDoor
open Go
set_option maxRecDepth 100000
theorem seatTie1 : Tryd.prog.laidByTextLater [("flong/escape.names", Rows.laid_flong_escape_names), ("flong/escape.fonts", Rows.laid_flong_escape_fonts), ("flong/styles.gap", Rows.laid_flong_styles_gap)] [.mapped, .mapped, .data] true :=
  Program.laidByTextLater_by_one 219 8 3 (by kernel_rfl) (by kernel_rfl) (by kernel_rfl) (by kernel_rfl) (by kernel_rfl) (by kernel_rfl) (fun _ _ => by kernel_rfl)
theorem noOwnUnsafe : Tryd.pinned.checked.prog.headLifts.contains "ownunsafe" = false := by kernel_rfl
theorem tie : Tryd.prog.laidByTextLater [("flong/escape.names", Rows.laid_flong_escape_names), ("flong/escape.fonts", Rows.laid_flong_escape_fonts), ("flong/styles.gap", Rows.laid_flong_styles_gap)] [.mapped, .mapped, .data] true :=
  Program.laidByTextLater.sub seatTie1 ["flong/escape.names", "flong/escape.fonts", "flong/styles.gap"] (by kernel_rfl) (by kernel_rfl)
theorem stylesLines_row_tie : Rows.stylesLinesRow.laidByTextAt .later Tryd.pinned [.mapped, .mapped, .data] true :=
  OpenClaim.laidByTextAt_later rfl rfl tie noOwnUnsafe
theorem stylesJoins_row_tie : Rows.stylesJoinsRow.laidByTextAt .later Tryd.pinned [.mapped, .mapped, .data] true :=
  OpenClaim.laidByTextAt_later rfl rfl tie noOwnUnsafe
theorem mdocJoins_row_tie : Rows.mdocJoinsRow.laidByTextAt .later Tryd.pinned [.mapped, .mapped, .data] true :=
  OpenClaim.laidByTextAt_later rfl rfl tie noOwnUnsafe
theorem mdocSigns_row_tie : Rows.mdocSignsRow.laidByTextAt .later Tryd.pinned [.mapped, .mapped, .data] true :=
  OpenClaim.laidByTextAt_later rfl rfl tie noOwnUnsafe
theorem stylesLinesUpto_row_tie : Rows.stylesLinesUptoRow.laidByTextAt .later Tryd.pinned [.mapped, .mapped, .data] true :=
  OpenClaim.laidByTextAt_later rfl rfl tie noOwnUnsafe
theorem stylesJoinsUpto_row_tie : Rows.stylesJoinsUptoRow.laidByTextAt .later Tryd.pinned [.mapped, .mapped, .data] true :=
  OpenClaim.laidByTextAt_later rfl rfl tie noOwnUnsafe
theorem mdocJoinsUpto_row_tie : Rows.mdocJoinsUptoRow.laidByTextAt .later Tryd.pinned [.mapped, .mapped, .data] true :=
  OpenClaim.laidByTextAt_later rfl rfl tie noOwnUnsafe
theorem mdocSignsUpto_row_tie : Rows.mdocSignsUptoRow.laidByTextAt .later Tryd.pinned [.mapped, .mapped, .data] true :=
  OpenClaim.laidByTextAt_later rfl rfl tie noOwnUnsafe
end Go.Proofs.YtkbknlcdinkokaaDoor
