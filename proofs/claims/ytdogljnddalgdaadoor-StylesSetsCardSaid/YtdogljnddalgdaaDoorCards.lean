/-
  DERIVED. GIVEN WITH THE SEED: THE CARDS: each row of YtdogljnddalgdaaDoorRows.lean that lists a variable, with what it lists TIED to the program's text (the seventh form; the later family's looks); each row that meets fmt, with fmt's text TOLD by the authors' own Lean function (tested against real Go, not proved from fmt's source: count such statements apart). THE CARD IS WHAT COUNTS. Prove the row's statement (the work); the ties are given (YtdogljnddalgdaaDoorTie.lean); close each card by the builder's one call (the guide's Derived/Test/ToyasCard.lean, 'card_holds'). Laid BY PROGRAM, IN A SANDBOX (cutbox-door.mjs). By AI agents, Wed Nov 11 2026. No macro, syntax, notation, axiom, sorry.
-/
import Derived.Test.YtdogljnddalgdaaDoorRows
import GoSem.ClaimSeven
namespace Go.Proofs.YtdogljnddalgdaaDoor
namespace Rows

/-- THE TIED CARD OF 'flonglaw04.EscapeScans'. -/
def escapeScansCard : Claim7 := { stood := { row := escapeScansRow, standIns := [], harness := (true, "6d8f3d2ee16da88328d35f575065c5a1bf3b6abae7abf90be03ffb1633820bb6"), looks := false }, kinds := [], alts := [], laidByText := true, laidKinds := [.mapped, .mapped], laidTests := true, laidLooks := .later }
def EscapeScansCardSaid : Prop := Claim7.holds Tryd.pinned (.plain (OpenSpec.ofChange escapeScansSpec)) escapeScansCard

/-- THE TIED CARD OF 'flonglaw04.EscapeNames'. -/
def escapeNamesCard : Claim7 := { stood := { row := escapeNamesRow, standIns := [], harness := (true, "6d8f3d2ee16da88328d35f575065c5a1bf3b6abae7abf90be03ffb1633820bb6"), looks := false }, kinds := [], alts := [], laidByText := true, laidKinds := [.mapped, .mapped], laidTests := true, laidLooks := .later }
def EscapeNamesCardSaid : Prop := Claim7.holds Tryd.pinned (.plain (OpenSpec.ofChange escapeNamesSpec)) escapeNamesCard

/-- THE TIED CARD OF 'flonglaw04.EscapeSafe'. -/
def escapeSafeCard : Claim7 := { stood := { row := escapeSafeRow, standIns := [], harness := (true, "6d8f3d2ee16da88328d35f575065c5a1bf3b6abae7abf90be03ffb1633820bb6"), looks := false }, kinds := [], alts := [], laidByText := true, laidKinds := [.mapped, .mapped], laidTests := true, laidLooks := .later }
def EscapeSafeCardSaid : Prop := Claim7.holds Tryd.pinned (.plain (OpenSpec.ofChange escapeSafeSpec)) escapeSafeCard

/-- THE TIED CARD OF 'flonglaw04.EscapeQuotes'. -/
def escapeQuotesCard : Claim7 := { stood := { row := escapeQuotesRow, standIns := [], harness := (true, "6d8f3d2ee16da88328d35f575065c5a1bf3b6abae7abf90be03ffb1633820bb6"), looks := false }, kinds := [], alts := [], laidByText := true, laidKinds := [.mapped, .mapped], laidTests := true, laidLooks := .later }
def EscapeQuotesCardSaid : Prop := Claim7.holds Tryd.pinned (.plain (OpenSpec.ofChange escapeQuotesSpec)) escapeQuotesCard

/-- THE TIED CARD OF 'flonglaw04.EscapeFonts'. -/
def escapeFontsCard : Claim7 := { stood := { row := escapeFontsRow, standIns := [], harness := (true, "6d8f3d2ee16da88328d35f575065c5a1bf3b6abae7abf90be03ffb1633820bb6"), looks := false }, kinds := [], alts := [], laidByText := true, laidKinds := [.mapped, .mapped], laidTests := true, laidLooks := .later }
def EscapeFontsCardSaid : Prop := Claim7.holds Tryd.pinned (.plain (OpenSpec.ofChange escapeFontsSpec)) escapeFontsCard

/-- THE TIED CARD OF 'flonglaw04.EscapeNamed'. -/
def escapeNamedCard : Claim7 := { stood := { row := escapeNamedRow, standIns := [], harness := (true, "6d8f3d2ee16da88328d35f575065c5a1bf3b6abae7abf90be03ffb1633820bb6"), looks := false }, kinds := [], alts := [], laidByText := true, laidKinds := [.mapped, .mapped], laidTests := true, laidLooks := .later }
def EscapeNamedCardSaid : Prop := Claim7.holds Tryd.pinned (.plain (OpenSpec.ofChange escapeNamedSpec)) escapeNamedCard

/-- THE TIED CARD OF 'flonglaw04.EscapeJoins'. -/
def escapeJoinsCard : Claim7 := { stood := { row := escapeJoinsRow, standIns := [], harness := (true, "6d8f3d2ee16da88328d35f575065c5a1bf3b6abae7abf90be03ffb1633820bb6"), looks := false }, kinds := [], alts := [], laidByText := true, laidKinds := [.mapped, .mapped], laidTests := true, laidLooks := .later }
def EscapeJoinsCardSaid : Prop := Claim7.holds Tryd.pinned (.plain (OpenSpec.ofChange escapeJoinsSpec)) escapeJoinsCard

/-- THE TIED CARD OF 'flonglaw06.StylesSets'. -/
def stylesSetsCard : Claim7 := { stood := { row := stylesSetsRow, standIns := [], harness := (true, "6d8f3d2ee16da88328d35f575065c5a1bf3b6abae7abf90be03ffb1633820bb6"), looks := false }, kinds := [], alts := [], laidByText := true, laidKinds := [.mapped, .mapped, .data], laidTests := true, laidLooks := .later }
def StylesSetsCardSaid : Prop := Claim7.holds Tryd.pinned (.plain (OpenSpec.ofChange stylesSetsSpec)) stylesSetsCard

/-- THE TIED CARD OF 'flonglaw06.StylesBack'. -/
def stylesBackCard : Claim7 := { stood := { row := stylesBackRow, standIns := [], harness := (true, "6d8f3d2ee16da88328d35f575065c5a1bf3b6abae7abf90be03ffb1633820bb6"), looks := false }, kinds := [], alts := [], laidByText := true, laidKinds := [.mapped, .mapped, .data], laidTests := true, laidLooks := .later }
def StylesBackCardSaid : Prop := Claim7.holds Tryd.pinned (.plain (OpenSpec.ofChange stylesBackSpec)) stylesBackCard

/-- THE TIED CARD OF 'flonglaw06.StylesLines'. -/
def stylesLinesCard : Claim7 := { stood := { row := stylesLinesRow, standIns := [], harness := (true, "6d8f3d2ee16da88328d35f575065c5a1bf3b6abae7abf90be03ffb1633820bb6"), looks := false }, kinds := [], alts := [], laidByText := true, laidKinds := [.mapped, .mapped, .data], laidTests := true, laidLooks := .later }
def StylesLinesCardSaid : Prop := Claim7.holds Tryd.pinned (.plain (OpenSpec.ofChange stylesLinesSpec)) stylesLinesCard

/-- THE TIED CARD OF 'flonglaw06.StylesJoins'. -/
def stylesJoinsCard : Claim7 := { stood := { row := stylesJoinsRow, standIns := [], harness := (true, "6d8f3d2ee16da88328d35f575065c5a1bf3b6abae7abf90be03ffb1633820bb6"), looks := false }, kinds := [], alts := [], laidByText := true, laidKinds := [.mapped, .mapped, .data], laidTests := true, laidLooks := .later }
def StylesJoinsCardSaid : Prop := Claim7.holds Tryd.pinned (.plain (OpenSpec.ofChange stylesJoinsSpec)) stylesJoinsCard

/-- THE SECOND FORM's CARD OF 'flonglaw04.EscapeScans'. -/
def escapeScansUptoCard : Claim7 := { stood := { row := escapeScansUptoRow, standIns := [], harness := (true, "6d8f3d2ee16da88328d35f575065c5a1bf3b6abae7abf90be03ffb1633820bb6"), looks := false }, kinds := [], alts := [], laidByText := true, laidKinds := [.mapped, .mapped], laidTests := true, laidLooks := .later }
def EscapeScansUptoCardSaid : Prop := Claim7.holds Tryd.pinned (.plain (OpenSpec.upto escapeScansSpec)) escapeScansUptoCard

/-- THE SECOND FORM's CARD OF 'flonglaw04.EscapeNames'. -/
def escapeNamesUptoCard : Claim7 := { stood := { row := escapeNamesUptoRow, standIns := [], harness := (true, "6d8f3d2ee16da88328d35f575065c5a1bf3b6abae7abf90be03ffb1633820bb6"), looks := false }, kinds := [], alts := [], laidByText := true, laidKinds := [.mapped, .mapped], laidTests := true, laidLooks := .later }
def EscapeNamesUptoCardSaid : Prop := Claim7.holds Tryd.pinned (.plain (OpenSpec.upto escapeNamesSpec)) escapeNamesUptoCard

/-- THE SECOND FORM's CARD OF 'flonglaw04.EscapeSafe'. -/
def escapeSafeUptoCard : Claim7 := { stood := { row := escapeSafeUptoRow, standIns := [], harness := (true, "6d8f3d2ee16da88328d35f575065c5a1bf3b6abae7abf90be03ffb1633820bb6"), looks := false }, kinds := [], alts := [], laidByText := true, laidKinds := [.mapped, .mapped], laidTests := true, laidLooks := .later }
def EscapeSafeUptoCardSaid : Prop := Claim7.holds Tryd.pinned (.plain (OpenSpec.upto escapeSafeSpec)) escapeSafeUptoCard

/-- THE SECOND FORM's CARD OF 'flonglaw04.EscapeQuotes'. -/
def escapeQuotesUptoCard : Claim7 := { stood := { row := escapeQuotesUptoRow, standIns := [], harness := (true, "6d8f3d2ee16da88328d35f575065c5a1bf3b6abae7abf90be03ffb1633820bb6"), looks := false }, kinds := [], alts := [], laidByText := true, laidKinds := [.mapped, .mapped], laidTests := true, laidLooks := .later }
def EscapeQuotesUptoCardSaid : Prop := Claim7.holds Tryd.pinned (.plain (OpenSpec.upto escapeQuotesSpec)) escapeQuotesUptoCard

/-- THE SECOND FORM's CARD OF 'flonglaw04.EscapeFonts'. -/
def escapeFontsUptoCard : Claim7 := { stood := { row := escapeFontsUptoRow, standIns := [], harness := (true, "6d8f3d2ee16da88328d35f575065c5a1bf3b6abae7abf90be03ffb1633820bb6"), looks := false }, kinds := [], alts := [], laidByText := true, laidKinds := [.mapped, .mapped], laidTests := true, laidLooks := .later }
def EscapeFontsUptoCardSaid : Prop := Claim7.holds Tryd.pinned (.plain (OpenSpec.upto escapeFontsSpec)) escapeFontsUptoCard

/-- THE SECOND FORM's CARD OF 'flonglaw04.EscapeNamed'. -/
def escapeNamedUptoCard : Claim7 := { stood := { row := escapeNamedUptoRow, standIns := [], harness := (true, "6d8f3d2ee16da88328d35f575065c5a1bf3b6abae7abf90be03ffb1633820bb6"), looks := false }, kinds := [], alts := [], laidByText := true, laidKinds := [.mapped, .mapped], laidTests := true, laidLooks := .later }
def EscapeNamedUptoCardSaid : Prop := Claim7.holds Tryd.pinned (.plain (OpenSpec.upto escapeNamedSpec)) escapeNamedUptoCard

/-- THE SECOND FORM's CARD OF 'flonglaw04.EscapeJoins'. -/
def escapeJoinsUptoCard : Claim7 := { stood := { row := escapeJoinsUptoRow, standIns := [], harness := (true, "6d8f3d2ee16da88328d35f575065c5a1bf3b6abae7abf90be03ffb1633820bb6"), looks := false }, kinds := [], alts := [], laidByText := true, laidKinds := [.mapped, .mapped], laidTests := true, laidLooks := .later }
def EscapeJoinsUptoCardSaid : Prop := Claim7.holds Tryd.pinned (.plain (OpenSpec.upto escapeJoinsSpec)) escapeJoinsUptoCard

/-- THE SECOND FORM's CARD OF 'flonglaw06.StylesSets'. -/
def stylesSetsUptoCard : Claim7 := { stood := { row := stylesSetsUptoRow, standIns := [], harness := (true, "6d8f3d2ee16da88328d35f575065c5a1bf3b6abae7abf90be03ffb1633820bb6"), looks := false }, kinds := [], alts := [], laidByText := true, laidKinds := [.mapped, .mapped, .data], laidTests := true, laidLooks := .later }
def StylesSetsUptoCardSaid : Prop := Claim7.holds Tryd.pinned (.plain (OpenSpec.upto stylesSetsSpec)) stylesSetsUptoCard

/-- THE SECOND FORM's CARD OF 'flonglaw06.StylesBack'. -/
def stylesBackUptoCard : Claim7 := { stood := { row := stylesBackUptoRow, standIns := [], harness := (true, "6d8f3d2ee16da88328d35f575065c5a1bf3b6abae7abf90be03ffb1633820bb6"), looks := false }, kinds := [], alts := [], laidByText := true, laidKinds := [.mapped, .mapped, .data], laidTests := true, laidLooks := .later }
def StylesBackUptoCardSaid : Prop := Claim7.holds Tryd.pinned (.plain (OpenSpec.upto stylesBackSpec)) stylesBackUptoCard

/-- THE SECOND FORM's CARD OF 'flonglaw06.StylesLines'. -/
def stylesLinesUptoCard : Claim7 := { stood := { row := stylesLinesUptoRow, standIns := [], harness := (true, "6d8f3d2ee16da88328d35f575065c5a1bf3b6abae7abf90be03ffb1633820bb6"), looks := false }, kinds := [], alts := [], laidByText := true, laidKinds := [.mapped, .mapped, .data], laidTests := true, laidLooks := .later }
def StylesLinesUptoCardSaid : Prop := Claim7.holds Tryd.pinned (.plain (OpenSpec.upto stylesLinesSpec)) stylesLinesUptoCard

/-- THE SECOND FORM's CARD OF 'flonglaw06.StylesJoins'. -/
def stylesJoinsUptoCard : Claim7 := { stood := { row := stylesJoinsUptoRow, standIns := [], harness := (true, "6d8f3d2ee16da88328d35f575065c5a1bf3b6abae7abf90be03ffb1633820bb6"), looks := false }, kinds := [], alts := [], laidByText := true, laidKinds := [.mapped, .mapped, .data], laidTests := true, laidLooks := .later }
def StylesJoinsUptoCardSaid : Prop := Claim7.holds Tryd.pinned (.plain (OpenSpec.upto stylesJoinsSpec)) stylesJoinsUptoCard
end Rows
end Go.Proofs.YtdogljnddalgdaaDoor
