/-
  DERIVED. GIVEN WITH THE SEED: THE CARDS: each row of YtlbjfjaleefiiaaDoorRows.lean that lists a variable, with what it lists TIED to the program's text (the seventh form; the later family's looks); each row that meets fmt, with fmt's text TOLD by the authors' own Lean function (tested against real Go, not proved from fmt's source: count such statements apart). THE CARD IS WHAT COUNTS. Prove the row's statement (the work); the ties are given (YtlbjfjaleefiiaaDoorTie.lean); close each card by the builder's one call (the guide's Derived/Test/ToyasCard.lean, 'card_holds'). Laid BY PROGRAM, IN A SANDBOX (cutbox-door.mjs). By AI agents, Wed Nov 11 2026. No macro, syntax, notation, axiom, sorry.
-/
import Derived.Test.YtlbjfjaleefiiaaDoorRows
import GoSem.ClaimSeven
namespace Go.Proofs.YtlbjfjaleefiiaaDoor
namespace Rows

/-- THE TIED CARD OF 'flonglaw08.BuildTexts'. -/
def buildTextsCard : Claim7 := { stood := { row := buildTextsRow, standIns := [], harness := (true, "cd856e115a153bd8f4eae90433a73bc231b85a99bb9e98d44cce4fe98e5b9ad0"), looks := false }, kinds := [], alts := [], laidByText := true, laidKinds := [.data, .data, .data, .pinned], laidTests := true, laidLooks := .later }
def BuildTextsCardSaid : Prop := Claim7.holds Tryd.pinned (.plain (OpenSpec.ofChange buildTextsSpec)) buildTextsCard

/-- THE TIED CARD OF 'flonglaw08.BuildSteps'. -/
def buildStepsCard : Claim7 := { stood := { row := buildStepsRow, standIns := [], harness := (true, "cd856e115a153bd8f4eae90433a73bc231b85a99bb9e98d44cce4fe98e5b9ad0"), looks := false }, kinds := [], alts := [], laidByText := true, laidKinds := [.data, .data, .data, .pinned], laidTests := true, laidLooks := .later }
def BuildStepsCardSaid : Prop := Claim7.holds Tryd.pinned (.plain (OpenSpec.ofChange buildStepsSpec)) buildStepsCard

/-- THE TIED CARD OF 'flonglaw08.BuildOwn'. -/
def buildOwnCard : Claim7 := { stood := { row := buildOwnRow, standIns := [], harness := (true, "cd856e115a153bd8f4eae90433a73bc231b85a99bb9e98d44cce4fe98e5b9ad0"), looks := false }, kinds := [], alts := [], laidByText := true, laidKinds := [.data, .data, .data, .pinned], laidTests := true, laidLooks := .later }
def BuildOwnCardSaid : Prop := Claim7.holds Tryd.pinned (.plain (OpenSpec.ofChange buildOwnSpec)) buildOwnCard

/-- THE TIED CARD OF 'flonglaw08.BuildEnds'. -/
def buildEndsCard : Claim7 := { stood := { row := buildEndsRow, standIns := [], harness := (true, "cd856e115a153bd8f4eae90433a73bc231b85a99bb9e98d44cce4fe98e5b9ad0"), looks := false }, kinds := [], alts := [], laidByText := true, laidKinds := [.data, .data, .data, .pinned], laidTests := true, laidLooks := .later }
def BuildEndsCardSaid : Prop := Claim7.holds Tryd.pinned (.plain (OpenSpec.ofChange buildEndsSpec)) buildEndsCard

/-- THE TIED CARD OF 'flonglaw08.BuildCloses'. -/
def buildClosesCard : Claim7 := { stood := { row := buildClosesRow, standIns := [], harness := (true, "cd856e115a153bd8f4eae90433a73bc231b85a99bb9e98d44cce4fe98e5b9ad0"), looks := false }, kinds := [], alts := [], laidByText := true, laidKinds := [.data, .data, .data, .pinned], laidTests := true, laidLooks := .later }
def BuildClosesCardSaid : Prop := Claim7.holds Tryd.pinned (.plain (OpenSpec.ofChange buildClosesSpec)) buildClosesCard

/-- THE SECOND FORM's CARD OF 'flonglaw08.BuildTexts'. -/
def buildTextsUptoCard : Claim7 := { stood := { row := buildTextsUptoRow, standIns := [], harness := (true, "cd856e115a153bd8f4eae90433a73bc231b85a99bb9e98d44cce4fe98e5b9ad0"), looks := false }, kinds := [], alts := [], laidByText := true, laidKinds := [.data, .data, .data, .pinned], laidTests := true, laidLooks := .later }
def BuildTextsUptoCardSaid : Prop := Claim7.holds Tryd.pinned (.plain (OpenSpec.upto buildTextsSpec)) buildTextsUptoCard

/-- THE SECOND FORM's CARD OF 'flonglaw08.BuildSteps'. -/
def buildStepsUptoCard : Claim7 := { stood := { row := buildStepsUptoRow, standIns := [], harness := (true, "cd856e115a153bd8f4eae90433a73bc231b85a99bb9e98d44cce4fe98e5b9ad0"), looks := false }, kinds := [], alts := [], laidByText := true, laidKinds := [.data, .data, .data, .pinned], laidTests := true, laidLooks := .later }
def BuildStepsUptoCardSaid : Prop := Claim7.holds Tryd.pinned (.plain (OpenSpec.upto buildStepsSpec)) buildStepsUptoCard

/-- THE SECOND FORM's CARD OF 'flonglaw08.BuildOwn'. -/
def buildOwnUptoCard : Claim7 := { stood := { row := buildOwnUptoRow, standIns := [], harness := (true, "cd856e115a153bd8f4eae90433a73bc231b85a99bb9e98d44cce4fe98e5b9ad0"), looks := false }, kinds := [], alts := [], laidByText := true, laidKinds := [.data, .data, .data, .pinned], laidTests := true, laidLooks := .later }
def BuildOwnUptoCardSaid : Prop := Claim7.holds Tryd.pinned (.plain (OpenSpec.upto buildOwnSpec)) buildOwnUptoCard

/-- THE SECOND FORM's CARD OF 'flonglaw08.BuildEnds'. -/
def buildEndsUptoCard : Claim7 := { stood := { row := buildEndsUptoRow, standIns := [], harness := (true, "cd856e115a153bd8f4eae90433a73bc231b85a99bb9e98d44cce4fe98e5b9ad0"), looks := false }, kinds := [], alts := [], laidByText := true, laidKinds := [.data, .data, .data, .pinned], laidTests := true, laidLooks := .later }
def BuildEndsUptoCardSaid : Prop := Claim7.holds Tryd.pinned (.plain (OpenSpec.upto buildEndsSpec)) buildEndsUptoCard

/-- THE SECOND FORM's CARD OF 'flonglaw08.BuildCloses'. -/
def buildClosesUptoCard : Claim7 := { stood := { row := buildClosesUptoRow, standIns := [], harness := (true, "cd856e115a153bd8f4eae90433a73bc231b85a99bb9e98d44cce4fe98e5b9ad0"), looks := false }, kinds := [], alts := [], laidByText := true, laidKinds := [.data, .data, .data, .pinned], laidTests := true, laidLooks := .later }
def BuildClosesUptoCardSaid : Prop := Claim7.holds Tryd.pinned (.plain (OpenSpec.upto buildClosesSpec)) buildClosesUptoCard
end Rows
end Go.Proofs.YtlbjfjaleefiiaaDoor
