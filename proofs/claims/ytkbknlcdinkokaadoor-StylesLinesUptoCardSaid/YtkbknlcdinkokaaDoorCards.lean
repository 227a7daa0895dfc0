/-
  DERIVED. GIVEN WITH THE SEED: THE CARDS: each row of YtkbknlcdinkokaaDoorRows.lean that lists a variable, with what it lists TIED to the program's text (the seventh form; the later family's looks); each row that meets fmt, with fmt's text TOLD by the authors' own Lean function (tested against real Go, not proved from fmt's source: count such statements apart). THE CARD IS WHAT COUNTS. Prove the row's statement (the work); the ties are given (YtkbknlcdinkokaaDoorTie.lean); close each card by the builder's one call (the guide's Derived/Test/ToyasCard.lean, 'card_holds'). Laid BY PROGRAM, IN A SANDBOX (cutbox-door.mjs). By AI agents, Wed Nov 11 2026. No macro, syntax, notation, axiom, sorry.
-/
import Derived.Test.YtkbknlcdinkokaaDoorRows
import GoSem.ClaimSeven
namespace Go.Proofs.YtkbknlcdinkokaaDoor
namespace Rows

/-- THE TIED CARD OF 'flonglaw06.StylesLines'. -/
def stylesLinesCard : Claim7 := { stood := { row := stylesLinesRow, standIns := [], harness := (true, "f36ddc1656b8c1551716ca9a7f6f9593e1747a7fc9dfea8642a262775a0be8ce"), looks := false }, kinds := [], alts := [], laidByText := true, laidKinds := [.mapped, .mapped, .data], laidTests := true, laidLooks := .later }
def StylesLinesCardSaid : Prop := Claim7.holds Tryd.pinned (.plain (OpenSpec.ofChange stylesLinesSpec)) stylesLinesCard

/-- THE TIED CARD OF 'flonglaw06.StylesJoins'. -/
def stylesJoinsCard : Claim7 := { stood := { row := stylesJoinsRow, standIns := [], harness := (true, "f36ddc1656b8c1551716ca9a7f6f9593e1747a7fc9dfea8642a262775a0be8ce"), looks := false }, kinds := [], alts := [], laidByText := true, laidKinds := [.mapped, .mapped, .data], laidTests := true, laidLooks := .later }
def StylesJoinsCardSaid : Prop := Claim7.holds Tryd.pinned (.plain (OpenSpec.ofChange stylesJoinsSpec)) stylesJoinsCard

/-- THE TIED CARD OF 'flonglaw11.MdocJoins'. -/
def mdocJoinsCard : Claim7 := { stood := { row := mdocJoinsRow, standIns := [], harness := (true, "f36ddc1656b8c1551716ca9a7f6f9593e1747a7fc9dfea8642a262775a0be8ce"), looks := false }, kinds := [], alts := [], laidByText := true, laidKinds := [.mapped, .mapped, .data], laidTests := true, laidLooks := .later }
def MdocJoinsCardSaid : Prop := Claim7.holds Tryd.pinned (.plain (OpenSpec.ofChange mdocJoinsSpec)) mdocJoinsCard

/-- THE TIED CARD OF 'flonglaw11.MdocSigns'. -/
def mdocSignsCard : Claim7 := { stood := { row := mdocSignsRow, standIns := [], harness := (true, "f36ddc1656b8c1551716ca9a7f6f9593e1747a7fc9dfea8642a262775a0be8ce"), looks := false }, kinds := [], alts := [], laidByText := true, laidKinds := [.mapped, .mapped, .data], laidTests := true, laidLooks := .later }
def MdocSignsCardSaid : Prop := Claim7.holds Tryd.pinned (.plain (OpenSpec.ofChange mdocSignsSpec)) mdocSignsCard

/-- THE SECOND FORM's CARD OF 'flonglaw06.StylesLines'. -/
def stylesLinesUptoCard : Claim7 := { stood := { row := stylesLinesUptoRow, standIns := [], harness := (true, "f36ddc1656b8c1551716ca9a7f6f9593e1747a7fc9dfea8642a262775a0be8ce"), looks := false }, kinds := [], alts := [], laidByText := true, laidKinds := [.mapped, .mapped, .data], laidTests := true, laidLooks := .later }
def StylesLinesUptoCardSaid : Prop := Claim7.holds Tryd.pinned (.plain (OpenSpec.upto stylesLinesSpec)) stylesLinesUptoCard

/-- THE SECOND FORM's CARD OF 'flonglaw06.StylesJoins'. -/
def stylesJoinsUptoCard : Claim7 := { stood := { row := stylesJoinsUptoRow, standIns := [], harness := (true, "f36ddc1656b8c1551716ca9a7f6f9593e1747a7fc9dfea8642a262775a0be8ce"), looks := false }, kinds := [], alts := [], laidByText := true, laidKinds := [.mapped, .mapped, .data], laidTests := true, laidLooks := .later }
def StylesJoinsUptoCardSaid : Prop := Claim7.holds Tryd.pinned (.plain (OpenSpec.upto stylesJoinsSpec)) stylesJoinsUptoCard

/-- THE SECOND FORM's CARD OF 'flonglaw11.MdocJoins'. -/
def mdocJoinsUptoCard : Claim7 := { stood := { row := mdocJoinsUptoRow, standIns := [], harness := (true, "f36ddc1656b8c1551716ca9a7f6f9593e1747a7fc9dfea8642a262775a0be8ce"), looks := false }, kinds := [], alts := [], laidByText := true, laidKinds := [.mapped, .mapped, .data], laidTests := true, laidLooks := .later }
def MdocJoinsUptoCardSaid : Prop := Claim7.holds Tryd.pinned (.plain (OpenSpec.upto mdocJoinsSpec)) mdocJoinsUptoCard

/-- THE SECOND FORM's CARD OF 'flonglaw11.MdocSigns'. -/
def mdocSignsUptoCard : Claim7 := { stood := { row := mdocSignsUptoRow, standIns := [], harness := (true, "f36ddc1656b8c1551716ca9a7f6f9593e1747a7fc9dfea8642a262775a0be8ce"), looks := false }, kinds := [], alts := [], laidByText := true, laidKinds := [.mapped, .mapped, .data], laidTests := true, laidLooks := .later }
def MdocSignsUptoCardSaid : Prop := Claim7.holds Tryd.pinned (.plain (OpenSpec.upto mdocSignsSpec)) mdocSignsUptoCard
end Rows
end Go.Proofs.YtkbknlcdinkokaaDoor
