/-
  DERIVED. GIVEN WITH THE SEED: THE CARDS: each row of YtkjgkhgklkdbjaaGreatDoorRows.lean that lists a variable, with what it lists TIED to the program's text (the seventh form; the later family's looks); each row that meets fmt, with fmt's text TOLD by the authors' own Lean function (tested against real Go, not proved from fmt's source: count such statements apart). THE CARD IS WHAT COUNTS. Prove the row's statement (the work); the ties are given (YtkjgkhgklkdbjaaGreatDoorTie.lean); close each card by the builder's one call (the guide's Derived/Test/ToyasCard.lean, 'card_holds'). Laid BY PROGRAM, IN A SANDBOX (cutbox-door.mjs). By AI agents, Wed Nov 11 2026. No macro, syntax, notation, axiom, sorry.
-/
import Derived.Test.YtkjgkhgklkdbjaaGreatDoorRows
import GoSem.ClaimSeven
namespace Go.Proofs.YtkjgkhgklkdbjaaGreatDoor
namespace Rows

/-- THE TIED CARD OF 'flonglaw11.MdocLists'. -/
def mdocListsCard : Claim7 := { stood := { row := mdocListsRow, standIns := [], harness := (true, "e6474120018c8c0a81e0ae395acec37b08c957be2b67288f7c3e7ecc658015ec"), looks := false }, kinds := [], alts := [], laidByText := true, laidKinds := [.data, .data, .data, .data, .data, .mapped, .mapped, .data, .pinned], laidTests := true, laidLooks := .later }
def MdocListsCardSaid : Prop := Claim7.holds Tryz.pinned (.plain (OpenSpec.ofChange mdocListsSpec)) mdocListsCard

/-- THE TIED CARD OF 'flonglaw11.MdocNames'. -/
def mdocNamesCard : Claim7 := { stood := { row := mdocNamesRow, standIns := [], harness := (true, "e6474120018c8c0a81e0ae395acec37b08c957be2b67288f7c3e7ecc658015ec"), looks := false }, kinds := [], alts := [], laidByText := true, laidKinds := [.data, .data, .data, .data, .data, .mapped, .mapped, .data, .pinned], laidTests := true, laidLooks := .later }
def MdocNamesCardSaid : Prop := Claim7.holds Tryz.pinned (.plain (OpenSpec.ofChange mdocNamesSpec)) mdocNamesCard

/-- THE TIED CARD OF 'flonglaw10.ManTexts'. -/
def manTextsCard : Claim7 := { stood := { row := manTextsRow, standIns := [], harness := (true, "e6474120018c8c0a81e0ae395acec37b08c957be2b67288f7c3e7ecc658015ec"), looks := false }, kinds := [], alts := [], laidByText := true, laidKinds := [.data, .data, .mapped, .mapped, .data, .pinned], laidTests := true, laidLooks := .later }
def ManTextsCardSaid : Prop := Claim7.holds Tryz.pinned (.plain (OpenSpec.ofChange manTextsSpec)) manTextsCard

/-- THE TIED CARD OF 'flonglaw10.ManWrong'. -/
def manWrongCard : Claim7 := { stood := { row := manWrongRow, standIns := [], harness := (true, "e6474120018c8c0a81e0ae395acec37b08c957be2b67288f7c3e7ecc658015ec"), looks := false }, kinds := [], alts := [], laidByText := true, laidKinds := [.data, .data, .mapped, .mapped, .data, .pinned], laidTests := true, laidLooks := .later }
def ManWrongCardSaid : Prop := Claim7.holds Tryz.pinned (.plain (OpenSpec.ofChange manWrongSpec)) manWrongCard

/-- THE TIED CARD OF 'flonglaw10.ManHeads'. -/
def manHeadsCard : Claim7 := { stood := { row := manHeadsRow, standIns := [], harness := (true, "e6474120018c8c0a81e0ae395acec37b08c957be2b67288f7c3e7ecc658015ec"), looks := false }, kinds := [], alts := [], laidByText := true, laidKinds := [.data, .data, .mapped, .mapped, .data, .pinned], laidTests := true, laidLooks := .later }
def ManHeadsCardSaid : Prop := Claim7.holds Tryz.pinned (.plain (OpenSpec.ofChange manHeadsSpec)) manHeadsCard

/-- THE TIED CARD OF 'flonglaw10.ManVerbs'. -/
def manVerbsCard : Claim7 := { stood := { row := manVerbsRow, standIns := [], harness := (true, "e6474120018c8c0a81e0ae395acec37b08c957be2b67288f7c3e7ecc658015ec"), looks := false }, kinds := [], alts := [], laidByText := true, laidKinds := [.data, .data, .mapped, .mapped, .data, .pinned], laidTests := true, laidLooks := .later }
def ManVerbsCardSaid : Prop := Claim7.holds Tryz.pinned (.plain (OpenSpec.ofChange manVerbsSpec)) manVerbsCard

/-- THE TIED CARD OF 'flonglaw10.ManRows'. -/
def manRowsCard : Claim7 := { stood := { row := manRowsRow, standIns := [], harness := (true, "e6474120018c8c0a81e0ae395acec37b08c957be2b67288f7c3e7ecc658015ec"), looks := false }, kinds := [], alts := [], laidByText := true, laidKinds := [.data, .data, .mapped, .mapped, .data, .pinned], laidTests := true, laidLooks := .later }
def ManRowsCardSaid : Prop := Claim7.holds Tryz.pinned (.plain (OpenSpec.ofChange manRowsSpec)) manRowsCard

/-- THE TIED CARD OF 'flonglaw11.MdocRows'. -/
def mdocRowsCard : Claim7 := { stood := { row := mdocRowsRow, standIns := [], harness := (true, "e6474120018c8c0a81e0ae395acec37b08c957be2b67288f7c3e7ecc658015ec"), looks := false }, kinds := [], alts := [], laidByText := true, laidKinds := [.data, .data, .data, .data, .data, .mapped, .mapped, .data, .pinned], laidTests := true, laidLooks := .later }
def MdocRowsCardSaid : Prop := Claim7.holds Tryz.pinned (.plain (OpenSpec.ofChange mdocRowsSpec)) mdocRowsCard

/-- THE SECOND FORM's CARD OF 'flonglaw11.MdocLists'. -/
def mdocListsUptoCard : Claim7 := { stood := { row := mdocListsUptoRow, standIns := [], harness := (true, "e6474120018c8c0a81e0ae395acec37b08c957be2b67288f7c3e7ecc658015ec"), looks := false }, kinds := [], alts := [], laidByText := true, laidKinds := [.data, .data, .data, .data, .data, .mapped, .mapped, .data, .pinned], laidTests := true, laidLooks := .later }
def MdocListsUptoCardSaid : Prop := Claim7.holds Tryz.pinned (.plain (OpenSpec.upto mdocListsSpec)) mdocListsUptoCard

/-- THE SECOND FORM's CARD OF 'flonglaw11.MdocNames'. -/
def mdocNamesUptoCard : Claim7 := { stood := { row := mdocNamesUptoRow, standIns := [], harness := (true, "e6474120018c8c0a81e0ae395acec37b08c957be2b67288f7c3e7ecc658015ec"), looks := false }, kinds := [], alts := [], laidByText := true, laidKinds := [.data, .data, .data, .data, .data, .mapped, .mapped, .data, .pinned], laidTests := true, laidLooks := .later }
def MdocNamesUptoCardSaid : Prop := Claim7.holds Tryz.pinned (.plain (OpenSpec.upto mdocNamesSpec)) mdocNamesUptoCard

/-- THE SECOND FORM's CARD OF 'flonglaw10.ManTexts'. -/
def manTextsUptoCard : Claim7 := { stood := { row := manTextsUptoRow, standIns := [], harness := (true, "e6474120018c8c0a81e0ae395acec37b08c957be2b67288f7c3e7ecc658015ec"), looks := false }, kinds := [], alts := [], laidByText := true, laidKinds := [.data, .data, .mapped, .mapped, .data, .pinned], laidTests := true, laidLooks := .later }
def ManTextsUptoCardSaid : Prop := Claim7.holds Tryz.pinned (.plain (OpenSpec.upto manTextsSpec)) manTextsUptoCard

/-- THE SECOND FORM's CARD OF 'flonglaw10.ManWrong'. -/
def manWrongUptoCard : Claim7 := { stood := { row := manWrongUptoRow, standIns := [], harness := (true, "e6474120018c8c0a81e0ae395acec37b08c957be2b67288f7c3e7ecc658015ec"), looks := false }, kinds := [], alts := [], laidByText := true, laidKinds := [.data, .data, .mapped, .mapped, .data, .pinned], laidTests := true, laidLooks := .later }
def ManWrongUptoCardSaid : Prop := Claim7.holds Tryz.pinned (.plain (OpenSpec.upto manWrongSpec)) manWrongUptoCard

/-- THE SECOND FORM's CARD OF 'flonglaw10.ManHeads'. -/
def manHeadsUptoCard : Claim7 := { stood := { row := manHeadsUptoRow, standIns := [], harness := (true, "e6474120018c8c0a81e0ae395acec37b08c957be2b67288f7c3e7ecc658015ec"), looks := false }, kinds := [], alts := [], laidByText := true, laidKinds := [.data, .data, .mapped, .mapped, .data, .pinned], laidTests := true, laidLooks := .later }
def ManHeadsUptoCardSaid : Prop := Claim7.holds Tryz.pinned (.plain (OpenSpec.upto manHeadsSpec)) manHeadsUptoCard

/-- THE SECOND FORM's CARD OF 'flonglaw10.ManVerbs'. -/
def manVerbsUptoCard : Claim7 := { stood := { row := manVerbsUptoRow, standIns := [], harness := (true, "e6474120018c8c0a81e0ae395acec37b08c957be2b67288f7c3e7ecc658015ec"), looks := false }, kinds := [], alts := [], laidByText := true, laidKinds := [.data, .data, .mapped, .mapped, .data, .pinned], laidTests := true, laidLooks := .later }
def ManVerbsUptoCardSaid : Prop := Claim7.holds Tryz.pinned (.plain (OpenSpec.upto manVerbsSpec)) manVerbsUptoCard

/-- THE SECOND FORM's CARD OF 'flonglaw10.ManRows'. -/
def manRowsUptoCard : Claim7 := { stood := { row := manRowsUptoRow, standIns := [], harness := (true, "e6474120018c8c0a81e0ae395acec37b08c957be2b67288f7c3e7ecc658015ec"), looks := false }, kinds := [], alts := [], laidByText := true, laidKinds := [.data, .data, .mapped, .mapped, .data, .pinned], laidTests := true, laidLooks := .later }
def ManRowsUptoCardSaid : Prop := Claim7.holds Tryz.pinned (.plain (OpenSpec.upto manRowsSpec)) manRowsUptoCard

/-- THE SECOND FORM's CARD OF 'flonglaw11.MdocRows'. -/
def mdocRowsUptoCard : Claim7 := { stood := { row := mdocRowsUptoRow, standIns := [], harness := (true, "e6474120018c8c0a81e0ae395acec37b08c957be2b67288f7c3e7ecc658015ec"), looks := false }, kinds := [], alts := [], laidByText := true, laidKinds := [.data, .data, .data, .data, .data, .mapped, .mapped, .data, .pinned], laidTests := true, laidLooks := .later }
def MdocRowsUptoCardSaid : Prop := Claim7.holds Tryz.pinned (.plain (OpenSpec.upto mdocRowsSpec)) mdocRowsUptoCard
end Rows
end Go.Proofs.YtkjgkhgklkdbjaaGreatDoor
