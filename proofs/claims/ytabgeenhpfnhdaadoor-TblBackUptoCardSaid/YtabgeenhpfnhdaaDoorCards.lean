/-
  DERIVED. GIVEN WITH THE SEED: THE CARDS: each row of YtabgeenhpfnhdaaDoorRows.lean that lists a variable, with what it lists TIED to the program's text (the seventh form; the later family's looks); each row that meets fmt, with fmt's text TOLD by the authors' own Lean function (tested against real Go, not proved from fmt's source: count such statements apart). THE CARD IS WHAT COUNTS. Prove the row's statement (the work); the ties are given (YtabgeenhpfnhdaaDoorTie.lean); close each card by the builder's one call (the guide's Derived/Test/ToyasCard.lean, 'card_holds'). Laid BY PROGRAM, IN A SANDBOX (cutbox-door.mjs). By AI agents, Wed Nov 11 2026. No macro, syntax, notation, axiom, sorry.
-/
import Derived.Test.YtabgeenhpfnhdaaDoorRows
import GoSem.ClaimSeven
namespace Go.Proofs.YtabgeenhpfnhdaaDoor
namespace Rows

/-- THE TIED CARD OF 'flonglaw09.TblParts'. -/
def tblPartsCard : Claim7 := { stood := { row := tblPartsRow, standIns := [], harness := (true, "83f856c5ed9502822f84f8f102dfcfe304c1a53270883a4452ac0ef2d6384de9"), looks := false }, kinds := [], alts := [], laidByText := true, laidKinds := [.data, .mapped, .mapped, .data, .pinned], laidTests := true, laidLooks := .later }
def TblPartsCardSaid : Prop := Claim7.holds Tryd.pinned (.plain (OpenSpec.ofChange tblPartsSpec)) tblPartsCard

/-- THE TIED CARD OF 'flonglaw09.TblSafe'. -/
def tblSafeCard : Claim7 := { stood := { row := tblSafeRow, standIns := [], harness := (true, "83f856c5ed9502822f84f8f102dfcfe304c1a53270883a4452ac0ef2d6384de9"), looks := false }, kinds := [], alts := [], laidByText := true, laidKinds := [.data, .mapped, .mapped, .data, .pinned], laidTests := true, laidLooks := .later }
def TblSafeCardSaid : Prop := Claim7.holds Tryd.pinned (.plain (OpenSpec.ofChange tblSafeSpec)) tblSafeCard

/-- THE TIED CARD OF 'flonglaw09.TblCuts'. -/
def tblCutsCard : Claim7 := { stood := { row := tblCutsRow, standIns := [], harness := (true, "83f856c5ed9502822f84f8f102dfcfe304c1a53270883a4452ac0ef2d6384de9"), looks := false }, kinds := [], alts := [], laidByText := true, laidKinds := [.data, .mapped, .mapped, .data, .pinned], laidTests := true, laidLooks := .later }
def TblCutsCardSaid : Prop := Claim7.holds Tryd.pinned (.plain (OpenSpec.ofChange tblCutsSpec)) tblCutsCard

/-- THE TIED CARD OF 'flonglaw09.TblBack'. -/
def tblBackCard : Claim7 := { stood := { row := tblBackRow, standIns := [], harness := (true, "83f856c5ed9502822f84f8f102dfcfe304c1a53270883a4452ac0ef2d6384de9"), looks := false }, kinds := [], alts := [], laidByText := true, laidKinds := [.data, .mapped, .mapped, .data, .pinned], laidTests := true, laidLooks := .later }
def TblBackCardSaid : Prop := Claim7.holds Tryd.pinned (.plain (OpenSpec.ofChange tblBackSpec)) tblBackCard

/-- THE SECOND FORM's CARD OF 'flonglaw09.TblParts'. -/
def tblPartsUptoCard : Claim7 := { stood := { row := tblPartsUptoRow, standIns := [], harness := (true, "83f856c5ed9502822f84f8f102dfcfe304c1a53270883a4452ac0ef2d6384de9"), looks := false }, kinds := [], alts := [], laidByText := true, laidKinds := [.data, .mapped, .mapped, .data, .pinned], laidTests := true, laidLooks := .later }
def TblPartsUptoCardSaid : Prop := Claim7.holds Tryd.pinned (.plain (OpenSpec.upto tblPartsSpec)) tblPartsUptoCard

/-- THE SECOND FORM's CARD OF 'flonglaw09.TblSafe'. -/
def tblSafeUptoCard : Claim7 := { stood := { row := tblSafeUptoRow, standIns := [], harness := (true, "83f856c5ed9502822f84f8f102dfcfe304c1a53270883a4452ac0ef2d6384de9"), looks := false }, kinds := [], alts := [], laidByText := true, laidKinds := [.data, .mapped, .mapped, .data, .pinned], laidTests := true, laidLooks := .later }
def TblSafeUptoCardSaid : Prop := Claim7.holds Tryd.pinned (.plain (OpenSpec.upto tblSafeSpec)) tblSafeUptoCard

/-- THE SECOND FORM's CARD OF 'flonglaw09.TblCuts'. -/
def tblCutsUptoCard : Claim7 := { stood := { row := tblCutsUptoRow, standIns := [], harness := (true, "83f856c5ed9502822f84f8f102dfcfe304c1a53270883a4452ac0ef2d6384de9"), looks := false }, kinds := [], alts := [], laidByText := true, laidKinds := [.data, .mapped, .mapped, .data, .pinned], laidTests := true, laidLooks := .later }
def TblCutsUptoCardSaid : Prop := Claim7.holds Tryd.pinned (.plain (OpenSpec.upto tblCutsSpec)) tblCutsUptoCard

/-- THE SECOND FORM's CARD OF 'flonglaw09.TblBack'. -/
def tblBackUptoCard : Claim7 := { stood := { row := tblBackUptoRow, standIns := [], harness := (true, "83f856c5ed9502822f84f8f102dfcfe304c1a53270883a4452ac0ef2d6384de9"), looks := false }, kinds := [], alts := [], laidByText := true, laidKinds := [.data, .mapped, .mapped, .data, .pinned], laidTests := true, laidLooks := .later }
def TblBackUptoCardSaid : Prop := Claim7.holds Tryd.pinned (.plain (OpenSpec.upto tblBackSpec)) tblBackUptoCard
end Rows
end Go.Proofs.YtabgeenhpfnhdaaDoor
