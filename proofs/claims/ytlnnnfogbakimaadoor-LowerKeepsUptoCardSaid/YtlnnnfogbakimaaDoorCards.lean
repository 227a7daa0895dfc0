/-
  DERIVED. GIVEN WITH THE SEED: THE CARDS: each row of YtlnnnfogbakimaaDoorRows.lean that lists a variable, with what it lists TIED to the program's text (the seventh form; the later family's looks); each row that meets fmt, with fmt's text TOLD by the authors' own Lean function (tested against real Go, not proved from fmt's source: count such statements apart). THE CARD IS WHAT COUNTS. Prove the row's statement (the work); the ties are given (YtlnnnfogbakimaaDoorTie.lean); close each card by the builder's one call (the guide's Derived/Test/ToyasCard.lean, 'card_holds'). Laid BY PROGRAM, IN A SANDBOX (cutbox-door.mjs). By AI agents, Wed Nov 11 2026. No macro, syntax, notation, axiom, sorry.
-/
import Derived.Test.YtlnnnfogbakimaaDoorRows
import GoSem.ClaimSeven
namespace Go.Proofs.YtlnnnfogbakimaaDoor
namespace Rows

/-- THE TIED CARD OF 'flonglaw07.TreeOwn'. -/
def treeOwnCard : Claim7 := { stood := { row := treeOwnRow, standIns := [], harness := (true, "8c9c22d9b46706f871c325296d2f45d0cc70be4f3d5fee2a033407e17ba135c2"), looks := false }, kinds := [], alts := [], laidByText := true, laidKinds := [.data, .data, .pinned], laidTests := true, laidLooks := .later }
def TreeOwnCardSaid : Prop := Claim7.holds Tryd.pinned (.plain (OpenSpec.ofChange treeOwnSpec)) treeOwnCard

/-- THE TIED CARD OF 'flonglaw07.TreeSame'. -/
def treeSameCard : Claim7 := { stood := { row := treeSameRow, standIns := [], harness := (true, "8c9c22d9b46706f871c325296d2f45d0cc70be4f3d5fee2a033407e17ba135c2"), looks := false }, kinds := [], alts := [], laidByText := true, laidKinds := [.data, .data, .pinned], laidTests := true, laidLooks := .later }
def TreeSameCardSaid : Prop := Claim7.holds Tryd.pinned (.plain (OpenSpec.ofChange treeSameSpec)) treeSameCard

/-- THE TIED CARD OF 'flonglaw15.LowerBlocks'. -/
def lowerBlocksCard : Claim7 := { stood := { row := lowerBlocksRow, standIns := [], harness := (true, "8c9c22d9b46706f871c325296d2f45d0cc70be4f3d5fee2a033407e17ba135c2"), looks := false }, kinds := [], alts := [], laidByText := true, laidKinds := [.data, .data, .pinned], laidTests := true, laidLooks := .later }
def LowerBlocksCardSaid : Prop := Claim7.holds Tryd.pinned (.plain (OpenSpec.ofChange lowerBlocksSpec)) lowerBlocksCard

/-- THE TIED CARD OF 'flonglaw15.LowerGaps'. -/
def lowerGapsCard : Claim7 := { stood := { row := lowerGapsRow, standIns := [], harness := (true, "8c9c22d9b46706f871c325296d2f45d0cc70be4f3d5fee2a033407e17ba135c2"), looks := false }, kinds := [], alts := [], laidByText := true, laidKinds := [.data, .data, .pinned], laidTests := true, laidLooks := .later }
def LowerGapsCardSaid : Prop := Claim7.holds Tryd.pinned (.plain (OpenSpec.ofChange lowerGapsSpec)) lowerGapsCard

/-- THE TIED CARD OF 'flonglaw15.LowerJoins'. -/
def lowerJoinsCard : Claim7 := { stood := { row := lowerJoinsRow, standIns := [], harness := (true, "8c9c22d9b46706f871c325296d2f45d0cc70be4f3d5fee2a033407e17ba135c2"), looks := false }, kinds := [], alts := [], laidByText := true, laidKinds := [.data, .data, .pinned], laidTests := true, laidLooks := .later }
def LowerJoinsCardSaid : Prop := Claim7.holds Tryd.pinned (.plain (OpenSpec.ofChange lowerJoinsSpec)) lowerJoinsCard

/-- THE TIED CARD OF 'flonglaw15.LowerIn'. -/
def lowerInCard : Claim7 := { stood := { row := lowerInRow, standIns := [], harness := (true, "8c9c22d9b46706f871c325296d2f45d0cc70be4f3d5fee2a033407e17ba135c2"), looks := false }, kinds := [], alts := [], laidByText := true, laidKinds := [.data, .data, .pinned], laidTests := true, laidLooks := .later }
def LowerInCardSaid : Prop := Claim7.holds Tryd.pinned (.plain (OpenSpec.ofChange lowerInSpec)) lowerInCard

/-- THE TIED CARD OF 'flonglaw15.LowerStrong'. -/
def lowerStrongCard : Claim7 := { stood := { row := lowerStrongRow, standIns := [], harness := (true, "8c9c22d9b46706f871c325296d2f45d0cc70be4f3d5fee2a033407e17ba135c2"), looks := false }, kinds := [], alts := [], laidByText := true, laidKinds := [.data, .data, .pinned], laidTests := true, laidLooks := .later }
def LowerStrongCardSaid : Prop := Claim7.holds Tryd.pinned (.plain (OpenSpec.ofChange lowerStrongSpec)) lowerStrongCard

/-- THE TIED CARD OF 'flonglaw07.TreeKeeps'. -/
def treeKeepsCard : Claim7 := { stood := { row := treeKeepsRow, standIns := [], harness := (true, "8c9c22d9b46706f871c325296d2f45d0cc70be4f3d5fee2a033407e17ba135c2"), looks := false }, kinds := [], alts := [], laidByText := true, laidKinds := [.data, .data, .pinned], laidTests := true, laidLooks := .later }
def TreeKeepsCardSaid : Prop := Claim7.holds Tryd.pinned (.plain (OpenSpec.ofChange treeKeepsSpec)) treeKeepsCard

/-- THE TIED CARD OF 'flonglaw15.LowerKeeps'. -/
def lowerKeepsCard : Claim7 := { stood := { row := lowerKeepsRow, standIns := [], harness := (true, "8c9c22d9b46706f871c325296d2f45d0cc70be4f3d5fee2a033407e17ba135c2"), looks := false }, kinds := [], alts := [], laidByText := true, laidKinds := [.data, .data, .pinned], laidTests := true, laidLooks := .later }
def LowerKeepsCardSaid : Prop := Claim7.holds Tryd.pinned (.plain (OpenSpec.ofChange lowerKeepsSpec)) lowerKeepsCard

/-- THE TIED CARD OF 'flonglaw07.TreeTables'. -/
def treeTablesCard : Claim7 := { stood := { row := treeTablesRow, standIns := [], harness := (true, "8c9c22d9b46706f871c325296d2f45d0cc70be4f3d5fee2a033407e17ba135c2"), looks := false }, kinds := [], alts := [], laidByText := true, laidKinds := [.data, .data, .pinned], laidTests := true, laidLooks := .later }
def TreeTablesCardSaid : Prop := Claim7.holds Tryd.pinned (.plain (OpenSpec.ofChange treeTablesSpec)) treeTablesCard

/-- THE TIED CARD OF 'flonglaw07.TreeTidies'. -/
def treeTidiesCard : Claim7 := { stood := { row := treeTidiesRow, standIns := [], harness := (true, "8c9c22d9b46706f871c325296d2f45d0cc70be4f3d5fee2a033407e17ba135c2"), looks := false }, kinds := [], alts := [], laidByText := true, laidKinds := [.data, .data, .pinned], laidTests := true, laidLooks := .later }
def TreeTidiesCardSaid : Prop := Claim7.holds Tryd.pinned (.plain (OpenSpec.ofChange treeTidiesSpec)) treeTidiesCard

/-- THE TIED CARD OF 'flonglaw07.TreeStays'. -/
def treeStaysCard : Claim7 := { stood := { row := treeStaysRow, standIns := [], harness := (true, "8c9c22d9b46706f871c325296d2f45d0cc70be4f3d5fee2a033407e17ba135c2"), looks := false }, kinds := [], alts := [], laidByText := true, laidKinds := [.data, .data, .pinned], laidTests := true, laidLooks := .later }
def TreeStaysCardSaid : Prop := Claim7.holds Tryd.pinned (.plain (OpenSpec.ofChange treeStaysSpec)) treeStaysCard

/-- THE SECOND FORM's CARD OF 'flonglaw07.TreeOwn'. -/
def treeOwnUptoCard : Claim7 := { stood := { row := treeOwnUptoRow, standIns := [], harness := (true, "8c9c22d9b46706f871c325296d2f45d0cc70be4f3d5fee2a033407e17ba135c2"), looks := false }, kinds := [], alts := [], laidByText := true, laidKinds := [.data, .data, .pinned], laidTests := true, laidLooks := .later }
def TreeOwnUptoCardSaid : Prop := Claim7.holds Tryd.pinned (.plain (OpenSpec.upto treeOwnSpec)) treeOwnUptoCard

/-- THE SECOND FORM's CARD OF 'flonglaw07.TreeSame'. -/
def treeSameUptoCard : Claim7 := { stood := { row := treeSameUptoRow, standIns := [], harness := (true, "8c9c22d9b46706f871c325296d2f45d0cc70be4f3d5fee2a033407e17ba135c2"), looks := false }, kinds := [], alts := [], laidByText := true, laidKinds := [.data, .data, .pinned], laidTests := true, laidLooks := .later }
def TreeSameUptoCardSaid : Prop := Claim7.holds Tryd.pinned (.plain (OpenSpec.upto treeSameSpec)) treeSameUptoCard

/-- THE SECOND FORM's CARD OF 'flonglaw15.LowerBlocks'. -/
def lowerBlocksUptoCard : Claim7 := { stood := { row := lowerBlocksUptoRow, standIns := [], harness := (true, "8c9c22d9b46706f871c325296d2f45d0cc70be4f3d5fee2a033407e17ba135c2"), looks := false }, kinds := [], alts := [], laidByText := true, laidKinds := [.data, .data, .pinned], laidTests := true, laidLooks := .later }
def LowerBlocksUptoCardSaid : Prop := Claim7.holds Tryd.pinned (.plain (OpenSpec.upto lowerBlocksSpec)) lowerBlocksUptoCard

/-- THE SECOND FORM's CARD OF 'flonglaw15.LowerGaps'. -/
def lowerGapsUptoCard : Claim7 := { stood := { row := lowerGapsUptoRow, standIns := [], harness := (true, "8c9c22d9b46706f871c325296d2f45d0cc70be4f3d5fee2a033407e17ba135c2"), looks := false }, kinds := [], alts := [], laidByText := true, laidKinds := [.data, .data, .pinned], laidTests := true, laidLooks := .later }
def LowerGapsUptoCardSaid : Prop := Claim7.holds Tryd.pinned (.plain (OpenSpec.upto lowerGapsSpec)) lowerGapsUptoCard

/-- THE SECOND FORM's CARD OF 'flonglaw15.LowerJoins'. -/
def lowerJoinsUptoCard : Claim7 := { stood := { row := lowerJoinsUptoRow, standIns := [], harness := (true, "8c9c22d9b46706f871c325296d2f45d0cc70be4f3d5fee2a033407e17ba135c2"), looks := false }, kinds := [], alts := [], laidByText := true, laidKinds := [.data, .data, .pinned], laidTests := true, laidLooks := .later }
def LowerJoinsUptoCardSaid : Prop := Claim7.holds Tryd.pinned (.plain (OpenSpec.upto lowerJoinsSpec)) lowerJoinsUptoCard

/-- THE SECOND FORM's CARD OF 'flonglaw15.LowerIn'. -/
def lowerInUptoCard : Claim7 := { stood := { row := lowerInUptoRow, standIns := [], harness := (true, "8c9c22d9b46706f871c325296d2f45d0cc70be4f3d5fee2a033407e17ba135c2"), looks := false }, kinds := [], alts := [], laidByText := true, laidKinds := [.data, .data, .pinned], laidTests := true, laidLooks := .later }
def LowerInUptoCardSaid : Prop := Claim7.holds Tryd.pinned (.plain (OpenSpec.upto lowerInSpec)) lowerInUptoCard

/-- THE SECOND FORM's CARD OF 'flonglaw15.LowerStrong'. -/
def lowerStrongUptoCard : Claim7 := { stood := { row := lowerStrongUptoRow, standIns := [], harness := (true, "8c9c22d9b46706f871c325296d2f45d0cc70be4f3d5fee2a033407e17ba135c2"), looks := false }, kinds := [], alts := [], laidByText := true, laidKinds := [.data, .data, .pinned], laidTests := true, laidLooks := .later }
def LowerStrongUptoCardSaid : Prop := Claim7.holds Tryd.pinned (.plain (OpenSpec.upto lowerStrongSpec)) lowerStrongUptoCard

/-- THE SECOND FORM's CARD OF 'flonglaw07.TreeKeeps'. -/
def treeKeepsUptoCard : Claim7 := { stood := { row := treeKeepsUptoRow, standIns := [], harness := (true, "8c9c22d9b46706f871c325296d2f45d0cc70be4f3d5fee2a033407e17ba135c2"), looks := false }, kinds := [], alts := [], laidByText := true, laidKinds := [.data, .data, .pinned], laidTests := true, laidLooks := .later }
def TreeKeepsUptoCardSaid : Prop := Claim7.holds Tryd.pinned (.plain (OpenSpec.upto treeKeepsSpec)) treeKeepsUptoCard

/-- THE SECOND FORM's CARD OF 'flonglaw15.LowerKeeps'. -/
def lowerKeepsUptoCard : Claim7 := { stood := { row := lowerKeepsUptoRow, standIns := [], harness := (true, "8c9c22d9b46706f871c325296d2f45d0cc70be4f3d5fee2a033407e17ba135c2"), looks := false }, kinds := [], alts := [], laidByText := true, laidKinds := [.data, .data, .pinned], laidTests := true, laidLooks := .later }
def LowerKeepsUptoCardSaid : Prop := Claim7.holds Tryd.pinned (.plain (OpenSpec.upto lowerKeepsSpec)) lowerKeepsUptoCard

/-- THE SECOND FORM's CARD OF 'flonglaw07.TreeTables'. -/
def treeTablesUptoCard : Claim7 := { stood := { row := treeTablesUptoRow, standIns := [], harness := (true, "8c9c22d9b46706f871c325296d2f45d0cc70be4f3d5fee2a033407e17ba135c2"), looks := false }, kinds := [], alts := [], laidByText := true, laidKinds := [.data, .data, .pinned], laidTests := true, laidLooks := .later }
def TreeTablesUptoCardSaid : Prop := Claim7.holds Tryd.pinned (.plain (OpenSpec.upto treeTablesSpec)) treeTablesUptoCard

/-- THE SECOND FORM's CARD OF 'flonglaw07.TreeTidies'. -/
def treeTidiesUptoCard : Claim7 := { stood := { row := treeTidiesUptoRow, standIns := [], harness := (true, "8c9c22d9b46706f871c325296d2f45d0cc70be4f3d5fee2a033407e17ba135c2"), looks := false }, kinds := [], alts := [], laidByText := true, laidKinds := [.data, .data, .pinned], laidTests := true, laidLooks := .later }
def TreeTidiesUptoCardSaid : Prop := Claim7.holds Tryd.pinned (.plain (OpenSpec.upto treeTidiesSpec)) treeTidiesUptoCard

/-- THE SECOND FORM's CARD OF 'flonglaw07.TreeStays'. -/
def treeStaysUptoCard : Claim7 := { stood := { row := treeStaysUptoRow, standIns := [], harness := (true, "8c9c22d9b46706f871c325296d2f45d0cc70be4f3d5fee2a033407e17ba135c2"), looks := false }, kinds := [], alts := [], laidByText := true, laidKinds := [.data, .data, .pinned], laidTests := true, laidLooks := .later }
def TreeStaysUptoCardSaid : Prop := Claim7.holds Tryd.pinned (.plain (OpenSpec.upto treeStaysSpec)) treeStaysUptoCard
end Rows
end Go.Proofs.YtlnnnfogbakimaaDoor
