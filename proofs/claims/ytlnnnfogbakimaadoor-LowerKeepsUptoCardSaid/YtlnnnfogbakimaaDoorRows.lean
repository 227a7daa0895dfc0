/-
  NARROWER THAN 'FOR EVERY INPUT', by the rows' own cells (each row's printed sentence says how): TreeOwn: loops, laid · TreeSame: loops, laid · LowerBlocks: loops, laid · LowerGaps: loops, laid · LowerJoins: loops, laid · LowerIn: loops, laid · LowerStrong: laid · TreeKeeps: loops, laid · LowerKeeps: loops, laid · TreeTables: laid · TreeTidies: loops, laid · TreeStays: loops, laid.
  DERIVED. THE GIVEN ROWS OF THIS SEAT. 12 by the template 'for every input the law returns true; each argument reads behind the call as it read before'; 0 by the template 'total and deterministic' (their statements: YtlnnnfogbakimaaDoorTotals.lean).
  GIVEN WITH THE SEED: the statements are not yours to turn. If you find one false, say at which input.
  Laid BY PROGRAM, IN A SANDBOX (cutbox-rows.mjs): the forced cells as the released guide's own fill.sh prints them over the translation 62f1d4549279dd9c… (all of the seat's roots in one cut). By AI agents, Wed Nov 11 2026. No macro, syntax, notation, axiom, sorry.
-/
import Derived.Test.YtlnnnfogbakimaaDoorChecked
import GoSem.PinnedTables
import GoSem.Claim
import GoSem.ClaimJoined
import GoSem.ClaimMapViews
import Derived.JoinedTies
import Derived.KernelRfl
namespace Go.Proofs.YtlnnnfogbakimaaDoor
/- THE CELL 'sum', in the pinned program and in every row, IS THE sha256 OF THE DUMP (.gsa) THAT YtlnnnfogbakimaaDoorProg.lean LOADS. Nothing in Lean hashes anything: it is a label: what it is worth is what the hold of that sum in a sandbox is worth. -/
noncomputable def Tryd.pinned : Pinned := { name := "ytlnnnfogbakimaadoor", sum := "62f1d4549279dd9c54ee3343f99565b6d974240e9719622b890f640611f7f84f", checked := Tryd.checked }
namespace Rows
def none {H : Type} : Left H := { results := [], args := [] }

/- WHAT THE LISTED PACKAGE-LEVEL VARIABLES READ AS WHEN THE CALL BEGINS. Each datum BY PROGRAM (the guide's laid-datum.mjs) off the statement by which the dump's own 'gosem.cut.vars' lays the variable. In a bare row this is a premise. The card (YtlnnnfogbakimaaDoorCards.lean) ties it to the program's text. -/
def laid_unicode_utf8_acceptRanges {H : Type} : DataW H := .agg [.agg [.lit (.int .u8 128), .lit (.int .u8 191)], .agg [.lit (.int .u8 160), .lit (.int .u8 191)], .agg [.lit (.int .u8 128), .lit (.int .u8 159)], .agg [.lit (.int .u8 144), .lit (.int .u8 191)], .agg [.lit (.int .u8 128), .lit (.int .u8 143)], .agg [.lit (.int .u8 0), .lit (.int .u8 0)], .agg [.lit (.int .u8 0), .lit (.int .u8 0)], .agg [.lit (.int .u8 0), .lit (.int .u8 0)], .agg [.lit (.int .u8 0), .lit (.int .u8 0)], .agg [.lit (.int .u8 0), .lit (.int .u8 0)], .agg [.lit (.int .u8 0), .lit (.int .u8 0)], .agg [.lit (.int .u8 0), .lit (.int .u8 0)], .agg [.lit (.int .u8 0), .lit (.int .u8 0)], .agg [.lit (.int .u8 0), .lit (.int .u8 0)], .agg [.lit (.int .u8 0), .lit (.int .u8 0)], .agg [.lit (.int .u8 0), .lit (.int .u8 0)]]
def laid_flong_styles_gap {H : Type} : DataW H := .agg [.lit (.int .i32 32), .lit (.int .u8 0)]
/-- One of Go's own tables, pinned by name: the form's constant. -/
def laid_unicode_utf8_first : DataW Unit := Go.Pinned.utf8First

/-- 'flonglaw07.TreeOwn': WHATEVER THE INPUT: true; the input reads as it did. -/
def treeOwnSpec : ChangeSpec := { name := "treeOwn", fn := fun _ => fun
  | [d] => { results := [.lit (.bool true)], args := [d] }
  | _ => none }
def treeOwnRow : OpenClaim := { program := "ytlnnnfogbakimaadoor", sum := "62f1d4549279dd9c54ee3343f99565b6d974240e9719622b890f640611f7f84f", func := "flong/flonglaw07.TreeOwn", spec := "treeOwn", inPlace := ["internal/abi.NoEscape", "internal/bytealg.MakeNoZero", "internal/bytealg.IndexByteString", "internal/bytealg.IndexString"], unfollowed := true, recurses := true, named := ["flong/styles.gap", "unicode/utf8.first", "unicode/utf8.acceptRanges", "internal/bytealg.MaxLen"], loops := true, apart := false, laid := [("unicode/utf8.acceptRanges", laid_unicode_utf8_acceptRanges), ("flong/styles.gap", laid_flong_styles_gap), ("unicode/utf8.first", laid_unicode_utf8_first)] }
def TreeOwnSaid : Prop := treeOwnRow.holds Tryd.pinned (OpenSpec.ofChange treeOwnSpec)

/-- ITS FALSE NEIGHBOUR: 'it returns false'. Refute it at one input. -/
def treeOwnWrong : ChangeSpec := { name := "treeOwn", fn := fun _ => fun
  | [d] => { results := [.lit (.bool false)], args := [d] }
  | _ => none }
def TreeOwnWrongFalsely : Prop := treeOwnRow.holds Tryd.pinned (OpenSpec.ofChange treeOwnWrong)

/-- 'flonglaw07.TreeSame': WHATEVER THE INPUT: true; the input reads as it did. -/
def treeSameSpec : ChangeSpec := { name := "treeSame", fn := fun _ => fun
  | [d1, d2, d3, d4] => { results := [.lit (.bool true)], args := [d1, d2, d3, d4] }
  | _ => none }
def treeSameRow : OpenClaim := { program := "ytlnnnfogbakimaadoor", sum := "62f1d4549279dd9c54ee3343f99565b6d974240e9719622b890f640611f7f84f", func := "flong/flonglaw07.TreeSame", spec := "treeSame", inPlace := ["internal/abi.NoEscape", "internal/bytealg.MakeNoZero", "internal/bytealg.IndexByteString", "internal/bytealg.IndexString"], unfollowed := true, recurses := true, named := ["flong/styles.gap", "unicode/utf8.first", "unicode/utf8.acceptRanges", "internal/bytealg.MaxLen"], loops := true, apart := false, laid := [("unicode/utf8.acceptRanges", laid_unicode_utf8_acceptRanges), ("flong/styles.gap", laid_flong_styles_gap), ("unicode/utf8.first", laid_unicode_utf8_first)] }
def TreeSameSaid : Prop := treeSameRow.holds Tryd.pinned (OpenSpec.ofChange treeSameSpec)

/-- ITS FALSE NEIGHBOUR: 'it returns false'. Refute it at one input. -/
def treeSameWrong : ChangeSpec := { name := "treeSame", fn := fun _ => fun
  | [d1, d2, d3, d4] => { results := [.lit (.bool false)], args := [d1, d2, d3, d4] }
  | _ => none }
def TreeSameWrongFalsely : Prop := treeSameRow.holds Tryd.pinned (OpenSpec.ofChange treeSameWrong)

/-- 'flonglaw15.LowerBlocks': WHATEVER THE INPUT: true; the input reads as it did. -/
def lowerBlocksSpec : ChangeSpec := { name := "lowerBlocks", fn := fun _ => fun
  | [d1, d2] => { results := [.lit (.bool true)], args := [d1, d2] }
  | _ => none }
def lowerBlocksRow : OpenClaim := { program := "ytlnnnfogbakimaadoor", sum := "62f1d4549279dd9c54ee3343f99565b6d974240e9719622b890f640611f7f84f", func := "flong/flonglaw15.LowerBlocks", spec := "lowerBlocks", inPlace := ["internal/abi.NoEscape", "internal/bytealg.MakeNoZero", "internal/bytealg.IndexByteString", "internal/bytealg.IndexString"], unfollowed := true, recurses := true, named := ["flong/styles.gap", "unicode/utf8.first", "unicode/utf8.acceptRanges", "internal/bytealg.MaxLen"], loops := true, apart := false, laid := [("unicode/utf8.acceptRanges", laid_unicode_utf8_acceptRanges), ("flong/styles.gap", laid_flong_styles_gap), ("unicode/utf8.first", laid_unicode_utf8_first)] }
def LowerBlocksSaid : Prop := lowerBlocksRow.holds Tryd.pinned (OpenSpec.ofChange lowerBlocksSpec)

/-- ITS FALSE NEIGHBOUR: 'it returns false'. Refute it at one input. -/
def lowerBlocksWrong : ChangeSpec := { name := "lowerBlocks", fn := fun _ => fun
  | [d1, d2] => { results := [.lit (.bool false)], args := [d1, d2] }
  | _ => none }
def LowerBlocksWrongFalsely : Prop := lowerBlocksRow.holds Tryd.pinned (OpenSpec.ofChange lowerBlocksWrong)

/-- 'flonglaw15.LowerGaps': WHATEVER THE INPUT: true; the input reads as it did. -/
def lowerGapsSpec : ChangeSpec := { name := "lowerGaps", fn := fun _ => fun
  | [d] => { results := [.lit (.bool true)], args := [d] }
  | _ => none }
def lowerGapsRow : OpenClaim := { program := "ytlnnnfogbakimaadoor", sum := "62f1d4549279dd9c54ee3343f99565b6d974240e9719622b890f640611f7f84f", func := "flong/flonglaw15.LowerGaps", spec := "lowerGaps", inPlace := ["internal/abi.NoEscape", "internal/bytealg.MakeNoZero", "internal/bytealg.IndexByteString", "internal/bytealg.IndexString"], unfollowed := true, recurses := true, named := ["flong/styles.gap", "unicode/utf8.first", "unicode/utf8.acceptRanges", "internal/bytealg.MaxLen"], loops := true, apart := false, laid := [("unicode/utf8.acceptRanges", laid_unicode_utf8_acceptRanges), ("flong/styles.gap", laid_flong_styles_gap), ("unicode/utf8.first", laid_unicode_utf8_first)] }
def LowerGapsSaid : Prop := lowerGapsRow.holds Tryd.pinned (OpenSpec.ofChange lowerGapsSpec)

/-- ITS FALSE NEIGHBOUR: 'it returns false'. Refute it at one input. -/
def lowerGapsWrong : ChangeSpec := { name := "lowerGaps", fn := fun _ => fun
  | [d] => { results := [.lit (.bool false)], args := [d] }
  | _ => none }
def LowerGapsWrongFalsely : Prop := lowerGapsRow.holds Tryd.pinned (OpenSpec.ofChange lowerGapsWrong)

/-- 'flonglaw15.LowerJoins': WHATEVER THE INPUT: true; the input reads as it did. -/
def lowerJoinsSpec : ChangeSpec := { name := "lowerJoins", fn := fun _ => fun
  | [d1, d2] => { results := [.lit (.bool true)], args := [d1, d2] }
  | _ => none }
def lowerJoinsRow : OpenClaim := { program := "ytlnnnfogbakimaadoor", sum := "62f1d4549279dd9c54ee3343f99565b6d974240e9719622b890f640611f7f84f", func := "flong/flonglaw15.LowerJoins", spec := "lowerJoins", inPlace := ["internal/abi.NoEscape", "internal/bytealg.MakeNoZero", "internal/bytealg.IndexByteString", "internal/bytealg.IndexString"], unfollowed := true, recurses := true, named := ["flong/styles.gap", "unicode/utf8.first", "unicode/utf8.acceptRanges", "internal/bytealg.MaxLen"], loops := true, apart := false, laid := [("unicode/utf8.acceptRanges", laid_unicode_utf8_acceptRanges), ("flong/styles.gap", laid_flong_styles_gap), ("unicode/utf8.first", laid_unicode_utf8_first)] }
def LowerJoinsSaid : Prop := lowerJoinsRow.holds Tryd.pinned (OpenSpec.ofChange lowerJoinsSpec)

/-- ITS FALSE NEIGHBOUR: 'it returns false'. Refute it at one input. -/
def lowerJoinsWrong : ChangeSpec := { name := "lowerJoins", fn := fun _ => fun
  | [d1, d2] => { results := [.lit (.bool false)], args := [d1, d2] }
  | _ => none }
def LowerJoinsWrongFalsely : Prop := lowerJoinsRow.holds Tryd.pinned (OpenSpec.ofChange lowerJoinsWrong)

/-- 'flonglaw15.LowerIn': WHATEVER THE INPUT: true; the input reads as it did. -/
def lowerInSpec : ChangeSpec := { name := "lowerIn", fn := fun _ => fun
  | [d1, d2] => { results := [.lit (.bool true)], args := [d1, d2] }
  | _ => none }
def lowerInRow : OpenClaim := { program := "ytlnnnfogbakimaadoor", sum := "62f1d4549279dd9c54ee3343f99565b6d974240e9719622b890f640611f7f84f", func := "flong/flonglaw15.LowerIn", spec := "lowerIn", inPlace := ["internal/abi.NoEscape", "internal/bytealg.MakeNoZero", "internal/bytealg.IndexByteString", "internal/bytealg.IndexString"], unfollowed := true, recurses := true, named := ["flong/styles.gap", "unicode/utf8.first", "unicode/utf8.acceptRanges", "internal/bytealg.MaxLen"], loops := true, apart := false, laid := [("unicode/utf8.acceptRanges", laid_unicode_utf8_acceptRanges), ("flong/styles.gap", laid_flong_styles_gap), ("unicode/utf8.first", laid_unicode_utf8_first)] }
def LowerInSaid : Prop := lowerInRow.holds Tryd.pinned (OpenSpec.ofChange lowerInSpec)

/-- ITS FALSE NEIGHBOUR: 'it returns false'. Refute it at one input. -/
def lowerInWrong : ChangeSpec := { name := "lowerIn", fn := fun _ => fun
  | [d1, d2] => { results := [.lit (.bool false)], args := [d1, d2] }
  | _ => none }
def LowerInWrongFalsely : Prop := lowerInRow.holds Tryd.pinned (OpenSpec.ofChange lowerInWrong)

/-- 'flonglaw15.LowerStrong': WHATEVER THE INPUT: true; the input reads as it did. -/
def lowerStrongSpec : ChangeSpec := { name := "lowerStrong", fn := fun _ => fun
  | [d] => { results := [.lit (.bool true)], args := [d] }
  | _ => none }
def lowerStrongRow : OpenClaim := { program := "ytlnnnfogbakimaadoor", sum := "62f1d4549279dd9c54ee3343f99565b6d974240e9719622b890f640611f7f84f", func := "flong/flonglaw15.LowerStrong", spec := "lowerStrong", inPlace := ["internal/abi.NoEscape", "internal/bytealg.MakeNoZero", "internal/bytealg.IndexByteString", "internal/bytealg.IndexString"], unfollowed := true, recurses := true, named := ["flong/styles.gap", "unicode/utf8.first", "unicode/utf8.acceptRanges", "internal/bytealg.MaxLen"], apart := false, laid := [("unicode/utf8.acceptRanges", laid_unicode_utf8_acceptRanges), ("flong/styles.gap", laid_flong_styles_gap), ("unicode/utf8.first", laid_unicode_utf8_first)] }
def LowerStrongSaid : Prop := lowerStrongRow.holds Tryd.pinned (OpenSpec.ofChange lowerStrongSpec)

/-- ITS FALSE NEIGHBOUR: 'it returns false'. Refute it at one input. -/
def lowerStrongWrong : ChangeSpec := { name := "lowerStrong", fn := fun _ => fun
  | [d] => { results := [.lit (.bool false)], args := [d] }
  | _ => none }
def LowerStrongWrongFalsely : Prop := lowerStrongRow.holds Tryd.pinned (OpenSpec.ofChange lowerStrongWrong)

/-- 'flonglaw07.TreeKeeps': WHATEVER THE INPUT: true; the input reads as it did. -/
def treeKeepsSpec : ChangeSpec := { name := "treeKeeps", fn := fun _ => fun
  | [d] => { results := [.lit (.bool true)], args := [d] }
  | _ => none }
def treeKeepsRow : OpenClaim := { program := "ytlnnnfogbakimaadoor", sum := "62f1d4549279dd9c54ee3343f99565b6d974240e9719622b890f640611f7f84f", func := "flong/flonglaw07.TreeKeeps", spec := "treeKeeps", inPlace := ["internal/abi.NoEscape", "internal/bytealg.MakeNoZero", "internal/bytealg.IndexByteString", "internal/bytealg.IndexString"], unfollowed := true, recurses := true, named := ["flong/styles.gap", "unicode/utf8.first", "unicode/utf8.acceptRanges", "internal/bytealg.MaxLen"], loops := true, apart := false, laid := [("unicode/utf8.acceptRanges", laid_unicode_utf8_acceptRanges), ("flong/styles.gap", laid_flong_styles_gap), ("unicode/utf8.first", laid_unicode_utf8_first)] }
def TreeKeepsSaid : Prop := treeKeepsRow.holds Tryd.pinned (OpenSpec.ofChange treeKeepsSpec)

/-- ITS FALSE NEIGHBOUR: 'it returns false'. Refute it at one input. -/
def treeKeepsWrong : ChangeSpec := { name := "treeKeeps", fn := fun _ => fun
  | [d] => { results := [.lit (.bool false)], args := [d] }
  | _ => none }
def TreeKeepsWrongFalsely : Prop := treeKeepsRow.holds Tryd.pinned (OpenSpec.ofChange treeKeepsWrong)

/-- 'flonglaw15.LowerKeeps': WHATEVER THE INPUT: true; the input reads as it did. -/
def lowerKeepsSpec : ChangeSpec := { name := "lowerKeeps", fn := fun _ => fun
  | [d] => { results := [.lit (.bool true)], args := [d] }
  | _ => none }
def lowerKeepsRow : OpenClaim := { program := "ytlnnnfogbakimaadoor", sum := "62f1d4549279dd9c54ee3343f99565b6d974240e9719622b890f640611f7f84f", func := "flong/flonglaw15.LowerKeeps", spec := "lowerKeeps", inPlace := ["internal/abi.NoEscape", "internal/bytealg.MakeNoZero", "internal/bytealg.IndexByteString", "internal/bytealg.IndexString"], unfollowed := true, recurses := true, named := ["flong/styles.gap", "unicode/utf8.first", "unicode/utf8.acceptRanges", "internal/bytealg.MaxLen"], loops := true, apart := false, laid := [("unicode/utf8.acceptRanges", laid_unicode_utf8_acceptRanges), ("flong/styles.gap", laid_flong_styles_gap), ("unicode/utf8.first", laid_unicode_utf8_first)] }
def LowerKeepsSaid : Prop := lowerKeepsRow.holds Tryd.pinned (OpenSpec.ofChange lowerKeepsSpec)

/-- ITS FALSE NEIGHBOUR: 'it returns false'. Refute it at one input. -/
def lowerKeepsWrong : ChangeSpec := { name := "lowerKeeps", fn := fun _ => fun
  | [d] => { results := [.lit (.bool false)], args := [d] }
  | _ => none }
def LowerKeepsWrongFalsely : Prop := lowerKeepsRow.holds Tryd.pinned (OpenSpec.ofChange lowerKeepsWrong)

/-- 'flonglaw07.TreeTables': WHATEVER THE INPUT: true; the input reads as it did. -/
def treeTablesSpec : ChangeSpec := { name := "treeTables", fn := fun _ => fun
  | [d] => { results := [.lit (.bool true)], args := [d] }
  | _ => none }
def treeTablesRow : OpenClaim := { program := "ytlnnnfogbakimaadoor", sum := "62f1d4549279dd9c54ee3343f99565b6d974240e9719622b890f640611f7f84f", func := "flong/flonglaw07.TreeTables", spec := "treeTables", inPlace := ["internal/abi.NoEscape", "internal/bytealg.MakeNoZero", "internal/bytealg.IndexByteString", "internal/bytealg.IndexString"], unfollowed := true, recurses := true, named := ["flong/styles.gap", "unicode/utf8.first", "unicode/utf8.acceptRanges", "internal/bytealg.MaxLen"], apart := false, laid := [("unicode/utf8.acceptRanges", laid_unicode_utf8_acceptRanges), ("flong/styles.gap", laid_flong_styles_gap), ("unicode/utf8.first", laid_unicode_utf8_first)] }
def TreeTablesSaid : Prop := treeTablesRow.holds Tryd.pinned (OpenSpec.ofChange treeTablesSpec)

/-- ITS FALSE NEIGHBOUR: 'it returns false'. Refute it at one input. -/
def treeTablesWrong : ChangeSpec := { name := "treeTables", fn := fun _ => fun
  | [d] => { results := [.lit (.bool false)], args := [d] }
  | _ => none }
def TreeTablesWrongFalsely : Prop := treeTablesRow.holds Tryd.pinned (OpenSpec.ofChange treeTablesWrong)

/-- 'flonglaw07.TreeTidies': WHATEVER THE INPUT: true; the input reads as it did. -/
def treeTidiesSpec : ChangeSpec := { name := "treeTidies", fn := fun _ => fun
  | [d] => { results := [.lit (.bool true)], args := [d] }
  | _ => none }
def treeTidiesRow : OpenClaim := { program := "ytlnnnfogbakimaadoor", sum := "62f1d4549279dd9c54ee3343f99565b6d974240e9719622b890f640611f7f84f", func := "flong/flonglaw07.TreeTidies", spec := "treeTidies", inPlace := ["internal/abi.NoEscape", "internal/bytealg.MakeNoZero", "internal/bytealg.IndexByteString", "internal/bytealg.IndexString"], unfollowed := true, recurses := true, named := ["flong/styles.gap", "unicode/utf8.first", "unicode/utf8.acceptRanges", "internal/bytealg.MaxLen"], loops := true, apart := false, laid := [("unicode/utf8.acceptRanges", laid_unicode_utf8_acceptRanges), ("flong/styles.gap", laid_flong_styles_gap), ("unicode/utf8.first", laid_unicode_utf8_first)] }
def TreeTidiesSaid : Prop := treeTidiesRow.holds Tryd.pinned (OpenSpec.ofChange treeTidiesSpec)

/-- ITS FALSE NEIGHBOUR: 'it returns false'. Refute it at one input. -/
def treeTidiesWrong : ChangeSpec := { name := "treeTidies", fn := fun _ => fun
  | [d] => { results := [.lit (.bool false)], args := [d] }
  | _ => none }
def TreeTidiesWrongFalsely : Prop := treeTidiesRow.holds Tryd.pinned (OpenSpec.ofChange treeTidiesWrong)

/-- 'flonglaw07.TreeStays': WHATEVER THE INPUT: true; the input reads as it did. -/
def treeStaysSpec : ChangeSpec := { name := "treeStays", fn := fun _ => fun
  | [d] => { results := [.lit (.bool true)], args := [d] }
  | _ => none }
def treeStaysRow : OpenClaim := { program := "ytlnnnfogbakimaadoor", sum := "62f1d4549279dd9c54ee3343f99565b6d974240e9719622b890f640611f7f84f", func := "flong/flonglaw07.TreeStays", spec := "treeStays", inPlace := ["internal/abi.NoEscape", "internal/bytealg.MakeNoZero", "internal/bytealg.IndexByteString", "internal/bytealg.IndexString"], unfollowed := true, recurses := true, named := ["flong/styles.gap", "unicode/utf8.first", "unicode/utf8.acceptRanges", "internal/bytealg.MaxLen"], loops := true, apart := false, laid := [("unicode/utf8.acceptRanges", laid_unicode_utf8_acceptRanges), ("flong/styles.gap", laid_flong_styles_gap), ("unicode/utf8.first", laid_unicode_utf8_first)] }
def TreeStaysSaid : Prop := treeStaysRow.holds Tryd.pinned (OpenSpec.ofChange treeStaysSpec)

/-- ITS FALSE NEIGHBOUR: 'it returns false'. Refute it at one input. -/
def treeStaysWrong : ChangeSpec := { name := "treeStays", fn := fun _ => fun
  | [d] => { results := [.lit (.bool false)], args := [d] }
  | _ => none }
def TreeStaysWrongFalsely : Prop := treeStaysRow.holds Tryd.pinned (OpenSpec.ofChange treeStaysWrong)

/- THE SECOND FORM. 'bulk': how many values and letters a reading holds, each counted each time it is reached (what is shared counts as often as it is met; a slice's spare places count too). A statement '..UptoSaid' is the law's where the arguments, and the package variables that the reading takes, are together of bulk at most 1048576: NARROWER than '..Said'. Prove '..Said' where nothing that the law and all that it calls make is longer than what came in: it says more and counts as full. Else prove '..UptoSaid'. A law counts once. -/
mutual
def uptoBulk {H : Type} : DataW H → Nat
  | .lit (.string bytes) => bytes.length + 1
  | .lit _ => 1
  | .nil => 1
  | .ptr d => uptoBulk d + 1
  | .slice elems spare => uptoBulkAll elems + uptoBulkAll spare + 1
  | .agg parts => uptoBulkAll parts + 1
  | .iface _ d => uptoBulk d + 1
  | .map entries => uptoBulkEntries entries + 1
  | .held _ => 1
def uptoBulkAll {H : Type} : List (DataW H) → Nat
  | [] => 0
  | d :: r => uptoBulk d + uptoBulkAll r
def uptoBulkEntries {H : Type} : List (Lit × DataW H) → Nat
  | [] => 0
  | x :: r => uptoBulkEntry x + uptoBulkEntries r
def uptoBulkEntry {H : Type} : Lit × DataW H → Nat
  | (.string bytes, d) => bytes.length + uptoBulk d + 1
  | (_, d) => uptoBulk d + 1
 end
def uptoSmall : (H : Type) → List (DataW H) → Bool := fun _ ds => decide (uptoBulkAll ds ≤ 1048576)
def OpenSpec.upto (s : _root_.Go.ChangeSpec) : _root_.Go.OpenSpec := { _root_.Go.OpenSpec.ofChange s with cond := some uptoSmall }

/-- 'flonglaw07.TreeOwn', WHERE WHAT IT READS IS OF BULK AT MOST 1048576: true; the input reads as it did. -/
def treeOwnUptoRow : OpenClaim := { program := "ytlnnnfogbakimaadoor", sum := "62f1d4549279dd9c54ee3343f99565b6d974240e9719622b890f640611f7f84f", func := "flong/flonglaw07.TreeOwn", spec := "treeOwn", inPlace := ["internal/abi.NoEscape", "internal/bytealg.MakeNoZero", "internal/bytealg.IndexByteString", "internal/bytealg.IndexString"], unfollowed := true, recurses := true, named := ["flong/styles.gap", "unicode/utf8.first", "unicode/utf8.acceptRanges", "internal/bytealg.MaxLen"], loops := true, apart := false, laid := [("unicode/utf8.acceptRanges", laid_unicode_utf8_acceptRanges), ("flong/styles.gap", laid_flong_styles_gap), ("unicode/utf8.first", laid_unicode_utf8_first)], narrowed := true }
def TreeOwnUptoSaid : Prop := treeOwnUptoRow.holds Tryd.pinned (OpenSpec.upto treeOwnSpec)

/-- 'flonglaw07.TreeSame', WHERE WHAT IT READS IS OF BULK AT MOST 1048576: true; the input reads as it did. -/
def treeSameUptoRow : OpenClaim := { program := "ytlnnnfogbakimaadoor", sum := "62f1d4549279dd9c54ee3343f99565b6d974240e9719622b890f640611f7f84f", func := "flong/flonglaw07.TreeSame", spec := "treeSame", inPlace := ["internal/abi.NoEscape", "internal/bytealg.MakeNoZero", "internal/bytealg.IndexByteString", "internal/bytealg.IndexString"], unfollowed := true, recurses := true, named := ["flong/styles.gap", "unicode/utf8.first", "unicode/utf8.acceptRanges", "internal/bytealg.MaxLen"], loops := true, apart := false, laid := [("unicode/utf8.acceptRanges", laid_unicode_utf8_acceptRanges), ("flong/styles.gap", laid_flong_styles_gap), ("unicode/utf8.first", laid_unicode_utf8_first)], narrowed := true }
def TreeSameUptoSaid : Prop := treeSameUptoRow.holds Tryd.pinned (OpenSpec.upto treeSameSpec)

/-- 'flonglaw15.LowerBlocks', WHERE WHAT IT READS IS OF BULK AT MOST 1048576: true; the input reads as it did. -/
def lowerBlocksUptoRow : OpenClaim := { program := "ytlnnnfogbakimaadoor", sum := "62f1d4549279dd9c54ee3343f99565b6d974240e9719622b890f640611f7f84f", func := "flong/flonglaw15.LowerBlocks", spec := "lowerBlocks", inPlace := ["internal/abi.NoEscape", "internal/bytealg.MakeNoZero", "internal/bytealg.IndexByteString", "internal/bytealg.IndexString"], unfollowed := true, recurses := true, named := ["flong/styles.gap", "unicode/utf8.first", "unicode/utf8.acceptRanges", "internal/bytealg.MaxLen"], loops := true, apart := false, laid := [("unicode/utf8.acceptRanges", laid_unicode_utf8_acceptRanges), ("flong/styles.gap", laid_flong_styles_gap), ("unicode/utf8.first", laid_unicode_utf8_first)], narrowed := true }
def LowerBlocksUptoSaid : Prop := lowerBlocksUptoRow.holds Tryd.pinned (OpenSpec.upto lowerBlocksSpec)

/-- 'flonglaw15.LowerGaps', WHERE WHAT IT READS IS OF BULK AT MOST 1048576: true; the input reads as it did. -/
def lowerGapsUptoRow : OpenClaim := { program := "ytlnnnfogbakimaadoor", sum := "62f1d4549279dd9c54ee3343f99565b6d974240e9719622b890f640611f7f84f", func := "flong/flonglaw15.LowerGaps", spec := "lowerGaps", inPlace := ["internal/abi.NoEscape", "internal/bytealg.MakeNoZero", "internal/bytealg.IndexByteString", "internal/bytealg.IndexString"], unfollowed := true, recurses := true, named := ["flong/styles.gap", "unicode/utf8.first", "unicode/utf8.acceptRanges", "internal/bytealg.MaxLen"], loops := true, apart := false, laid := [("unicode/utf8.acceptRanges", laid_unicode_utf8_acceptRanges), ("flong/styles.gap", laid_flong_styles_gap), ("unicode/utf8.first", laid_unicode_utf8_first)], narrowed := true }
def LowerGapsUptoSaid : Prop := lowerGapsUptoRow.holds Tryd.pinned (OpenSpec.upto lowerGapsSpec)

/-- 'flonglaw15.LowerJoins', WHERE WHAT IT READS IS OF BULK AT MOST 1048576: true; the input reads as it did. -/
def lowerJoinsUptoRow : OpenClaim := { program := "ytlnnnfogbakimaadoor", sum := "62f1d4549279dd9c54ee3343f99565b6d974240e9719622b890f640611f7f84f", func := "flong/flonglaw15.LowerJoins", spec := "lowerJoins", inPlace := ["internal/abi.NoEscape", "internal/bytealg.MakeNoZero", "internal/bytealg.IndexByteString", "internal/bytealg.IndexString"], unfollowed := true, recurses := true, named := ["flong/styles.gap", "unicode/utf8.first", "unicode/utf8.acceptRanges", "internal/bytealg.MaxLen"], loops := true, apart := false, laid := [("unicode/utf8.acceptRanges", laid_unicode_utf8_acceptRanges), ("flong/styles.gap", laid_flong_styles_gap), ("unicode/utf8.first", laid_unicode_utf8_first)], narrowed := true }
def LowerJoinsUptoSaid : Prop := lowerJoinsUptoRow.holds Tryd.pinned (OpenSpec.upto lowerJoinsSpec)

/-- 'flonglaw15.LowerIn', WHERE WHAT IT READS IS OF BULK AT MOST 1048576: true; the input reads as it did. -/
def lowerInUptoRow : OpenClaim := { program := "ytlnnnfogbakimaadoor", sum := "62f1d4549279dd9c54ee3343f99565b6d974240e9719622b890f640611f7f84f", func := "flong/flonglaw15.LowerIn", spec := "lowerIn", inPlace := ["internal/abi.NoEscape", "internal/bytealg.MakeNoZero", "internal/bytealg.IndexByteString", "internal/bytealg.IndexString"], unfollowed := true, recurses := true, named := ["flong/styles.gap", "unicode/utf8.first", "unicode/utf8.acceptRanges", "internal/bytealg.MaxLen"], loops := true, apart := false, laid := [("unicode/utf8.acceptRanges", laid_unicode_utf8_acceptRanges), ("flong/styles.gap", laid_flong_styles_gap), ("unicode/utf8.first", laid_unicode_utf8_first)], narrowed := true }
def LowerInUptoSaid : Prop := lowerInUptoRow.holds Tryd.pinned (OpenSpec.upto lowerInSpec)

/-- 'flonglaw15.LowerStrong', WHERE WHAT IT READS IS OF BULK AT MOST 1048576: true; the input reads as it did. -/
def lowerStrongUptoRow : OpenClaim := { program := "ytlnnnfogbakimaadoor", sum := "62f1d4549279dd9c54ee3343f99565b6d974240e9719622b890f640611f7f84f", func := "flong/flonglaw15.LowerStrong", spec := "lowerStrong", inPlace := ["internal/abi.NoEscape", "internal/bytealg.MakeNoZero", "internal/bytealg.IndexByteString", "internal/bytealg.IndexString"], unfollowed := true, recurses := true, named := ["flong/styles.gap", "unicode/utf8.first", "unicode/utf8.acceptRanges", "internal/bytealg.MaxLen"], apart := false, laid := [("unicode/utf8.acceptRanges", laid_unicode_utf8_acceptRanges), ("flong/styles.gap", laid_flong_styles_gap), ("unicode/utf8.first", laid_unicode_utf8_first)], narrowed := true }
def LowerStrongUptoSaid : Prop := lowerStrongUptoRow.holds Tryd.pinned (OpenSpec.upto lowerStrongSpec)

/-- 'flonglaw07.TreeKeeps', WHERE WHAT IT READS IS OF BULK AT MOST 1048576: true; the input reads as it did. -/
def treeKeepsUptoRow : OpenClaim := { program := "ytlnnnfogbakimaadoor", sum := "62f1d4549279dd9c54ee3343f99565b6d974240e9719622b890f640611f7f84f", func := "flong/flonglaw07.TreeKeeps", spec := "treeKeeps", inPlace := ["internal/abi.NoEscape", "internal/bytealg.MakeNoZero", "internal/bytealg.IndexByteString", "internal/bytealg.IndexString"], unfollowed := true, recurses := true, named := ["flong/styles.gap", "unicode/utf8.first", "unicode/utf8.acceptRanges", "internal/bytealg.MaxLen"], loops := true, apart := false, laid := [("unicode/utf8.acceptRanges", laid_unicode_utf8_acceptRanges), ("flong/styles.gap", laid_flong_styles_gap), ("unicode/utf8.first", laid_unicode_utf8_first)], narrowed := true }
def TreeKeepsUptoSaid : Prop := treeKeepsUptoRow.holds Tryd.pinned (OpenSpec.upto treeKeepsSpec)

/-- 'flonglaw15.LowerKeeps', WHERE WHAT IT READS IS OF BULK AT MOST 1048576: true; the input reads as it did. -/
def lowerKeepsUptoRow : OpenClaim := { program := "ytlnnnfogbakimaadoor", sum := "62f1d4549279dd9c54ee3343f99565b6d974240e9719622b890f640611f7f84f", func := "flong/flonglaw15.LowerKeeps", spec := "lowerKeeps", inPlace := ["internal/abi.NoEscape", "internal/bytealg.MakeNoZero", "internal/bytealg.IndexByteString", "internal/bytealg.IndexString"], unfollowed := true, recurses := true, named := ["flong/styles.gap", "unicode/utf8.first", "unicode/utf8.acceptRanges", "internal/bytealg.MaxLen"], loops := true, apart := false, laid := [("unicode/utf8.acceptRanges", laid_unicode_utf8_acceptRanges), ("flong/styles.gap", laid_flong_styles_gap), ("unicode/utf8.first", laid_unicode_utf8_first)], narrowed := true }
def LowerKeepsUptoSaid : Prop := lowerKeepsUptoRow.holds Tryd.pinned (OpenSpec.upto lowerKeepsSpec)

/-- 'flonglaw07.TreeTables', WHERE WHAT IT READS IS OF BULK AT MOST 1048576: true; the input reads as it did. -/
def treeTablesUptoRow : OpenClaim := { program := "ytlnnnfogbakimaadoor", sum := "62f1d4549279dd9c54ee3343f99565b6d974240e9719622b890f640611f7f84f", func := "flong/flonglaw07.TreeTables", spec := "treeTables", inPlace := ["internal/abi.NoEscape", "internal/bytealg.MakeNoZero", "internal/bytealg.IndexByteString", "internal/bytealg.IndexString"], unfollowed := true, recurses := true, named := ["flong/styles.gap", "unicode/utf8.first", "unicode/utf8.acceptRanges", "internal/bytealg.MaxLen"], apart := false, laid := [("unicode/utf8.acceptRanges", laid_unicode_utf8_acceptRanges), ("flong/styles.gap", laid_flong_styles_gap), ("unicode/utf8.first", laid_unicode_utf8_first)], narrowed := true }
def TreeTablesUptoSaid : Prop := treeTablesUptoRow.holds Tryd.pinned (OpenSpec.upto treeTablesSpec)

/-- 'flonglaw07.TreeTidies', WHERE WHAT IT READS IS OF BULK AT MOST 1048576: true; the input reads as it did. -/
def treeTidiesUptoRow : OpenClaim := { program := "ytlnnnfogbakimaadoor", sum := "62f1d4549279dd9c54ee3343f99565b6d974240e9719622b890f640611f7f84f", func := "flong/flonglaw07.TreeTidies", spec := "treeTidies", inPlace := ["internal/abi.NoEscape", "internal/bytealg.MakeNoZero", "internal/bytealg.IndexByteString", "internal/bytealg.IndexString"], unfollowed := true, recurses := true, named := ["flong/styles.gap", "unicode/utf8.first", "unicode/utf8.acceptRanges", "internal/bytealg.MaxLen"], loops := true, apart := false, laid := [("unicode/utf8.acceptRanges", laid_unicode_utf8_acceptRanges), ("flong/styles.gap", laid_flong_styles_gap), ("unicode/utf8.first", laid_unicode_utf8_first)], narrowed := true }
def TreeTidiesUptoSaid : Prop := treeTidiesUptoRow.holds Tryd.pinned (OpenSpec.upto treeTidiesSpec)

/-- 'flonglaw07.TreeStays', WHERE WHAT IT READS IS OF BULK AT MOST 1048576: true; the input reads as it did. -/
def treeStaysUptoRow : OpenClaim := { program := "ytlnnnfogbakimaadoor", sum := "62f1d4549279dd9c54ee3343f99565b6d974240e9719622b890f640611f7f84f", func := "flong/flonglaw07.TreeStays", spec := "treeStays", inPlace := ["internal/abi.NoEscape", "internal/bytealg.MakeNoZero", "internal/bytealg.IndexByteString", "internal/bytealg.IndexString"], unfollowed := true, recurses := true, named := ["flong/styles.gap", "unicode/utf8.first", "unicode/utf8.acceptRanges", "internal/bytealg.MaxLen"], loops := true, apart := false, laid := [("unicode/utf8.acceptRanges", laid_unicode_utf8_acceptRanges), ("flong/styles.gap", laid_flong_styles_gap), ("unicode/utf8.first", laid_unicode_utf8_first)], narrowed := true }
def TreeStaysUptoSaid : Prop := treeStaysUptoRow.holds Tryd.pinned (OpenSpec.upto treeStaysSpec)

end Rows
end Go.Proofs.YtlnnnfogbakimaaDoor
