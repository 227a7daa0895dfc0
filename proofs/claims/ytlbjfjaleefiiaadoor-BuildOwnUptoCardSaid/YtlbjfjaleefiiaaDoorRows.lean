/-
  NARROWER THAN 'FOR EVERY INPUT', by the rows' own cells (each row's printed sentence says how): BuildTexts: laid · BuildSteps: loops, laid · BuildOwn: loops, laid · BuildEnds: loops, laid · BuildCloses: loops, laid.
  DERIVED. THE GIVEN ROWS OF THIS SEAT. 5 by the template 'for every input the law returns true; each argument reads behind the call as it read before'; 0 by the template 'total and deterministic' (their statements: YtlbjfjaleefiiaaDoorTotals.lean).
  GIVEN WITH THE SEED: the statements are not yours to turn. If you find one false, say at which input.
  Laid BY PROGRAM, IN A SANDBOX (cutbox-rows.mjs): the forced cells as the released guide's own fill.sh prints them over the translation caf63240372e6a92… (all of the seat's roots in one cut). By AI agents, Wed Nov 11 2026. No macro, syntax, notation, axiom, sorry.
-/
import Derived.Test.YtlbjfjaleefiiaaDoorChecked
import GoSem.PinnedTables
import GoSem.Claim
import GoSem.ClaimJoined
import GoSem.ClaimMapViews
import Derived.JoinedTies
import Derived.KernelRfl
namespace Go.Proofs.YtlbjfjaleefiiaaDoor
/- THE CELL 'sum', in the pinned program and in every row, IS THE sha256 OF THE DUMP (.gsa) THAT YtlbjfjaleefiiaaDoorProg.lean LOADS. Nothing in Lean hashes anything: it is a label: what it is worth is what the hold of that sum in a sandbox is worth. -/
noncomputable def Tryd.pinned : Pinned := { name := "ytlbjfjaleefiiaadoor", sum := "caf63240372e6a92fabeb5cc912d8028679434d156634d10d99acdda79aba446", checked := Tryd.checked }
namespace Rows
def none {H : Type} : Left H := { results := [], args := [] }

/- WHAT THE LISTED PACKAGE-LEVEL VARIABLES READ AS WHEN THE CALL BEGINS. Each datum BY PROGRAM (the guide's laid-datum.mjs) off the statement by which the dump's own 'gosem.cut.vars' lays the variable. In a bare row this is a premise. The card (YtlbjfjaleefiiaaDoorCards.lean) ties it to the program's text. -/
def laid_unicode_utf8_acceptRanges {H : Type} : DataW H := .agg [.agg [.lit (.int .u8 128), .lit (.int .u8 191)], .agg [.lit (.int .u8 160), .lit (.int .u8 191)], .agg [.lit (.int .u8 128), .lit (.int .u8 159)], .agg [.lit (.int .u8 144), .lit (.int .u8 191)], .agg [.lit (.int .u8 128), .lit (.int .u8 143)], .agg [.lit (.int .u8 0), .lit (.int .u8 0)], .agg [.lit (.int .u8 0), .lit (.int .u8 0)], .agg [.lit (.int .u8 0), .lit (.int .u8 0)], .agg [.lit (.int .u8 0), .lit (.int .u8 0)], .agg [.lit (.int .u8 0), .lit (.int .u8 0)], .agg [.lit (.int .u8 0), .lit (.int .u8 0)], .agg [.lit (.int .u8 0), .lit (.int .u8 0)], .agg [.lit (.int .u8 0), .lit (.int .u8 0)], .agg [.lit (.int .u8 0), .lit (.int .u8 0)], .agg [.lit (.int .u8 0), .lit (.int .u8 0)], .agg [.lit (.int .u8 0), .lit (.int .u8 0)]]
def laid_flong_cells_blank {H : Type} : DataW H := .agg [.lit (.int .i32 32), .lit (.int .u8 0)]
def laid_flong_styles_gap {H : Type} : DataW H := .agg [.lit (.int .i32 32), .lit (.int .u8 0)]
/-- One of Go's own tables, pinned by name: the form's constant. -/
def laid_unicode_utf8_first : DataW Unit := Go.Pinned.utf8First

/-- 'flonglaw08.BuildTexts': WHATEVER THE INPUT: true; the input reads as it did. -/
def buildTextsSpec : ChangeSpec := { name := "buildTexts", fn := fun _ => fun
  | [d1, d2] => { results := [.lit (.bool true)], args := [d1, d2] }
  | _ => none }
def buildTextsRow : OpenClaim := { program := "ytlbjfjaleefiiaadoor", sum := "caf63240372e6a92fabeb5cc912d8028679434d156634d10d99acdda79aba446", func := "flong/flonglaw08.BuildTexts", spec := "buildTexts", inPlace := ["internal/abi.NoEscape", "internal/bytealg.MakeNoZero", "internal/bytealg.IndexByteString", "internal/bytealg.IndexString"], unfollowed := true, recurses := true, named := ["flong/cells.blank", "flong/styles.gap", "unicode/utf8.first", "unicode/utf8.acceptRanges", "internal/bytealg.MaxLen"], apart := false, laid := [("unicode/utf8.acceptRanges", laid_unicode_utf8_acceptRanges), ("flong/cells.blank", laid_flong_cells_blank), ("flong/styles.gap", laid_flong_styles_gap), ("unicode/utf8.first", laid_unicode_utf8_first)] }
def BuildTextsSaid : Prop := buildTextsRow.holds Tryd.pinned (OpenSpec.ofChange buildTextsSpec)

/-- ITS FALSE NEIGHBOUR: 'it returns false'. Refute it at one input. -/
def buildTextsWrong : ChangeSpec := { name := "buildTexts", fn := fun _ => fun
  | [d1, d2] => { results := [.lit (.bool false)], args := [d1, d2] }
  | _ => none }
def BuildTextsWrongFalsely : Prop := buildTextsRow.holds Tryd.pinned (OpenSpec.ofChange buildTextsWrong)

/-- 'flonglaw08.BuildSteps': WHATEVER THE INPUT: true; the input reads as it did. -/
def buildStepsSpec : ChangeSpec := { name := "buildSteps", fn := fun _ => fun
  | [d1, d2] => { results := [.lit (.bool true)], args := [d1, d2] }
  | _ => none }
def buildStepsRow : OpenClaim := { program := "ytlbjfjaleefiiaadoor", sum := "caf63240372e6a92fabeb5cc912d8028679434d156634d10d99acdda79aba446", func := "flong/flonglaw08.BuildSteps", spec := "buildSteps", inPlace := ["internal/abi.NoEscape", "internal/bytealg.MakeNoZero", "internal/bytealg.IndexByteString", "internal/bytealg.IndexString"], unfollowed := true, recurses := true, named := ["flong/cells.blank", "flong/styles.gap", "unicode/utf8.first", "unicode/utf8.acceptRanges", "internal/bytealg.MaxLen"], loops := true, apart := false, laid := [("unicode/utf8.acceptRanges", laid_unicode_utf8_acceptRanges), ("flong/cells.blank", laid_flong_cells_blank), ("flong/styles.gap", laid_flong_styles_gap), ("unicode/utf8.first", laid_unicode_utf8_first)] }
def BuildStepsSaid : Prop := buildStepsRow.holds Tryd.pinned (OpenSpec.ofChange buildStepsSpec)

/-- ITS FALSE NEIGHBOUR: 'it returns false'. Refute it at one input. -/
def buildStepsWrong : ChangeSpec := { name := "buildSteps", fn := fun _ => fun
  | [d1, d2] => { results := [.lit (.bool false)], args := [d1, d2] }
  | _ => none }
def BuildStepsWrongFalsely : Prop := buildStepsRow.holds Tryd.pinned (OpenSpec.ofChange buildStepsWrong)

/-- 'flonglaw08.BuildOwn': WHATEVER THE INPUT: true; the input reads as it did. -/
def buildOwnSpec : ChangeSpec := { name := "buildOwn", fn := fun _ => fun
  | [d1, d2] => { results := [.lit (.bool true)], args := [d1, d2] }
  | _ => none }
def buildOwnRow : OpenClaim := { program := "ytlbjfjaleefiiaadoor", sum := "caf63240372e6a92fabeb5cc912d8028679434d156634d10d99acdda79aba446", func := "flong/flonglaw08.BuildOwn", spec := "buildOwn", inPlace := ["internal/abi.NoEscape", "internal/bytealg.MakeNoZero", "internal/bytealg.IndexByteString", "internal/bytealg.IndexString"], unfollowed := true, recurses := true, named := ["flong/cells.blank", "flong/styles.gap", "unicode/utf8.first", "unicode/utf8.acceptRanges", "internal/bytealg.MaxLen"], loops := true, apart := false, laid := [("unicode/utf8.acceptRanges", laid_unicode_utf8_acceptRanges), ("flong/cells.blank", laid_flong_cells_blank), ("flong/styles.gap", laid_flong_styles_gap), ("unicode/utf8.first", laid_unicode_utf8_first)] }
def BuildOwnSaid : Prop := buildOwnRow.holds Tryd.pinned (OpenSpec.ofChange buildOwnSpec)

/-- ITS FALSE NEIGHBOUR: 'it returns false'. Refute it at one input. -/
def buildOwnWrong : ChangeSpec := { name := "buildOwn", fn := fun _ => fun
  | [d1, d2] => { results := [.lit (.bool false)], args := [d1, d2] }
  | _ => none }
def BuildOwnWrongFalsely : Prop := buildOwnRow.holds Tryd.pinned (OpenSpec.ofChange buildOwnWrong)

/-- 'flonglaw08.BuildEnds': WHATEVER THE INPUT: true; the input reads as it did. -/
def buildEndsSpec : ChangeSpec := { name := "buildEnds", fn := fun _ => fun
  | [d] => { results := [.lit (.bool true)], args := [d] }
  | _ => none }
def buildEndsRow : OpenClaim := { program := "ytlbjfjaleefiiaadoor", sum := "caf63240372e6a92fabeb5cc912d8028679434d156634d10d99acdda79aba446", func := "flong/flonglaw08.BuildEnds", spec := "buildEnds", inPlace := ["internal/abi.NoEscape", "internal/bytealg.MakeNoZero", "internal/bytealg.IndexByteString", "internal/bytealg.IndexString"], unfollowed := true, recurses := true, named := ["flong/cells.blank", "flong/styles.gap", "unicode/utf8.first", "unicode/utf8.acceptRanges", "internal/bytealg.MaxLen"], loops := true, apart := false, laid := [("unicode/utf8.acceptRanges", laid_unicode_utf8_acceptRanges), ("flong/cells.blank", laid_flong_cells_blank), ("flong/styles.gap", laid_flong_styles_gap), ("unicode/utf8.first", laid_unicode_utf8_first)] }
def BuildEndsSaid : Prop := buildEndsRow.holds Tryd.pinned (OpenSpec.ofChange buildEndsSpec)

/-- ITS FALSE NEIGHBOUR: 'it returns false'. Refute it at one input. -/
def buildEndsWrong : ChangeSpec := { name := "buildEnds", fn := fun _ => fun
  | [d] => { results := [.lit (.bool false)], args := [d] }
  | _ => none }
def BuildEndsWrongFalsely : Prop := buildEndsRow.holds Tryd.pinned (OpenSpec.ofChange buildEndsWrong)

/-- 'flonglaw08.BuildCloses': WHATEVER THE INPUT: true; the input reads as it did. -/
def buildClosesSpec : ChangeSpec := { name := "buildCloses", fn := fun _ => fun
  | [d1, d2, d3] => { results := [.lit (.bool true)], args := [d1, d2, d3] }
  | _ => none }
def buildClosesRow : OpenClaim := { program := "ytlbjfjaleefiiaadoor", sum := "caf63240372e6a92fabeb5cc912d8028679434d156634d10d99acdda79aba446", func := "flong/flonglaw08.BuildCloses", spec := "buildCloses", inPlace := ["internal/abi.NoEscape", "internal/bytealg.MakeNoZero", "internal/bytealg.IndexByteString", "internal/bytealg.IndexString"], unfollowed := true, recurses := true, named := ["flong/cells.blank", "flong/styles.gap", "unicode/utf8.first", "unicode/utf8.acceptRanges", "internal/bytealg.MaxLen"], loops := true, apart := false, laid := [("unicode/utf8.acceptRanges", laid_unicode_utf8_acceptRanges), ("flong/cells.blank", laid_flong_cells_blank), ("flong/styles.gap", laid_flong_styles_gap), ("unicode/utf8.first", laid_unicode_utf8_first)] }
def BuildClosesSaid : Prop := buildClosesRow.holds Tryd.pinned (OpenSpec.ofChange buildClosesSpec)

/-- ITS FALSE NEIGHBOUR: 'it returns false'. Refute it at one input. -/
def buildClosesWrong : ChangeSpec := { name := "buildCloses", fn := fun _ => fun
  | [d1, d2, d3] => { results := [.lit (.bool false)], args := [d1, d2, d3] }
  | _ => none }
def BuildClosesWrongFalsely : Prop := buildClosesRow.holds Tryd.pinned (OpenSpec.ofChange buildClosesWrong)

/- THE SECOND FORM. 'bulk': how many values and letters a reading holds, each counted each time it is reached (what is shared counts as often as it is met; a slice's spare places count too). A statement '..UptoSaid' is the law's where the arguments, and the package variables that the reading takes, are together of bulk at most 1048576: NARROWER than '..Said'. Prove '..Said' where nothing that the law and all that it calls make is longer than what came in: it says more and counts as full. Else prove '..UptoSaid'. A law counts once. -/
mutual
def uptoBulk {H : Type} : DataW H → Nat
  | .lit (.string bytes) => bytes.length + 1
  | .lit _ => 1
  | .nil => 1
  | .ptr d => uptoBulk d + 1
  | .slice elems spare => uptoBulkAll elems + uptoBulkAll spare + 1
  | .agg parts => uptoBulkAll parts + 1
  | .iface _ d => uptoBulk d + 1
  | .map entries => uptoBulkEntries entries + 1
  | .held _ => 1
def uptoBulkAll {H : Type} : List (DataW H) → Nat
  | [] => 0
  | d :: r => uptoBulk d + uptoBulkAll r
def uptoBulkEntries {H : Type} : List (Lit × DataW H) → Nat
  | [] => 0
  | x :: r => uptoBulkEntry x + uptoBulkEntries r
def uptoBulkEntry {H : Type} : Lit × DataW H → Nat
  | (.string bytes, d) => bytes.length + uptoBulk d + 1
  | (_, d) => uptoBulk d + 1
 end
def uptoSmall : (H : Type) → List (DataW H) → Bool := fun _ ds => decide (uptoBulkAll ds ≤ 1048576)
def OpenSpec.upto (s : _root_.Go.ChangeSpec) : _root_.Go.OpenSpec := { _root_.Go.OpenSpec.ofChange s with cond := some uptoSmall }

/-- 'flonglaw08.BuildTexts', WHERE WHAT IT READS IS OF BULK AT MOST 1048576: true; the input reads as it did. -/
def buildTextsUptoRow : OpenClaim := { program := "ytlbjfjaleefiiaadoor", sum := "caf63240372e6a92fabeb5cc912d8028679434d156634d10d99acdda79aba446", func := "flong/flonglaw08.BuildTexts", spec := "buildTexts", inPlace := ["internal/abi.NoEscape", "internal/bytealg.MakeNoZero", "internal/bytealg.IndexByteString", "internal/bytealg.IndexString"], unfollowed := true, recurses := true, named := ["flong/cells.blank", "flong/styles.gap", "unicode/utf8.first", "unicode/utf8.acceptRanges", "internal/bytealg.MaxLen"], apart := false, laid := [("unicode/utf8.acceptRanges", laid_unicode_utf8_acceptRanges), ("flong/cells.blank", laid_flong_cells_blank), ("flong/styles.gap", laid_flong_styles_gap), ("unicode/utf8.first", laid_unicode_utf8_first)], narrowed := true }
def BuildTextsUptoSaid : Prop := buildTextsUptoRow.holds Tryd.pinned (OpenSpec.upto buildTextsSpec)

/-- 'flonglaw08.BuildSteps', WHERE WHAT IT READS IS OF BULK AT MOST 1048576: true; the input reads as it did. -/
def buildStepsUptoRow : OpenClaim := { program := "ytlbjfjaleefiiaadoor", sum := "caf63240372e6a92fabeb5cc912d8028679434d156634d10d99acdda79aba446", func := "flong/flonglaw08.BuildSteps", spec := "buildSteps", inPlace := ["internal/abi.NoEscape", "internal/bytealg.MakeNoZero", "internal/bytealg.IndexByteString", "internal/bytealg.IndexString"], unfollowed := true, recurses := true, named := ["flong/cells.blank", "flong/styles.gap", "unicode/utf8.first", "unicode/utf8.acceptRanges", "internal/bytealg.MaxLen"], loops := true, apart := false, laid := [("unicode/utf8.acceptRanges", laid_unicode_utf8_acceptRanges), ("flong/cells.blank", laid_flong_cells_blank), ("flong/styles.gap", laid_flong_styles_gap), ("unicode/utf8.first", laid_unicode_utf8_first)], narrowed := true }
def BuildStepsUptoSaid : Prop := buildStepsUptoRow.holds Tryd.pinned (OpenSpec.upto buildStepsSpec)

/-- 'flonglaw08.BuildOwn', WHERE WHAT IT READS IS OF BULK AT MOST 1048576: true; the input reads as it did. -/
def buildOwnUptoRow : OpenClaim := { program := "ytlbjfjaleefiiaadoor", sum := "caf63240372e6a92fabeb5cc912d8028679434d156634d10d99acdda79aba446", func := "flong/flonglaw08.BuildOwn", spec := "buildOwn", inPlace := ["internal/abi.NoEscape", "internal/bytealg.MakeNoZero", "internal/bytealg.IndexByteString", "internal/bytealg.IndexString"], unfollowed := true, recurses := true, named := ["flong/cells.blank", "flong/styles.gap", "unicode/utf8.first", "unicode/utf8.acceptRanges", "internal/bytealg.MaxLen"], loops := true, apart := false, laid := [("unicode/utf8.acceptRanges", laid_unicode_utf8_acceptRanges), ("flong/cells.blank", laid_flong_cells_blank), ("flong/styles.gap", laid_flong_styles_gap), ("unicode/utf8.first", laid_unicode_utf8_first)], narrowed := true }
def BuildOwnUptoSaid : Prop := buildOwnUptoRow.holds Tryd.pinned (OpenSpec.upto buildOwnSpec)

/-- 'flonglaw08.BuildEnds', WHERE WHAT IT READS IS OF BULK AT MOST 1048576: true; the input reads as it did. -/
def buildEndsUptoRow : OpenClaim := { program := "ytlbjfjaleefiiaadoor", sum := "caf63240372e6a92fabeb5cc912d8028679434d156634d10d99acdda79aba446", func := "flong/flonglaw08.BuildEnds", spec := "buildEnds", inPlace := ["internal/abi.NoEscape", "internal/bytealg.MakeNoZero", "internal/bytealg.IndexByteString", "internal/bytealg.IndexString"], unfollowed := true, recurses := true, named := ["flong/cells.blank", "flong/styles.gap", "unicode/utf8.first", "unicode/utf8.acceptRanges", "internal/bytealg.MaxLen"], loops := true, apart := false, laid := [("unicode/utf8.acceptRanges", laid_unicode_utf8_acceptRanges), ("flong/cells.blank", laid_flong_cells_blank), ("flong/styles.gap", laid_flong_styles_gap), ("unicode/utf8.first", laid_unicode_utf8_first)], narrowed := true }
def BuildEndsUptoSaid : Prop := buildEndsUptoRow.holds Tryd.pinned (OpenSpec.upto buildEndsSpec)

/-- 'flonglaw08.BuildCloses', WHERE WHAT IT READS IS OF BULK AT MOST 1048576: true; the input reads as it did. -/
def buildClosesUptoRow : OpenClaim := { program := "ytlbjfjaleefiiaadoor", sum := "caf63240372e6a92fabeb5cc912d8028679434d156634d10d99acdda79aba446", func := "flong/flonglaw08.BuildCloses", spec := "buildCloses", inPlace := ["internal/abi.NoEscape", "internal/bytealg.MakeNoZero", "internal/bytealg.IndexByteString", "internal/bytealg.IndexString"], unfollowed := true, recurses := true, named := ["flong/cells.blank", "flong/styles.gap", "unicode/utf8.first", "unicode/utf8.acceptRanges", "internal/bytealg.MaxLen"], loops := true, apart := false, laid := [("unicode/utf8.acceptRanges", laid_unicode_utf8_acceptRanges), ("flong/cells.blank", laid_flong_cells_blank), ("flong/styles.gap", laid_flong_styles_gap), ("unicode/utf8.first", laid_unicode_utf8_first)], narrowed := true }
def BuildClosesUptoSaid : Prop := buildClosesUptoRow.holds Tryd.pinned (OpenSpec.upto buildClosesSpec)

end Rows
end Go.Proofs.YtlbjfjaleefiiaaDoor
