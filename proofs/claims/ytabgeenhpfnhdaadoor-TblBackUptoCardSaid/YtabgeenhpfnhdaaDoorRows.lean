/-
  NARROWER THAN 'FOR EVERY INPUT', by the rows' own cells (each row's printed sentence says how): TblParts: laid · TblSafe: laid · TblCuts: laid · TblBack: laid.
  DERIVED. THE GIVEN ROWS OF THIS SEAT. 4 by the template 'for every input the law returns true; each argument reads behind the call as it read before'; 0 by the template 'total and deterministic' (their statements: YtabgeenhpfnhdaaDoorTotals.lean).
  GIVEN WITH THE SEED: the statements are not yours to turn. If you find one false, say at which input.
  Laid BY PROGRAM, IN A SANDBOX (cutbox-rows.mjs): the forced cells as the released guide's own fill.sh prints them over the translation eef64422953bacb2… (all of the seat's roots in one cut). By AI agents, Wed Nov 11 2026. No macro, syntax, notation, axiom, sorry.
-/
import Derived.Test.YtabgeenhpfnhdaaDoorChecked
import GoSem.PinnedTables
import GoSem.Claim
import GoSem.ClaimJoined
import GoSem.ClaimMapViews
import Derived.JoinedTies
import Derived.KernelRfl
namespace Go.Proofs.YtabgeenhpfnhdaaDoor
/- THE CELL 'sum', in the pinned program and in every row, IS THE sha256 OF THE DUMP (.gsa) THAT YtabgeenhpfnhdaaDoorProg.lean LOADS. Nothing in Lean hashes anything: it is a label: what it is worth is what the hold of that sum in a sandbox is worth. -/
noncomputable def Tryd.pinned : Pinned := { name := "ytabgeenhpfnhdaadoor", sum := "eef64422953bacb23822d8c44ed9faee534d5186f5e6d8d1ffac3dc7dbe3a12c", checked := Tryd.checked }
namespace Rows
def none {H : Type} : Left H := { results := [], args := [] }

/- WHAT THE LISTED PACKAGE-LEVEL VARIABLES READ AS WHEN THE CALL BEGINS. Each datum BY PROGRAM (the guide's laid-datum.mjs) off the statement by which the dump's own 'gosem.cut.vars' lays the variable. In a bare row this is a premise. The card (YtabgeenhpfnhdaaDoorCards.lean) ties it to the program's text. -/
def laid_unicode_utf8_acceptRanges {H : Type} : DataW H := .agg [.agg [.lit (.int .u8 128), .lit (.int .u8 191)], .agg [.lit (.int .u8 160), .lit (.int .u8 191)], .agg [.lit (.int .u8 128), .lit (.int .u8 159)], .agg [.lit (.int .u8 144), .lit (.int .u8 191)], .agg [.lit (.int .u8 128), .lit (.int .u8 143)], .agg [.lit (.int .u8 0), .lit (.int .u8 0)], .agg [.lit (.int .u8 0), .lit (.int .u8 0)], .agg [.lit (.int .u8 0), .lit (.int .u8 0)], .agg [.lit (.int .u8 0), .lit (.int .u8 0)], .agg [.lit (.int .u8 0), .lit (.int .u8 0)], .agg [.lit (.int .u8 0), .lit (.int .u8 0)], .agg [.lit (.int .u8 0), .lit (.int .u8 0)], .agg [.lit (.int .u8 0), .lit (.int .u8 0)], .agg [.lit (.int .u8 0), .lit (.int .u8 0)], .agg [.lit (.int .u8 0), .lit (.int .u8 0)], .agg [.lit (.int .u8 0), .lit (.int .u8 0)]]
def laid_flong_escape_names {H : Type} : DataW H := .map [(.string [33, 61], .lit (.int .i32 8800)), (.string [45, 62], .lit (.int .i32 8594)), (.string [60, 45], .lit (.int .i32 8592)), (.string [60, 61], .lit (.int .i32 8804)), (.string [62, 61], .lit (.int .i32 8805)), (.string [69, 117], .lit (.int .i32 8364)), (.string [97, 58], .lit (.int .i32 228)), (.string [97, 113], .lit (.int .i32 39)), (.string [98, 117], .lit (.int .i32 8226)), (.string [99, 111], .lit (.int .i32 169)), (.string [99, 113], .lit (.int .i32 8217)), (.string [100, 101], .lit (.int .i32 176)), (.string [100, 105], .lit (.int .i32 247)), (.string [100, 113], .lit (.int .i32 34)), (.string [101, 109], .lit (.int .i32 8212)), (.string [101, 110], .lit (.int .i32 8211)), (.string [104, 97], .lit (.int .i32 94)), (.string [104, 121], .lit (.int .i32 8208)), (.string [108, 113], .lit (.int .i32 8220)), (.string [109, 117], .lit (.int .i32 215)), (.string [111, 58], .lit (.int .i32 246)), (.string [111, 113], .lit (.int .i32 8216)), (.string [114, 103], .lit (.int .i32 174)), (.string [114, 113], .lit (.int .i32 8221)), (.string [114, 115], .lit (.int .i32 92)), (.string [115, 99], .lit (.int .i32 167)), (.string [115, 115], .lit (.int .i32 223)), (.string [116, 105], .lit (.int .i32 126)), (.string [116, 109], .lit (.int .i32 8482)), (.string [117, 58], .lit (.int .i32 252))]
def laid_flong_escape_fonts {H : Type} : DataW H := .map [(.string [49], .lit (.int .i32 0)), (.string [50], .lit (.int .i32 1)), (.string [51], .lit (.int .i32 2)), (.string [52], .lit (.int .i32 3)), (.string [66], .lit (.int .i32 1)), (.string [66, 73], .lit (.int .i32 3)), (.string [73], .lit (.int .i32 2)), (.string [80], .lit (.int .i32 4)), (.string [82], .lit (.int .i32 0))]
def laid_flong_styles_gap {H : Type} : DataW H := .agg [.lit (.int .i32 32), .lit (.int .u8 0)]
/-- One of Go's own tables, pinned by name: the form's constant. -/
def laid_unicode_utf8_first : DataW Unit := Go.Pinned.utf8First

/-- 'flonglaw09.TblParts': WHATEVER THE INPUT: true; the input reads as it did. -/
def tblPartsSpec : ChangeSpec := { name := "tblParts", fn := fun _ => fun
  | [d] => { results := [.lit (.bool true)], args := [d] }
  | _ => none }
def tblPartsRow : OpenClaim := { program := "ytabgeenhpfnhdaadoor", sum := "eef64422953bacb23822d8c44ed9faee534d5186f5e6d8d1ffac3dc7dbe3a12c", func := "flong/flonglaw09.TblParts", spec := "tblParts", inPlace := ["internal/bytealg.IndexByteString", "internal/bytealg.CountString", "internal/bytealg.IndexString", "internal/abi.NoEscape", "internal/bytealg.MakeNoZero"], unfollowed := true, recurses := true, named := ["unicode/utf8.first", "unicode/utf8.acceptRanges", "internal/bytealg.MaxLen", "flong/escape.names", "flong/escape.fonts", "flong/styles.gap"], apart := false, laid := [("unicode/utf8.acceptRanges", laid_unicode_utf8_acceptRanges), ("flong/escape.names", laid_flong_escape_names), ("flong/escape.fonts", laid_flong_escape_fonts), ("flong/styles.gap", laid_flong_styles_gap), ("unicode/utf8.first", laid_unicode_utf8_first)] }
def TblPartsSaid : Prop := tblPartsRow.holds Tryd.pinned (OpenSpec.ofChange tblPartsSpec)

/-- ITS FALSE NEIGHBOUR: 'it returns false'. Refute it at one input. -/
def tblPartsWrong : ChangeSpec := { name := "tblParts", fn := fun _ => fun
  | [d] => { results := [.lit (.bool false)], args := [d] }
  | _ => none }
def TblPartsWrongFalsely : Prop := tblPartsRow.holds Tryd.pinned (OpenSpec.ofChange tblPartsWrong)

/-- 'flonglaw09.TblSafe': WHATEVER THE INPUT: true; the input reads as it did. -/
def tblSafeSpec : ChangeSpec := { name := "tblSafe", fn := fun _ => fun
  | [d1, d2] => { results := [.lit (.bool true)], args := [d1, d2] }
  | _ => none }
def tblSafeRow : OpenClaim := { program := "ytabgeenhpfnhdaadoor", sum := "eef64422953bacb23822d8c44ed9faee534d5186f5e6d8d1ffac3dc7dbe3a12c", func := "flong/flonglaw09.TblSafe", spec := "tblSafe", inPlace := ["internal/bytealg.IndexByteString", "internal/bytealg.CountString", "internal/bytealg.IndexString", "internal/abi.NoEscape", "internal/bytealg.MakeNoZero"], unfollowed := true, recurses := true, named := ["unicode/utf8.first", "unicode/utf8.acceptRanges", "internal/bytealg.MaxLen", "flong/escape.names", "flong/escape.fonts", "flong/styles.gap"], apart := false, laid := [("unicode/utf8.acceptRanges", laid_unicode_utf8_acceptRanges), ("flong/escape.names", laid_flong_escape_names), ("flong/escape.fonts", laid_flong_escape_fonts), ("flong/styles.gap", laid_flong_styles_gap), ("unicode/utf8.first", laid_unicode_utf8_first)] }
def TblSafeSaid : Prop := tblSafeRow.holds Tryd.pinned (OpenSpec.ofChange tblSafeSpec)

/-- ITS FALSE NEIGHBOUR: 'it returns false'. Refute it at one input. -/
def tblSafeWrong : ChangeSpec := { name := "tblSafe", fn := fun _ => fun
  | [d1, d2] => { results := [.lit (.bool false)], args := [d1, d2] }
  | _ => none }
def TblSafeWrongFalsely : Prop := tblSafeRow.holds Tryd.pinned (OpenSpec.ofChange tblSafeWrong)

/-- 'flonglaw09.TblCuts': WHATEVER THE INPUT: true; the input reads as it did. -/
def tblCutsSpec : ChangeSpec := { name := "tblCuts", fn := fun _ => fun
  | [d] => { results := [.lit (.bool true)], args := [d] }
  | _ => none }
def tblCutsRow : OpenClaim := { program := "ytabgeenhpfnhdaadoor", sum := "eef64422953bacb23822d8c44ed9faee534d5186f5e6d8d1ffac3dc7dbe3a12c", func := "flong/flonglaw09.TblCuts", spec := "tblCuts", inPlace := ["internal/bytealg.IndexByteString", "internal/bytealg.CountString", "internal/bytealg.IndexString", "internal/abi.NoEscape", "internal/bytealg.MakeNoZero"], unfollowed := true, recurses := true, named := ["unicode/utf8.first", "unicode/utf8.acceptRanges", "internal/bytealg.MaxLen", "flong/escape.names", "flong/escape.fonts", "flong/styles.gap"], apart := false, laid := [("unicode/utf8.acceptRanges", laid_unicode_utf8_acceptRanges), ("flong/escape.names", laid_flong_escape_names), ("flong/escape.fonts", laid_flong_escape_fonts), ("flong/styles.gap", laid_flong_styles_gap), ("unicode/utf8.first", laid_unicode_utf8_first)] }
def TblCutsSaid : Prop := tblCutsRow.holds Tryd.pinned (OpenSpec.ofChange tblCutsSpec)

/-- ITS FALSE NEIGHBOUR: 'it returns false'. Refute it at one input. -/
def tblCutsWrong : ChangeSpec := { name := "tblCuts", fn := fun _ => fun
  | [d] => { results := [.lit (.bool false)], args := [d] }
  | _ => none }
def TblCutsWrongFalsely : Prop := tblCutsRow.holds Tryd.pinned (OpenSpec.ofChange tblCutsWrong)

/-- 'flonglaw09.TblBack': WHATEVER THE INPUT: true; the input reads as it did. -/
def tblBackSpec : ChangeSpec := { name := "tblBack", fn := fun _ => fun
  | [d] => { results := [.lit (.bool true)], args := [d] }
  | _ => none }
def tblBackRow : OpenClaim := { program := "ytabgeenhpfnhdaadoor", sum := "eef64422953bacb23822d8c44ed9faee534d5186f5e6d8d1ffac3dc7dbe3a12c", func := "flong/flonglaw09.TblBack", spec := "tblBack", inPlace := ["internal/bytealg.IndexByteString", "internal/bytealg.CountString", "internal/bytealg.IndexString", "internal/abi.NoEscape", "internal/bytealg.MakeNoZero"], unfollowed := true, recurses := true, named := ["unicode/utf8.first", "unicode/utf8.acceptRanges", "internal/bytealg.MaxLen", "flong/escape.names", "flong/escape.fonts", "flong/styles.gap"], apart := false, laid := [("unicode/utf8.acceptRanges", laid_unicode_utf8_acceptRanges), ("flong/escape.names", laid_flong_escape_names), ("flong/escape.fonts", laid_flong_escape_fonts), ("flong/styles.gap", laid_flong_styles_gap), ("unicode/utf8.first", laid_unicode_utf8_first)] }
def TblBackSaid : Prop := tblBackRow.holds Tryd.pinned (OpenSpec.ofChange tblBackSpec)

/-- ITS FALSE NEIGHBOUR: 'it returns false'. Refute it at one input. -/
def tblBackWrong : ChangeSpec := { name := "tblBack", fn := fun _ => fun
  | [d] => { results := [.lit (.bool false)], args := [d] }
  | _ => none }
def TblBackWrongFalsely : Prop := tblBackRow.holds Tryd.pinned (OpenSpec.ofChange tblBackWrong)

/- THE SECOND FORM. 'bulk': how many values and letters a reading holds, each counted each time it is reached (what is shared counts as often as it is met; a slice's spare places count too). A statement '..UptoSaid' is the law's where the arguments, and the package variables that the reading takes, are together of bulk at most 1048576: NARROWER than '..Said'. Prove '..Said' where nothing that the law and all that it calls make is longer than what came in: it says more and counts as full. Else prove '..UptoSaid'. A law counts once. -/
mutual
def uptoBulk {H : Type} : DataW H → Nat
  | .lit (.string bytes) => bytes.length + 1
  | .lit _ => 1
  | .nil => 1
  | .ptr d => uptoBulk d + 1
  | .slice elems spare => uptoBulkAll elems + uptoBulkAll spare + 1
  | .agg parts => uptoBulkAll parts + 1
  | .iface _ d => uptoBulk d + 1
  | .map entries => uptoBulkEntries entries + 1
  | .held _ => 1
def uptoBulkAll {H : Type} : List (DataW H) → Nat
  | [] => 0
  | d :: r => uptoBulk d + uptoBulkAll r
def uptoBulkEntries {H : Type} : List (Lit × DataW H) → Nat
  | [] => 0
  | x :: r => uptoBulkEntry x + uptoBulkEntries r
def uptoBulkEntry {H : Type} : Lit × DataW H → Nat
  | (.string bytes, d) => bytes.length + uptoBulk d + 1
  | (_, d) => uptoBulk d + 1
 end
def uptoSmall : (H : Type) → List (DataW H) → Bool := fun _ ds => decide (uptoBulkAll ds ≤ 1048576)
def OpenSpec.upto (s : _root_.Go.ChangeSpec) : _root_.Go.OpenSpec := { _root_.Go.OpenSpec.ofChange s with cond := some uptoSmall }

/-- 'flonglaw09.TblParts', WHERE WHAT IT READS IS OF BULK AT MOST 1048576: true; the input reads as it did. -/
def tblPartsUptoRow : OpenClaim := { program := "ytabgeenhpfnhdaadoor", sum := "eef64422953bacb23822d8c44ed9faee534d5186f5e6d8d1ffac3dc7dbe3a12c", func := "flong/flonglaw09.TblParts", spec := "tblParts", inPlace := ["internal/bytealg.IndexByteString", "internal/bytealg.CountString", "internal/bytealg.IndexString", "internal/abi.NoEscape", "internal/bytealg.MakeNoZero"], unfollowed := true, recurses := true, named := ["unicode/utf8.first", "unicode/utf8.acceptRanges", "internal/bytealg.MaxLen", "flong/escape.names", "flong/escape.fonts", "flong/styles.gap"], apart := false, laid := [("unicode/utf8.acceptRanges", laid_unicode_utf8_acceptRanges), ("flong/escape.names", laid_flong_escape_names), ("flong/escape.fonts", laid_flong_escape_fonts), ("flong/styles.gap", laid_flong_styles_gap), ("unicode/utf8.first", laid_unicode_utf8_first)], narrowed := true }
def TblPartsUptoSaid : Prop := tblPartsUptoRow.holds Tryd.pinned (OpenSpec.upto tblPartsSpec)

/-- 'flonglaw09.TblSafe', WHERE WHAT IT READS IS OF BULK AT MOST 1048576: true; the input reads as it did. -/
def tblSafeUptoRow : OpenClaim := { program := "ytabgeenhpfnhdaadoor", sum := "eef64422953bacb23822d8c44ed9faee534d5186f5e6d8d1ffac3dc7dbe3a12c", func := "flong/flonglaw09.TblSafe", spec := "tblSafe", inPlace := ["internal/bytealg.IndexByteString", "internal/bytealg.CountString", "internal/bytealg.IndexString", "internal/abi.NoEscape", "internal/bytealg.MakeNoZero"], unfollowed := true, recurses := true, named := ["unicode/utf8.first", "unicode/utf8.acceptRanges", "internal/bytealg.MaxLen", "flong/escape.names", "flong/escape.fonts", "flong/styles.gap"], apart := false, laid := [("unicode/utf8.acceptRanges", laid_unicode_utf8_acceptRanges), ("flong/escape.names", laid_flong_escape_names), ("flong/escape.fonts", laid_flong_escape_fonts), ("flong/styles.gap", laid_flong_styles_gap), ("unicode/utf8.first", laid_unicode_utf8_first)], narrowed := true }
def TblSafeUptoSaid : Prop := tblSafeUptoRow.holds Tryd.pinned (OpenSpec.upto tblSafeSpec)

/-- 'flonglaw09.TblCuts', WHERE WHAT IT READS IS OF BULK AT MOST 1048576: true; the input reads as it did. -/
def tblCutsUptoRow : OpenClaim := { program := "ytabgeenhpfnhdaadoor", sum := "eef64422953bacb23822d8c44ed9faee534d5186f5e6d8d1ffac3dc7dbe3a12c", func := "flong/flonglaw09.TblCuts", spec := "tblCuts", inPlace := ["internal/bytealg.IndexByteString", "internal/bytealg.CountString", "internal/bytealg.IndexString", "internal/abi.NoEscape", "internal/bytealg.MakeNoZero"], unfollowed := true, recurses := true, named := ["unicode/utf8.first", "unicode/utf8.acceptRanges", "internal/bytealg.MaxLen", "flong/escape.names", "flong/escape.fonts", "flong/styles.gap"], apart := false, laid := [("unicode/utf8.acceptRanges", laid_unicode_utf8_acceptRanges), ("flong/escape.names", laid_flong_escape_names), ("flong/escape.fonts", laid_flong_escape_fonts), ("flong/styles.gap", laid_flong_styles_gap), ("unicode/utf8.first", laid_unicode_utf8_first)], narrowed := true }
def TblCutsUptoSaid : Prop := tblCutsUptoRow.holds Tryd.pinned (OpenSpec.upto tblCutsSpec)

/-- 'flonglaw09.TblBack', WHERE WHAT IT READS IS OF BULK AT MOST 1048576: true; the input reads as it did. -/
def tblBackUptoRow : OpenClaim := { program := "ytabgeenhpfnhdaadoor", sum := "eef64422953bacb23822d8c44ed9faee534d5186f5e6d8d1ffac3dc7dbe3a12c", func := "flong/flonglaw09.TblBack", spec := "tblBack", inPlace := ["internal/bytealg.IndexByteString", "internal/bytealg.CountString", "internal/bytealg.IndexString", "internal/abi.NoEscape", "internal/bytealg.MakeNoZero"], unfollowed := true, recurses := true, named := ["unicode/utf8.first", "unicode/utf8.acceptRanges", "internal/bytealg.MaxLen", "flong/escape.names", "flong/escape.fonts", "flong/styles.gap"], apart := false, laid := [("unicode/utf8.acceptRanges", laid_unicode_utf8_acceptRanges), ("flong/escape.names", laid_flong_escape_names), ("flong/escape.fonts", laid_flong_escape_fonts), ("flong/styles.gap", laid_flong_styles_gap), ("unicode/utf8.first", laid_unicode_utf8_first)], narrowed := true }
def TblBackUptoSaid : Prop := tblBackUptoRow.holds Tryd.pinned (OpenSpec.upto tblBackSpec)

end Rows
end Go.Proofs.YtabgeenhpfnhdaaDoor
