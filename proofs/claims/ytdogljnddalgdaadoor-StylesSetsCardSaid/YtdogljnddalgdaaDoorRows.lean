/-
  NARROWER THAN 'FOR EVERY INPUT', by the rows' own cells (each row's printed sentence says how): EscapeScans: laid · EscapeNames: laid · EscapeSafe: laid · EscapeQuotes: laid · EscapeFonts: laid · EscapeNamed: laid · EscapeJoins: laid · StylesSets: laid · StylesBack: laid · StylesLines: laid · StylesJoins: laid.
  DERIVED. THE GIVEN ROWS OF THIS SEAT. 11 by the template 'for every input the law returns true; each argument reads behind the call as it read before'; 0 by the template 'total and deterministic' (their statements: YtdogljnddalgdaaDoorTotals.lean).
  GIVEN WITH THE SEED: the statements are not yours to turn. If you find one false, say at which input.
  Laid BY PROGRAM, IN A SANDBOX (cutbox-rows.mjs): the forced cells as the released guide's own fill.sh prints them over the translation c7a65d7d71721a30… (all of the seat's roots in one cut). By AI agents, Wed Nov 11 2026. No macro, syntax, notation, axiom, sorry.
-/
import Derived.Test.YtdogljnddalgdaaDoorChecked
import GoSem.Claim
import GoSem.ClaimJoined
import GoSem.ClaimMapViews
import Derived.JoinedTies
import Derived.KernelRfl
namespace Go.Proofs.YtdogljnddalgdaaDoor
/- THE CELL 'sum', in the pinned program and in every row, IS THE sha256 OF THE DUMP (.gsa) THAT YtdogljnddalgdaaDoorProg.lean LOADS. Nothing in Lean hashes anything: it is a label: what it is worth is what the hold of that sum in a sandbox is worth. -/
noncomputable def Tryd.pinned : Pinned := { name := "ytdogljnddalgdaadoor", sum := "c7a65d7d71721a303421fad4db745e2c0afb037a1bb2a7bbd465ab38fea95d50", checked := Tryd.checked }
namespace Rows
def none {H : Type} : Left H := { results := [], args := [] }

/- WHAT THE LISTED PACKAGE-LEVEL VARIABLES READ AS WHEN THE CALL BEGINS. Each datum BY PROGRAM (the guide's laid-datum.mjs) off the statement by which the dump's own 'gosem.cut.vars' lays the variable. In a bare row this is a premise. The card (YtdogljnddalgdaaDoorCards.lean) ties it to the program's text. -/
def laid_flong_escape_names {H : Type} : DataW H := .map [(.string [33, 61], .lit (.int .i32 8800)), (.string [45, 62], .lit (.int .i32 8594)), (.string [60, 45], .lit (.int .i32 8592)), (.string [60, 61], .lit (.int .i32 8804)), (.string [62, 61], .lit (.int .i32 8805)), (.string [69, 117], .lit (.int .i32 8364)), (.string [97, 58], .lit (.int .i32 228)), (.string [97, 113], .lit (.int .i32 39)), (.string [98, 117], .lit (.int .i32 8226)), (.string [99, 111], .lit (.int .i32 169)), (.string [99, 113], .lit (.int .i32 8217)), (.string [100, 101], .lit (.int .i32 176)), (.string [100, 105], .lit (.int .i32 247)), (.string [100, 113], .lit (.int .i32 34)), (.string [101, 109], .lit (.int .i32 8212)), (.string [101, 110], .lit (.int .i32 8211)), (.string [104, 97], .lit (.int .i32 94)), (.string [104, 121], .lit (.int .i32 8208)), (.string [108, 113], .lit (.int .i32 8220)), (.string [109, 117], .lit (.int .i32 215)), (.string [111, 58], .lit (.int .i32 246)), (.string [111, 113], .lit (.int .i32 8216)), (.string [114, 103], .lit (.int .i32 174)), (.string [114, 113], .lit (.int .i32 8221)), (.string [114, 115], .lit (.int .i32 92)), (.string [115, 99], .lit (.int .i32 167)), (.string [115, 115], .lit (.int .i32 223)), (.string [116, 105], .lit (.int .i32 126)), (.string [116, 109], .lit (.int .i32 8482)), (.string [117, 58], .lit (.int .i32 252))]
def laid_flong_escape_fonts {H : Type} : DataW H := .map [(.string [49], .lit (.int .i32 0)), (.string [50], .lit (.int .i32 1)), (.string [51], .lit (.int .i32 2)), (.string [52], .lit (.int .i32 3)), (.string [66], .lit (.int .i32 1)), (.string [66, 73], .lit (.int .i32 3)), (.string [73], .lit (.int .i32 2)), (.string [80], .lit (.int .i32 4)), (.string [82], .lit (.int .i32 0))]
def laid_flong_styles_gap {H : Type} : DataW H := .agg [.lit (.int .i32 32), .lit (.int .u8 0)]

/-- 'flonglaw04.EscapeScans': WHATEVER THE INPUT: true; the input reads as it did. -/
def escapeScansSpec : ChangeSpec := { name := "escapeScans", fn := fun _ => fun
  | [d] => { results := [.lit (.bool true)], args := [d] }
  | _ => none }
def escapeScansRow : OpenClaim := { program := "ytdogljnddalgdaadoor", sum := "c7a65d7d71721a303421fad4db745e2c0afb037a1bb2a7bbd465ab38fea95d50", func := "flong/flonglaw04.EscapeScans", spec := "escapeScans", unfollowed := true, recurses := true, named := ["flong/escape.names", "flong/escape.fonts"], apart := false, laid := [("flong/escape.names", laid_flong_escape_names), ("flong/escape.fonts", laid_flong_escape_fonts)] }
def EscapeScansSaid : Prop := escapeScansRow.holds Tryd.pinned (OpenSpec.ofChange escapeScansSpec)

/-- ITS FALSE NEIGHBOUR: 'it returns false'. Refute it at one input. -/
def escapeScansWrong : ChangeSpec := { name := "escapeScans", fn := fun _ => fun
  | [d] => { results := [.lit (.bool false)], args := [d] }
  | _ => none }
def EscapeScansWrongFalsely : Prop := escapeScansRow.holds Tryd.pinned (OpenSpec.ofChange escapeScansWrong)

/-- 'flonglaw04.EscapeNames': WHATEVER THE INPUT: true; the input reads as it did. -/
def escapeNamesSpec : ChangeSpec := { name := "escapeNames", fn := fun _ => fun
  | [d] => { results := [.lit (.bool true)], args := [d] }
  | _ => none }
def escapeNamesRow : OpenClaim := { program := "ytdogljnddalgdaadoor", sum := "c7a65d7d71721a303421fad4db745e2c0afb037a1bb2a7bbd465ab38fea95d50", func := "flong/flonglaw04.EscapeNames", spec := "escapeNames", unfollowed := true, recurses := true, named := ["flong/escape.names", "flong/escape.fonts"], apart := false, laid := [("flong/escape.names", laid_flong_escape_names), ("flong/escape.fonts", laid_flong_escape_fonts)] }
def EscapeNamesSaid : Prop := escapeNamesRow.holds Tryd.pinned (OpenSpec.ofChange escapeNamesSpec)

/-- ITS FALSE NEIGHBOUR: 'it returns false'. Refute it at one input. -/
def escapeNamesWrong : ChangeSpec := { name := "escapeNames", fn := fun _ => fun
  | [d] => { results := [.lit (.bool false)], args := [d] }
  | _ => none }
def EscapeNamesWrongFalsely : Prop := escapeNamesRow.holds Tryd.pinned (OpenSpec.ofChange escapeNamesWrong)

/-- 'flonglaw04.EscapeSafe': WHATEVER THE INPUT: true; the input reads as it did. -/
def escapeSafeSpec : ChangeSpec := { name := "escapeSafe", fn := fun _ => fun
  | [d] => { results := [.lit (.bool true)], args := [d] }
  | _ => none }
def escapeSafeRow : OpenClaim := { program := "ytdogljnddalgdaadoor", sum := "c7a65d7d71721a303421fad4db745e2c0afb037a1bb2a7bbd465ab38fea95d50", func := "flong/flonglaw04.EscapeSafe", spec := "escapeSafe", unfollowed := true, recurses := true, named := ["flong/escape.names", "flong/escape.fonts"], apart := false, laid := [("flong/escape.names", laid_flong_escape_names), ("flong/escape.fonts", laid_flong_escape_fonts)] }
def EscapeSafeSaid : Prop := escapeSafeRow.holds Tryd.pinned (OpenSpec.ofChange escapeSafeSpec)

/-- ITS FALSE NEIGHBOUR: 'it returns false'. Refute it at one input. -/
def escapeSafeWrong : ChangeSpec := { name := "escapeSafe", fn := fun _ => fun
  | [d] => { results := [.lit (.bool false)], args := [d] }
  | _ => none }
def EscapeSafeWrongFalsely : Prop := escapeSafeRow.holds Tryd.pinned (OpenSpec.ofChange escapeSafeWrong)

/-- 'flonglaw04.EscapeQuotes': WHATEVER THE INPUT: true; the input reads as it did. -/
def escapeQuotesSpec : ChangeSpec := { name := "escapeQuotes", fn := fun _ => fun
  | [d] => { results := [.lit (.bool true)], args := [d] }
  | _ => none }
def escapeQuotesRow : OpenClaim := { program := "ytdogljnddalgdaadoor", sum := "c7a65d7d71721a303421fad4db745e2c0afb037a1bb2a7bbd465ab38fea95d50", func := "flong/flonglaw04.EscapeQuotes", spec := "escapeQuotes", unfollowed := true, recurses := true, named := ["flong/escape.names", "flong/escape.fonts"], apart := false, laid := [("flong/escape.names", laid_flong_escape_names), ("flong/escape.fonts", laid_flong_escape_fonts)] }
def EscapeQuotesSaid : Prop := escapeQuotesRow.holds Tryd.pinned (OpenSpec.ofChange escapeQuotesSpec)

/-- ITS FALSE NEIGHBOUR: 'it returns false'. Refute it at one input. -/
def escapeQuotesWrong : ChangeSpec := { name := "escapeQuotes", fn := fun _ => fun
  | [d] => { results := [.lit (.bool false)], args := [d] }
  | _ => none }
def EscapeQuotesWrongFalsely : Prop := escapeQuotesRow.holds Tryd.pinned (OpenSpec.ofChange escapeQuotesWrong)

/-- 'flonglaw04.EscapeFonts': WHATEVER THE INPUT: true; the input reads as it did. -/
def escapeFontsSpec : ChangeSpec := { name := "escapeFonts", fn := fun _ => fun
  | [d1, d2] => { results := [.lit (.bool true)], args := [d1, d2] }
  | _ => none }
def escapeFontsRow : OpenClaim := { program := "ytdogljnddalgdaadoor", sum := "c7a65d7d71721a303421fad4db745e2c0afb037a1bb2a7bbd465ab38fea95d50", func := "flong/flonglaw04.EscapeFonts", spec := "escapeFonts", unfollowed := true, recurses := true, named := ["flong/escape.fonts", "flong/escape.names"], apart := false, laid := [("flong/escape.names", laid_flong_escape_names), ("flong/escape.fonts", laid_flong_escape_fonts)] }
def EscapeFontsSaid : Prop := escapeFontsRow.holds Tryd.pinned (OpenSpec.ofChange escapeFontsSpec)

/-- ITS FALSE NEIGHBOUR: 'it returns false'. Refute it at one input. -/
def escapeFontsWrong : ChangeSpec := { name := "escapeFonts", fn := fun _ => fun
  | [d1, d2] => { results := [.lit (.bool false)], args := [d1, d2] }
  | _ => none }
def EscapeFontsWrongFalsely : Prop := escapeFontsRow.holds Tryd.pinned (OpenSpec.ofChange escapeFontsWrong)

/-- 'flonglaw04.EscapeNamed': WHATEVER THE INPUT: true; the input reads as it did. -/
def escapeNamedSpec : ChangeSpec := { name := "escapeNamed", fn := fun _ => fun
  | [d1, d2] => { results := [.lit (.bool true)], args := [d1, d2] }
  | _ => none }
def escapeNamedRow : OpenClaim := { program := "ytdogljnddalgdaadoor", sum := "c7a65d7d71721a303421fad4db745e2c0afb037a1bb2a7bbd465ab38fea95d50", func := "flong/flonglaw04.EscapeNamed", spec := "escapeNamed", unfollowed := true, recurses := true, named := ["flong/escape.names", "flong/escape.fonts"], apart := false, laid := [("flong/escape.names", laid_flong_escape_names), ("flong/escape.fonts", laid_flong_escape_fonts)] }
def EscapeNamedSaid : Prop := escapeNamedRow.holds Tryd.pinned (OpenSpec.ofChange escapeNamedSpec)

/-- ITS FALSE NEIGHBOUR: 'it returns false'. Refute it at one input. -/
def escapeNamedWrong : ChangeSpec := { name := "escapeNamed", fn := fun _ => fun
  | [d1, d2] => { results := [.lit (.bool false)], args := [d1, d2] }
  | _ => none }
def EscapeNamedWrongFalsely : Prop := escapeNamedRow.holds Tryd.pinned (OpenSpec.ofChange escapeNamedWrong)

/-- 'flonglaw04.EscapeJoins': WHATEVER THE INPUT: true; the input reads as it did. -/
def escapeJoinsSpec : ChangeSpec := { name := "escapeJoins", fn := fun _ => fun
  | [d1, d2] => { results := [.lit (.bool true)], args := [d1, d2] }
  | _ => none }
def escapeJoinsRow : OpenClaim := { program := "ytdogljnddalgdaadoor", sum := "c7a65d7d71721a303421fad4db745e2c0afb037a1bb2a7bbd465ab38fea95d50", func := "flong/flonglaw04.EscapeJoins", spec := "escapeJoins", unfollowed := true, recurses := true, named := ["flong/escape.names", "flong/escape.fonts"], apart := false, laid := [("flong/escape.names", laid_flong_escape_names), ("flong/escape.fonts", laid_flong_escape_fonts)] }
def EscapeJoinsSaid : Prop := escapeJoinsRow.holds Tryd.pinned (OpenSpec.ofChange escapeJoinsSpec)

/-- ITS FALSE NEIGHBOUR: 'it returns false'. Refute it at one input. -/
def escapeJoinsWrong : ChangeSpec := { name := "escapeJoins", fn := fun _ => fun
  | [d1, d2] => { results := [.lit (.bool false)], args := [d1, d2] }
  | _ => none }
def EscapeJoinsWrongFalsely : Prop := escapeJoinsRow.holds Tryd.pinned (OpenSpec.ofChange escapeJoinsWrong)

/-- 'flonglaw06.StylesSets': WHATEVER THE INPUT: true; the input reads as it did. -/
def stylesSetsSpec : ChangeSpec := { name := "stylesSets", fn := fun _ => fun
  | [d1, d2, d3] => { results := [.lit (.bool true)], args := [d1, d2, d3] }
  | _ => none }
def stylesSetsRow : OpenClaim := { program := "ytdogljnddalgdaadoor", sum := "c7a65d7d71721a303421fad4db745e2c0afb037a1bb2a7bbd465ab38fea95d50", func := "flong/flonglaw06.StylesSets", spec := "stylesSets", unfollowed := true, recurses := true, named := ["flong/escape.names", "flong/escape.fonts", "flong/styles.gap"], apart := false, laid := [("flong/escape.names", laid_flong_escape_names), ("flong/escape.fonts", laid_flong_escape_fonts), ("flong/styles.gap", laid_flong_styles_gap)] }
def StylesSetsSaid : Prop := stylesSetsRow.holds Tryd.pinned (OpenSpec.ofChange stylesSetsSpec)

/-- ITS FALSE NEIGHBOUR: 'it returns false'. Refute it at one input. -/
def stylesSetsWrong : ChangeSpec := { name := "stylesSets", fn := fun _ => fun
  | [d1, d2, d3] => { results := [.lit (.bool false)], args := [d1, d2, d3] }
  | _ => none }
def StylesSetsWrongFalsely : Prop := stylesSetsRow.holds Tryd.pinned (OpenSpec.ofChange stylesSetsWrong)

/-- 'flonglaw06.StylesBack': WHATEVER THE INPUT: true; the input reads as it did. -/
def stylesBackSpec : ChangeSpec := { name := "stylesBack", fn := fun _ => fun
  | [d1, d2] => { results := [.lit (.bool true)], args := [d1, d2] }
  | _ => none }
def stylesBackRow : OpenClaim := { program := "ytdogljnddalgdaadoor", sum := "c7a65d7d71721a303421fad4db745e2c0afb037a1bb2a7bbd465ab38fea95d50", func := "flong/flonglaw06.StylesBack", spec := "stylesBack", unfollowed := true, recurses := true, named := ["flong/escape.names", "flong/escape.fonts", "flong/styles.gap"], apart := false, laid := [("flong/escape.names", laid_flong_escape_names), ("flong/escape.fonts", laid_flong_escape_fonts), ("flong/styles.gap", laid_flong_styles_gap)] }
def StylesBackSaid : Prop := stylesBackRow.holds Tryd.pinned (OpenSpec.ofChange stylesBackSpec)

/-- ITS FALSE NEIGHBOUR: 'it returns false'. Refute it at one input. -/
def stylesBackWrong : ChangeSpec := { name := "stylesBack", fn := fun _ => fun
  | [d1, d2] => { results := [.lit (.bool false)], args := [d1, d2] }
  | _ => none }
def StylesBackWrongFalsely : Prop := stylesBackRow.holds Tryd.pinned (OpenSpec.ofChange stylesBackWrong)

/-- 'flonglaw06.StylesLines': WHATEVER THE INPUT: true; the input reads as it did. -/
def stylesLinesSpec : ChangeSpec := { name := "stylesLines", fn := fun _ => fun
  | [d1, d2, d3, d4] => { results := [.lit (.bool true)], args := [d1, d2, d3, d4] }
  | _ => none }
def stylesLinesRow : OpenClaim := { program := "ytdogljnddalgdaadoor", sum := "c7a65d7d71721a303421fad4db745e2c0afb037a1bb2a7bbd465ab38fea95d50", func := "flong/flonglaw06.StylesLines", spec := "stylesLines", unfollowed := true, recurses := true, named := ["flong/escape.names", "flong/escape.fonts", "flong/styles.gap"], apart := false, laid := [("flong/escape.names", laid_flong_escape_names), ("flong/escape.fonts", laid_flong_escape_fonts), ("flong/styles.gap", laid_flong_styles_gap)] }
def StylesLinesSaid : Prop := stylesLinesRow.holds Tryd.pinned (OpenSpec.ofChange stylesLinesSpec)

/-- ITS FALSE NEIGHBOUR: 'it returns false'. Refute it at one input. -/
def stylesLinesWrong : ChangeSpec := { name := "stylesLines", fn := fun _ => fun
  | [d1, d2, d3, d4] => { results := [.lit (.bool false)], args := [d1, d2, d3, d4] }
  | _ => none }
def StylesLinesWrongFalsely : Prop := stylesLinesRow.holds Tryd.pinned (OpenSpec.ofChange stylesLinesWrong)

/-- 'flonglaw06.StylesJoins': WHATEVER THE INPUT: true; the input reads as it did. -/
def stylesJoinsSpec : ChangeSpec := { name := "stylesJoins", fn := fun _ => fun
  | [d1, d2, d3] => { results := [.lit (.bool true)], args := [d1, d2, d3] }
  | _ => none }
def stylesJoinsRow : OpenClaim := { program := "ytdogljnddalgdaadoor", sum := "c7a65d7d71721a303421fad4db745e2c0afb037a1bb2a7bbd465ab38fea95d50", func := "flong/flonglaw06.StylesJoins", spec := "stylesJoins", unfollowed := true, recurses := true, named := ["flong/escape.names", "flong/escape.fonts", "flong/styles.gap"], apart := false, laid := [("flong/escape.names", laid_flong_escape_names), ("flong/escape.fonts", laid_flong_escape_fonts), ("flong/styles.gap", laid_flong_styles_gap)] }
def StylesJoinsSaid : Prop := stylesJoinsRow.holds Tryd.pinned (OpenSpec.ofChange stylesJoinsSpec)

/-- ITS FALSE NEIGHBOUR: 'it returns false'. Refute it at one input. -/
def stylesJoinsWrong : ChangeSpec := { name := "stylesJoins", fn := fun _ => fun
  | [d1, d2, d3] => { results := [.lit (.bool false)], args := [d1, d2, d3] }
  | _ => none }
def StylesJoinsWrongFalsely : Prop := stylesJoinsRow.holds Tryd.pinned (OpenSpec.ofChange stylesJoinsWrong)

/- THE SECOND FORM. 'bulk': how many values and letters a reading holds, each counted each time it is reached (what is shared counts as often as it is met; a slice's spare places count too). A statement '..UptoSaid' is the law's where the arguments, and the package variables that the reading takes, are together of bulk at most 1048576: NARROWER than '..Said'. Prove '..Said' where nothing that the law and all that it calls make is longer than what came in: it says more and counts as full. Else prove '..UptoSaid'. A law counts once. -/
mutual
def uptoBulk {H : Type} : DataW H → Nat
  | .lit (.string bytes) => bytes.length + 1
  | .lit _ => 1
  | .nil => 1
  | .ptr d => uptoBulk d + 1
  | .slice elems spare => uptoBulkAll elems + uptoBulkAll spare + 1
  | .agg parts => uptoBulkAll parts + 1
  | .iface _ d => uptoBulk d + 1
  | .map entries => uptoBulkEntries entries + 1
  | .held _ => 1
def uptoBulkAll {H : Type} : List (DataW H) → Nat
  | [] => 0
  | d :: r => uptoBulk d + uptoBulkAll r
def uptoBulkEntries {H : Type} : List (Lit × DataW H) → Nat
  | [] => 0
  | x :: r => uptoBulkEntry x + uptoBulkEntries r
def uptoBulkEntry {H : Type} : Lit × DataW H → Nat
  | (.string bytes, d) => bytes.length + uptoBulk d + 1
  | (_, d) => uptoBulk d + 1
 end
def uptoSmall : (H : Type) → List (DataW H) → Bool := fun _ ds => decide (uptoBulkAll ds ≤ 1048576)
def OpenSpec.upto (s : _root_.Go.ChangeSpec) : _root_.Go.OpenSpec := { _root_.Go.OpenSpec.ofChange s with cond := some uptoSmall }

/-- 'flonglaw04.EscapeScans', WHERE WHAT IT READS IS OF BULK AT MOST 1048576: true; the input reads as it did. -/
def escapeScansUptoRow : OpenClaim := { program := "ytdogljnddalgdaadoor", sum := "c7a65d7d71721a303421fad4db745e2c0afb037a1bb2a7bbd465ab38fea95d50", func := "flong/flonglaw04.EscapeScans", spec := "escapeScans", unfollowed := true, recurses := true, named := ["flong/escape.names", "flong/escape.fonts"], apart := false, laid := [("flong/escape.names", laid_flong_escape_names), ("flong/escape.fonts", laid_flong_escape_fonts)], narrowed := true }
def EscapeScansUptoSaid : Prop := escapeScansUptoRow.holds Tryd.pinned (OpenSpec.upto escapeScansSpec)

/-- 'flonglaw04.EscapeNames', WHERE WHAT IT READS IS OF BULK AT MOST 1048576: true; the input reads as it did. -/
def escapeNamesUptoRow : OpenClaim := { program := "ytdogljnddalgdaadoor", sum := "c7a65d7d71721a303421fad4db745e2c0afb037a1bb2a7bbd465ab38fea95d50", func := "flong/flonglaw04.EscapeNames", spec := "escapeNames", unfollowed := true, recurses := true, named := ["flong/escape.names", "flong/escape.fonts"], apart := false, laid := [("flong/escape.names", laid_flong_escape_names), ("flong/escape.fonts", laid_flong_escape_fonts)], narrowed := true }
def EscapeNamesUptoSaid : Prop := escapeNamesUptoRow.holds Tryd.pinned (OpenSpec.upto escapeNamesSpec)

/-- 'flonglaw04.EscapeSafe', WHERE WHAT IT READS IS OF BULK AT MOST 1048576: true; the input reads as it did. -/
def escapeSafeUptoRow : OpenClaim := { program := "ytdogljnddalgdaadoor", sum := "c7a65d7d71721a303421fad4db745e2c0afb037a1bb2a7bbd465ab38fea95d50", func := "flong/flonglaw04.EscapeSafe", spec := "escapeSafe", unfollowed := true, recurses := true, named := ["flong/escape.names", "flong/escape.fonts"], apart := false, laid := [("flong/escape.names", laid_flong_escape_names), ("flong/escape.fonts", laid_flong_escape_fonts)], narrowed := true }
def EscapeSafeUptoSaid : Prop := escapeSafeUptoRow.holds Tryd.pinned (OpenSpec.upto escapeSafeSpec)

/-- 'flonglaw04.EscapeQuotes', WHERE WHAT IT READS IS OF BULK AT MOST 1048576: true; the input reads as it did. -/
def escapeQuotesUptoRow : OpenClaim := { program := "ytdogljnddalgdaadoor", sum := "c7a65d7d71721a303421fad4db745e2c0afb037a1bb2a7bbd465ab38fea95d50", func := "flong/flonglaw04.EscapeQuotes", spec := "escapeQuotes", unfollowed := true, recurses := true, named := ["flong/escape.names", "flong/escape.fonts"], apart := false, laid := [("flong/escape.names", laid_flong_escape_names), ("flong/escape.fonts", laid_flong_escape_fonts)], narrowed := true }
def EscapeQuotesUptoSaid : Prop := escapeQuotesUptoRow.holds Tryd.pinned (OpenSpec.upto escapeQuotesSpec)

/-- 'flonglaw04.EscapeFonts', WHERE WHAT IT READS IS OF BULK AT MOST 1048576: true; the input reads as it did. -/
def escapeFontsUptoRow : OpenClaim := { program := "ytdogljnddalgdaadoor", sum := "c7a65d7d71721a303421fad4db745e2c0afb037a1bb2a7bbd465ab38fea95d50", func := "flong/flonglaw04.EscapeFonts", spec := "escapeFonts", unfollowed := true, recurses := true, named := ["flong/escape.fonts", "flong/escape.names"], apart := false, laid := [("flong/escape.names", laid_flong_escape_names), ("flong/escape.fonts", laid_flong_escape_fonts)], narrowed := true }
def EscapeFontsUptoSaid : Prop := escapeFontsUptoRow.holds Tryd.pinned (OpenSpec.upto escapeFontsSpec)

/-- 'flonglaw04.EscapeNamed', WHERE WHAT IT READS IS OF BULK AT MOST 1048576: true; the input reads as it did. -/
def escapeNamedUptoRow : OpenClaim := { program := "ytdogljnddalgdaadoor", sum := "c7a65d7d71721a303421fad4db745e2c0afb037a1bb2a7bbd465ab38fea95d50", func := "flong/flonglaw04.EscapeNamed", spec := "escapeNamed", unfollowed := true, recurses := true, named := ["flong/escape.names", "flong/escape.fonts"], apart := false, laid := [("flong/escape.names", laid_flong_escape_names), ("flong/escape.fonts", laid_flong_escape_fonts)], narrowed := true }
def EscapeNamedUptoSaid : Prop := escapeNamedUptoRow.holds Tryd.pinned (OpenSpec.upto escapeNamedSpec)

/-- 'flonglaw04.EscapeJoins', WHERE WHAT IT READS IS OF BULK AT MOST 1048576: true; the input reads as it did. -/
def escapeJoinsUptoRow : OpenClaim := { program := "ytdogljnddalgdaadoor", sum := "c7a65d7d71721a303421fad4db745e2c0afb037a1bb2a7bbd465ab38fea95d50", func := "flong/flonglaw04.EscapeJoins", spec := "escapeJoins", unfollowed := true, recurses := true, named := ["flong/escape.names", "flong/escape.fonts"], apart := false, laid := [("flong/escape.names", laid_flong_escape_names), ("flong/escape.fonts", laid_flong_escape_fonts)], narrowed := true }
def EscapeJoinsUptoSaid : Prop := escapeJoinsUptoRow.holds Tryd.pinned (OpenSpec.upto escapeJoinsSpec)

/-- 'flonglaw06.StylesSets', WHERE WHAT IT READS IS OF BULK AT MOST 1048576: true; the input reads as it did. -/
def stylesSetsUptoRow : OpenClaim := { program := "ytdogljnddalgdaadoor", sum := "c7a65d7d71721a303421fad4db745e2c0afb037a1bb2a7bbd465ab38fea95d50", func := "flong/flonglaw06.StylesSets", spec := "stylesSets", unfollowed := true, recurses := true, named := ["flong/escape.names", "flong/escape.fonts", "flong/styles.gap"], apart := false, laid := [("flong/escape.names", laid_flong_escape_names), ("flong/escape.fonts", laid_flong_escape_fonts), ("flong/styles.gap", laid_flong_styles_gap)], narrowed := true }
def StylesSetsUptoSaid : Prop := stylesSetsUptoRow.holds Tryd.pinned (OpenSpec.upto stylesSetsSpec)

/-- 'flonglaw06.StylesBack', WHERE WHAT IT READS IS OF BULK AT MOST 1048576: true; the input reads as it did. -/
def stylesBackUptoRow : OpenClaim := { program := "ytdogljnddalgdaadoor", sum := "c7a65d7d71721a303421fad4db745e2c0afb037a1bb2a7bbd465ab38fea95d50", func := "flong/flonglaw06.StylesBack", spec := "stylesBack", unfollowed := true, recurses := true, named := ["flong/escape.names", "flong/escape.fonts", "flong/styles.gap"], apart := false, laid := [("flong/escape.names", laid_flong_escape_names), ("flong/escape.fonts", laid_flong_escape_fonts), ("flong/styles.gap", laid_flong_styles_gap)], narrowed := true }
def StylesBackUptoSaid : Prop := stylesBackUptoRow.holds Tryd.pinned (OpenSpec.upto stylesBackSpec)

/-- 'flonglaw06.StylesLines', WHERE WHAT IT READS IS OF BULK AT MOST 1048576: true; the input reads as it did. -/
def stylesLinesUptoRow : OpenClaim := { program := "ytdogljnddalgdaadoor", sum := "c7a65d7d71721a303421fad4db745e2c0afb037a1bb2a7bbd465ab38fea95d50", func := "flong/flonglaw06.StylesLines", spec := "stylesLines", unfollowed := true, recurses := true, named := ["flong/escape.names", "flong/escape.fonts", "flong/styles.gap"], apart := false, laid := [("flong/escape.names", laid_flong_escape_names), ("flong/escape.fonts", laid_flong_escape_fonts), ("flong/styles.gap", laid_flong_styles_gap)], narrowed := true }
def StylesLinesUptoSaid : Prop := stylesLinesUptoRow.holds Tryd.pinned (OpenSpec.upto stylesLinesSpec)

/-- 'flonglaw06.StylesJoins', WHERE WHAT IT READS IS OF BULK AT MOST 1048576: true; the input reads as it did. -/
def stylesJoinsUptoRow : OpenClaim := { program := "ytdogljnddalgdaadoor", sum := "c7a65d7d71721a303421fad4db745e2c0afb037a1bb2a7bbd465ab38fea95d50", func := "flong/flonglaw06.StylesJoins", spec := "stylesJoins", unfollowed := true, recurses := true, named := ["flong/escape.names", "flong/escape.fonts", "flong/styles.gap"], apart := false, laid := [("flong/escape.names", laid_flong_escape_names), ("flong/escape.fonts", laid_flong_escape_fonts), ("flong/styles.gap", laid_flong_styles_gap)], narrowed := true }
def StylesJoinsUptoSaid : Prop := stylesJoinsUptoRow.holds Tryd.pinned (OpenSpec.upto stylesJoinsSpec)

end Rows
end Go.Proofs.YtdogljnddalgdaaDoor
