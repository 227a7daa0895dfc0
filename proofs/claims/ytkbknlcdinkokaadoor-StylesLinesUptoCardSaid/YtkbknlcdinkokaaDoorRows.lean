/-
  NARROWER THAN 'FOR EVERY INPUT', by the rows' own cells (each row's printed sentence says how): StylesLines: laid · StylesJoins: laid · MdocJoins: laid · MdocSigns: laid.
  DERIVED. THE GIVEN ROWS OF THIS SEAT. 4 by the template 'for every input the law returns true; each argument reads behind the call as it read before'; 0 by the template 'total and deterministic' (their statements: YtkbknlcdinkokaaDoorTotals.lean).
  GIVEN WITH THE SEED: the statements are not yours to turn. If you find one false, say at which input.
  Laid BY PROGRAM, IN A SANDBOX (cutbox-rows.mjs): the forced cells as the released guide's own fill.sh prints them over the translation 8ebbb809891f98ae… (all of the seat's roots in one cut). By AI agents, Wed Nov 11 2026. No macro, syntax, notation, axiom, sorry.
-/
import Derived.Test.YtkbknlcdinkokaaDoorChecked
import GoSem.Claim
import GoSem.ClaimJoined
import GoSem.ClaimMapViews
import Derived.JoinedTies
import Derived.KernelRfl
namespace Go.Proofs.YtkbknlcdinkokaaDoor
/- THE CELL 'sum', in the pinned program and in every row, IS THE sha256 OF THE DUMP (.gsa) THAT YtkbknlcdinkokaaDoorProg.lean LOADS. Nothing in Lean hashes anything: it is a label: what it is worth is what the hold of that sum in a sandbox is worth. -/
noncomputable def Tryd.pinned : Pinned := { name := "ytkbknlcdinkokaadoor", sum := "8ebbb809891f98aefe15d17e0473020cb0e53cc12c1b2b24fe3af6c2428a46b4", checked := Tryd.checked }
namespace Rows
def none {H : Type} : Left H := { results := [], args := [] }

/- WHAT THE LISTED PACKAGE-LEVEL VARIABLES READ AS WHEN THE CALL BEGINS. Each datum BY PROGRAM (the guide's laid-datum.mjs) off the statement by which the dump's own 'gosem.cut.vars' lays the variable. In a bare row this is a premise. The card (YtkbknlcdinkokaaDoorCards.lean) ties it to the program's text. -/
def laid_flong_escape_names {H : Type} : DataW H := .map [(.string [33, 61], .lit (.int .i32 8800)), (.string [45, 62], .lit (.int .i32 8594)), (.string [60, 45], .lit (.int .i32 8592)), (.string [60, 61], .lit (.int .i32 8804)), (.string [62, 61], .lit (.int .i32 8805)), (.string [69, 117], .lit (.int .i32 8364)), (.string [97, 58], .lit (.int .i32 228)), (.string [97, 113], .lit (.int .i32 39)), (.string [98, 117], .lit (.int .i32 8226)), (.string [99, 111], .lit (.int .i32 169)), (.string [99, 113], .lit (.int .i32 8217)), (.string [100, 101], .lit (.int .i32 176)), (.string [100, 105], .lit (.int .i32 247)), (.string [100, 113], .lit (.int .i32 34)), (.string [101, 109], .lit (.int .i32 8212)), (.string [101, 110], .lit (.int .i32 8211)), (.string [104, 97], .lit (.int .i32 94)), (.string [104, 121], .lit (.int .i32 8208)), (.string [108, 113], .lit (.int .i32 8220)), (.string [109, 117], .lit (.int .i32 215)), (.string [111, 58], .lit (.int .i32 246)), (.string [111, 113], .lit (.int .i32 8216)), (.string [114, 103], .lit (.int .i32 174)), (.string [114, 113], .lit (.int .i32 8221)), (.string [114, 115], .lit (.int .i32 92)), (.string [115, 99], .lit (.int .i32 167)), (.string [115, 115], .lit (.int .i32 223)), (.string [116, 105], .lit (.int .i32 126)), (.string [116, 109], .lit (.int .i32 8482)), (.string [117, 58], .lit (.int .i32 252))]
def laid_flong_escape_fonts {H : Type} : DataW H := .map [(.string [49], .lit (.int .i32 0)), (.string [50], .lit (.int .i32 1)), (.string [51], .lit (.int .i32 2)), (.string [52], .lit (.int .i32 3)), (.string [66], .lit (.int .i32 1)), (.string [66, 73], .lit (.int .i32 3)), (.string [73], .lit (.int .i32 2)), (.string [80], .lit (.int .i32 4)), (.string [82], .lit (.int .i32 0))]
def laid_flong_styles_gap {H : Type} : DataW H := .agg [.lit (.int .i32 32), .lit (.int .u8 0)]

/-- 'flonglaw06.StylesLines': WHATEVER THE INPUT: true; the input reads as it did. -/
def stylesLinesSpec : ChangeSpec := { name := "stylesLines", fn := fun _ => fun
  | [d1, d2, d3, d4] => { results := [.lit (.bool true)], args := [d1, d2, d3, d4] }
  | _ => none }
def stylesLinesRow : OpenClaim := { program := "ytkbknlcdinkokaadoor", sum := "8ebbb809891f98aefe15d17e0473020cb0e53cc12c1b2b24fe3af6c2428a46b4", func := "flong/flonglaw06.StylesLines", spec := "stylesLines", unfollowed := true, recurses := true, named := ["flong/escape.names", "flong/escape.fonts", "flong/styles.gap"], apart := false, laid := [("flong/escape.names", laid_flong_escape_names), ("flong/escape.fonts", laid_flong_escape_fonts), ("flong/styles.gap", laid_flong_styles_gap)] }
def StylesLinesSaid : Prop := stylesLinesRow.holds Tryd.pinned (OpenSpec.ofChange stylesLinesSpec)

/-- ITS FALSE NEIGHBOUR: 'it returns false'. Refute it at one input. -/
def stylesLinesWrong : ChangeSpec := { name := "stylesLines", fn := fun _ => fun
  | [d1, d2, d3, d4] => { results := [.lit (.bool false)], args := [d1, d2, d3, d4] }
  | _ => none }
def StylesLinesWrongFalsely : Prop := stylesLinesRow.holds Tryd.pinned (OpenSpec.ofChange stylesLinesWrong)

/-- 'flonglaw06.StylesJoins': WHATEVER THE INPUT: true; the input reads as it did. -/
def stylesJoinsSpec : ChangeSpec := { name := "stylesJoins", fn := fun _ => fun
  | [d1, d2, d3] => { results := [.lit (.bool true)], args := [d1, d2, d3] }
  | _ => none }
def stylesJoinsRow : OpenClaim := { program := "ytkbknlcdinkokaadoor", sum := "8ebbb809891f98aefe15d17e0473020cb0e53cc12c1b2b24fe3af6c2428a46b4", func := "flong/flonglaw06.StylesJoins", spec := "stylesJoins", unfollowed := true, recurses := true, named := ["flong/escape.names", "flong/escape.fonts", "flong/styles.gap"], apart := false, laid := [("flong/escape.names", laid_flong_escape_names), ("flong/escape.fonts", laid_flong_escape_fonts), ("flong/styles.gap", laid_flong_styles_gap)] }
def StylesJoinsSaid : Prop := stylesJoinsRow.holds Tryd.pinned (OpenSpec.ofChange stylesJoinsSpec)

/-- ITS FALSE NEIGHBOUR: 'it returns false'. Refute it at one input. -/
def stylesJoinsWrong : ChangeSpec := { name := "stylesJoins", fn := fun _ => fun
  | [d1, d2, d3] => { results := [.lit (.bool false)], args := [d1, d2, d3] }
  | _ => none }
def StylesJoinsWrongFalsely : Prop := stylesJoinsRow.holds Tryd.pinned (OpenSpec.ofChange stylesJoinsWrong)

/-- 'flonglaw11.MdocJoins': WHATEVER THE INPUT: true; the input reads as it did. -/
def mdocJoinsSpec : ChangeSpec := { name := "mdocJoins", fn := fun _ => fun
  | [d] => { results := [.lit (.bool true)], args := [d] }
  | _ => none }
def mdocJoinsRow : OpenClaim := { program := "ytkbknlcdinkokaadoor", sum := "8ebbb809891f98aefe15d17e0473020cb0e53cc12c1b2b24fe3af6c2428a46b4", func := "flong/flonglaw11.MdocJoins", spec := "mdocJoins", inPlace := ["internal/bytealg.IndexByteString", "internal/bytealg.IndexString"], unfollowed := true, recurses := true, named := ["internal/bytealg.MaxLen", "flong/escape.names", "flong/escape.fonts", "flong/styles.gap"], apart := false, laid := [("flong/escape.names", laid_flong_escape_names), ("flong/escape.fonts", laid_flong_escape_fonts), ("flong/styles.gap", laid_flong_styles_gap)] }
def MdocJoinsSaid : Prop := mdocJoinsRow.holds Tryd.pinned (OpenSpec.ofChange mdocJoinsSpec)

/-- ITS FALSE NEIGHBOUR: 'it returns false'. Refute it at one input. -/
def mdocJoinsWrong : ChangeSpec := { name := "mdocJoins", fn := fun _ => fun
  | [d] => { results := [.lit (.bool false)], args := [d] }
  | _ => none }
def MdocJoinsWrongFalsely : Prop := mdocJoinsRow.holds Tryd.pinned (OpenSpec.ofChange mdocJoinsWrong)

/-- 'flonglaw11.MdocSigns': WHATEVER THE INPUT: true; the input reads as it did. -/
def mdocSignsSpec : ChangeSpec := { name := "mdocSigns", fn := fun _ => fun
  | [d] => { results := [.lit (.bool true)], args := [d] }
  | _ => none }
def mdocSignsRow : OpenClaim := { program := "ytkbknlcdinkokaadoor", sum := "8ebbb809891f98aefe15d17e0473020cb0e53cc12c1b2b24fe3af6c2428a46b4", func := "flong/flonglaw11.MdocSigns", spec := "mdocSigns", inPlace := ["internal/bytealg.IndexByteString", "internal/bytealg.IndexString"], unfollowed := true, recurses := true, named := ["internal/bytealg.MaxLen", "flong/escape.names", "flong/escape.fonts", "flong/styles.gap"], apart := false, laid := [("flong/escape.names", laid_flong_escape_names), ("flong/escape.fonts", laid_flong_escape_fonts), ("flong/styles.gap", laid_flong_styles_gap)] }
def MdocSignsSaid : Prop := mdocSignsRow.holds Tryd.pinned (OpenSpec.ofChange mdocSignsSpec)

/-- ITS FALSE NEIGHBOUR: 'it returns false'. Refute it at one input. -/
def mdocSignsWrong : ChangeSpec := { name := "mdocSigns", fn := fun _ => fun
  | [d] => { results := [.lit (.bool false)], args := [d] }
  | _ => none }
def MdocSignsWrongFalsely : Prop := mdocSignsRow.holds Tryd.pinned (OpenSpec.ofChange mdocSignsWrong)

/- THE SECOND FORM. 'bulk': how many values and letters a reading holds, each counted each time it is reached (what is shared counts as often as it is met; a slice's spare places count too). A statement '..UptoSaid' is the law's where the arguments, and the package variables that the reading takes, are together of bulk at most 1048576: NARROWER than '..Said'. Prove '..Said' where nothing that the law and all that it calls make is longer than what came in: it says more and counts as full. Else prove '..UptoSaid'. A law counts once. -/
mutual
def uptoBulk {H : Type} : DataW H → Nat
  | .lit (.string bytes) => bytes.length + 1
  | .lit _ => 1
  | .nil => 1
  | .ptr d => uptoBulk d + 1
  | .slice elems spare => uptoBulkAll elems + uptoBulkAll spare + 1
  | .agg parts => uptoBulkAll parts + 1
  | .iface _ d => uptoBulk d + 1
  | .map entries => uptoBulkEntries entries + 1
  | .held _ => 1
def uptoBulkAll {H : Type} : List (DataW H) → Nat
  | [] => 0
  | d :: r => uptoBulk d + uptoBulkAll r
def uptoBulkEntries {H : Type} : List (Lit × DataW H) → Nat
  | [] => 0
  | x :: r => uptoBulkEntry x + uptoBulkEntries r
def uptoBulkEntry {H : Type} : Lit × DataW H → Nat
  | (.string bytes, d) => bytes.length + uptoBulk d + 1
  | (_, d) => uptoBulk d + 1
 end
def uptoSmall : (H : Type) → List (DataW H) → Bool := fun _ ds => decide (uptoBulkAll ds ≤ 1048576)
def OpenSpec.upto (s : _root_.Go.ChangeSpec) : _root_.Go.OpenSpec := { _root_.Go.OpenSpec.ofChange s with cond := some uptoSmall }

/-- 'flonglaw06.StylesLines', WHERE WHAT IT READS IS OF BULK AT MOST 1048576: true; the input reads as it did. -/
def stylesLinesUptoRow : OpenClaim := { program := "ytkbknlcdinkokaadoor", sum := "8ebbb809891f98aefe15d17e0473020cb0e53cc12c1b2b24fe3af6c2428a46b4", func := "flong/flonglaw06.StylesLines", spec := "stylesLines", unfollowed := true, recurses := true, named := ["flong/escape.names", "flong/escape.fonts", "flong/styles.gap"], apart := false, laid := [("flong/escape.names", laid_flong_escape_names), ("flong/escape.fonts", laid_flong_escape_fonts), ("flong/styles.gap", laid_flong_styles_gap)], narrowed := true }
def StylesLinesUptoSaid : Prop := stylesLinesUptoRow.holds Tryd.pinned (OpenSpec.upto stylesLinesSpec)

/-- 'flonglaw06.StylesJoins', WHERE WHAT IT READS IS OF BULK AT MOST 1048576: true; the input reads as it did. -/
def stylesJoinsUptoRow : OpenClaim := { program := "ytkbknlcdinkokaadoor", sum := "8ebbb809891f98aefe15d17e0473020cb0e53cc12c1b2b24fe3af6c2428a46b4", func := "flong/flonglaw06.StylesJoins", spec := "stylesJoins", unfollowed := true, recurses := true, named := ["flong/escape.names", "flong/escape.fonts", "flong/styles.gap"], apart := false, laid := [("flong/escape.names", laid_flong_escape_names), ("flong/escape.fonts", laid_flong_escape_fonts), ("flong/styles.gap", laid_flong_styles_gap)], narrowed := true }
def StylesJoinsUptoSaid : Prop := stylesJoinsUptoRow.holds Tryd.pinned (OpenSpec.upto stylesJoinsSpec)

/-- 'flonglaw11.MdocJoins', WHERE WHAT IT READS IS OF BULK AT MOST 1048576: true; the input reads as it did. -/
def mdocJoinsUptoRow : OpenClaim := { program := "ytkbknlcdinkokaadoor", sum := "8ebbb809891f98aefe15d17e0473020cb0e53cc12c1b2b24fe3af6c2428a46b4", func := "flong/flonglaw11.MdocJoins", spec := "mdocJoins", inPlace := ["internal/bytealg.IndexByteString", "internal/bytealg.IndexString"], unfollowed := true, recurses := true, named := ["internal/bytealg.MaxLen", "flong/escape.names", "flong/escape.fonts", "flong/styles.gap"], apart := false, laid := [("flong/escape.names", laid_flong_escape_names), ("flong/escape.fonts", laid_flong_escape_fonts), ("flong/styles.gap", laid_flong_styles_gap)], narrowed := true }
def MdocJoinsUptoSaid : Prop := mdocJoinsUptoRow.holds Tryd.pinned (OpenSpec.upto mdocJoinsSpec)

/-- 'flonglaw11.MdocSigns', WHERE WHAT IT READS IS OF BULK AT MOST 1048576: true; the input reads as it did. -/
def mdocSignsUptoRow : OpenClaim := { program := "ytkbknlcdinkokaadoor", sum := "8ebbb809891f98aefe15d17e0473020cb0e53cc12c1b2b24fe3af6c2428a46b4", func := "flong/flonglaw11.MdocSigns", spec := "mdocSigns", inPlace := ["internal/bytealg.IndexByteString", "internal/bytealg.IndexString"], unfollowed := true, recurses := true, named := ["internal/bytealg.MaxLen", "flong/escape.names", "flong/escape.fonts", "flong/styles.gap"], apart := false, laid := [("flong/escape.names", laid_flong_escape_names), ("flong/escape.fonts", laid_flong_escape_fonts), ("flong/styles.gap", laid_flong_styles_gap)], narrowed := true }
def MdocSignsUptoSaid : Prop := mdocSignsUptoRow.holds Tryd.pinned (OpenSpec.upto mdocSignsSpec)

end Rows
end Go.Proofs.YtkbknlcdinkokaaDoor
