/-
  NARROWER THAN 'FOR EVERY INPUT', by the rows' own cells (each row's printed sentence says how): MdocLists: laid · MdocNames: laid · ManTexts: laid · ManWrong: laid · ManHeads: laid · ManVerbs: laid · ManRows: laid · MdocRows: laid.
  DERIVED. THE GIVEN ROWS OF THIS SEAT. 8 by the template 'for every input the law returns true; each argument reads behind the call as it read before'; 0 by the template 'total and deterministic' (their statements: YtkjgkhgklkdbjaaGreatDoorTotals.lean).
  GIVEN WITH THE SEED: the statements are not yours to turn. If you find one false, say at which input.
  Laid BY PROGRAM, IN A SANDBOX (cutbox-rows.mjs): the forced cells as the released guide's own fill.sh prints them over the translation 2a47dd9e5b44a07b… (all of the seat's roots in one cut). By AI agents, Wed Nov 11 2026. No macro, syntax, notation, axiom, sorry.
-/
import Derived.Test.YtkjgkhgklkdbjaaGreatDoorChecked
import GoSem.PinnedTables
import GoSem.Claim
import GoSem.ClaimJoined
import GoSem.ClaimMapViews
import Derived.JoinedTies
import Derived.KernelRfl
namespace Go.Proofs.YtkjgkhgklkdbjaaGreatDoor
/- THE CELL 'sum', in the pinned program and in every row, IS THE sha256 OF THE DUMP (.gsa) THAT YtkjgkhgklkdbjaaGreatDoorProg.lean LOADS. Nothing in Lean hashes anything: it is a label: what it is worth is what the hold of that sum in a sandbox is worth. -/
noncomputable def Tryz.pinned : Pinned := { name := "ytkjgkhgklkdbjaagreatdoor", sum := "2a47dd9e5b44a07bd1e972e540b249b831fb6904ec7c2a1c88979850c8d453a1", checked := Tryz.checked }
namespace Rows
def none {H : Type} : Left H := { results := [], args := [] }

/- WHAT THE LISTED PACKAGE-LEVEL VARIABLES READ AS WHEN THE CALL BEGINS. Each datum BY PROGRAM (the guide's laid-datum.mjs) off the statement by which the dump's own 'gosem.cut.vars' lays the variable. In a bare row this is a premise. The card (YtkjgkhgklkdbjaaGreatDoorCards.lean) ties it to the program's text. -/
def laid_math_bits_deBruijn32tab {H : Type} : DataW H := .agg [.lit (.int .u8 0), .lit (.int .u8 1), .lit (.int .u8 28), .lit (.int .u8 2), .lit (.int .u8 29), .lit (.int .u8 14), .lit (.int .u8 24), .lit (.int .u8 3), .lit (.int .u8 30), .lit (.int .u8 22), .lit (.int .u8 20), .lit (.int .u8 15), .lit (.int .u8 25), .lit (.int .u8 17), .lit (.int .u8 4), .lit (.int .u8 8), .lit (.int .u8 31), .lit (.int .u8 27), .lit (.int .u8 13), .lit (.int .u8 23), .lit (.int .u8 21), .lit (.int .u8 19), .lit (.int .u8 16), .lit (.int .u8 7), .lit (.int .u8 26), .lit (.int .u8 12), .lit (.int .u8 18), .lit (.int .u8 6), .lit (.int .u8 11), .lit (.int .u8 5), .lit (.int .u8 10), .lit (.int .u8 9)]
def laid_math_bits_deBruijn64tab {H : Type} : DataW H := .agg [.lit (.int .u8 0), .lit (.int .u8 1), .lit (.int .u8 56), .lit (.int .u8 2), .lit (.int .u8 57), .lit (.int .u8 49), .lit (.int .u8 28), .lit (.int .u8 3), .lit (.int .u8 61), .lit (.int .u8 58), .lit (.int .u8 42), .lit (.int .u8 50), .lit (.int .u8 38), .lit (.int .u8 29), .lit (.int .u8 17), .lit (.int .u8 4), .lit (.int .u8 62), .lit (.int .u8 47), .lit (.int .u8 59), .lit (.int .u8 36), .lit (.int .u8 45), .lit (.int .u8 43), .lit (.int .u8 51), .lit (.int .u8 22), .lit (.int .u8 53), .lit (.int .u8 39), .lit (.int .u8 33), .lit (.int .u8 30), .lit (.int .u8 24), .lit (.int .u8 18), .lit (.int .u8 12), .lit (.int .u8 5), .lit (.int .u8 63), .lit (.int .u8 55), .lit (.int .u8 48), .lit (.int .u8 27), .lit (.int .u8 60), .lit (.int .u8 41), .lit (.int .u8 37), .lit (.int .u8 16), .lit (.int .u8 46), .lit (.int .u8 35), .lit (.int .u8 44), .lit (.int .u8 21), .lit (.int .u8 52), .lit (.int .u8 32), .lit (.int .u8 23), .lit (.int .u8 11), .lit (.int .u8 54), .lit (.int .u8 26), .lit (.int .u8 40), .lit (.int .u8 15), .lit (.int .u8 34), .lit (.int .u8 20), .lit (.int .u8 31), .lit (.int .u8 10), .lit (.int .u8 25), .lit (.int .u8 14), .lit (.int .u8 19), .lit (.int .u8 9), .lit (.int .u8 13), .lit (.int .u8 8), .lit (.int .u8 7), .lit (.int .u8 6)]
def laid_internal_strconv_uint64pow10 {H : Type} : DataW H := .agg [.lit (.int .u64 1), .lit (.int .u64 10), .lit (.int .u64 100), .lit (.int .u64 1000), .lit (.int .u64 10000), .lit (.int .u64 100000), .lit (.int .u64 1000000), .lit (.int .u64 10000000), .lit (.int .u64 100000000), .lit (.int .u64 1000000000), .lit (.int .u64 10000000000), .lit (.int .u64 100000000000), .lit (.int .u64 1000000000000), .lit (.int .u64 10000000000000), .lit (.int .u64 100000000000000), .lit (.int .u64 1000000000000000), .lit (.int .u64 10000000000000000), .lit (.int .u64 100000000000000000), .lit (.int .u64 1000000000000000000), .lit (.int .u64 10000000000000000000)]
def laid_unicode_utf8_acceptRanges {H : Type} : DataW H := .agg [.agg [.lit (.int .u8 128), .lit (.int .u8 191)], .agg [.lit (.int .u8 160), .lit (.int .u8 191)], .agg [.lit (.int .u8 128), .lit (.int .u8 159)], .agg [.lit (.int .u8 144), .lit (.int .u8 191)], .agg [.lit (.int .u8 128), .lit (.int .u8 143)], .agg [.lit (.int .u8 0), .lit (.int .u8 0)], .agg [.lit (.int .u8 0), .lit (.int .u8 0)], .agg [.lit (.int .u8 0), .lit (.int .u8 0)], .agg [.lit (.int .u8 0), .lit (.int .u8 0)], .agg [.lit (.int .u8 0), .lit (.int .u8 0)], .agg [.lit (.int .u8 0), .lit (.int .u8 0)], .agg [.lit (.int .u8 0), .lit (.int .u8 0)], .agg [.lit (.int .u8 0), .lit (.int .u8 0)], .agg [.lit (.int .u8 0), .lit (.int .u8 0)], .agg [.lit (.int .u8 0), .lit (.int .u8 0)], .agg [.lit (.int .u8 0), .lit (.int .u8 0)]]
def laid_flong_cells_blank {H : Type} : DataW H := .agg [.lit (.int .i32 32), .lit (.int .u8 0)]
def laid_flong_escape_names {H : Type} : DataW H := .map [(.string [33, 61], .lit (.int .i32 8800)), (.string [45, 62], .lit (.int .i32 8594)), (.string [60, 45], .lit (.int .i32 8592)), (.string [60, 61], .lit (.int .i32 8804)), (.string [62, 61], .lit (.int .i32 8805)), (.string [69, 117], .lit (.int .i32 8364)), (.string [97, 58], .lit (.int .i32 228)), (.string [97, 113], .lit (.int .i32 39)), (.string [98, 117], .lit (.int .i32 8226)), (.string [99, 111], .lit (.int .i32 169)), (.string [99, 113], .lit (.int .i32 8217)), (.string [100, 101], .lit (.int .i32 176)), (.string [100, 105], .lit (.int .i32 247)), (.string [100, 113], .lit (.int .i32 34)), (.string [101, 109], .lit (.int .i32 8212)), (.string [101, 110], .lit (.int .i32 8211)), (.string [104, 97], .lit (.int .i32 94)), (.string [104, 121], .lit (.int .i32 8208)), (.string [108, 113], .lit (.int .i32 8220)), (.string [109, 117], .lit (.int .i32 215)), (.string [111, 58], .lit (.int .i32 246)), (.string [111, 113], .lit (.int .i32 8216)), (.string [114, 103], .lit (.int .i32 174)), (.string [114, 113], .lit (.int .i32 8221)), (.string [114, 115], .lit (.int .i32 92)), (.string [115, 99], .lit (.int .i32 167)), (.string [115, 115], .lit (.int .i32 223)), (.string [116, 105], .lit (.int .i32 126)), (.string [116, 109], .lit (.int .i32 8482)), (.string [117, 58], .lit (.int .i32 252))]
def laid_flong_escape_fonts {H : Type} : DataW H := .map [(.string [49], .lit (.int .i32 0)), (.string [50], .lit (.int .i32 1)), (.string [51], .lit (.int .i32 2)), (.string [52], .lit (.int .i32 3)), (.string [66], .lit (.int .i32 1)), (.string [66, 73], .lit (.int .i32 3)), (.string [73], .lit (.int .i32 2)), (.string [80], .lit (.int .i32 4)), (.string [82], .lit (.int .i32 0))]
def laid_flong_styles_gap {H : Type} : DataW H := .agg [.lit (.int .i32 32), .lit (.int .u8 0)]
/-- One of Go's own tables, pinned by name: the form's constant. -/
def laid_unicode_utf8_first : DataW Unit := Go.Pinned.utf8First

/-- 'flonglaw11.MdocLists': WHATEVER THE INPUT: true; the input reads as it did. -/
def mdocListsSpec : ChangeSpec := { name := "mdocLists", fn := fun _ => fun
  | [d1, d2, d3] => { results := [.lit (.bool true)], args := [d1, d2, d3] }
  | _ => none }
def mdocListsRow : OpenClaim := { program := "ytkjgkhgklkdbjaagreatdoor", sum := "2a47dd9e5b44a07bd1e972e540b249b831fb6904ec7c2a1c88979850c8d453a1", func := "flong/flonglaw11.MdocLists", spec := "mdocLists", inPlace := ["internal/bytealg.IndexByteString", "internal/bytealg.IndexString", "internal/abi.NoEscape", "internal/bytealg.MakeNoZero"], unfollowed := true, recurses := true, named := ["internal/bytealg.MaxLen", "flong/escape.names", "flong/escape.fonts", "flong/styles.gap", "flong/cells.blank", "unicode/utf8.first", "unicode/utf8.acceptRanges", "internal/strconv.uint64pow10", "math/bits.deBruijn32tab", "math/bits.deBruijn64tab"], apart := false, laid := [("math/bits.deBruijn32tab", laid_math_bits_deBruijn32tab), ("math/bits.deBruijn64tab", laid_math_bits_deBruijn64tab), ("internal/strconv.uint64pow10", laid_internal_strconv_uint64pow10), ("unicode/utf8.acceptRanges", laid_unicode_utf8_acceptRanges), ("flong/cells.blank", laid_flong_cells_blank), ("flong/escape.names", laid_flong_escape_names), ("flong/escape.fonts", laid_flong_escape_fonts), ("flong/styles.gap", laid_flong_styles_gap), ("unicode/utf8.first", laid_unicode_utf8_first)] }
def MdocListsSaid : Prop := mdocListsRow.holds Tryz.pinned (OpenSpec.ofChange mdocListsSpec)

/-- ITS FALSE NEIGHBOUR: 'it returns false'. Refute it at one input. -/
def mdocListsWrong : ChangeSpec := { name := "mdocLists", fn := fun _ => fun
  | [d1, d2, d3] => { results := [.lit (.bool false)], args := [d1, d2, d3] }
  | _ => none }
def MdocListsWrongFalsely : Prop := mdocListsRow.holds Tryz.pinned (OpenSpec.ofChange mdocListsWrong)

/-- 'flonglaw11.MdocNames': WHATEVER THE INPUT: true; the input reads as it did. -/
def mdocNamesSpec : ChangeSpec := { name := "mdocNames", fn := fun _ => fun
  | [d1, d2] => { results := [.lit (.bool true)], args := [d1, d2] }
  | _ => none }
def mdocNamesRow : OpenClaim := { program := "ytkjgkhgklkdbjaagreatdoor", sum := "2a47dd9e5b44a07bd1e972e540b249b831fb6904ec7c2a1c88979850c8d453a1", func := "flong/flonglaw11.MdocNames", spec := "mdocNames", inPlace := ["internal/bytealg.IndexByteString", "internal/bytealg.IndexString", "internal/abi.NoEscape", "internal/bytealg.MakeNoZero"], unfollowed := true, recurses := true, named := ["internal/bytealg.MaxLen", "flong/escape.names", "flong/escape.fonts", "flong/styles.gap", "flong/cells.blank", "unicode/utf8.first", "unicode/utf8.acceptRanges", "internal/strconv.uint64pow10", "math/bits.deBruijn32tab", "math/bits.deBruijn64tab"], apart := false, laid := [("math/bits.deBruijn32tab", laid_math_bits_deBruijn32tab), ("math/bits.deBruijn64tab", laid_math_bits_deBruijn64tab), ("internal/strconv.uint64pow10", laid_internal_strconv_uint64pow10), ("unicode/utf8.acceptRanges", laid_unicode_utf8_acceptRanges), ("flong/cells.blank", laid_flong_cells_blank), ("flong/escape.names", laid_flong_escape_names), ("flong/escape.fonts", laid_flong_escape_fonts), ("flong/styles.gap", laid_flong_styles_gap), ("unicode/utf8.first", laid_unicode_utf8_first)] }
def MdocNamesSaid : Prop := mdocNamesRow.holds Tryz.pinned (OpenSpec.ofChange mdocNamesSpec)

/-- ITS FALSE NEIGHBOUR: 'it returns false'. Refute it at one input. -/
def mdocNamesWrong : ChangeSpec := { name := "mdocNames", fn := fun _ => fun
  | [d1, d2] => { results := [.lit (.bool false)], args := [d1, d2] }
  | _ => none }
def MdocNamesWrongFalsely : Prop := mdocNamesRow.holds Tryz.pinned (OpenSpec.ofChange mdocNamesWrong)

/-- 'flonglaw10.ManTexts': WHATEVER THE INPUT: true; the input reads as it did. -/
def manTextsSpec : ChangeSpec := { name := "manTexts", fn := fun _ => fun
  | [d1, d2] => { results := [.lit (.bool true)], args := [d1, d2] }
  | _ => none }
def manTextsRow : OpenClaim := { program := "ytkjgkhgklkdbjaagreatdoor", sum := "2a47dd9e5b44a07bd1e972e540b249b831fb6904ec7c2a1c88979850c8d453a1", func := "flong/flonglaw10.ManTexts", spec := "manTexts", inPlace := ["internal/bytealg.IndexByteString", "internal/bytealg.IndexString", "internal/bytealg.CountString", "internal/abi.NoEscape", "internal/bytealg.MakeNoZero"], unfollowed := true, recurses := true, named := ["unicode/utf8.first", "unicode/utf8.acceptRanges", "internal/bytealg.MaxLen", "flong/cells.blank", "flong/escape.names", "flong/escape.fonts", "flong/styles.gap"], apart := false, laid := [("unicode/utf8.acceptRanges", laid_unicode_utf8_acceptRanges), ("flong/cells.blank", laid_flong_cells_blank), ("flong/escape.names", laid_flong_escape_names), ("flong/escape.fonts", laid_flong_escape_fonts), ("flong/styles.gap", laid_flong_styles_gap), ("unicode/utf8.first", laid_unicode_utf8_first)] }
def ManTextsSaid : Prop := manTextsRow.holds Tryz.pinned (OpenSpec.ofChange manTextsSpec)

/-- ITS FALSE NEIGHBOUR: 'it returns false'. Refute it at one input. -/
def manTextsWrong : ChangeSpec := { name := "manTexts", fn := fun _ => fun
  | [d1, d2] => { results := [.lit (.bool false)], args := [d1, d2] }
  | _ => none }
def ManTextsWrongFalsely : Prop := manTextsRow.holds Tryz.pinned (OpenSpec.ofChange manTextsWrong)

/-- 'flonglaw10.ManWrong': WHATEVER THE INPUT: true; the input reads as it did. -/
def manWrongSpec : ChangeSpec := { name := "manWrong", fn := fun _ => fun
  | [d1, d2] => { results := [.lit (.bool true)], args := [d1, d2] }
  | _ => none }
def manWrongRow : OpenClaim := { program := "ytkjgkhgklkdbjaagreatdoor", sum := "2a47dd9e5b44a07bd1e972e540b249b831fb6904ec7c2a1c88979850c8d453a1", func := "flong/flonglaw10.ManWrong", spec := "manWrong", inPlace := ["internal/bytealg.IndexByteString", "internal/bytealg.IndexString", "internal/bytealg.CountString", "internal/abi.NoEscape", "internal/bytealg.MakeNoZero"], unfollowed := true, recurses := true, named := ["unicode/utf8.first", "unicode/utf8.acceptRanges", "internal/bytealg.MaxLen", "flong/cells.blank", "flong/escape.names", "flong/escape.fonts", "flong/styles.gap"], apart := false, laid := [("unicode/utf8.acceptRanges", laid_unicode_utf8_acceptRanges), ("flong/cells.blank", laid_flong_cells_blank), ("flong/escape.names", laid_flong_escape_names), ("flong/escape.fonts", laid_flong_escape_fonts), ("flong/styles.gap", laid_flong_styles_gap), ("unicode/utf8.first", laid_unicode_utf8_first)] }
def ManWrongSaid : Prop := manWrongRow.holds Tryz.pinned (OpenSpec.ofChange manWrongSpec)

/-- ITS FALSE NEIGHBOUR: 'it returns false'. Refute it at one input. -/
def manWrongWrong : ChangeSpec := { name := "manWrong", fn := fun _ => fun
  | [d1, d2] => { results := [.lit (.bool false)], args := [d1, d2] }
  | _ => none }
def ManWrongWrongFalsely : Prop := manWrongRow.holds Tryz.pinned (OpenSpec.ofChange manWrongWrong)

/-- 'flonglaw10.ManHeads': WHATEVER THE INPUT: true; the input reads as it did. -/
def manHeadsSpec : ChangeSpec := { name := "manHeads", fn := fun _ => fun
  | [d] => { results := [.lit (.bool true)], args := [d] }
  | _ => none }
def manHeadsRow : OpenClaim := { program := "ytkjgkhgklkdbjaagreatdoor", sum := "2a47dd9e5b44a07bd1e972e540b249b831fb6904ec7c2a1c88979850c8d453a1", func := "flong/flonglaw10.ManHeads", spec := "manHeads", inPlace := ["internal/bytealg.IndexByteString", "internal/bytealg.IndexString", "internal/bytealg.CountString", "internal/abi.NoEscape", "internal/bytealg.MakeNoZero"], unfollowed := true, recurses := true, named := ["unicode/utf8.first", "unicode/utf8.acceptRanges", "internal/bytealg.MaxLen", "flong/cells.blank", "flong/escape.names", "flong/escape.fonts", "flong/styles.gap"], apart := false, laid := [("unicode/utf8.acceptRanges", laid_unicode_utf8_acceptRanges), ("flong/cells.blank", laid_flong_cells_blank), ("flong/escape.names", laid_flong_escape_names), ("flong/escape.fonts", laid_flong_escape_fonts), ("flong/styles.gap", laid_flong_styles_gap), ("unicode/utf8.first", laid_unicode_utf8_first)] }
def ManHeadsSaid : Prop := manHeadsRow.holds Tryz.pinned (OpenSpec.ofChange manHeadsSpec)

/-- ITS FALSE NEIGHBOUR: 'it returns false'. Refute it at one input. -/
def manHeadsWrong : ChangeSpec := { name := "manHeads", fn := fun _ => fun
  | [d] => { results := [.lit (.bool false)], args := [d] }
  | _ => none }
def ManHeadsWrongFalsely : Prop := manHeadsRow.holds Tryz.pinned (OpenSpec.ofChange manHeadsWrong)

/-- 'flonglaw10.ManVerbs': WHATEVER THE INPUT: true; the input reads as it did. -/
def manVerbsSpec : ChangeSpec := { name := "manVerbs", fn := fun _ => fun
  | [d] => { results := [.lit (.bool true)], args := [d] }
  | _ => none }
def manVerbsRow : OpenClaim := { program := "ytkjgkhgklkdbjaagreatdoor", sum := "2a47dd9e5b44a07bd1e972e540b249b831fb6904ec7c2a1c88979850c8d453a1", func := "flong/flonglaw10.ManVerbs", spec := "manVerbs", inPlace := ["internal/bytealg.IndexByteString", "internal/bytealg.IndexString", "internal/bytealg.CountString", "internal/abi.NoEscape", "internal/bytealg.MakeNoZero"], unfollowed := true, recurses := true, named := ["unicode/utf8.first", "unicode/utf8.acceptRanges", "internal/bytealg.MaxLen", "flong/cells.blank", "flong/escape.names", "flong/escape.fonts", "flong/styles.gap"], apart := false, laid := [("unicode/utf8.acceptRanges", laid_unicode_utf8_acceptRanges), ("flong/cells.blank", laid_flong_cells_blank), ("flong/escape.names", laid_flong_escape_names), ("flong/escape.fonts", laid_flong_escape_fonts), ("flong/styles.gap", laid_flong_styles_gap), ("unicode/utf8.first", laid_unicode_utf8_first)] }
def ManVerbsSaid : Prop := manVerbsRow.holds Tryz.pinned (OpenSpec.ofChange manVerbsSpec)

/-- ITS FALSE NEIGHBOUR: 'it returns false'. Refute it at one input. -/
def manVerbsWrong : ChangeSpec := { name := "manVerbs", fn := fun _ => fun
  | [d] => { results := [.lit (.bool false)], args := [d] }
  | _ => none }
def ManVerbsWrongFalsely : Prop := manVerbsRow.holds Tryz.pinned (OpenSpec.ofChange manVerbsWrong)

/-- 'flonglaw10.ManRows': WHATEVER THE INPUT: true; the input reads as it did. -/
def manRowsSpec : ChangeSpec := { name := "manRows", fn := fun _ => fun
  | [d] => { results := [.lit (.bool true)], args := [d] }
  | _ => none }
def manRowsRow : OpenClaim := { program := "ytkjgkhgklkdbjaagreatdoor", sum := "2a47dd9e5b44a07bd1e972e540b249b831fb6904ec7c2a1c88979850c8d453a1", func := "flong/flonglaw10.ManRows", spec := "manRows", inPlace := ["internal/bytealg.IndexByteString", "internal/bytealg.IndexString", "internal/bytealg.CountString", "internal/abi.NoEscape", "internal/bytealg.MakeNoZero"], unfollowed := true, recurses := true, named := ["unicode/utf8.first", "unicode/utf8.acceptRanges", "internal/bytealg.MaxLen", "flong/cells.blank", "flong/escape.names", "flong/escape.fonts", "flong/styles.gap"], apart := false, laid := [("unicode/utf8.acceptRanges", laid_unicode_utf8_acceptRanges), ("flong/cells.blank", laid_flong_cells_blank), ("flong/escape.names", laid_flong_escape_names), ("flong/escape.fonts", laid_flong_escape_fonts), ("flong/styles.gap", laid_flong_styles_gap), ("unicode/utf8.first", laid_unicode_utf8_first)] }
def ManRowsSaid : Prop := manRowsRow.holds Tryz.pinned (OpenSpec.ofChange manRowsSpec)

/-- ITS FALSE NEIGHBOUR: 'it returns false'. Refute it at one input. -/
def manRowsWrong : ChangeSpec := { name := "manRows", fn := fun _ => fun
  | [d] => { results := [.lit (.bool false)], args := [d] }
  | _ => none }
def ManRowsWrongFalsely : Prop := manRowsRow.holds Tryz.pinned (OpenSpec.ofChange manRowsWrong)

/-- 'flonglaw11.MdocRows': WHATEVER THE INPUT: true; the input reads as it did. -/
def mdocRowsSpec : ChangeSpec := { name := "mdocRows", fn := fun _ => fun
  | [d] => { results := [.lit (.bool true)], args := [d] }
  | _ => none }
def mdocRowsRow : OpenClaim := { program := "ytkjgkhgklkdbjaagreatdoor", sum := "2a47dd9e5b44a07bd1e972e540b249b831fb6904ec7c2a1c88979850c8d453a1", func := "flong/flonglaw11.MdocRows", spec := "mdocRows", inPlace := ["internal/bytealg.IndexByteString", "internal/bytealg.IndexString", "internal/abi.NoEscape", "internal/bytealg.MakeNoZero", "internal/bytealg.CountString"], unfollowed := true, recurses := true, named := ["internal/bytealg.MaxLen", "flong/escape.names", "flong/escape.fonts", "flong/styles.gap", "flong/cells.blank", "unicode/utf8.first", "unicode/utf8.acceptRanges", "internal/strconv.uint64pow10", "math/bits.deBruijn32tab", "math/bits.deBruijn64tab"], apart := false, laid := [("math/bits.deBruijn32tab", laid_math_bits_deBruijn32tab), ("math/bits.deBruijn64tab", laid_math_bits_deBruijn64tab), ("internal/strconv.uint64pow10", laid_internal_strconv_uint64pow10), ("unicode/utf8.acceptRanges", laid_unicode_utf8_acceptRanges), ("flong/cells.blank", laid_flong_cells_blank), ("flong/escape.names", laid_flong_escape_names), ("flong/escape.fonts", laid_flong_escape_fonts), ("flong/styles.gap", laid_flong_styles_gap), ("unicode/utf8.first", laid_unicode_utf8_first)] }
def MdocRowsSaid : Prop := mdocRowsRow.holds Tryz.pinned (OpenSpec.ofChange mdocRowsSpec)

/-- ITS FALSE NEIGHBOUR: 'it returns false'. Refute it at one input. -/
def mdocRowsWrong : ChangeSpec := { name := "mdocRows", fn := fun _ => fun
  | [d] => { results := [.lit (.bool false)], args := [d] }
  | _ => none }
def MdocRowsWrongFalsely : Prop := mdocRowsRow.holds Tryz.pinned (OpenSpec.ofChange mdocRowsWrong)

/- THE SECOND FORM. 'bulk': how many values and letters a reading holds, each counted each time it is reached (what is shared counts as often as it is met; a slice's spare places count too). A statement '..UptoSaid' is the law's where the arguments, and the package variables that the reading takes, are together of bulk at most 1048576: NARROWER than '..Said'. Prove '..Said' where nothing that the law and all that it calls make is longer than what came in: it says more and counts as full. Else prove '..UptoSaid'. A law counts once. -/
mutual
def uptoBulk {H : Type} : DataW H → Nat
  | .lit (.string bytes) => bytes.length + 1
  | .lit _ => 1
  | .nil => 1
  | .ptr d => uptoBulk d + 1
  | .slice elems spare => uptoBulkAll elems + uptoBulkAll spare + 1
  | .agg parts => uptoBulkAll parts + 1
  | .iface _ d => uptoBulk d + 1
  | .map entries => uptoBulkEntries entries + 1
  | .held _ => 1
def uptoBulkAll {H : Type} : List (DataW H) → Nat
  | [] => 0
  | d :: r => uptoBulk d + uptoBulkAll r
def uptoBulkEntries {H : Type} : List (Lit × DataW H) → Nat
  | [] => 0
  | x :: r => uptoBulkEntry x + uptoBulkEntries r
def uptoBulkEntry {H : Type} : Lit × DataW H → Nat
  | (.string bytes, d) => bytes.length + uptoBulk d + 1
  | (_, d) => uptoBulk d + 1
 end
def uptoSmall : (H : Type) → List (DataW H) → Bool := fun _ ds => decide (uptoBulkAll ds ≤ 1048576)
def OpenSpec.upto (s : _root_.Go.ChangeSpec) : _root_.Go.OpenSpec := { _root_.Go.OpenSpec.ofChange s with cond := some uptoSmall }

/-- 'flonglaw11.MdocLists', WHERE WHAT IT READS IS OF BULK AT MOST 1048576: true; the input reads as it did. -/
def mdocListsUptoRow : OpenClaim := { program := "ytkjgkhgklkdbjaagreatdoor", sum := "2a47dd9e5b44a07bd1e972e540b249b831fb6904ec7c2a1c88979850c8d453a1", func := "flong/flonglaw11.MdocLists", spec := "mdocLists", inPlace := ["internal/bytealg.IndexByteString", "internal/bytealg.IndexString", "internal/abi.NoEscape", "internal/bytealg.MakeNoZero"], unfollowed := true, recurses := true, named := ["internal/bytealg.MaxLen", "flong/escape.names", "flong/escape.fonts", "flong/styles.gap", "flong/cells.blank", "unicode/utf8.first", "unicode/utf8.acceptRanges", "internal/strconv.uint64pow10", "math/bits.deBruijn32tab", "math/bits.deBruijn64tab"], apart := false, laid := [("math/bits.deBruijn32tab", laid_math_bits_deBruijn32tab), ("math/bits.deBruijn64tab", laid_math_bits_deBruijn64tab), ("internal/strconv.uint64pow10", laid_internal_strconv_uint64pow10), ("unicode/utf8.acceptRanges", laid_unicode_utf8_acceptRanges), ("flong/cells.blank", laid_flong_cells_blank), ("flong/escape.names", laid_flong_escape_names), ("flong/escape.fonts", laid_flong_escape_fonts), ("flong/styles.gap", laid_flong_styles_gap), ("unicode/utf8.first", laid_unicode_utf8_first)], narrowed := true }
def MdocListsUptoSaid : Prop := mdocListsUptoRow.holds Tryz.pinned (OpenSpec.upto mdocListsSpec)

/-- 'flonglaw11.MdocNames', WHERE WHAT IT READS IS OF BULK AT MOST 1048576: true; the input reads as it did. -/
def mdocNamesUptoRow : OpenClaim := { program := "ytkjgkhgklkdbjaagreatdoor", sum := "2a47dd9e5b44a07bd1e972e540b249b831fb6904ec7c2a1c88979850c8d453a1", func := "flong/flonglaw11.MdocNames", spec := "mdocNames", inPlace := ["internal/bytealg.IndexByteString", "internal/bytealg.IndexString", "internal/abi.NoEscape", "internal/bytealg.MakeNoZero"], unfollowed := true, recurses := true, named := ["internal/bytealg.MaxLen", "flong/escape.names", "flong/escape.fonts", "flong/styles.gap", "flong/cells.blank", "unicode/utf8.first", "unicode/utf8.acceptRanges", "internal/strconv.uint64pow10", "math/bits.deBruijn32tab", "math/bits.deBruijn64tab"], apart := false, laid := [("math/bits.deBruijn32tab", laid_math_bits_deBruijn32tab), ("math/bits.deBruijn64tab", laid_math_bits_deBruijn64tab), ("internal/strconv.uint64pow10", laid_internal_strconv_uint64pow10), ("unicode/utf8.acceptRanges", laid_unicode_utf8_acceptRanges), ("flong/cells.blank", laid_flong_cells_blank), ("flong/escape.names", laid_flong_escape_names), ("flong/escape.fonts", laid_flong_escape_fonts), ("flong/styles.gap", laid_flong_styles_gap), ("unicode/utf8.first", laid_unicode_utf8_first)], narrowed := true }
def MdocNamesUptoSaid : Prop := mdocNamesUptoRow.holds Tryz.pinned (OpenSpec.upto mdocNamesSpec)

/-- 'flonglaw10.ManTexts', WHERE WHAT IT READS IS OF BULK AT MOST 1048576: true; the input reads as it did. -/
def manTextsUptoRow : OpenClaim := { program := "ytkjgkhgklkdbjaagreatdoor", sum := "2a47dd9e5b44a07bd1e972e540b249b831fb6904ec7c2a1c88979850c8d453a1", func := "flong/flonglaw10.ManTexts", spec := "manTexts", inPlace := ["internal/bytealg.IndexByteString", "internal/bytealg.IndexString", "internal/bytealg.CountString", "internal/abi.NoEscape", "internal/bytealg.MakeNoZero"], unfollowed := true, recurses := true, named := ["unicode/utf8.first", "unicode/utf8.acceptRanges", "internal/bytealg.MaxLen", "flong/cells.blank", "flong/escape.names", "flong/escape.fonts", "flong/styles.gap"], apart := false, laid := [("unicode/utf8.acceptRanges", laid_unicode_utf8_acceptRanges), ("flong/cells.blank", laid_flong_cells_blank), ("flong/escape.names", laid_flong_escape_names), ("flong/escape.fonts", laid_flong_escape_fonts), ("flong/styles.gap", laid_flong_styles_gap), ("unicode/utf8.first", laid_unicode_utf8_first)], narrowed := true }
def ManTextsUptoSaid : Prop := manTextsUptoRow.holds Tryz.pinned (OpenSpec.upto manTextsSpec)

/-- 'flonglaw10.ManWrong', WHERE WHAT IT READS IS OF BULK AT MOST 1048576: true; the input reads as it did. -/
def manWrongUptoRow : OpenClaim := { program := "ytkjgkhgklkdbjaagreatdoor", sum := "2a47dd9e5b44a07bd1e972e540b249b831fb6904ec7c2a1c88979850c8d453a1", func := "flong/flonglaw10.ManWrong", spec := "manWrong", inPlace := ["internal/bytealg.IndexByteString", "internal/bytealg.IndexString", "internal/bytealg.CountString", "internal/abi.NoEscape", "internal/bytealg.MakeNoZero"], unfollowed := true, recurses := true, named := ["unicode/utf8.first", "unicode/utf8.acceptRanges", "internal/bytealg.MaxLen", "flong/cells.blank", "flong/escape.names", "flong/escape.fonts", "flong/styles.gap"], apart := false, laid := [("unicode/utf8.acceptRanges", laid_unicode_utf8_acceptRanges), ("flong/cells.blank", laid_flong_cells_blank), ("flong/escape.names", laid_flong_escape_names), ("flong/escape.fonts", laid_flong_escape_fonts), ("flong/styles.gap", laid_flong_styles_gap), ("unicode/utf8.first", laid_unicode_utf8_first)], narrowed := true }
def ManWrongUptoSaid : Prop := manWrongUptoRow.holds Tryz.pinned (OpenSpec.upto manWrongSpec)

/-- 'flonglaw10.ManHeads', WHERE WHAT IT READS IS OF BULK AT MOST 1048576: true; the input reads as it did. -/
def manHeadsUptoRow : OpenClaim := { program := "ytkjgkhgklkdbjaagreatdoor", sum := "2a47dd9e5b44a07bd1e972e540b249b831fb6904ec7c2a1c88979850c8d453a1", func := "flong/flonglaw10.ManHeads", spec := "manHeads", inPlace := ["internal/bytealg.IndexByteString", "internal/bytealg.IndexString", "internal/bytealg.CountString", "internal/abi.NoEscape", "internal/bytealg.MakeNoZero"], unfollowed := true, recurses := true, named := ["unicode/utf8.first", "unicode/utf8.acceptRanges", "internal/bytealg.MaxLen", "flong/cells.blank", "flong/escape.names", "flong/escape.fonts", "flong/styles.gap"], apart := false, laid := [("unicode/utf8.acceptRanges", laid_unicode_utf8_acceptRanges), ("flong/cells.blank", laid_flong_cells_blank), ("flong/escape.names", laid_flong_escape_names), ("flong/escape.fonts", laid_flong_escape_fonts), ("flong/styles.gap", laid_flong_styles_gap), ("unicode/utf8.first", laid_unicode_utf8_first)], narrowed := true }
def ManHeadsUptoSaid : Prop := manHeadsUptoRow.holds Tryz.pinned (OpenSpec.upto manHeadsSpec)

/-- 'flonglaw10.ManVerbs', WHERE WHAT IT READS IS OF BULK AT MOST 1048576: true; the input reads as it did. -/
def manVerbsUptoRow : OpenClaim := { program := "ytkjgkhgklkdbjaagreatdoor", sum := "2a47dd9e5b44a07bd1e972e540b249b831fb6904ec7c2a1c88979850c8d453a1", func := "flong/flonglaw10.ManVerbs", spec := "manVerbs", inPlace := ["internal/bytealg.IndexByteString", "internal/bytealg.IndexString", "internal/bytealg.CountString", "internal/abi.NoEscape", "internal/bytealg.MakeNoZero"], unfollowed := true, recurses := true, named := ["unicode/utf8.first", "unicode/utf8.acceptRanges", "internal/bytealg.MaxLen", "flong/cells.blank", "flong/escape.names", "flong/escape.fonts", "flong/styles.gap"], apart := false, laid := [("unicode/utf8.acceptRanges", laid_unicode_utf8_acceptRanges), ("flong/cells.blank", laid_flong_cells_blank), ("flong/escape.names", laid_flong_escape_names), ("flong/escape.fonts", laid_flong_escape_fonts), ("flong/styles.gap", laid_flong_styles_gap), ("unicode/utf8.first", laid_unicode_utf8_first)], narrowed := true }
def ManVerbsUptoSaid : Prop := manVerbsUptoRow.holds Tryz.pinned (OpenSpec.upto manVerbsSpec)

/-- 'flonglaw10.ManRows', WHERE WHAT IT READS IS OF BULK AT MOST 1048576: true; the input reads as it did. -/
def manRowsUptoRow : OpenClaim := { program := "ytkjgkhgklkdbjaagreatdoor", sum := "2a47dd9e5b44a07bd1e972e540b249b831fb6904ec7c2a1c88979850c8d453a1", func := "flong/flonglaw10.ManRows", spec := "manRows", inPlace := ["internal/bytealg.IndexByteString", "internal/bytealg.IndexString", "internal/bytealg.CountString", "internal/abi.NoEscape", "internal/bytealg.MakeNoZero"], unfollowed := true, recurses := true, named := ["unicode/utf8.first", "unicode/utf8.acceptRanges", "internal/bytealg.MaxLen", "flong/cells.blank", "flong/escape.names", "flong/escape.fonts", "flong/styles.gap"], apart := false, laid := [("unicode/utf8.acceptRanges", laid_unicode_utf8_acceptRanges), ("flong/cells.blank", laid_flong_cells_blank), ("flong/escape.names", laid_flong_escape_names), ("flong/escape.fonts", laid_flong_escape_fonts), ("flong/styles.gap", laid_flong_styles_gap), ("unicode/utf8.first", laid_unicode_utf8_first)], narrowed := true }
def ManRowsUptoSaid : Prop := manRowsUptoRow.holds Tryz.pinned (OpenSpec.upto manRowsSpec)

/-- 'flonglaw11.MdocRows', WHERE WHAT IT READS IS OF BULK AT MOST 1048576: true; the input reads as it did. -/
def mdocRowsUptoRow : OpenClaim := { program := "ytkjgkhgklkdbjaagreatdoor", sum := "2a47dd9e5b44a07bd1e972e540b249b831fb6904ec7c2a1c88979850c8d453a1", func := "flong/flonglaw11.MdocRows", spec := "mdocRows", inPlace := ["internal/bytealg.IndexByteString", "internal/bytealg.IndexString", "internal/abi.NoEscape", "internal/bytealg.MakeNoZero", "internal/bytealg.CountString"], unfollowed := true, recurses := true, named := ["internal/bytealg.MaxLen", "flong/escape.names", "flong/escape.fonts", "flong/styles.gap", "flong/cells.blank", "unicode/utf8.first", "unicode/utf8.acceptRanges", "internal/strconv.uint64pow10", "math/bits.deBruijn32tab", "math/bits.deBruijn64tab"], apart := false, laid := [("math/bits.deBruijn32tab", laid_math_bits_deBruijn32tab), ("math/bits.deBruijn64tab", laid_math_bits_deBruijn64tab), ("internal/strconv.uint64pow10", laid_internal_strconv_uint64pow10), ("unicode/utf8.acceptRanges", laid_unicode_utf8_acceptRanges), ("flong/cells.blank", laid_flong_cells_blank), ("flong/escape.names", laid_flong_escape_names), ("flong/escape.fonts", laid_flong_escape_fonts), ("flong/styles.gap", laid_flong_styles_gap), ("unicode/utf8.first", laid_unicode_utf8_first)], narrowed := true }
def MdocRowsUptoSaid : Prop := mdocRowsUptoRow.holds Tryz.pinned (OpenSpec.upto mdocRowsSpec)

end Rows
end Go.Proofs.YtkjgkhgklkdbjaaGreatDoor
