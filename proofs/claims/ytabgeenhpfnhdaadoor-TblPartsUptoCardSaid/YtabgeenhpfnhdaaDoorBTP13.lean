/- Of what the law TblParts needs: part 13. -/
import Derived.Shelf.Strings.SlTrimAscii
import Derived.Test.YtabgeenhpfnhdaaDoorBTP12
set_option linter.unusedSimpArgs false
set_option linter.unusedVariables false
section
namespace Go.Proofs.YtabgeenhpfnhdaaDoor.Ev
open Go
def trimG (l : List Glyph) : List Glyph := (l.reverse.dropWhile Glyph.blank).reverse
def ends (l : List Glyph) : Nat := (trimG l).length
end Go.Proofs.YtabgeenhpfnhdaaDoor.Ev
end
