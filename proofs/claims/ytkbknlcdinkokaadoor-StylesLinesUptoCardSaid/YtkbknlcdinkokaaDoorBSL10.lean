/- Of what the law StylesLines needs: part 10. -/
import Derived.Lib.MapLaws
import Derived.Lib.OthersKept
import Derived.LoopN
import Derived.Shelf.LaysM
import Derived.Shelf.Strings.Search1
import Derived.Shelf.Strings.Search2
import Derived.Shelf.Strings.Search3
import Derived.Shelf.Strings.Shaped
import Derived.WalkMore
import Derived.Test.YtkbknlcdinkokaaDoorBSL7
set_option linter.unusedSimpArgs false
set_option linter.unusedVariables false
section
namespace Go.Proofs.YtkbknlcdinkokaaDoor.Ev
open Go
theorem wr2 : IntKind.i64.wrap 2 = 2 := by decide
end Go.Proofs.YtkbknlcdinkokaaDoor.Ev
end
