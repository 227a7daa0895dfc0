/- Of what the law StylesJoins needs: part 14. -/
import Derived.Test.YtkbknlcdinkokaaDoorBSJ9
import Derived.Test.YtkbknlcdinkokaaDoorBSJ13
set_option linter.unusedSimpArgs false
set_option linter.unusedVariables false
section
namespace Go.Proofs.YtkbknlcdinkokaaDoor.Ev
open Go.ChangeShapes Go.WideShapes Go.ChangeAt Go.RowKit
section
variable {H : Type} {enc : TypeId × Value → H} {w : World} {B : DataW H → Nat}
theorem readsGls (hB : BulkOk B) {k : Nat} : Reads enc Tryd.prog w B k 26 gl GRow (fun l => l.length + 1) := reads26 hB
end
end Go.Proofs.YtkbknlcdinkokaaDoor.Ev
end
