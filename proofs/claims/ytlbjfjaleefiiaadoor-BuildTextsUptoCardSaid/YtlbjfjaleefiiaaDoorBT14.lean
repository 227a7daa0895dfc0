/- Of what the law BuildTexts needs: part 14. -/
import Derived.Test.YtlbjfjaleefiiaaDoorBT12
import Derived.Test.YtlbjfjaleefiiaaDoorBT13
set_option linter.unusedSimpArgs false
set_option linter.unusedVariables false
section
namespace Go.Proofs.YtlbjfjaleefiiaaDoor.Ev
open Go.ChangeShapes Go.WideShapes Go.ChangeAt Go.RowKit
section
variable {H : Type} {enc : TypeId × Value → H} {w : World} {B : DataW H → Nat}
theorem bytesBool8 : Tryd.prog.bytesOf 4 = 1 := by kernel_rfl
theorem readsBools (hB : BulkOk B) {k : Nat} : Reads enc Tryd.prog w B k 23 (fun l : List Bool => .sl (l.map PV.bool)) (fun _ => True) (fun l => l.length + 1) := by
  have h := reads_slice hB Tryd.underlying23 cells4 bytesBool8 (by decide) (reads_bool (enc := enc) (w := w) (k := k) hB Tryd.underlying4) (fun a => rfl)
  exact (h.le (Nat.le_succ k)).to fun a h => ⟨a, rfl, trivial, by rw [sumBy_one]; omega⟩
theorem readsGlss (hB : BulkOk B) {k : Nat} : Reads enc Tryd.prog w B k 22 (fun l : List (List Glyph) => .sl (l.map gl)) GRows (fun l => rowsLong l + 1) := reads22 hB
end
end Go.Proofs.YtlbjfjaleefiiaaDoor.Ev
end
