/- Of what the law StylesLines needs: part 14. -/
import Derived.Test.YtkbknlcdinkokaaDoorBSL9
import Derived.Test.YtkbknlcdinkokaaDoorBSL13
set_option linter.unusedSimpArgs false
set_option linter.unusedVariables false
section
namespace Go.Proofs.YtkbknlcdinkokaaDoor.Ev
open Go.ChangeShapes Go.WideShapes Go.ChangeAt Go.RowKit
def Face.pvs (f : Face) : List PV := [.int .u8 f.now, .int .u8 f.was]
section
variable {H : Type} {enc : TypeId × Value → H} {w : World} {B : DataW H → Nat}
theorem cellsTok : Tryd.prog.cellsOf 52 = 2 := by kernel_rfl
theorem bytesTok : Tryd.prog.bytesOf 52 = 16 := by kernel_rfl
theorem cellsFace : Tryd.prog.cellsOf 23 = 2 := by kernel_rfl
theorem readsTok (hB : BulkOk B) {k : Nat} : Reads enc Tryd.prog w B k 52 Tok.pv (fun _ => True) (fun _ => 1) := by
  have h := reads_struct hB (k := k) (N := 2) Tryd.underlying52 cellsTok (fields_cons (enc := enc) (w := w) rfl cells3 (reads_int hB Tryd.underlying3) (fields_cons rfl cells21 (reads_int hB Tryd.underlying21) fields_nil))
  exact (h.le (Nat.le_succ k)).to fun a h => ⟨⟨a.1, a.2.1⟩, rfl, trivial, by omega⟩
theorem readsToks (hB : BulkOk B) {k : Nat} : Reads enc Tryd.prog w B k 24 (fun l : List Tok => .sl (l.map Tok.pv)) (fun _ => True) (fun l => l.length + 1) := by
  have h := reads_slice hB Tryd.underlying24 cellsTok bytesTok (by decide) (readsTok (enc := enc) (w := w) (k := k) hB) (fun a => rfl)
  exact (h.le (Nat.le_succ k)).to fun a h => ⟨a, rfl, trivial, by rw [sumBy_one]; omega⟩
theorem readsFace (hB : BulkOk B) {k : Nat} : Reads enc Tryd.prog w B k 23 (fun f => .agg (Face.pvs f)) (fun _ => True) (fun _ => 1) := by
  have h := reads_struct hB (k := k) (N := 2) Tryd.underlying23 cellsFace (fields_cons (enc := enc) (w := w) rfl cells5 (reads_int hB Tryd.underlying5) (fields_cons rfl cells5 (reads_int hB Tryd.underlying5) fields_nil))
  exact (h.le (Nat.le_succ k)).to fun a h => ⟨⟨a.1, a.2.1⟩, rfl, trivial, by omega⟩
end
end Go.Proofs.YtkbknlcdinkokaaDoor.Ev
end
