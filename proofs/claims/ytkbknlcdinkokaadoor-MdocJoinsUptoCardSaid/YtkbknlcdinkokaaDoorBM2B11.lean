/- Of what the law MdocJoins needs: part 11. -/
import Derived.Test.YtkbknlcdinkokaaDoorBM2B9
import Derived.Test.YtkbknlcdinkokaaDoorBM2B10
set_option linter.unusedSimpArgs false
set_option linter.unusedVariables false
section
namespace Go.Proofs.YtkbknlcdinkokaaDoor.Ev
open Go.ChangeShapes Go.WideShapes Go.ChangeAt Go.RowKit
section
variable {H : Type} {enc : TypeId × Value → H} {w : World} {B : DataW H → Nat}
theorem cellsPc : Tryd.prog.cellsOf 41 = 3 := by kernel_rfl
theorem bytesPc : Tryd.prog.bytesOf 41 = 32 := by kernel_rfl
theorem readsPc (hB : BulkOk B) {k : Nat} : Reads enc Tryd.prog w B k 41 Pc.pv (fun _ => True) (fun p => p.text.length + 1) := by
  have h := reads_struct hB (k := k) (N := 3) Tryd.underlying41 cellsPc (fields_cons (enc := enc) (w := w) rfl cells26 (reads26 hB) (fields_cons rfl cells4 (reads_bool hB Tryd.underlying4) (fields_cons rfl cells4 (reads_bool hB Tryd.underlying4) fields_nil)))
  exact (h.le (Nat.le_succ k)).to fun a h => ⟨⟨a.1, a.2.1, a.2.2.1⟩, rfl, trivial, by simp only; omega⟩
theorem readsPcs (hB : BulkOk B) {k : Nat} : Reads enc Tryd.prog w B k 39 (fun l : List Pc => .sl (l.map Pc.pv)) (fun _ => True) (fun l => pcsLen l + 1) := by
  have h := reads_slice hB Tryd.underlying39 cellsPc bytesPc (by decide) (readsPc (enc := enc) (w := w) (k := k) hB) (fun a => rfl)
  exact (h.le (Nat.le_succ k)).to fun a h => ⟨a, rfl, trivial, by
    have : ∀ l : List Pc, pcsLen l = sumBy (fun p : Pc => p.text.length + 1) l := fun l => by
      induction l with
      | nil => rfl
      | cons p l ih => rw [sumBy, ← ih]; simp [pcsLen]
    rw [this]; exact Nat.le_refl _⟩
end
end Go.Proofs.YtkbknlcdinkokaaDoor.Ev
end
