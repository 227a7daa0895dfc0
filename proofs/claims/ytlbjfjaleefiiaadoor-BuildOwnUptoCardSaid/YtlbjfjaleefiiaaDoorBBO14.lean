/- Of what the law BuildOwn needs: part 14. -/
import Derived.Test.YtlbjfjaleefiiaaDoorBBO12
import Derived.Test.YtlbjfjaleefiiaaDoorBBO13
set_option linter.unusedSimpArgs false
set_option linter.unusedVariables false
section
namespace Go.Proofs.YtlbjfjaleefiiaaDoor.Ev
open Go.ChangeShapes Go.WideShapes Go.ChangeAt Go.RowKit
section
variable {H : Type} {enc : TypeId × Value → H} {w : World} {B : DataW H → Nat}
theorem cellsDo : Tryd.prog.cellsOf 51 = 15 := by kernel_rfl
theorem bytesDo : Tryd.prog.bytesOf 51 = 232 := by kernel_rfl
theorem bytesStr8 : Tryd.prog.bytesOf 9 = 16 := by kernel_rfl
theorem cellsInt8 : Tryd.prog.cellsOf 3 = 1 := by kernel_rfl
theorem bytesInt8 : Tryd.prog.bytesOf 3 = 8 := by kernel_rfl
theorem cellsInts8 : Tryd.prog.cellsOf 49 = 1 := by kernel_rfl
theorem cellsStrs8 : Tryd.prog.cellsOf 43 = 1 := by kernel_rfl
theorem cellsStr8 : Tryd.prog.cellsOf 9 = 1 := by kernel_rfl
theorem strs_len (l : List ByteArray) : l.length ≤ sumBy (fun s : ByteArray => s.size + 1) l := by
  induction l with
  | nil => simp
  | cons x l ih => rw [sumBy, List.length_cons]; omega
theorem readsStrs8 (hB : BulkOk B) {k : Nat} : Reads enc Tryd.prog w B k 43 (fun l : List ByteArray => .sl (l.map PV.str)) (fun _ => True) (fun l => l.length + 1) := by
  have h := reads_slice hB Tryd.underlying43 cellsStr8 bytesStr8 (by decide) (reads_str (enc := enc) (w := w) (k := k) hB Tryd.underlying9) (fun a => rfl)
  exact (h.le (Nat.le_succ k)).to fun a h => ⟨a, rfl, trivial, by have := strs_len a; omega⟩
theorem readsInts8 (hB : BulkOk B) {k : Nat} : Reads enc Tryd.prog w B k 49 (fun l : List Int => .sl (l.map (PV.int .i64))) (fun _ => True) (fun l => l.length + 1) := by
  have h := reads_slice hB Tryd.underlying49 cellsInt8 bytesInt8 (by decide) (reads_int (enc := enc) (w := w) (k := k) hB Tryd.underlying3) (fun a => rfl)
  exact (h.le (Nat.le_succ k)).to fun a h => ⟨a, rfl, trivial, by rw [sumBy_one]; omega⟩
theorem readsDo (hB : BulkOk B) {k : Nat} : Reads enc Tryd.prog w B k 51 Do8.pv (fun d => d.x.Good) (fun d => d.long + d.s.length) := by
  have h := reads_struct hB (k := k) (N := 15) Tryd.underlying51 cellsDo (fields_cons (enc := enc) (w := w) rfl cells3 (reads_int hB Tryd.underlying3) (fields_cons rfl cellsStrs8 (readsStrs8 hB) (fields_cons rfl cells48 (reads48 hB) (fields_cons rfl cells3 (reads_int hB Tryd.underlying3) (fields_cons rfl cellsInts8 (readsInts8 hB) (fields_cons rfl cells26 (reads26 hB) fields_nil))))))
  exact (h.le (Nat.le_succ k)).to fun a h => by
    obtain ⟨h1, h2, h3, h4, h5, h6, _⟩ := h
    exact ⟨⟨a.1, a.2.1, a.2.2.1, a.2.2.2.1, a.2.2.2.2.1, a.2.2.2.2.2.1⟩, by unfold Do8.pv Do8.cells; simp only; rw [Node.pv_eq]; rfl, h3, by simp only [Do8.long]; omega⟩
theorem do8_pv_size (d : Do8) : d.pv.leaves.length = 15 := rfl
theorem readsDos (hB : BulkOk B) {k : Nat} : Reads enc Tryd.prog w B k 38 (fun l : List Do8 => .sl (l.map Do8.pv)) (fun l => ∀ d ∈ l, d.x.Good) (fun l => sumBy (fun d => d.long + d.s.length) l + 1) := by
  have h := reads_slice hB Tryd.underlying38 cellsDo bytesDo (by decide) (readsDo (enc := enc) (w := w) (k := k) hB) do8_pv_size
  exact (h.le (Nat.le_succ k)).to fun a h => ⟨a, rfl, h.1, Nat.le_refl _⟩
theorem dos_bound {l : List Do8} {n : Nat} (h : sumBy (fun d : Do8 => d.long + d.s.length) l ≤ n) : sumBy Do8.long l ≤ n ∧ ∀ d ∈ l, d.s.length ≤ n := by
  constructor
  · exact Nat.le_trans (sumBy_le (f := Do8.long) (g := fun d => d.long + d.s.length) l (fun d => by omega)) h
  · intro d hd
    have := sumBy_mem' (fun d : Do8 => d.long + d.s.length) hd
    omega
end
end Go.Proofs.YtlbjfjaleefiiaaDoor.Ev
end
section
namespace Go.Proofs.YtlbjfjaleefiiaaDoor.Ev
open Go.ChangeShapes Go.WideShapes Go.ChangeAt Go.RowKit
section
variable {H : Type} {enc : TypeId × Value → H} {w : World} {B : DataW H → Nat}
def nodePvs (x : Node) : List PV := [.int .i64 x.kind, .int .i64 x.line, .int .i64 x.n, gl x.text, .sl (x.kids.map Node.pv), .sl (x.rows.map gl), .str x.grid.cols, .sl (x.grid.rows.map TRow.pv), .bool x.grid.box, .bool x.grid.all]
theorem readsNodeP (hB : BulkOk B) {k : Nat} : Reads enc Tryd.prog w B k 48 (fun x : Node => .agg (nodePvs x)) Node.Good Node.long :=
  (reads48 (enc := enc) (w := w) (k := k) hB).to fun a h => ⟨a, by rw [Node.pv_eq a]; rfl, h, Nat.le_refl _⟩
end
end Go.Proofs.YtlbjfjaleefiiaaDoor.Ev
end
