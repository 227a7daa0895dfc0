import Derived.Test.YtdogljnddalgdaaDoorWWords
import Derived.Test.YtdogljnddalgdaaDoorWMore
import Derived.Lib.ConvBytes
/-! Laws of ours beside the words: a string's bytes as a row. -/
namespace Go.Proofs.YtdogljnddalgdaaDoor
open Go Go.RowKit Go.Proofs.YtdogljnddalgdaaDoorW.PrintWords Go.Proofs.YtdogljnddalgdaaDoorW.PrintLast Go.Proofs.YtdogljnddalgdaaDoorW.PrintMore
theorem bytesWorld_below (w : World) (e : TypeId) (s : ByteArray) : Below w.heap.size w (Lib.bytesWorld w e s) :=
  ⟨rfl, rfl, rfl, by rw [Lib.bytesWorld_size]; omega, fun i hi => Lib.bytesWorld_at_old w e s i hi⟩
theorem bytesOf_len (s : ByteArray) : (bytesOf s).length = s.size := by simp [bytesOf]
theorem bytesOf_get (s : ByteArray) (j : Nat) (h : j < s.size) : (bytesOf s).getD j 0 = ((s.data.toList.getD j 0).toNat : Int) := by
  have h2 : j < s.data.toList.length := by simpa using h
  simp [bytesOf, List.getD, Array.getElem?_eq_getElem (show j < s.data.size from h)]
section
variable {P : Program} {ops : Array Oper} {o : Oper} {rest : List Oper} {a : Act} {Q : Exit → Act → World → Prop}
theorem conv_step {W : World} (hg : o.guard = none) (src dst e : TypeId) (x : Operand) (hop : o.op = .convert src dst x) (hs : P.underlying src = some .string) (hd : P.underlying dst = some (.slice e)) (he : P.underlying e = some (.int .u8))
    (s : ByteArray) (hsz : s.size ≤ 9223372036854775807) (hx : a.eval x = .string s) (t : List Int) (ht : some (bytesOf s) = some t)
    (h : ∀ v w2, (∃ v0 : Value, v = v0 ∧ Kd.V (Kd.int .u8) e w2 W.heap.size (fun k => W.heap.size ≤ k) v0 t ∧ Below W.heap.size W w2) → wpList P ops Q rest (a.put o.dst v) w2) : wpList P ops Q (o :: rest) a W := by
  obtain rfl := Option.some.inj ht
  refine wpList_plain hg fun K hK => ?_
  have hr := Lib.run_convert_string_bytes (P := P) W src dst e s hs hd he
  unfold Oper.wp
  simp only [execOp, hop, hx, hr, Sem.run_bind, Sem.run_pure, Result.andThen]
  refine hK _ _ (h _ _ ⟨_, rfl, ?_, bytesWorld_below W e s⟩)
  have hl := bytesOf_len s
  rw [show (Value.slice (some ⟨W.heap.size, 0, none⟩) s.size (grownCap W s.size 0 e)) = .slice (some ⟨W.heap.size, 0, none⟩) (bytesOf s).length (grownCap W s.size 0 e) by rw [hl]]
  refine Kd.V_mk (by rw [hl]; exact grownCap_ge W s.size 0 e) ?_
  intro W' hW'
  refine Kd.C_of_reads (d := (0 : Int)) (h1 := fun _ => rfl) ⟨rfl, ?_, fun _ => ⟨_, rfl, fun j hj => ?_⟩⟩
  · rw [hl]; exact hsz
  · rw [hl] at hj
    rw [bytesOf_get s j hj]
    have hb : W'.heap[W.heap.size]? = (Lib.bytesWorld W e s).heap[W.heap.size]? := hW' _ (Nat.le_refl _) (by rw [Lib.bytesWorld_size]; omega)
    have hc := Lib.bytesWorld_cell W e s j hj
    rw [add_plain, ← hc]
    unfold World.cell?
    simp only [hb]
end
end Go.Proofs.YtdogljnddalgdaaDoor
