/- Of what the law MdocNames needs: part 8. -/
import Derived.ChangeArms
import Derived.DataReads
import Derived.WideShapes
import GoSem.ClaimJoined
import Derived.Test.YtkjgkhgklkdbjaaGreatDoorBMN7
set_option linter.unusedSimpArgs false
set_option linter.unusedVariables false
section
namespace Go.Proofs.YtkjgkhgklkdbjaaGreatDoor.Ev
open Go
def limOf (w : World) (b : Nat) : Nat := match w.heap[b]? with
  | some (.cells c _ _) => c.size
  | _ => 0
theorem lt_limOf {w : World} {b off : Nat} {s} {v : Value} (h : w.cell? ⟨b, off, s⟩ = some v) : off < limOf w b := by
  unfold World.cell? at h
  unfold limOf
  split at h
  · rename_i c T fz hc
    simp only at hc
    rw [hc]
    split at h
    · simp at h
    · exact (Array.getElem?_eq_some_iff.1 h).1
  · simp at h
section
variable {H : Type} {enc : TypeId × Value → H} {P : Program} {w : World}
def LRep (w : World) (ls : List PV) (cs : List Value) : Prop := cs.length = ls.length ∧ ∀ (j : Nat) (p : PV) (v : Value), ls[j]? = some p → cs[j]? = some v → p.isLeaf = true ∧ Rep w (limOf w) p v
theorem LRep.one {p : PV} {v : Value} (hl : p.isLeaf = true) (h : Rep w (limOf w) p v) : LRep w [p] [v] := ⟨rfl, fun j q u hq hu => by
  cases j with
  | zero => simp at hq hu; subst hq; subst hu; exact ⟨hl, h⟩
  | succ j => simp at hq⟩
structure BulkOk (B : DataW H → Nat) : Prop where
  one : ∀ d, 1 ≤ B d
  str : ∀ bs, bs.length + 1 ≤ B (.lit (.string bs))
  slice : ∀ es sp, sumBy B es + 1 ≤ B (.slice es sp)
  agg : ∀ ps, sumBy B ps + 1 ≤ B (.agg ps)
variable {B : DataW H → Nat}
def Reads (enc : TypeId × Value → H) (P : Program) (w : World) (B : DataW H → Nat) (k : Nat) (t : TypeId) {α : Type} (f : α → PV) (Q : α → Prop) (μ : α → Nat) : Prop :=
  ∀ fuel, fuel ≤ k → ∀ cs x, DataW.trod enc P w 0 (fun _ => true) true fuel t cs = some x → (x.1.weights P t).all (· ≤ reachBytes) = true → ∃ a, Q a ∧ LRep w (f a).leaves cs ∧ μ a ≤ B x.1
theorem reads_str (hB : BulkOk B) {k : Nat} {t : TypeId} (ht : P.underlying t = some .string) : Reads enc P w B k t PV.str (fun s => s.size ≤ reachBytes) (fun s => s.size + 1) := fun fuel _ cs x hx hw => by
  obtain ⟨s, rfl, rfl, hs⟩ := DataW.trod_string ht hx
  refine ⟨s, ?_, .one rfl .str, ?_⟩
  · simpa [DataW.weights] using hw
  · have := hB.str s.data.toList
    simpa using this
end
end Go.Proofs.YtkjgkhgklkdbjaaGreatDoor.Ev
end
section
namespace Go.Proofs.YtkjgkhgklkdbjaaGreatDoor.Ev
open Go
section
variable {H : Type} {enc : TypeId × Value → H} {w : World}
theorem cells57 : Tryz.prog.cellsOf 57 = 2 := by kernel_rfl
theorem cells5 : Tryz.prog.cellsOf 5 = 1 := by kernel_rfl
theorem cells21 : Tryz.prog.cellsOf 21 = 1 := by kernel_rfl
variable {B : DataW H → Nat}
end
end Go.Proofs.YtkjgkhgklkdbjaaGreatDoor.Ev
end
