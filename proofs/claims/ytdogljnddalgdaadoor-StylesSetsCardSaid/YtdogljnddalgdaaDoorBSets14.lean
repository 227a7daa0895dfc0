/- Of what the law StylesSets needs: part 14. -/
import Derived.Carry
import Derived.ChangeOld
import Derived.ChangeReads
import Derived.Deep.SlicePairs
import Derived.Lib.SmallJoins
import Derived.OpenShut
import Derived.Test.YtdogljnddalgdaaDoorBSets7
namespace Go.Proofs.YtdogljnddalgdaaDoor
end Go.Proofs.YtdogljnddalgdaaDoor
namespace Go.Proofs.YtdogljnddalgdaaDoorW.PrintLast
end Go.Proofs.YtdogljnddalgdaaDoorW.PrintLast
namespace Go.Proofs.YtdogljnddalgdaaDoorW.PrintMore
end Go.Proofs.YtdogljnddalgdaaDoorW.PrintMore
namespace Go.Proofs.YtdogljnddalgdaaDoorW.PrintWords
end Go.Proofs.YtdogljnddalgdaaDoorW.PrintWords
section
namespace Go.Proofs.YtdogljnddalgdaaDoor.A6
open Go Go.RowKit Go.ChangeShapes Go.WideShapes Go.Proofs.YtdogljnddalgdaaDoor Go.Proofs.YtdogljnddalgdaaDoorW.PrintWords Go.Proofs.YtdogljnddalgdaaDoorW.PrintLast Go.Proofs.YtdogljnddalgdaaDoorW.PrintMore
theorem trod_lt' {H : Type} {enc : TypeId × Value → H} {P : Program} {w : World} {base : Nat} {spare : Nat → Bool} {held : Bool} {t : TypeId} {v : Value} {d : DataW H} {p : List MemPlace} (h : DataW.Trod enc P w base spare held t v d p) : ∀ x ∈ p, x.block < w.heap.size := by
  obtain ⟨n, hn⟩ := h
  exact DataW.trod_lt n _ _ _ hn
def intOf : Value → Int
  | .int _ n => n
  | _ => 0
theorem int_trod {H : Type} {enc : TypeId × Value → H} {P : Program} {w : World} {base : Nat} {spare : Nat → Bool} {held : Bool} {n : Nat} {t : TypeId} {k : IntKind} {v : Value} {x : DataW H × List MemPlace} (ht : P.underlying t = some (.int k)) (h : DataW.trod enc P w base spare held n t [v] = some x) :
    v = .int k (intOf v) ∧ (Lit.int k (intOf v)).wf = true := by
  obtain ⟨z, e, rfl, wz⟩ := DataW.trod_int ht h
  obtain rfl : v = .int k z := by simpa using e
  exact ⟨rfl, wz⟩
set_option maxRecDepth 100000 in
theorem open_tokens {H : Type} {enc : TypeId × Value → H} {W : World} {base : Nat} {b0 : Nat} {v : Value} {d : DataW H} {p : List MemPlace} (hval : Value.okWide Tryd.prog W .any b0 23 v) (h : DataW.Trod enc Tryd.prog W base (fun _ => true) true 23 v d p) :
    ∃ (A : Option Addr) (c : Nat) (l : List S38), v = .slice A l.length c ∧ l.length ≤ c ∧ Kd.C k38 W A l.length l := by
  obtain ⟨fuel, hf⟩ := h
  have hv1 : v.cells.toList = [v] := by
    obtain ⟨A, n, c, e⟩ : ∃ A n c, v = .slice A n c := okWide_slice Tryd.underlying23 hval
    rw [e]; rfl
  rw [hv1] at hf
  rcases Deep.open_slice_pairs Tryd.underlying23 Tryd.underlying38 (by kernel_rfl) rfl rfl (by kernel_rfl) (by kernel_rfl) hf with ⟨e, _⟩ | ⟨a, len, cap, m, n, V0, V1, D0, D1, P0, P1, e, hb, hl, hm, hmm, _, hx⟩
  · obtain rfl : v = .slice none 0 0 := by simpa using e
    exact ⟨none, 0, [], rfl, Nat.le_refl _, rfl, by decide, fun h => absurd h (by simp)⟩
  · obtain rfl : v = .slice (some a) len cap := by simpa using e
    have hmc : m = cap := by simpa using hmm
    have hL : ((List.range len).map fun i => (⟨intOf (V0 i), intOf (V1 i)⟩ : S38)).length = len := by simp
    refine ⟨some a, cap, (List.range len).map fun i => ⟨intOf (V0 i), intOf (V1 i)⟩, by rw [hL], by rw [hL]; exact hl, rfl, ?_, ?_⟩
    · rw [hL]; have : maxLen ≤ 9223372036854775807 := by decide
      omega
    intro _
    refine ⟨a, rfl, fun j q hq => ?_⟩
    rw [List.getElem?_map] at hq
    obtain ⟨i, hi, rfl⟩ := Option.map_eq_some_iff.mp hq
    obtain ⟨hj, rfl⟩ := List.getElem?_eq_some_iff.1 hi
    rw [List.length_range] at hj
    simp only [List.getElem_range]
    obtain ⟨h0, h1, g0, g1⟩ := hx j (by omega)
    have i0 := int_trod Tryd.underlying3 g0
    have i1 := int_trod Tryd.underlying21 g1
    refine ⟨_, rfl, k38_mk W ⟨intOf (V0 j), intOf (V1 j)⟩, fun i u hu => ?_⟩
    match i, hu with
    | 0, hu =>
      obtain rfl : Value.int .i64 (intOf (V0 j)) = u := by simpa using hu
      rw [← i0.1]; exact h0
    | 1, hu =>
      obtain rfl : Value.int .i32 (intOf (V1 j)) = u := by simpa using hu
      rw [← i1.1]; exact h1
end Go.Proofs.YtdogljnddalgdaaDoor.A6
end
