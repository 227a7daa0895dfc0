/- Of what the law StylesBack needs: part 15. -/
import Derived.ArgAppend
import Derived.Below
import Derived.BigQuiet
import Derived.Deep.AppendLies
import Derived.Deep.CutBlock
import Derived.Deep.DeepCutAuto
import Derived.Deep.Draws
import Derived.Deep.LoopGhost
import Derived.Deep.OwnRows
import Derived.Deep.QuietTactic
import Derived.Deep.RegionHeld3
import Derived.KernelRfl
import Derived.Laws.BitsLemmas
import Derived.Laws.BytesArg
import Derived.Laws.Cover4
import Derived.Laws.IdiomCopy
import Derived.Laws.MakeOwn
import Derived.Laws.OwnMore
import Derived.Laws.Rows
import Derived.Laws.Slices
import Derived.Laws.StructEq
import Derived.Lib.AppendStr
import Derived.Lib.ConvBytes
import Derived.Maps.AppendAt
import Derived.Maps.Own
import Derived.Maps.OwnOps
import Derived.Maps.OwnSet
import Derived.OrdersHeld
import Derived.Outline
import Derived.OwnWalk
import Derived.RowKit
import Derived.RowKit3
import Derived.StringKeys
import Derived.Tactics
import Derived.Test.YtdogljnddalgdaaDoorProg
import Derived.WalkKit
import Derived.WalkMore
import Derived.WideLaws
import Derived.Test.YtdogljnddalgdaaDoorBBack5
import Derived.Test.YtdogljnddalgdaaDoorBBack14
namespace Go.Proofs.YtdogljnddalgdaaDoor
end Go.Proofs.YtdogljnddalgdaaDoor
namespace Go.Proofs.YtdogljnddalgdaaDoorW.PrintLast
end Go.Proofs.YtdogljnddalgdaaDoorW.PrintLast
namespace Go.Proofs.YtdogljnddalgdaaDoorW.PrintMore
end Go.Proofs.YtdogljnddalgdaaDoorW.PrintMore
namespace Go.Proofs.YtdogljnddalgdaaDoorW.PrintWords
end Go.Proofs.YtdogljnddalgdaaDoorW.PrintWords
section
namespace Go.Proofs.YtdogljnddalgdaaDoor.A6
open Go Go.RowKit Go.Proofs.YtdogljnddalgdaaDoor Go.Proofs.YtdogljnddalgdaaDoorW.PrintWords Go.Proofs.YtdogljnddalgdaaDoorW.PrintLast Go.Proofs.YtdogljnddalgdaaDoorW.PrintMore
theorem known6_is : flonglaw06_known.f 40 = some true := by decide +kernel
theorem Ev_known6 : Ev (fun k => flonglaw06_known.f k) true := Ev.of flonglaw06_known.mono known6_is
theorem Ev_kn6 : Ev (fun k => (flonglaw06_known.f k).bind fun t => some t) true := Ev.bind Ev_known6 (Ev.now _)
theorem Ev_Turn4 (a b : Int) : Ev (fun k => styles_Turn.f k a b 4) (b, a) := by
  unfold styles_Turn.f
  exact Ev.pos rfl (Ev.now _)
theorem Ev_Turn (a b n : Int) (h0 : 0 ≤ n) (h4 : n < 4) : Ev (fun k => styles_Turn.f k a b n) (n, a) := by
  have e : n % 256 = n := Int.emod_eq_of_lt h0 (by omega)
  unfold styles_Turn.f
  refine Ev.neg (by omega) ?_
  have j : ∀ b' : Bool, (b' = true → True) → (b' = false → n = 2 ∨ n = 3) → Ev (fun k => styles_Turn.j0 k n n b' a b) (n, a) := by
    intro b' _ hb
    refine Ev.succ ?_
    simp only [styles_Turn.j0, e]
    cases b' with
    | true => exact Ev.pos rfl (Ev.now _)
    | false =>
      refine Ev.neg (by simp) ?_
      rcases hb rfl with h | h
      · exact Ev.pos h (Ev.now _)
      · exact Ev.neg (by omega) (Ev.pos h (Ev.now _))
  by_cases hz : n = 0
  · refine Ev.pos hz (j _ (fun _ => trivial) ?_)
    intro h
    simp [hz] at h
  · refine Ev.neg hz (j _ (fun _ => trivial) ?_)
    intro h
    have : ¬ n = 1 := by simpa using h
    omega
theorem Ev_StylesBack (a b n : Int) (hn : 0 ≤ n ∧ n ≤ 255) : Ev (fun k => flonglaw06_StylesBack.f k a b n) true := by
  unfold flonglaw06_StylesBack.f
  have e : wrap32 (Int.tmod n 4) = n % 4 := by
    rw [Int.tmod_eq_emod_of_nonneg hn.1]
    exact w32 (by omega) (by omega)
  rw [e]
  have em : n % 4 % 256 = n % 4 := Int.emod_eq_of_lt (by omega) (by omega)
  rw [em]
  refine Ev.bind (Ev_Turn a b _ (by omega) (by omega)) (Ev.bind (Ev_Turn4 _ _) (Ev.bind (Ev_Turn4 _ _) (Ev.bind (Ev_Turn4 _ _) ?_)))
  exact Ev.pos (by simp) (Ev.pos rfl (Ev.pos rfl (Ev.pos rfl Ev_kn6)))
end Go.Proofs.YtdogljnddalgdaaDoor.A6
end
