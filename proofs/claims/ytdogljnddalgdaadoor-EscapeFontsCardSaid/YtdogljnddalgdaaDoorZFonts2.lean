/- Of what the law EscapeFonts needs: part 2. -/
import Derived.Below
import Derived.Deep.Draws
import Derived.KernelRfl
import Derived.LaidMore
import Derived.Maps.Own
import Derived.Maps.OwnOps
import Derived.Maps.OwnSet
import Derived.OpenShut
import Derived.ProofKit
import Derived.SevenTiedAt
import Derived.Stop.Joined
import Derived.StringKeys
import Derived.Test.YtdogljnddalgdaaDoorCards
import Derived.Test.YtdogljnddalgdaaDoorProg
import Derived.Test.YtdogljnddalgdaaDoorRows
import Derived.Test.YtdogljnddalgdaaDoorTie
import Derived.Test.YtdogljnddalgdaaDoorZFonts1
section
namespace Go.Proofs.YtdogljnddalgdaaDoor
open Go.ChangeShapes Go.WideShapes Go.ChangeAt Go.WideMaps Go.WideElems Go.RowKit
theorem gNames : Tryd.prog.globalNamed "flong/escape.names" = some 0 := by kernel_rfl
theorem gFonts : Tryd.prog.globalNamed "flong/escape.fonts" = some 1 := by kernel_rfl
theorem tNames : (Tryd.prog.globals[0]?).map (·.type) = some 75 := by kernel_rfl
theorem tFonts : (Tryd.prog.globals[1]?).map (·.type) = some 75 := by kernel_rfl
set_option maxRecDepth 100000 in
theorem of_laid {W : World} (h : laidMetH Tryd.prog [("flong/escape.names", Rows.laid_flong_escape_names), ("flong/escape.fonts", Rows.laid_flong_escape_fonts)] W) : GL W := by
  rw [MakeChecks.laidMetH_plain _ _ _ (by kernel_rfl)] at h
  obtain ⟨ps, ⟨g0, t0, cs0, f0, p0, q0, hg0, ht0, hv0, hd0, ⟨g1, t1, cs1, f1, p1, q1, hg1, ht1, hv1, hd1, _, _⟩, _⟩, _, _⟩ := h
  obtain rfl := Option.some.inj (gNames.symm.trans hg0)
  obtain rfl := Option.some.inj (gFonts.symm.trans hg1)
  obtain rfl := Option.some.inj (tNames.symm.trans ht0)
  obtain rfl := Option.some.inj (tFonts.symm.trans ht1)
  refine ⟨?_, ?_⟩
  · rcases open_map Tryd.underlying75 hd0 with ⟨_, hx⟩ | ⟨bm, es, clock, m, rfl, hcs, hb, _, F, hx⟩
    · simp [Rows.laid_flong_escape_names] at hx
    simp only [Prod.mk.injEq] at hx
    have hcell : W.cell? ⟨0, 0, none⟩ = some (.map (some bm)) := by
      have := World.var?_cell hg0 hv0 0
      rw [Array.eq_one_of_toList hcs] at this
      simpa using this
    have ho := World.ownsMap_of_fit (R := plainElem Tryd.prog 21) hb F (fun x _ z hz => elemAt_plainElem_int Tryd.underlying21 hz)
    rw [← hx.1] at ho
    exact ⟨bm, _, hcell, ho⟩
  · rcases open_map Tryd.underlying75 hd1 with ⟨_, hx⟩ | ⟨bm, es, clock, m, rfl, hcs, hb, _, F, hx⟩
    · simp [Rows.laid_flong_escape_fonts] at hx
    simp only [Prod.mk.injEq] at hx
    have hcell : W.cell? ⟨1, 0, none⟩ = some (.map (some bm)) := by
      have := World.var?_cell hg1 hv1 0
      rw [Array.eq_one_of_toList hcs] at this
      simpa using this
    have ho := World.ownsMap_of_fit (R := plainElem Tryd.prog 21) hb F (fun x _ z hz => elemAt_plainElem_int Tryd.underlying21 hz)
    rw [← hx.1] at ho
    exact ⟨bm, _, hcell, ho⟩
theorem door_met (os : Os) (args : Array Value) : laidMetH Tryd.prog [("flong/escape.names", Rows.laid_flong_escape_names), ("flong/escape.fonts", Rows.laid_flong_escape_fonts)] ((World.doorLaid Tryd.prog 219 os).forCall (fun _ _ => 0) ⟨#[], args, []⟩).memory :=
  laidMetH_of_parts3 (fuel := 8) (laidMet_of_run' 8 (by kernel_rfl) (by kernel_rfl)) (by kernel_rfl) (by kernel_rfl)
end Go.Proofs.YtdogljnddalgdaaDoor
end
