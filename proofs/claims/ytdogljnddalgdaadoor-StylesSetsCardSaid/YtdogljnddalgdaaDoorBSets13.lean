/- Of what the law StylesSets needs: part 13. -/
import Derived.LaidMore
import Derived.Lib.SmallJoins
import Derived.OpenShut
import Derived.ProofKit
import Derived.SevenTiedAt
import Derived.Stop.Joined
import Derived.Test.YtdogljnddalgdaaDoorCards
import Derived.Test.YtdogljnddalgdaaDoorRows
import Derived.Test.YtdogljnddalgdaaDoorTie
import Derived.Test.YtdogljnddalgdaaDoorBSets6
section
namespace Go.Proofs.YtdogljnddalgdaaDoor
open Go.ChangeShapes Go.WideShapes Go.ChangeAt Go.WideMaps Go.WideElems Go.RowKit
theorem gNames : Tryd.prog.globalNamed "flong/escape.names" = some 0 := by kernel_rfl
theorem gFonts : Tryd.prog.globalNamed "flong/escape.fonts" = some 1 := by kernel_rfl
theorem gGap : Tryd.prog.globalNamed "flong/styles.gap" = some 2 := by kernel_rfl
theorem tGap : (Tryd.prog.globals[2]?).map (·.type) = some 60 := by kernel_rfl
theorem tNames : (Tryd.prog.globals[0]?).map (·.type) = some 75 := by kernel_rfl
theorem tFonts : (Tryd.prog.globals[1]?).map (·.type) = some 75 := by kernel_rfl
set_option maxRecDepth 100000 in
theorem of_laid {W : World} (h : laidMetH Tryd.prog [("flong/escape.names", Rows.laid_flong_escape_names), ("flong/escape.fonts", Rows.laid_flong_escape_fonts), ("flong/styles.gap", Rows.laid_flong_styles_gap)] W) : GL W := by
  rw [MakeChecks.laidMetH_plain _ _ _ (by kernel_rfl)] at h
  obtain ⟨ps, ⟨g0, t0, cs0, f0, p0, q0, hg0, ht0, hv0, hd0, ⟨g1, t1, cs1, f1, p1, q1, hg1, ht1, hv1, hd1, ⟨g2, t2, cs2, f2, p2, q2, hg2, ht2, hv2, hd2, _, _⟩, _⟩, _⟩, _, _⟩ := h
  obtain rfl := Option.some.inj (gNames.symm.trans hg0)
  obtain rfl := Option.some.inj (gFonts.symm.trans hg1)
  obtain rfl := Option.some.inj (gGap.symm.trans hg2)
  obtain rfl := Option.some.inj (tGap.symm.trans ht2)
  obtain rfl := Option.some.inj (tNames.symm.trans ht0)
  obtain rfl := Option.some.inj (tFonts.symm.trans ht1)
  refine ⟨?_, ?_, ?_⟩
  · rcases open_map Tryd.underlying75 hd0 with ⟨_, hx⟩ | ⟨bm, es, clock, m, rfl, hcs, hb, _, F, hx⟩
    · simp [Rows.laid_flong_escape_names] at hx
    simp only [Prod.mk.injEq] at hx
    have hcell : W.cell? ⟨0, 0, none⟩ = some (.map (some bm)) := by
      have := World.var?_cell hg0 hv0 0
      rw [Array.eq_one_of_toList hcs] at this
      simpa using this
    have ho := World.ownsMap_of_fit (R := plainElem Tryd.prog 21) hb F (fun x _ z hz => elemAt_plainElem_int Tryd.underlying21 hz)
    rw [← hx.1] at ho
    exact ⟨bm, _, hcell, ho⟩
  · rcases open_map Tryd.underlying75 hd1 with ⟨_, hx⟩ | ⟨bm, es, clock, m, rfl, hcs, hb, _, F, hx⟩
    · simp [Rows.laid_flong_escape_fonts] at hx
    simp only [Prod.mk.injEq] at hx
    have hcell : W.cell? ⟨1, 0, none⟩ = some (.map (some bm)) := by
      have := World.var?_cell hg1 hv1 0
      rw [Array.eq_one_of_toList hcs] at this
      simpa using this
    have ho := World.ownsMap_of_fit (R := plainElem Tryd.prog 21) hb F (fun x _ z hz => elemAt_plainElem_int Tryd.underlying21 hz)
    rw [← hx.1] at ho
    exact ⟨bm, _, hcell, ho⟩
  · obtain ⟨y0, y1, n, hx, hl, h0, h1⟩ := Go.ChangeShapes.trod_struct2 Tryd.underlying60 hd2
    rw [show Tryd.prog.cellsOf 60 = 2 by kernel_rfl] at hl
    rw [show Tryd.prog.cellsOf 21 = 1 by kernel_rfl] at h0
    rw [show Tryd.prog.cellsOf 5 = 1 by kernel_rfl] at h1
    obtain ⟨c0, c1, hcs⟩ : ∃ c0 c1, cs2.toList = [c0, c1] := by
      match hq : cs2.toList, hl with
      | [a, b], _ => exact ⟨a, b, rfl⟩
    rw [hcs] at h0 h1
    obtain ⟨n0, e0, rfl, _⟩ := DataW.trod_int Tryd.underlying21 h0
    obtain ⟨n1, e1, rfl, _⟩ := DataW.trod_int Tryd.underlying5 h1
    simp only [Rows.laid_flong_styles_gap, Prod.mk.injEq, DataW.agg.injEq, List.cons.injEq, DataW.lit.injEq, Lit.int.injEq, true_and, and_true] at hx
    obtain ⟨⟨rfl, rfl⟩, _⟩ := hx
    have e0' : c0 = .int .i32 32 := by simpa using e0
    have e1' : c1 = .int .u8 0 := by simpa using e1
    subst e0' e1'
    have hcs' : cs2 = #[.int .i32 32, .int .u8 0] := Array.toList_inj.mp hcs
    have k0 := World.var?_cell hg2 hv2 0
    have k1 := World.var?_cell hg2 hv2 1
    rw [hcs'] at k0 k1
    exact ⟨by simpa using k0, by simpa using k1⟩
theorem door_met (os : Os) (args : Array Value) : laidMetH Tryd.prog [("flong/escape.names", Rows.laid_flong_escape_names), ("flong/escape.fonts", Rows.laid_flong_escape_fonts), ("flong/styles.gap", Rows.laid_flong_styles_gap)] ((World.doorLaid Tryd.prog 219 os).forCall (fun _ _ => 0) ⟨#[], args, []⟩).memory :=
  laidMetH_of_parts3 (fuel := 8) (laidMet_of_run' 8 (by kernel_rfl) (by kernel_rfl)) (by kernel_rfl) (by kernel_rfl)
end Go.Proofs.YtdogljnddalgdaaDoor
end
