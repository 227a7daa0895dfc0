/- Of what the law EscapeScans needs: part 12. -/
import Derived.ArgAppend
import Derived.Below
import Derived.BigQuiet
import Derived.Deep.AppendLies
import Derived.Deep.CutBlock
import Derived.Deep.DeepCutAuto
import Derived.Deep.Draws
import Derived.Deep.LoopGhost
import Derived.Deep.OwnRows
import Derived.Deep.QuietTactic
import Derived.Deep.RegionHeld3
import Derived.KernelRfl
import Derived.Laws.BitsLemmas
import Derived.Laws.BytesArg
import Derived.Laws.Cover4
import Derived.Laws.IdiomCopy
import Derived.Laws.MakeOwn
import Derived.Laws.OwnMore
import Derived.Laws.Rows
import Derived.Laws.Slices
import Derived.Laws.StructEq
import Derived.Lib.AppendStr
import Derived.Lib.ConvBytes
import Derived.Maps.AppendAt
import Derived.Maps.Own
import Derived.Maps.OwnOps
import Derived.Maps.OwnSet
import Derived.OrdersHeld
import Derived.OwnWalk
import Derived.RowKit
import Derived.RowKit3
import Derived.StringKeys
import Derived.Tactics
import Derived.Test.YtdogljnddalgdaaDoorProg
import Derived.WalkKit
import Derived.WalkMore
import Derived.WideLaws
import Derived.Test.YtdogljnddalgdaaDoorBScans5
import Derived.Test.YtdogljnddalgdaaDoorBScans7
import Derived.Test.YtdogljnddalgdaaDoorBScans8
import Derived.Test.YtdogljnddalgdaaDoorBScans9
import Derived.Test.YtdogljnddalgdaaDoorBScans11
namespace Go.Proofs.YtdogljnddalgdaaDoor
end Go.Proofs.YtdogljnddalgdaaDoor
namespace Go.Proofs.YtdogljnddalgdaaDoorW.PrintLast
end Go.Proofs.YtdogljnddalgdaaDoorW.PrintLast
namespace Go.Proofs.YtdogljnddalgdaaDoorW.PrintMore
end Go.Proofs.YtdogljnddalgdaaDoorW.PrintMore
namespace Go.Proofs.YtdogljnddalgdaaDoorW.PrintWords
end Go.Proofs.YtdogljnddalgdaaDoorW.PrintWords
section
namespace Go.Proofs.YtdogljnddalgdaaDoor.A4
open Go.RowKit Go.Proofs.YtdogljnddalgdaaDoorW.PrintWords Go.Proofs.YtdogljnddalgdaaDoorW.PrintLast Go.Proofs.YtdogljnddalgdaaDoorW.PrintMore
attribute [local go_sem] max2_int min2_int max_two min_two max_three min_three max_four min_four   -- for this text's walks alone
set_option linter.unusedVariables false
set_option linter.unusedSimpArgs false
mutual
def flongref04_Scan.l0 : Nat → List Int → Int → List (S38) → List (S41) → Option ((List (S38)) × (List (S41)))
  | 0, _, _, _, _ => none
  | k + 1, x4, x6, x305000, x305001 => if x6 < (x4.length : Int) then (if 0 ≤ x6 then (if (rd x4 x6) = 92 then ((flongref04_escape.f k x305000 x305001 x4 (wrap64 (x6 + 1))).bind fun bt306 => (flongref04_Scan.l0 k x4 bt306.2.2 bt306.1 bt306.2.1)) else (if (rd x4 x6) = 32 then (flongref04_Scan.j1 k x4 x6 (rd x4 x6) true x305000 x305001) else (flongref04_Scan.j1 k x4 x6 (rd x4 x6) ((rd x4 x6) == 9) x305000 x305001))) else (none)) else (some (x305000, x305001))
def flongref04_Scan.j1 : Nat → List Int → Int → Int → Bool → List (S38) → List (S41) → Option ((List (S38)) × (List (S41)))
  | 0, _, _, _, _, _, _ => none
  | k + 1, x4, x6, x7, x39, x305000, x305001 => if x39 = true then ((flongref04_say.f x305000 x305001 2 0).bind fun bt314 => (flongref04_Scan.l0 k x4 (wrap64 (x6 + 1)) bt314.1 bt314.2)) else ((flongref02_Control.f x7).bind fun t320 => (if t320 = true then ((flongref04_say.f x305000 x305001 1 65533).bind fun bt321 => ((flongref04_tell.f bt321.1 bt321.2 3 x6).bind fun bt327 => (flongref04_Scan.l0 k x4 (wrap64 (x6 + 1)) bt327.1 bt327.2))) else ((flongref04_say.f x305000 x305001 1 x7).bind fun bt333 => (flongref04_Scan.l0 k x4 (wrap64 (x6 + 1)) bt333.1 bt333.2))))
end
def flongref04_Scan.f (k : Nat) (a0 : ByteArray) : Option ((List (S38)) × (List (S41))) := if a0.size ≤ 9223372036854775807 then ((some (bytesOf a0)).bind fun t298 => ((flongref02_Decode.f k t298).bind fun t301 => (flongref04_Scan.l0 k t301 0 ([] : List (S38)) ([] : List (S41))))) else (none)
theorem flongref04_Scan.mono_l : ∀ k, (∀ y0 y1 y2 y3, LeO (flongref04_Scan.l0 k y0 y1 y2 y3) (flongref04_Scan.l0 (k + 1) y0 y1 y2 y3)) ∧ (∀ y0 y1 y2 y3 y4 y5, LeO (flongref04_Scan.j1 k y0 y1 y2 y3 y4 y5) (flongref04_Scan.j1 (k + 1) y0 y1 y2 y3 y4 y5))
  | 0 => ⟨fun _ _ _ _ r h => by simp [flongref04_Scan.l0] at h, fun _ _ _ _ _ _ r h => by simp [flongref04_Scan.j1] at h⟩
  | k + 1 => by
    obtain ⟨ih0, ih1⟩ := flongref04_Scan.mono_l k
    refine ⟨?_, ?_⟩
    · intro y0 y1 y2 y3
      unfold flongref04_Scan.l0
      repeat' first
      | (with_reducible exact ih0 _ _ _ _)
      | (with_reducible exact ih1 _ _ _ _ _ _)
      | (with_reducible exact flongref02_Decode.mono _ _)
      | (with_reducible exact flongref04_escape.mono _ _ _ _ _)
      | (with_reducible exact LeO.refl _)
      | (with_reducible exact LeO.none _)
      | (with_reducible refine LeO.ite ?_ ?_)
      | (with_reducible refine LeO.bind ?_ (fun _ => ?_))
      | exact ih0 _ _ _ _
      | exact ih1 _ _ _ _ _ _
      | exact flongref02_Decode.mono _ _
      | exact flongref04_escape.mono _ _ _ _ _
      | exact LeO.none _
      | refine LeO.ite ?_ ?_
      | refine LeO.bind ?_ (fun _ => ?_)
    · intro y0 y1 y2 y3 y4 y5
      unfold flongref04_Scan.j1
      repeat' first
      | (with_reducible exact ih0 _ _ _ _)
      | (with_reducible exact ih1 _ _ _ _ _ _)
      | (with_reducible exact flongref02_Decode.mono _ _)
      | (with_reducible exact flongref04_escape.mono _ _ _ _ _)
      | (with_reducible exact LeO.refl _)
      | (with_reducible exact LeO.none _)
      | (with_reducible refine LeO.ite ?_ ?_)
      | (with_reducible refine LeO.bind ?_ (fun _ => ?_))
      | exact ih0 _ _ _ _
      | exact ih1 _ _ _ _ _ _
      | exact flongref02_Decode.mono _ _
      | exact flongref04_escape.mono _ _ _ _ _
      | exact LeO.none _
      | refine LeO.ite ?_ ?_
      | refine LeO.bind ?_ (fun _ => ?_)
theorem flongref04_Scan.mono : ∀ a0 k, LeO (flongref04_Scan.f k a0) (flongref04_Scan.f (k + 1) a0) := by
  intro a0 k
  obtain ⟨ih0, ih1⟩ := flongref04_Scan.mono_l k
  unfold flongref04_Scan.f
  repeat' first
      | (with_reducible exact ih0 _ _ _ _)
      | (with_reducible exact ih1 _ _ _ _ _ _)
      | (with_reducible exact flongref02_Decode.mono _ _)
      | (with_reducible exact flongref04_escape.mono _ _ _ _ _)
      | (with_reducible exact LeO.refl _)
      | (with_reducible exact LeO.none _)
      | (with_reducible refine LeO.ite ?_ ?_)
      | (with_reducible refine LeO.bind ?_ (fun _ => ?_))
      | exact ih0 _ _ _ _
      | exact ih1 _ _ _ _ _ _
      | exact flongref02_Decode.mono _ _
      | exact flongref04_escape.mono _ _ _ _ _
      | exact LeO.none _
      | refine LeO.ite ?_ ?_
      | refine LeO.bind ?_ (fun _ => ?_)
set_option maxHeartbeats 8000000 in
set_option maxRecDepth 100000 in
theorem flongref04_Scan.calls (k : Nat) (a0 : ByteArray) (r1 : List (S38)) (r2 : List (S41)) (w : World) (h : flongref04_Scan.f k a0 = some (r1, r2)) :
    Calls Tryd.prog 16 #[.string a0] w fun e w' => ∃ v0_ v1_ : Value, e = .returned (.tuple #[v0_, v1_]) ∧ Kd.R k38 38 w' w.heap.size (fun _ => True) v0_ r1 ∧ Kd.R k41 41 w' w.heap.size (fun _ => True) v1_ r2 ∧ Below w.heap.size w w' := by
  have hu70 := Tryd.underlying70
  have HB := Aside0.mk (Below.refl w.heap.size w)
  have H : (if a0.size ≤ 9223372036854775807 then ((some (bytesOf a0)).bind fun t298 => ((flongref02_Decode.f k t298).bind fun t301 => (flongref04_Scan.l0 k t301 0 ([] : List (S38)) ([] : List (S41))))) else (none)) = some (r1, r2) := h
  clear h
  by_cases c2 : a0.size ≤ 9223372036854775807
  · rw [if_pos c2] at H
    have c2b0 := eq_true c2
    have c2b1 : decide (a0.size ≤ 9223372036854775807) = true := decide_eq_true c2
    try have c2b2 : (9223372036854775807 < a0.size) = False := eq_false (Nat.not_lt.2 c2)
    clear c2
    replace H := Option.bind_eq_some_iff.mp H
    obtain ⟨t298, A30, H⟩ := H
    replace H : ((flongref02_Decode.f k t298).bind fun t301 => (flongref04_Scan.l0 k t301 0 ([] : List (S38)) ([] : List (S41)))) = some (r1, r2) := H
    have A3 := Aside0.mk A30
    clear A30
    replace H := Option.bind_eq_some_iff.mp H
    obtain ⟨t301, A40, H⟩ := H
    replace H : (flongref04_Scan.l0 k t301 0 ([] : List (S38)) ([] : List (S41))) = some (r1, r2) := H
    have A4 := Aside0.mk A40
    clear A40
    have H' := Aside0.mk H
    clear H
    go_enter Tryd.func16, Tryd.ntmps16
    go_wp2_with (first | ((with_reducible refine gate_dst (N := 11) rfl ?_); refine conv_step (by rfl) 9 36 5 _ rfl Tryd.underlying9 Tryd.underlying36 Tryd.underlying5 a0 (of_decide_eq_true (by first | (with_reducible assumption) | assumption)) (by rfl) t298 A3.out ?_; rintro e w5 ⟨v299, rfl, ho0, hb⟩; have n0_ := Aside0.mk (Kd.V_lower (Kd.V_mono (ok' := fun k_ => True) ho0 (fun k_ hk_ => trivial)) (below_size (by repeat (first | (with_reducible first | exact HB.out | apply below_alloc | apply pw_below_drewN | apply below_drew1) | exact HB.out)))); have n1_ := Aside0.mk (below_step (by repeat (first | (with_reducible first | exact HB.out | apply below_alloc | apply pw_below_drewN | apply below_drew1) | exact HB.out)) hb); clear HB; have HO300 := n0_; have HB := n1_; clear n0_ n1_; (try clear hb); (try clear hb2); (try clear hk); (try clear hi); (try clear ho0); obtain ⟨Ao6, co6, eo6⟩ := Kd.V_slice HO300.out; subst eo6) | (go_at_call 25; (with_reducible refine (flongref02_Decode.calls k _ _ t298 t301 _ ?side1 ?side2 A4.out).mono ?_); (case side1 => repeat (first | exact (Kd.V_reads' HO300.out).2.2 | (with_reducible refine Kd.C_alloc ?_ _) | (with_reducible refine Kd.C_drewN ?_ _) | (with_reducible refine Kd.C_drew ?_))); (case side2 => exact (Kd.V_reads' HO300.out).2.1); rintro e w7 ⟨v302, rfl, ho0, hb⟩; have n0_ := Aside0.mk (Kd.V_elder' (by (with_reducible repeat (first | apply Kd.V_alloc | apply Kd.V_drewN | apply Kd.V_drew)); exact HO300.out) (Kd.R_base ho0) hb); have n1_ := Aside0.mk (Kd.R_lower ho0 (below_size (by repeat (first | (with_reducible first | exact HB.out | apply below_alloc | apply pw_below_drewN | apply below_drew1) | exact HB.out)))); have n2_ := Aside0.mk (below_step (by repeat (first | (with_reducible first | exact HB.out | apply below_alloc | apply pw_below_drewN | apply below_drew1) | exact HB.out)) hb); clear HO300; clear HB; have HO300 := n0_; have HO303 := n1_; have HB := n2_; clear n0_ n1_ n2_; (try clear hb); (try clear hb2); (try clear hk); (try clear hi); (try clear ho0)) | ((with_reducible refine gate_dst (N := 5) rfl ?_); refine box_event ?hg (N := 5) ?hd (cs := #[.slice none 0 0, .slice none 0 0]) (t := 70) ?hr ?_; (case hd => rfl); (case hg => rfl); (case hr => first | (go_simp; done) | (go_simp; rfl)); intro gb304 hg w8 hbox hb; have n0_ := Aside0.mk (Kd.V_below (Kd.V_elderB (by (with_reducible repeat (first | apply Kd.V_alloc | apply Kd.V_drewN | apply Kd.V_drew)); exact HO300.out) gb304 (Nat.le_of_eq hg.symm)) hb); have n1_ := Aside0.mk (Kd.R_below (by (with_reducible repeat (first | apply Kd.R_alloc | apply Kd.R_drewN | apply Kd.R_drew)); exact HO303.out) hb); have n2_ := Aside0.mk (below_step (by repeat (first | (with_reducible first | exact HB.out | apply below_alloc | apply pw_below_drewN | apply below_drew1) | exact HB.out)) hb); have n3_ := Aside0.mk (hbox); have n4_ := Aside0.mk ((by rw [hg]; exact (below_size (by repeat (first | (with_reducible first | exact HB.out | apply below_alloc | apply pw_below_drewN | apply below_drew1) | exact HB.out))) : w.heap.size ≤ gb304)); have n5_ := Aside0.mk ((by rw [hg]; exact (below_size (by repeat (first | (with_reducible first | exact HB.out | apply below_alloc | apply pw_below_drewN | apply below_drew1) | exact HB.out))) : w.heap.size ≤ gb304)); clear HO300; clear HO303; clear HB; have HO300 := n0_; have HO303 := n1_; have HB := n2_; have BK304 := n3_; have GW304 := n4_; have GE304 := n5_; clear n0_ n1_ n2_ n3_ n4_ n5_; clear hb hbox hg; have hcz9_0 : w8.cell? ⟨gb304, 0, none⟩ = some (.slice none 0 0) := (blk_cell BK304.out 0).trans rfl; have hcz9_1 : w8.cell? ⟨gb304, 1, none⟩ = some (.slice none 0 0) := (blk_cell BK304.out 1).trans rfl; have hfz9_0 := blk_frozen BK304.out 0; have hfz9_1 := blk_frozen BK304.out 1))
    repeat (go_quiet (first | ((with_reducible refine gate_dst (N := 11) rfl ?_); refine conv_step (by rfl) 9 36 5 _ rfl Tryd.underlying9 Tryd.underlying36 Tryd.underlying5 a0 (of_decide_eq_true (by first | (with_reducible assumption) | assumption)) (by rfl) t298 A3.out ?_; rintro e w5 ⟨v299, rfl, ho0, hb⟩; have n0_ := Aside0.mk (Kd.V_lower (Kd.V_mono (ok' := fun k_ => True) ho0 (fun k_ hk_ => trivial)) (below_size (by repeat (first | (with_reducible first | exact HB.out | apply below_alloc | apply pw_below_drewN | apply below_drew1) | exact HB.out)))); have n1_ := Aside0.mk (below_step (by repeat (first | (with_reducible first | exact HB.out | apply below_alloc | apply pw_below_drewN | apply below_drew1) | exact HB.out)) hb); clear HB; have HO300 := n0_; have HB := n1_; clear n0_ n1_; (try clear hb); (try clear hb2); (try clear hk); (try clear hi); (try clear ho0); obtain ⟨Ao6, co6, eo6⟩ := Kd.V_slice HO300.out; subst eo6) | (go_at_call 25; (with_reducible refine (flongref02_Decode.calls k _ _ t298 t301 _ ?side1 ?side2 A4.out).mono ?_); (case side1 => repeat (first | exact (Kd.V_reads' HO300.out).2.2 | (with_reducible refine Kd.C_alloc ?_ _) | (with_reducible refine Kd.C_drewN ?_ _) | (with_reducible refine Kd.C_drew ?_))); (case side2 => exact (Kd.V_reads' HO300.out).2.1); rintro e w7 ⟨v302, rfl, ho0, hb⟩; have n0_ := Aside0.mk (Kd.V_elder' (by (with_reducible repeat (first | apply Kd.V_alloc | apply Kd.V_drewN | apply Kd.V_drew)); exact HO300.out) (Kd.R_base ho0) hb); have n1_ := Aside0.mk (Kd.R_lower ho0 (below_size (by repeat (first | (with_reducible first | exact HB.out | apply below_alloc | apply pw_below_drewN | apply below_drew1) | exact HB.out)))); have n2_ := Aside0.mk (below_step (by repeat (first | (with_reducible first | exact HB.out | apply below_alloc | apply pw_below_drewN | apply below_drew1) | exact HB.out)) hb); clear HO300; clear HB; have HO300 := n0_; have HO303 := n1_; have HB := n2_; clear n0_ n1_ n2_; (try clear hb); (try clear hb2); (try clear hk); (try clear hi); (try clear ho0)) | ((with_reducible refine gate_dst (N := 5) rfl ?_); refine box_event ?hg (N := 5) ?hd (cs := #[.slice none 0 0, .slice none 0 0]) (t := 70) ?hr ?_; (case hd => rfl); (case hg => rfl); (case hr => first | (go_simp; done) | (go_simp; rfl)); intro gb304 hg w8 hbox hb; have n0_ := Aside0.mk (Kd.V_below (Kd.V_elderB (by (with_reducible repeat (first | apply Kd.V_alloc | apply Kd.V_drewN | apply Kd.V_drew)); exact HO300.out) gb304 (Nat.le_of_eq hg.symm)) hb); have n1_ := Aside0.mk (Kd.R_below (by (with_reducible repeat (first | apply Kd.R_alloc | apply Kd.R_drewN | apply Kd.R_drew)); exact HO303.out) hb); have n2_ := Aside0.mk (below_step (by repeat (first | (with_reducible first | exact HB.out | apply below_alloc | apply pw_below_drewN | apply below_drew1) | exact HB.out)) hb); have n3_ := Aside0.mk (hbox); have n4_ := Aside0.mk ((by rw [hg]; exact (below_size (by repeat (first | (with_reducible first | exact HB.out | apply below_alloc | apply pw_below_drewN | apply below_drew1) | exact HB.out))) : w.heap.size ≤ gb304)); have n5_ := Aside0.mk ((by rw [hg]; exact (below_size (by repeat (first | (with_reducible first | exact HB.out | apply below_alloc | apply pw_below_drewN | apply below_drew1) | exact HB.out))) : w.heap.size ≤ gb304)); clear HO300; clear HO303; clear HB; have HO300 := n0_; have HO303 := n1_; have HB := n2_; have BK304 := n3_; have GW304 := n4_; have GE304 := n5_; clear n0_ n1_ n2_ n3_ n4_ n5_; clear hb hbox hg; have hcz9_0 : w8.cell? ⟨gb304, 0, none⟩ = some (.slice none 0 0) := (blk_cell BK304.out 0).trans rfl; have hcz9_1 : w8.cell? ⟨gb304, 1, none⟩ = some (.slice none 0 0) := (blk_cell BK304.out 1).trans rfl; have hfz9_0 := blk_frozen BK304.out 0; have hfz9_1 := blk_frozen BK304.out 1)); try go_wp2_with (first | ((with_reducible refine gate_dst (N := 11) rfl ?_); refine conv_step (by rfl) 9 36 5 _ rfl Tryd.underlying9 Tryd.underlying36 Tryd.underlying5 a0 (of_decide_eq_true (by first | (with_reducible assumption) | assumption)) (by rfl) t298 A3.out ?_; rintro e w5 ⟨v299, rfl, ho0, hb⟩; have n0_ := Aside0.mk (Kd.V_lower (Kd.V_mono (ok' := fun k_ => True) ho0 (fun k_ hk_ => trivial)) (below_size (by repeat (first | (with_reducible first | exact HB.out | apply below_alloc | apply pw_below_drewN | apply below_drew1) | exact HB.out)))); have n1_ := Aside0.mk (below_step (by repeat (first | (with_reducible first | exact HB.out | apply below_alloc | apply pw_below_drewN | apply below_drew1) | exact HB.out)) hb); clear HB; have HO300 := n0_; have HB := n1_; clear n0_ n1_; (try clear hb); (try clear hb2); (try clear hk); (try clear hi); (try clear ho0); obtain ⟨Ao6, co6, eo6⟩ := Kd.V_slice HO300.out; subst eo6) | (go_at_call 25; (with_reducible refine (flongref02_Decode.calls k _ _ t298 t301 _ ?side1 ?side2 A4.out).mono ?_); (case side1 => repeat (first | exact (Kd.V_reads' HO300.out).2.2 | (with_reducible refine Kd.C_alloc ?_ _) | (with_reducible refine Kd.C_drewN ?_ _) | (with_reducible refine Kd.C_drew ?_))); (case side2 => exact (Kd.V_reads' HO300.out).2.1); rintro e w7 ⟨v302, rfl, ho0, hb⟩; have n0_ := Aside0.mk (Kd.V_elder' (by (with_reducible repeat (first | apply Kd.V_alloc | apply Kd.V_drewN | apply Kd.V_drew)); exact HO300.out) (Kd.R_base ho0) hb); have n1_ := Aside0.mk (Kd.R_lower ho0 (below_size (by repeat (first | (with_reducible first | exact HB.out | apply below_alloc | apply pw_below_drewN | apply below_drew1) | exact HB.out)))); have n2_ := Aside0.mk (below_step (by repeat (first | (with_reducible first | exact HB.out | apply below_alloc | apply pw_below_drewN | apply below_drew1) | exact HB.out)) hb); clear HO300; clear HB; have HO300 := n0_; have HO303 := n1_; have HB := n2_; clear n0_ n1_ n2_; (try clear hb); (try clear hb2); (try clear hk); (try clear hi); (try clear ho0)) | ((with_reducible refine gate_dst (N := 5) rfl ?_); refine box_event ?hg (N := 5) ?hd (cs := #[.slice none 0 0, .slice none 0 0]) (t := 70) ?hr ?_; (case hd => rfl); (case hg => rfl); (case hr => first | (go_simp; done) | (go_simp; rfl)); intro gb304 hg w8 hbox hb; have n0_ := Aside0.mk (Kd.V_below (Kd.V_elderB (by (with_reducible repeat (first | apply Kd.V_alloc | apply Kd.V_drewN | apply Kd.V_drew)); exact HO300.out) gb304 (Nat.le_of_eq hg.symm)) hb); have n1_ := Aside0.mk (Kd.R_below (by (with_reducible repeat (first | apply Kd.R_alloc | apply Kd.R_drewN | apply Kd.R_drew)); exact HO303.out) hb); have n2_ := Aside0.mk (below_step (by repeat (first | (with_reducible first | exact HB.out | apply below_alloc | apply pw_below_drewN | apply below_drew1) | exact HB.out)) hb); have n3_ := Aside0.mk (hbox); have n4_ := Aside0.mk ((by rw [hg]; exact (below_size (by repeat (first | (with_reducible first | exact HB.out | apply below_alloc | apply pw_below_drewN | apply below_drew1) | exact HB.out))) : w.heap.size ≤ gb304)); have n5_ := Aside0.mk ((by rw [hg]; exact (below_size (by repeat (first | (with_reducible first | exact HB.out | apply below_alloc | apply pw_below_drewN | apply below_drew1) | exact HB.out))) : w.heap.size ≤ gb304)); clear HO300; clear HO303; clear HB; have HO300 := n0_; have HO303 := n1_; have HB := n2_; have BK304 := n3_; have GW304 := n4_; have GE304 := n5_; clear n0_ n1_ n2_ n3_ n4_ n5_; clear hb hbox hg; have hcz9_0 : w8.cell? ⟨gb304, 0, none⟩ = some (.slice none 0 0) := (blk_cell BK304.out 0).trans rfl; have hcz9_1 : w8.cell? ⟨gb304, 1, none⟩ = some (.slice none 0 0) := (blk_cell BK304.out 1).trans rfl; have hfz9_0 := blk_frozen BK304.out 0; have hfz9_1 := blk_frozen BK304.out 1)))
    go_loopg [6] k (fun kq v6 w' => ∃ (x6_1 : Int) (x305000_1 : List (S38)) (x305001_1 : List (S41)) (u305000 : Value) (u305001 : Value), v6 = .int .i64 x6_1 ∧ Aside0 (flongref04_Scan.l0 kq t301 x6_1 x305000_1 x305001_1 = some (r1, r2)) ∧ Aside0 (kq ≤ k) ∧ Aside0 (Kd.R (Kd.int .i32) 21 w' w.heap.size (fun _ => True) v302 t301) ∧ Aside0 (Kd.R k38 38 w' w.heap.size (fun _ => True) u305000 x305000_1) ∧ Aside0 (Kd.R k41 41 w' w.heap.size (fun _ => True) u305001 x305001_1) ∧ Aside0 (w'.heap[gb304]? = some (.cells #[u305000, u305001] 70 (0, 0))) ∧ Aside0 (Below w.heap.size w w'))
    case atStart => exact ⟨(0), (([] : List (S38))), (([] : List (S41))), (.slice none 0 0), (.slice none 0 0), (by first | rfl | (simp; done) | (simp [*]; done)), H', ⟨Nat.le_refl _⟩, ⟨by (with_reducible repeat (first | apply Kd.R_alloc | apply Kd.R_drewN | apply Kd.R_drew)); exact Kd.R_mono (Kd.R_far (p := ⟨gb304, 1, none⟩) (Kd.R_far (p := ⟨gb304, 0, none⟩) (Kd.R_types HO303.out BK304.out (by decide)) (fun _ hk => hk.2) (.slice none 0 0)) (fun _ hk => hk.2) (.slice none 0 0)) (fun _ hk => trivial)⟩, ⟨by first | exact Kd.R_nil _ _ _ _ _ | exact Kd.N_nil _ _ _ _ _ | exact Kd.V_nil _ _ _ _ _ | exact Kd.Q_nil _ _ _ _ _ | exact Kd.S_nil _ _ _ _ _⟩, ⟨by first | exact Kd.R_nil _ _ _ _ _ | exact Kd.N_nil _ _ _ _ _ | exact Kd.V_nil _ _ _ _ _ | exact Kd.Q_nil _ _ _ _ _ | exact Kd.S_nil _ _ _ _ _⟩, ⟨by (with_reducible repeat (first | refine blk_drewN ?_ _ | refine blk_drew ?_ | refine blk_alloc ?_ _)); refine blk_put (cs := #[.slice none 0 0, .slice none 0 0]) ?_ 1 _ rfl; (with_reducible repeat (first | refine blk_drewN ?_ _ | refine blk_drew ?_ | refine blk_alloc ?_ _)); refine blk_put (cs := #[.slice none 0 0, .slice none 0 0]) ?_ 0 _ rfl; (with_reducible repeat (first | refine blk_drewN ?_ _ | refine blk_drew ?_ | refine blk_alloc ?_ _)); exact BK304.out⟩, ⟨by repeat (first | (with_reducible first | exact HB.out | apply below_alloc | apply pw_below_drewN | apply below_drew1 | refine below_set ?_ GE304.out) | exact HB.out)⟩⟩
    case round =>
      clear H'
      try clear c1
      try clear c2
      try clear c2b0
      try clear c2b1
      try clear c2b2
      try clear p2
      try clear hcz9_0
      try clear hcz9_1
      try clear hfz9_0
      try clear hfz9_1
      obtain ⟨x6_1, x305000_1, x305001_1, u305000, u305001, rfl, HA, HK1, HO_4, HO_305000, HO_305001, BK304, HB⟩ := hrel
      cases gk with
      | zero => exact absurd HA.out (by simp [flongref04_Scan.l0])
      | succ k1 =>
        have H := HA.out
        clear HA
        simp only [flongref04_Scan.l0] at H
        by_cases c10 : x6_1 < (t301.length : Int)
        · rw [if_pos c10] at H
          have c10b0 : decide (x6_1 < (t301.length : Int)) = true := decide_eq_true c10
          clear c10
          by_cases c11 : 0 ≤ x6_1
          · rw [if_pos c11] at H
            have c11b0 : decide (0 ≤ x6_1) = true := decide_eq_true c11
            clear c11
            by_cases c12 : (rd t301 x6_1) = 92
            · rw [if_pos c12] at H
              have c12b0 : ((rd t301 x6_1) == 92) = true := beq_iff_eq.mpr c12
              have c12b1 : ((rd t301 x6_1) != 92) = false := bne_eq_false_iff_eq.mpr c12
              clear c12
              replace H := Option.bind_eq_some_iff.mp H
              obtain ⟨⟨t306, t309, t312⟩, A130, H⟩ := H
              replace H : (flongref04_Scan.l0 k1 t301 t312 t306 t309) = some (r1, r2) := H
              have A13 := Aside0.mk A130
              clear A130
              have H' := Aside0.mk H
              clear H
              obtain ⟨Ao14, co14, eo14⟩ := Kd.R_slice HO_4.out
              subst eo14
              have p305 : 0 ≤ (x6_1 : Int) := of_decide_eq_true (by first | (with_reducible assumption) | assumption)
              have q305 : x6_1 < (t301.length : Int) := of_decide_eq_true (by first | (with_reducible assumption) | assumption)
              obtain ⟨ad305, e305, hx305_0⟩ := Kd.at_int (Kd.R_reads' HO_4.out).2.2 x6_1 p305 q305
              cases e305
              replace p305 := eq_true p305
              replace q305 := eq_true q305
              have hcz15_0 : wr.cell? ⟨gb304, 0, none⟩ = some (u305000) := (blk_cell BK304.out 0).trans rfl
              have hcz15_1 : wr.cell? ⟨gb304, 1, none⟩ = some (u305001) := (blk_cell BK304.out 1).trans rfl
              have hfz15_0 := blk_frozen BK304.out 0
              have hfz15_1 := blk_frozen BK304.out 1
              obtain ⟨Ao16, co16, eo16⟩ := Kd.R_slice HO_305000.out
              subst eo16
              obtain ⟨Ao17, co17, eo17⟩ := Kd.R_slice HO_305001.out
              subst eo17
              go_wp2_with (first | (go_at_call 44; (with_reducible refine (flongref04_escape.calls k1 (fun k_ => some k_ = (.slice Ao16 x305000_1.length co16 : Value).ownBlock) (.slice Ao16 x305000_1.length co16) x305000_1 (fun k_ => some k_ = (.slice Ao17 x305001_1.length co17 : Value).ownBlock) (.slice Ao17 x305001_1.length co17) x305001_1 _ _ t301 (wrap64 (x6_1 + 1)) t306 t309 t312 w _ ?side1 ?side2 ?side3 ?side4 ?side5 A13.out).mono ?_); (case side1 => repeat (first | (with_reducible first | exact HB.out | apply below_alloc | apply pw_below_drewN | apply below_drew1 | refine below_set ?_ GE304.out) | exact HB.out)); (case side2 => exact Kd.R_tight rfl HO_305000.out); (case side3 => exact Kd.R_tight rfl HO_305001.out); (case side4 => exact Kd.C_kept_own ((Kd.R_apart' (Kd.R_apart' HO_4.out (Kd.R_typed HO_305000.out) (by decide)) (Kd.R_typed HO_305001.out) (by decide))) (fun k_ hk_ hs_ => Or.elim hs_ (fun e_ => (hk_.1.2) e_) (fun e_ => (hk_.2) e_))); (case side5 => exact (Kd.R_reads' HO_4.out).2.1); rintro e w18 ⟨v307, v310, rfl, ho0, ho1, hb, hkp⟩; have n0_ := Aside0.mk (Kd.R_mono (ok' := fun k_ => True) (Kd.R_keptB ((Kd.R_apart' (Kd.R_apart' HO_4.out (Kd.R_typed HO_305000.out) (by decide)) (Kd.R_typed HO_305001.out) (by decide))) hkp (fun k_ hk_ hs_ => Or.elim hs_ (fun e_ => (hk_.1.2) e_) (fun e_ => (hk_.2) e_))) (fun k_ hk_ => trivial)); have n1_ := Aside0.mk (blk_kept (by (with_reducible repeat (first | refine blk_drewN ?_ _ | refine blk_drew ?_ | refine blk_alloc ?_ _)); exact BK304.out) hkp (fun hs_ => Or.elim hs_ (fun e_ => (fun e_ => (Kd.R_ne HO_305000.out BK304.out (by decide)) e_) e_) (fun e_ => (fun e_ => (Kd.R_ne HO_305001.out BK304.out (by decide)) e_) e_))); have n2_ := Aside0.mk (Kd.R_mono (ok' := fun k_ => True) ho0 (fun k_ hk_ => trivial)); have n3_ := Aside0.mk (Kd.R_mono (ok' := fun k_ => True) ho1 (fun k_ hk_ => trivial)); have n4_ := Aside0.mk (hb); clear HO_4; clear BK304; clear HB; clear HO_305000; clear HO_305001; have HO_4 := n0_; have BK304 := n1_; have HO308 := n2_; have HO311 := n3_; have HB := n4_; clear n0_ n1_ n2_ n3_ n4_; (try clear hb); (try clear hkp); (try clear ho0); (try clear ho1)) | ((with_reducible refine gate_dst (N := 8) rfl ?_); refine box_event ?hg (N := 8) ?hd (cs := #[.slice none 0 0, .slice none 0 0]) (t := 70) ?hr ?_; (case hd => rfl); (case hg => rfl); (case hr => first | (go_simp; done) | (go_simp; rfl)); intro gb313 hg w19 hbox hb; have n0_ := Aside0.mk (Kd.R_below (by (with_reducible repeat (first | apply Kd.R_alloc | apply Kd.R_drewN | apply Kd.R_drew)); exact HO_4.out) hb); have n1_ := Aside0.mk (Kd.R_below (by (with_reducible repeat (first | apply Kd.R_alloc | apply Kd.R_drewN | apply Kd.R_drew)); exact HO308.out) hb); have n2_ := Aside0.mk (Kd.R_below (by (with_reducible repeat (first | apply Kd.R_alloc | apply Kd.R_drewN | apply Kd.R_drew)); exact HO311.out) hb); have n3_ := Aside0.mk (blk_below (g := gb304) (o := .cells #[.slice Ao16 x305000_1.length co16, .slice Ao17 x305001_1.length co17] 70 (0, 0)) (by (with_reducible repeat (first | refine blk_drewN ?_ _ | refine blk_drew ?_ | refine blk_alloc ?_ _)); exact BK304.out) hb); have n4_ := Aside0.mk (below_step (by repeat (first | (with_reducible first | exact HB.out | apply below_alloc | apply pw_below_drewN | apply below_drew1 | refine below_set ?_ GE304.out) | exact HB.out)) hb); have n5_ := Aside0.mk (hbox); have n6_ := Aside0.mk ((by rw [hg]; exact (below_size (by repeat (first | (with_reducible first | exact HB.out | apply below_alloc | apply pw_below_drewN | apply below_drew1 | refine below_set ?_ GE304.out) | exact HB.out))) : w.heap.size ≤ gb313)); have n7_ := Aside0.mk ((by rw [hg]; exact (below_size (by repeat (first | (with_reducible first | exact HB.out | apply below_alloc | apply pw_below_drewN | apply below_drew1 | refine below_set ?_ GE304.out) | exact HB.out))) : w.heap.size ≤ gb313)); have n8_ := Aside0.mk ((by rw [hg]; exact Nat.ne_of_lt (blk_lt (g := gb304) (o := .cells #[.slice Ao16 x305000_1.length co16, .slice Ao17 x305001_1.length co17] 70 (0, 0)) (by (with_reducible repeat (first | refine blk_drewN ?_ _ | refine blk_drew ?_ | refine blk_alloc ?_ _)); exact BK304.out)) : gb304 ≠ gb313)); have n9_ := Aside0.mk ((by rw [hg]; exact Nat.ne_of_gt (blk_lt (g := gb304) (o := .cells #[.slice Ao16 x305000_1.length co16, .slice Ao17 x305001_1.length co17] 70 (0, 0)) (by (with_reducible repeat (first | refine blk_drewN ?_ _ | refine blk_drew ?_ | refine blk_alloc ?_ _)); exact BK304.out)) : gb313 ≠ gb304)); clear HO_4; clear HO308; clear HO311; clear BK304; clear HB; have HO_4 := n0_; have HO308 := n1_; have HO311 := n2_; have BK304 := n3_; have HB := n4_; have BK313 := n5_; have GW313 := n6_; have GE313 := n7_; have NB304_313 := n8_; have NB313_304 := n9_; clear n0_ n1_ n2_ n3_ n4_ n5_ n6_ n7_ n8_ n9_; clear hb hbox hg; obtain ⟨Ao20, co20, eo20⟩ := Kd.R_slice HO308.out; subst eo20; have hnb21 := NB313_304.out; have hnc21 := NB304_313.out; have hcz22_0 : w19.cell? ⟨gb313, 0, none⟩ = some (.slice none 0 0) := (blk_cell BK313.out 0).trans rfl; have hcz22_1 : w19.cell? ⟨gb313, 1, none⟩ = some (.slice none 0 0) := (blk_cell BK313.out 1).trans rfl; have hfz22_0 := blk_frozen BK313.out 0; have hfz22_1 := blk_frozen BK313.out 1; obtain ⟨Ao23, co23, eo23⟩ := Kd.R_slice HO311.out; subst eo23; have hcz24_0 : w19.cell? ⟨gb304, 0, none⟩ = some (.slice Ao16 x305000_1.length co16) := (blk_cell BK304.out 0).trans rfl; have hcz24_1 : w19.cell? ⟨gb304, 1, none⟩ = some (.slice Ao17 x305001_1.length co17) := (blk_cell BK304.out 1).trans rfl; have hfz24_0 := blk_frozen BK304.out 0; have hfz24_1 := blk_frozen BK304.out 1))
              repeat (go_quiet (first | (go_at_call 44; (with_reducible refine (flongref04_escape.calls k1 (fun k_ => some k_ = (.slice Ao16 x305000_1.length co16 : Value).ownBlock) (.slice Ao16 x305000_1.length co16) x305000_1 (fun k_ => some k_ = (.slice Ao17 x305001_1.length co17 : Value).ownBlock) (.slice Ao17 x305001_1.length co17) x305001_1 _ _ t301 (wrap64 (x6_1 + 1)) t306 t309 t312 w _ ?side1 ?side2 ?side3 ?side4 ?side5 A13.out).mono ?_); (case side1 => repeat (first | (with_reducible first | exact HB.out | apply below_alloc | apply pw_below_drewN | apply below_drew1 | refine below_set ?_ GE304.out) | exact HB.out)); (case side2 => exact Kd.R_tight rfl HO_305000.out); (case side3 => exact Kd.R_tight rfl HO_305001.out); (case side4 => exact Kd.C_kept_own ((Kd.R_apart' (Kd.R_apart' HO_4.out (Kd.R_typed HO_305000.out) (by decide)) (Kd.R_typed HO_305001.out) (by decide))) (fun k_ hk_ hs_ => Or.elim hs_ (fun e_ => (hk_.1.2) e_) (fun e_ => (hk_.2) e_))); (case side5 => exact (Kd.R_reads' HO_4.out).2.1); rintro e w18 ⟨v307, v310, rfl, ho0, ho1, hb, hkp⟩; have n0_ := Aside0.mk (Kd.R_mono (ok' := fun k_ => True) (Kd.R_keptB ((Kd.R_apart' (Kd.R_apart' HO_4.out (Kd.R_typed HO_305000.out) (by decide)) (Kd.R_typed HO_305001.out) (by decide))) hkp (fun k_ hk_ hs_ => Or.elim hs_ (fun e_ => (hk_.1.2) e_) (fun e_ => (hk_.2) e_))) (fun k_ hk_ => trivial)); have n1_ := Aside0.mk (blk_kept (by (with_reducible repeat (first | refine blk_drewN ?_ _ | refine blk_drew ?_ | refine blk_alloc ?_ _)); exact BK304.out) hkp (fun hs_ => Or.elim hs_ (fun e_ => (fun e_ => (Kd.R_ne HO_305000.out BK304.out (by decide)) e_) e_) (fun e_ => (fun e_ => (Kd.R_ne HO_305001.out BK304.out (by decide)) e_) e_))); have n2_ := Aside0.mk (Kd.R_mono (ok' := fun k_ => True) ho0 (fun k_ hk_ => trivial)); have n3_ := Aside0.mk (Kd.R_mono (ok' := fun k_ => True) ho1 (fun k_ hk_ => trivial)); have n4_ := Aside0.mk (hb); clear HO_4; clear BK304; clear HB; clear HO_305000; clear HO_305001; have HO_4 := n0_; have BK304 := n1_; have HO308 := n2_; have HO311 := n3_; have HB := n4_; clear n0_ n1_ n2_ n3_ n4_; (try clear hb); (try clear hkp); (try clear ho0); (try clear ho1)) | ((with_reducible refine gate_dst (N := 8) rfl ?_); refine box_event ?hg (N := 8) ?hd (cs := #[.slice none 0 0, .slice none 0 0]) (t := 70) ?hr ?_; (case hd => rfl); (case hg => rfl); (case hr => first | (go_simp; done) | (go_simp; rfl)); intro gb313 hg w19 hbox hb; have n0_ := Aside0.mk (Kd.R_below (by (with_reducible repeat (first | apply Kd.R_alloc | apply Kd.R_drewN | apply Kd.R_drew)); exact HO_4.out) hb); have n1_ := Aside0.mk (Kd.R_below (by (with_reducible repeat (first | apply Kd.R_alloc | apply Kd.R_drewN | apply Kd.R_drew)); exact HO308.out) hb); have n2_ := Aside0.mk (Kd.R_below (by (with_reducible repeat (first | apply Kd.R_alloc | apply Kd.R_drewN | apply Kd.R_drew)); exact HO311.out) hb); have n3_ := Aside0.mk (blk_below (g := gb304) (o := .cells #[.slice Ao16 x305000_1.length co16, .slice Ao17 x305001_1.length co17] 70 (0, 0)) (by (with_reducible repeat (first | refine blk_drewN ?_ _ | refine blk_drew ?_ | refine blk_alloc ?_ _)); exact BK304.out) hb); have n4_ := Aside0.mk (below_step (by repeat (first | (with_reducible first | exact HB.out | apply below_alloc | apply pw_below_drewN | apply below_drew1 | refine below_set ?_ GE304.out) | exact HB.out)) hb); have n5_ := Aside0.mk (hbox); have n6_ := Aside0.mk ((by rw [hg]; exact (below_size (by repeat (first | (with_reducible first | exact HB.out | apply below_alloc | apply pw_below_drewN | apply below_drew1 | refine below_set ?_ GE304.out) | exact HB.out))) : w.heap.size ≤ gb313)); have n7_ := Aside0.mk ((by rw [hg]; exact (below_size (by repeat (first | (with_reducible first | exact HB.out | apply below_alloc | apply pw_below_drewN | apply below_drew1 | refine below_set ?_ GE304.out) | exact HB.out))) : w.heap.size ≤ gb313)); have n8_ := Aside0.mk ((by rw [hg]; exact Nat.ne_of_lt (blk_lt (g := gb304) (o := .cells #[.slice Ao16 x305000_1.length co16, .slice Ao17 x305001_1.length co17] 70 (0, 0)) (by (with_reducible repeat (first | refine blk_drewN ?_ _ | refine blk_drew ?_ | refine blk_alloc ?_ _)); exact BK304.out)) : gb304 ≠ gb313)); have n9_ := Aside0.mk ((by rw [hg]; exact Nat.ne_of_gt (blk_lt (g := gb304) (o := .cells #[.slice Ao16 x305000_1.length co16, .slice Ao17 x305001_1.length co17] 70 (0, 0)) (by (with_reducible repeat (first | refine blk_drewN ?_ _ | refine blk_drew ?_ | refine blk_alloc ?_ _)); exact BK304.out)) : gb313 ≠ gb304)); clear HO_4; clear HO308; clear HO311; clear BK304; clear HB; have HO_4 := n0_; have HO308 := n1_; have HO311 := n2_; have BK304 := n3_; have HB := n4_; have BK313 := n5_; have GW313 := n6_; have GE313 := n7_; have NB304_313 := n8_; have NB313_304 := n9_; clear n0_ n1_ n2_ n3_ n4_ n5_ n6_ n7_ n8_ n9_; clear hb hbox hg; obtain ⟨Ao20, co20, eo20⟩ := Kd.R_slice HO308.out; subst eo20; have hnb21 := NB313_304.out; have hnc21 := NB304_313.out; have hcz22_0 : w19.cell? ⟨gb313, 0, none⟩ = some (.slice none 0 0) := (blk_cell BK313.out 0).trans rfl; have hcz22_1 : w19.cell? ⟨gb313, 1, none⟩ = some (.slice none 0 0) := (blk_cell BK313.out 1).trans rfl; have hfz22_0 := blk_frozen BK313.out 0; have hfz22_1 := blk_frozen BK313.out 1; obtain ⟨Ao23, co23, eo23⟩ := Kd.R_slice HO311.out; subst eo23; have hcz24_0 : w19.cell? ⟨gb304, 0, none⟩ = some (.slice Ao16 x305000_1.length co16) := (blk_cell BK304.out 0).trans rfl; have hcz24_1 : w19.cell? ⟨gb304, 1, none⟩ = some (.slice Ao17 x305001_1.length co17) := (blk_cell BK304.out 1).trans rfl; have hfz24_0 := blk_frozen BK304.out 0; have hfz24_1 := blk_frozen BK304.out 1)); try go_wp2_with (first | (go_at_call 44; (with_reducible refine (flongref04_escape.calls k1 (fun k_ => some k_ = (.slice Ao16 x305000_1.length co16 : Value).ownBlock) (.slice Ao16 x305000_1.length co16) x305000_1 (fun k_ => some k_ = (.slice Ao17 x305001_1.length co17 : Value).ownBlock) (.slice Ao17 x305001_1.length co17) x305001_1 _ _ t301 (wrap64 (x6_1 + 1)) t306 t309 t312 w _ ?side1 ?side2 ?side3 ?side4 ?side5 A13.out).mono ?_); (case side1 => repeat (first | (with_reducible first | exact HB.out | apply below_alloc | apply pw_below_drewN | apply below_drew1 | refine below_set ?_ GE304.out) | exact HB.out)); (case side2 => exact Kd.R_tight rfl HO_305000.out); (case side3 => exact Kd.R_tight rfl HO_305001.out); (case side4 => exact Kd.C_kept_own ((Kd.R_apart' (Kd.R_apart' HO_4.out (Kd.R_typed HO_305000.out) (by decide)) (Kd.R_typed HO_305001.out) (by decide))) (fun k_ hk_ hs_ => Or.elim hs_ (fun e_ => (hk_.1.2) e_) (fun e_ => (hk_.2) e_))); (case side5 => exact (Kd.R_reads' HO_4.out).2.1); rintro e w18 ⟨v307, v310, rfl, ho0, ho1, hb, hkp⟩; have n0_ := Aside0.mk (Kd.R_mono (ok' := fun k_ => True) (Kd.R_keptB ((Kd.R_apart' (Kd.R_apart' HO_4.out (Kd.R_typed HO_305000.out) (by decide)) (Kd.R_typed HO_305001.out) (by decide))) hkp (fun k_ hk_ hs_ => Or.elim hs_ (fun e_ => (hk_.1.2) e_) (fun e_ => (hk_.2) e_))) (fun k_ hk_ => trivial)); have n1_ := Aside0.mk (blk_kept (by (with_reducible repeat (first | refine blk_drewN ?_ _ | refine blk_drew ?_ | refine blk_alloc ?_ _)); exact BK304.out) hkp (fun hs_ => Or.elim hs_ (fun e_ => (fun e_ => (Kd.R_ne HO_305000.out BK304.out (by decide)) e_) e_) (fun e_ => (fun e_ => (Kd.R_ne HO_305001.out BK304.out (by decide)) e_) e_))); have n2_ := Aside0.mk (Kd.R_mono (ok' := fun k_ => True) ho0 (fun k_ hk_ => trivial)); have n3_ := Aside0.mk (Kd.R_mono (ok' := fun k_ => True) ho1 (fun k_ hk_ => trivial)); have n4_ := Aside0.mk (hb); clear HO_4; clear BK304; clear HB; clear HO_305000; clear HO_305001; have HO_4 := n0_; have BK304 := n1_; have HO308 := n2_; have HO311 := n3_; have HB := n4_; clear n0_ n1_ n2_ n3_ n4_; (try clear hb); (try clear hkp); (try clear ho0); (try clear ho1)) | ((with_reducible refine gate_dst (N := 8) rfl ?_); refine box_event ?hg (N := 8) ?hd (cs := #[.slice none 0 0, .slice none 0 0]) (t := 70) ?hr ?_; (case hd => rfl); (case hg => rfl); (case hr => first | (go_simp; done) | (go_simp; rfl)); intro gb313 hg w19 hbox hb; have n0_ := Aside0.mk (Kd.R_below (by (with_reducible repeat (first | apply Kd.R_alloc | apply Kd.R_drewN | apply Kd.R_drew)); exact HO_4.out) hb); have n1_ := Aside0.mk (Kd.R_below (by (with_reducible repeat (first | apply Kd.R_alloc | apply Kd.R_drewN | apply Kd.R_drew)); exact HO308.out) hb); have n2_ := Aside0.mk (Kd.R_below (by (with_reducible repeat (first | apply Kd.R_alloc | apply Kd.R_drewN | apply Kd.R_drew)); exact HO311.out) hb); have n3_ := Aside0.mk (blk_below (g := gb304) (o := .cells #[.slice Ao16 x305000_1.length co16, .slice Ao17 x305001_1.length co17] 70 (0, 0)) (by (with_reducible repeat (first | refine blk_drewN ?_ _ | refine blk_drew ?_ | refine blk_alloc ?_ _)); exact BK304.out) hb); have n4_ := Aside0.mk (below_step (by repeat (first | (with_reducible first | exact HB.out | apply below_alloc | apply pw_below_drewN | apply below_drew1 | refine below_set ?_ GE304.out) | exact HB.out)) hb); have n5_ := Aside0.mk (hbox); have n6_ := Aside0.mk ((by rw [hg]; exact (below_size (by repeat (first | (with_reducible first | exact HB.out | apply below_alloc | apply pw_below_drewN | apply below_drew1 | refine below_set ?_ GE304.out) | exact HB.out))) : w.heap.size ≤ gb313)); have n7_ := Aside0.mk ((by rw [hg]; exact (below_size (by repeat (first | (with_reducible first | exact HB.out | apply below_alloc | apply pw_below_drewN | apply below_drew1 | refine below_set ?_ GE304.out) | exact HB.out))) : w.heap.size ≤ gb313)); have n8_ := Aside0.mk ((by rw [hg]; exact Nat.ne_of_lt (blk_lt (g := gb304) (o := .cells #[.slice Ao16 x305000_1.length co16, .slice Ao17 x305001_1.length co17] 70 (0, 0)) (by (with_reducible repeat (first | refine blk_drewN ?_ _ | refine blk_drew ?_ | refine blk_alloc ?_ _)); exact BK304.out)) : gb304 ≠ gb313)); have n9_ := Aside0.mk ((by rw [hg]; exact Nat.ne_of_gt (blk_lt (g := gb304) (o := .cells #[.slice Ao16 x305000_1.length co16, .slice Ao17 x305001_1.length co17] 70 (0, 0)) (by (with_reducible repeat (first | refine blk_drewN ?_ _ | refine blk_drew ?_ | refine blk_alloc ?_ _)); exact BK304.out)) : gb313 ≠ gb304)); clear HO_4; clear HO308; clear HO311; clear BK304; clear HB; have HO_4 := n0_; have HO308 := n1_; have HO311 := n2_; have BK304 := n3_; have HB := n4_; have BK313 := n5_; have GW313 := n6_; have GE313 := n7_; have NB304_313 := n8_; have NB313_304 := n9_; clear n0_ n1_ n2_ n3_ n4_ n5_ n6_ n7_ n8_ n9_; clear hb hbox hg; obtain ⟨Ao20, co20, eo20⟩ := Kd.R_slice HO308.out; subst eo20; have hnb21 := NB313_304.out; have hnc21 := NB304_313.out; have hcz22_0 : w19.cell? ⟨gb313, 0, none⟩ = some (.slice none 0 0) := (blk_cell BK313.out 0).trans rfl; have hcz22_1 : w19.cell? ⟨gb313, 1, none⟩ = some (.slice none 0 0) := (blk_cell BK313.out 1).trans rfl; have hfz22_0 := blk_frozen BK313.out 0; have hfz22_1 := blk_frozen BK313.out 1; obtain ⟨Ao23, co23, eo23⟩ := Kd.R_slice HO311.out; subst eo23; have hcz24_0 : w19.cell? ⟨gb304, 0, none⟩ = some (.slice Ao16 x305000_1.length co16) := (blk_cell BK304.out 0).trans rfl; have hcz24_1 : w19.cell? ⟨gb304, 1, none⟩ = some (.slice Ao17 x305001_1.length co17) := (blk_cell BK304.out 1).trans rfl; have hfz24_0 := blk_frozen BK304.out 0; have hfz24_1 := blk_frozen BK304.out 1)))
              go_roundg k1
              case measure => have := HK1.out; omega
              case rel => exact ⟨(t312), (t306), (t309), (.slice Ao20 t306.length co20), (.slice Ao23 t309.length co23), (by first | rfl | (simp; done) | (simp [*]; done)), H', ⟨by have := HK1.out; omega⟩, ⟨by (with_reducible repeat (first | apply Kd.R_alloc | apply Kd.R_drewN | apply Kd.R_drew)); exact Kd.R_mono (Kd.R_far (p := ⟨gb304, 1, none⟩) (Kd.R_far (p := ⟨gb304, 0, none⟩) (Kd.R_far (p := ⟨gb313, 1, none⟩) (Kd.R_far (p := ⟨gb313, 0, none⟩) (Kd.R_types (Kd.R_types HO_4.out BK313.out (by decide)) BK304.out (by decide)) (fun _ hk => hk.1.2) (.slice Ao20 t306.length co20)) (fun _ hk => hk.1.2) (.slice Ao23 t309.length co23)) (fun _ hk => hk.2) (.slice Ao20 t306.length co20)) (fun _ hk => hk.2) (.slice Ao23 t309.length co23)) (fun _ hk => trivial)⟩, ⟨by (with_reducible repeat (first | apply Kd.R_alloc | apply Kd.R_drewN | apply Kd.R_drew)); exact Kd.R_mono (Kd.R_far (p := ⟨gb304, 1, none⟩) (Kd.R_far (p := ⟨gb304, 0, none⟩) (Kd.R_far (p := ⟨gb313, 1, none⟩) (Kd.R_far (p := ⟨gb313, 0, none⟩) (Kd.R_types (Kd.R_types HO308.out BK313.out (by decide)) BK304.out (by decide)) (fun _ hk => hk.1.2) (.slice Ao20 t306.length co20)) (fun _ hk => hk.1.2) (.slice Ao23 t309.length co23)) (fun _ hk => hk.2) (.slice Ao20 t306.length co20)) (fun _ hk => hk.2) (.slice Ao23 t309.length co23)) (fun _ hk => trivial)⟩, ⟨by (with_reducible repeat (first | apply Kd.R_alloc | apply Kd.R_drewN | apply Kd.R_drew)); exact Kd.R_mono (Kd.R_far (p := ⟨gb304, 1, none⟩) (Kd.R_far (p := ⟨gb304, 0, none⟩) (Kd.R_far (p := ⟨gb313, 1, none⟩) (Kd.R_far (p := ⟨gb313, 0, none⟩) (Kd.R_types (Kd.R_types HO311.out BK313.out (by decide)) BK304.out (by decide)) (fun _ hk => hk.1.2) (.slice Ao20 t306.length co20)) (fun _ hk => hk.1.2) (.slice Ao23 t309.length co23)) (fun _ hk => hk.2) (.slice Ao20 t306.length co20)) (fun _ hk => hk.2) (.slice Ao23 t309.length co23)) (fun _ hk => trivial)⟩, ⟨by (with_reducible repeat (first | refine blk_drewN ?_ _ | refine blk_drew ?_ | refine blk_alloc ?_ _)); refine blk_put (cs := #[.slice Ao20 t306.length co20, .slice Ao17 x305001_1.length co17]) ?_ 1 _ rfl; (with_reducible repeat (first | refine blk_drewN ?_ _ | refine blk_drew ?_ | refine blk_alloc ?_ _)); refine blk_put (cs := #[.slice Ao16 x305000_1.length co16, .slice Ao17 x305001_1.length co17]) ?_ 0 _ rfl; (with_reducible repeat (first | refine blk_drewN ?_ _ | refine blk_drew ?_ | refine blk_alloc ?_ _)); refine blk_far ?_ NB304_313.out _; (with_reducible repeat (first | refine blk_drewN ?_ _ | refine blk_drew ?_ | refine blk_alloc ?_ _)); refine blk_far ?_ NB304_313.out _; (with_reducible repeat (first | refine blk_drewN ?_ _ | refine blk_drew ?_ | refine blk_alloc ?_ _)); exact BK304.out⟩, ⟨by repeat (first | (with_reducible first | exact HB.out | apply below_alloc | apply pw_below_drewN | apply below_drew1 | refine below_set ?_ GE304.out | refine below_set ?_ GE313.out) | exact HB.out)⟩⟩
            · rw [if_neg c12] at H
              have c12b0 : ((rd t301 x6_1) == 92) = false := beq_eq_false_iff_ne.mpr c12
              have c12b1 : ((rd t301 x6_1) != 92) = true := bne_iff_ne.mpr c12
              have HC25 := Aside0.mk H
              clear H
              obtain ⟨Ao26, co26, eo26⟩ := Kd.R_slice HO_4.out
              subst eo26
              have p305 : 0 ≤ (x6_1 : Int) := of_decide_eq_true (by first | (with_reducible assumption) | assumption)
              have q305 : x6_1 < (t301.length : Int) := of_decide_eq_true (by first | (with_reducible assumption) | assumption)
              obtain ⟨ad305, e305, hx305_0⟩ := Kd.at_int (Kd.R_reads' HO_4.out).2.2 x6_1 p305 q305
              cases e305
              replace p305 := eq_true p305
              replace q305 := eq_true q305
              go_upto_region 10 with (fail)
              repeat (go_quiet (fail); go_upto_region 10 with (fail))
              go_cut [39] (fun v39 wc => ∃ (kq : Nat) (x39_24 : Bool), v39 = .bool x39_24 ∧ Aside0 (flongref04_Scan.j1 kq t301 x6_1 (rd t301 x6_1) x39_24 x305000_1 x305001_1 = some (r1, r2)) ∧ Aside0 (kq ≤ k1) ∧ Aside0 (Kd.R (Kd.int .i32) 21 wc w.heap.size (fun _ => True) (.slice (some ad305) t301.length co26) t301) ∧ Aside0 (Kd.R k38 38 wc w.heap.size (fun _ => True) u305000 x305000_1) ∧ Aside0 (Kd.R k41 41 wc w.heap.size (fun _ => True) u305001 x305001_1) ∧ Aside0 (wc.heap[gb304]? = some (.cells #[u305000, u305001] 70 (0, 0))) ∧ Aside0 (Below w.heap.size w wc))
              case first =>
                have H := HC25.out
                clear HC25
                by_cases c27 : (rd t301 x6_1) = 32
                · rw [if_pos c27] at H
                  have c27b0 : ((rd t301 x6_1) == 32) = true := beq_iff_eq.mpr c27
                  have c27b1 : ((rd t301 x6_1) != 32) = false := bne_eq_false_iff_eq.mpr c27
                  clear c27
                  (first | rw [c27b0] | (simp only [i64_w, i32_w]; rw [c27b0]) | skip)
                  have H' := Aside0.mk H
                  clear H
                  go_wp2
                  repeat (go_quiet (fail); try go_wp2)
                  go_meet
                  case rel => exact ⟨_, (true), (by first | rfl | (simp; done) | (simp [*]; done)), H', ⟨by have := HK1.out; first | omega | exact Nat.le_refl _⟩, ⟨by (with_reducible repeat (first | apply Kd.R_alloc | apply Kd.R_drewN | apply Kd.R_drew)); exact HO_4.out⟩, ⟨by (with_reducible repeat (first | apply Kd.R_alloc | apply Kd.R_drewN | apply Kd.R_drew)); exact HO_305000.out⟩, ⟨by (with_reducible repeat (first | apply Kd.R_alloc | apply Kd.R_drewN | apply Kd.R_drew)); exact HO_305001.out⟩, ⟨by (with_reducible repeat (first | refine blk_drewN ?_ _ | refine blk_drew ?_ | refine blk_alloc ?_ _)); exact BK304.out⟩, ⟨by repeat (first | (with_reducible first | exact HB.out | apply below_alloc | apply pw_below_drewN | apply below_drew1 | refine below_set ?_ GE304.out) | exact HB.out)⟩⟩
                · rw [if_neg c27] at H
                  have c27b0 : ((rd t301 x6_1) == 32) = false := beq_eq_false_iff_ne.mpr c27
                  have c27b1 : ((rd t301 x6_1) != 32) = true := bne_iff_ne.mpr c27
                  (first | rw [c27b0] | (simp only [i64_w, i32_w]; rw [c27b0]) | skip)
                  have H' := Aside0.mk H
                  clear H
                  go_wp2
                  repeat (go_quiet (fail); try go_wp2)
                  go_meet
                  case rel => exact ⟨_, (((rd t301 x6_1) == 9)), (by first | rfl | (simp; done) | (simp [*]; done)), H', ⟨by have := HK1.out; first | omega | exact Nat.le_refl _⟩, ⟨by (with_reducible repeat (first | apply Kd.R_alloc | apply Kd.R_drewN | apply Kd.R_drew)); exact HO_4.out⟩, ⟨by (with_reducible repeat (first | apply Kd.R_alloc | apply Kd.R_drewN | apply Kd.R_drew)); exact HO_305000.out⟩, ⟨by (with_reducible repeat (first | apply Kd.R_alloc | apply Kd.R_drewN | apply Kd.R_drew)); exact HO_305001.out⟩, ⟨by (with_reducible repeat (first | refine blk_drewN ?_ _ | refine blk_drew ?_ | refine blk_alloc ?_ _)); exact BK304.out⟩, ⟨by repeat (first | (with_reducible first | exact HB.out | apply below_alloc | apply pw_below_drewN | apply below_drew1 | refine below_set ?_ GE304.out) | exact HB.out)⟩⟩
              case rest =>
                clear HC25
                try clear c1
                try clear c2
                try clear c2b0
                try clear c2b1
                try clear c2b2
                try clear p2
                try clear p3
                try clear q3
                try clear hx3
                try clear p6
                try clear c10
                try clear c10b0
                try clear c11
                try clear c11b0
                try clear c12
                try clear c12b0
                try clear c12b1
                try clear c16
                try clear c21
                try clear c27
                try clear c27b0
                try clear c27b1
                try clear hcz15_0
                try clear hcz15_1
                try clear hcz22_0
                try clear hcz22_1
                try clear hcz24_0
                try clear hcz24_1
                try clear hcz9_0
                try clear hcz9_1
                try clear hfz15_0
                try clear hfz15_1
                try clear hfz22_0
                try clear hfz22_1
                try clear hfz24_0
                try clear hfz24_1
                try clear hfz9_0
                try clear hfz9_1
                try clear hx305_0
                try clear p2
                try clear p305
                try clear q305
                obtain ⟨kq, x39_24, rfl, HA, HJ24, HO_4, HO_305000, HO_305001, BK304, HB⟩ := hcut
                cases kq with
                | zero => exact absurd HA.out (by simp [flongref04_Scan.j1])
                | succ kj24 =>
                  have H := HA.out
                  clear HA
                  simp only [flongref04_Scan.j1] at H
                  by_cases c28 : x39_24 = true
                  · subst c28
                    have H1 : ((flongref04_say.f x305000_1 x305001_1 2 0).bind fun bt314 => (flongref04_Scan.l0 kj24 t301 (wrap64 (x6_1 + 1)) bt314.1 bt314.2)) = some (r1, r2) := by rw [if_pos rfl] at H; exact H
                    clear H
                    have H := H1
                    clear H1
                    replace H := Option.bind_eq_some_iff.mp H
                    obtain ⟨⟨t314, t317⟩, A290, H⟩ := H
                    replace H : (flongref04_Scan.l0 kj24 t301 (wrap64 (x6_1 + 1)) t314 t317) = some (r1, r2) := H
                    have A29 := Aside0.mk A290
                    clear A290
                    have H' := Aside0.mk H
                    clear H
                    have hcz30_0 : wc.cell? ⟨gb304, 0, none⟩ = some (u305000) := (blk_cell BK304.out 0).trans rfl
                    have hcz30_1 : wc.cell? ⟨gb304, 1, none⟩ = some (u305001) := (blk_cell BK304.out 1).trans rfl
                    have hfz30_0 := blk_frozen BK304.out 0
                    have hfz30_1 := blk_frozen BK304.out 1
                    obtain ⟨Ao31, co31, eo31⟩ := Kd.R_slice HO_305000.out
                    subst eo31
                    obtain ⟨Ao32, co32, eo32⟩ := Kd.R_slice HO_305001.out
                    subst eo32
                    go_wp2_with (first | (go_at_call 45; (with_reducible refine (flongref04_say.calls (fun k_ => some k_ = (.slice Ao31 x305000_1.length co31 : Value).ownBlock) (.slice Ao31 x305000_1.length co31) x305000_1 (fun k_ => some k_ = (.slice Ao32 x305001_1.length co32 : Value).ownBlock) (.slice Ao32 x305001_1.length co32) x305001_1 2 0 t314 t317 w _ ?side1 ?side2 ?side3 A29.out).mono ?_); (case side1 => repeat (first | (with_reducible first | exact HB.out | apply below_alloc | apply pw_below_drewN | apply below_drew1 | refine below_set ?_ GE304.out) | exact HB.out)); (case side2 => exact Kd.R_tight rfl HO_305000.out); (case side3 => exact Kd.R_tight rfl HO_305001.out); rintro e w33 ⟨v315, v318, rfl, ho0, ho1, hb, hkp⟩; have n0_ := Aside0.mk (Kd.R_mono (ok' := fun k_ => True) (Kd.R_keptB ((Kd.R_apart' (Kd.R_apart' HO_4.out (Kd.R_typed HO_305000.out) (by decide)) (Kd.R_typed HO_305001.out) (by decide))) hkp (fun k_ hk_ hs_ => Or.elim hs_ (fun e_ => (hk_.1.2) e_) (fun e_ => (hk_.2) e_))) (fun k_ hk_ => trivial)); have n1_ := Aside0.mk (blk_kept (by (with_reducible repeat (first | refine blk_drewN ?_ _ | refine blk_drew ?_ | refine blk_alloc ?_ _)); exact BK304.out) hkp (fun hs_ => Or.elim hs_ (fun e_ => (fun e_ => (Kd.R_ne HO_305000.out BK304.out (by decide)) e_) e_) (fun e_ => (fun e_ => (Kd.R_ne HO_305001.out BK304.out (by decide)) e_) e_))); have n2_ := Aside0.mk (Kd.R_mono (ok' := fun k_ => True) ho0 (fun k_ hk_ => trivial)); have n3_ := Aside0.mk (Kd.R_mono (ok' := fun k_ => True) ho1 (fun k_ hk_ => trivial)); have n4_ := Aside0.mk (hb); clear HO_4; clear BK304; clear HB; clear HO_305000; clear HO_305001; have HO_4 := n0_; have BK304 := n1_; have HO316 := n2_; have HO319 := n3_; have HB := n4_; clear n0_ n1_ n2_ n3_ n4_; (try clear hb); (try clear hkp); (try clear ho0); (try clear ho1); obtain ⟨Ao34, co34, eo34⟩ := Kd.R_slice HO316.out; subst eo34; have hcz35_0 : w33.cell? ⟨gb304, 0, none⟩ = some (.slice Ao31 x305000_1.length co31) := (blk_cell BK304.out 0).trans rfl; have hcz35_1 : w33.cell? ⟨gb304, 1, none⟩ = some (.slice Ao32 x305001_1.length co32) := (blk_cell BK304.out 1).trans rfl; have hfz35_0 := blk_frozen BK304.out 0; have hfz35_1 := blk_frozen BK304.out 1; obtain ⟨Ao36, co36, eo36⟩ := Kd.R_slice HO319.out; subst eo36))
                    repeat (go_quiet (first | (go_at_call 45; (with_reducible refine (flongref04_say.calls (fun k_ => some k_ = (.slice Ao31 x305000_1.length co31 : Value).ownBlock) (.slice Ao31 x305000_1.length co31) x305000_1 (fun k_ => some k_ = (.slice Ao32 x305001_1.length co32 : Value).ownBlock) (.slice Ao32 x305001_1.length co32) x305001_1 2 0 t314 t317 w _ ?side1 ?side2 ?side3 A29.out).mono ?_); (case side1 => repeat (first | (with_reducible first | exact HB.out | apply below_alloc | apply pw_below_drewN | apply below_drew1 | refine below_set ?_ GE304.out) | exact HB.out)); (case side2 => exact Kd.R_tight rfl HO_305000.out); (case side3 => exact Kd.R_tight rfl HO_305001.out); rintro e w33 ⟨v315, v318, rfl, ho0, ho1, hb, hkp⟩; have n0_ := Aside0.mk (Kd.R_mono (ok' := fun k_ => True) (Kd.R_keptB ((Kd.R_apart' (Kd.R_apart' HO_4.out (Kd.R_typed HO_305000.out) (by decide)) (Kd.R_typed HO_305001.out) (by decide))) hkp (fun k_ hk_ hs_ => Or.elim hs_ (fun e_ => (hk_.1.2) e_) (fun e_ => (hk_.2) e_))) (fun k_ hk_ => trivial)); have n1_ := Aside0.mk (blk_kept (by (with_reducible repeat (first | refine blk_drewN ?_ _ | refine blk_drew ?_ | refine blk_alloc ?_ _)); exact BK304.out) hkp (fun hs_ => Or.elim hs_ (fun e_ => (fun e_ => (Kd.R_ne HO_305000.out BK304.out (by decide)) e_) e_) (fun e_ => (fun e_ => (Kd.R_ne HO_305001.out BK304.out (by decide)) e_) e_))); have n2_ := Aside0.mk (Kd.R_mono (ok' := fun k_ => True) ho0 (fun k_ hk_ => trivial)); have n3_ := Aside0.mk (Kd.R_mono (ok' := fun k_ => True) ho1 (fun k_ hk_ => trivial)); have n4_ := Aside0.mk (hb); clear HO_4; clear BK304; clear HB; clear HO_305000; clear HO_305001; have HO_4 := n0_; have BK304 := n1_; have HO316 := n2_; have HO319 := n3_; have HB := n4_; clear n0_ n1_ n2_ n3_ n4_; (try clear hb); (try clear hkp); (try clear ho0); (try clear ho1); obtain ⟨Ao34, co34, eo34⟩ := Kd.R_slice HO316.out; subst eo34; have hcz35_0 : w33.cell? ⟨gb304, 0, none⟩ = some (.slice Ao31 x305000_1.length co31) := (blk_cell BK304.out 0).trans rfl; have hcz35_1 : w33.cell? ⟨gb304, 1, none⟩ = some (.slice Ao32 x305001_1.length co32) := (blk_cell BK304.out 1).trans rfl; have hfz35_0 := blk_frozen BK304.out 0; have hfz35_1 := blk_frozen BK304.out 1; obtain ⟨Ao36, co36, eo36⟩ := Kd.R_slice HO319.out; subst eo36)); try go_wp2_with (first | (go_at_call 45; (with_reducible refine (flongref04_say.calls (fun k_ => some k_ = (.slice Ao31 x305000_1.length co31 : Value).ownBlock) (.slice Ao31 x305000_1.length co31) x305000_1 (fun k_ => some k_ = (.slice Ao32 x305001_1.length co32 : Value).ownBlock) (.slice Ao32 x305001_1.length co32) x305001_1 2 0 t314 t317 w _ ?side1 ?side2 ?side3 A29.out).mono ?_); (case side1 => repeat (first | (with_reducible first | exact HB.out | apply below_alloc | apply pw_below_drewN | apply below_drew1 | refine below_set ?_ GE304.out) | exact HB.out)); (case side2 => exact Kd.R_tight rfl HO_305000.out); (case side3 => exact Kd.R_tight rfl HO_305001.out); rintro e w33 ⟨v315, v318, rfl, ho0, ho1, hb, hkp⟩; have n0_ := Aside0.mk (Kd.R_mono (ok' := fun k_ => True) (Kd.R_keptB ((Kd.R_apart' (Kd.R_apart' HO_4.out (Kd.R_typed HO_305000.out) (by decide)) (Kd.R_typed HO_305001.out) (by decide))) hkp (fun k_ hk_ hs_ => Or.elim hs_ (fun e_ => (hk_.1.2) e_) (fun e_ => (hk_.2) e_))) (fun k_ hk_ => trivial)); have n1_ := Aside0.mk (blk_kept (by (with_reducible repeat (first | refine blk_drewN ?_ _ | refine blk_drew ?_ | refine blk_alloc ?_ _)); exact BK304.out) hkp (fun hs_ => Or.elim hs_ (fun e_ => (fun e_ => (Kd.R_ne HO_305000.out BK304.out (by decide)) e_) e_) (fun e_ => (fun e_ => (Kd.R_ne HO_305001.out BK304.out (by decide)) e_) e_))); have n2_ := Aside0.mk (Kd.R_mono (ok' := fun k_ => True) ho0 (fun k_ hk_ => trivial)); have n3_ := Aside0.mk (Kd.R_mono (ok' := fun k_ => True) ho1 (fun k_ hk_ => trivial)); have n4_ := Aside0.mk (hb); clear HO_4; clear BK304; clear HB; clear HO_305000; clear HO_305001; have HO_4 := n0_; have BK304 := n1_; have HO316 := n2_; have HO319 := n3_; have HB := n4_; clear n0_ n1_ n2_ n3_ n4_; (try clear hb); (try clear hkp); (try clear ho0); (try clear ho1); obtain ⟨Ao34, co34, eo34⟩ := Kd.R_slice HO316.out; subst eo34; have hcz35_0 : w33.cell? ⟨gb304, 0, none⟩ = some (.slice Ao31 x305000_1.length co31) := (blk_cell BK304.out 0).trans rfl; have hcz35_1 : w33.cell? ⟨gb304, 1, none⟩ = some (.slice Ao32 x305001_1.length co32) := (blk_cell BK304.out 1).trans rfl; have hfz35_0 := blk_frozen BK304.out 0; have hfz35_1 := blk_frozen BK304.out 1; obtain ⟨Ao36, co36, eo36⟩ := Kd.R_slice HO319.out; subst eo36)))
                    go_roundg kj24
                    case measure => have := HK1.out; have := HJ24.out; omega
                    case rel => exact ⟨(wrap64 (x6_1 + 1)), (t314), (t317), (.slice Ao34 t314.length co34), (.slice Ao36 t317.length co36), (by first | rfl | (simp; done) | (simp [*]; done)), H', ⟨by have := HK1.out; have := HJ24.out; omega⟩, ⟨by (with_reducible repeat (first | apply Kd.R_alloc | apply Kd.R_drewN | apply Kd.R_drew)); exact Kd.R_mono (Kd.R_far (p := ⟨gb304, 1, none⟩) (Kd.R_far (p := ⟨gb304, 0, none⟩) (Kd.R_types HO_4.out BK304.out (by decide)) (fun _ hk => hk.2) (.slice Ao34 t314.length co34)) (fun _ hk => hk.2) (.slice Ao36 t317.length co36)) (fun _ hk => trivial)⟩, ⟨by (with_reducible repeat (first | apply Kd.R_alloc | apply Kd.R_drewN | apply Kd.R_drew)); exact Kd.R_mono (Kd.R_far (p := ⟨gb304, 1, none⟩) (Kd.R_far (p := ⟨gb304, 0, none⟩) (Kd.R_types HO316.out BK304.out (by decide)) (fun _ hk => hk.2) (.slice Ao34 t314.length co34)) (fun _ hk => hk.2) (.slice Ao36 t317.length co36)) (fun _ hk => trivial)⟩, ⟨by (with_reducible repeat (first | apply Kd.R_alloc | apply Kd.R_drewN | apply Kd.R_drew)); exact Kd.R_mono (Kd.R_far (p := ⟨gb304, 1, none⟩) (Kd.R_far (p := ⟨gb304, 0, none⟩) (Kd.R_types HO319.out BK304.out (by decide)) (fun _ hk => hk.2) (.slice Ao34 t314.length co34)) (fun _ hk => hk.2) (.slice Ao36 t317.length co36)) (fun _ hk => trivial)⟩, ⟨by (with_reducible repeat (first | refine blk_drewN ?_ _ | refine blk_drew ?_ | refine blk_alloc ?_ _)); refine blk_put (cs := #[.slice Ao34 t314.length co34, .slice Ao32 x305001_1.length co32]) ?_ 1 _ rfl; (with_reducible repeat (first | refine blk_drewN ?_ _ | refine blk_drew ?_ | refine blk_alloc ?_ _)); refine blk_put (cs := #[.slice Ao31 x305000_1.length co31, .slice Ao32 x305001_1.length co32]) ?_ 0 _ rfl; (with_reducible repeat (first | refine blk_drewN ?_ _ | refine blk_drew ?_ | refine blk_alloc ?_ _)); exact BK304.out⟩, ⟨by repeat (first | (with_reducible first | exact HB.out | apply below_alloc | apply pw_below_drewN | apply below_drew1 | refine below_set ?_ GE304.out) | exact HB.out)⟩⟩
                  · replace c28 := Bool.eq_false_iff.mpr c28
                    subst c28
                    have H1 : ((flongref02_Control.f (rd t301 x6_1)).bind fun t320 => (if t320 = true then ((flongref04_say.f x305000_1 x305001_1 1 65533).bind fun bt321 => ((flongref04_tell.f bt321.1 bt321.2 3 x6_1).bind fun bt327 => (flongref04_Scan.l0 kj24 t301 (wrap64 (x6_1 + 1)) bt327.1 bt327.2))) else ((flongref04_say.f x305000_1 x305001_1 1 (rd t301 x6_1)).bind fun bt333 => (flongref04_Scan.l0 kj24 t301 (wrap64 (x6_1 + 1)) bt333.1 bt333.2)))) = some (r1, r2) := by rw [if_neg (show ¬ (false = true) by decide)] at H; exact H
                    clear H
                    have H := H1
                    clear H1
                    replace H := Option.bind_eq_some_iff.mp H
                    obtain ⟨t320, A370, H⟩ := H
                    replace H : (if t320 = true then ((flongref04_say.f x305000_1 x305001_1 1 65533).bind fun bt321 => ((flongref04_tell.f bt321.1 bt321.2 3 x6_1).bind fun bt327 => (flongref04_Scan.l0 kj24 t301 (wrap64 (x6_1 + 1)) bt327.1 bt327.2))) else ((flongref04_say.f x305000_1 x305001_1 1 (rd t301 x6_1)).bind fun bt333 => (flongref04_Scan.l0 kj24 t301 (wrap64 (x6_1 + 1)) bt333.1 bt333.2))) = some (r1, r2) := H
                    have A37 := Aside0.mk A370
                    clear A370
                    by_cases c38 : t320 = true
                    · subst c38
                      have H1 : ((flongref04_say.f x305000_1 x305001_1 1 65533).bind fun bt321 => ((flongref04_tell.f bt321.1 bt321.2 3 x6_1).bind fun bt327 => (flongref04_Scan.l0 kj24 t301 (wrap64 (x6_1 + 1)) bt327.1 bt327.2))) = some (r1, r2) := by rw [if_pos rfl] at H; exact H
                      clear H
                      have H := H1
                      clear H1
                      replace H := Option.bind_eq_some_iff.mp H
                      obtain ⟨⟨t321, t324⟩, A390, H⟩ := H
                      replace H : ((flongref04_tell.f t321 t324 3 x6_1).bind fun bt327 => (flongref04_Scan.l0 kj24 t301 (wrap64 (x6_1 + 1)) bt327.1 bt327.2)) = some (r1, r2) := H
                      have A39 := Aside0.mk A390
                      clear A390
                      replace H := Option.bind_eq_some_iff.mp H
                      obtain ⟨⟨t327, t330⟩, A400, H⟩ := H
                      replace H : (flongref04_Scan.l0 kj24 t301 (wrap64 (x6_1 + 1)) t327 t330) = some (r1, r2) := H
                      have A40 := Aside0.mk A400
                      clear A400
                      have H' := Aside0.mk H
                      clear H
                      go_wp2_with (first | (go_at_call 27; (with_reducible refine (flongref02_Control.calls (rd t301 x6_1) true _ A37.out).mono ?_); rintro e w' ⟨rfl, ⟨nd, rfl⟩⟩; (try first | exact ⟨rfl, _, World.drewN_drewN _ _ _⟩ | exact ⟨rfl, _, Eq.trans (World.drewN_drewN _ _ _) (congrArg (World.drewN _) (Nat.add_assoc _ _ _))⟩); have hcz41_0 : wc.cell? ⟨gb304, 0, none⟩ = some (u305000) := (blk_cell BK304.out 0).trans rfl; have hcz41_1 : wc.cell? ⟨gb304, 1, none⟩ = some (u305001) := (blk_cell BK304.out 1).trans rfl; have hfz41_0 := blk_frozen BK304.out 0; have hfz41_1 := blk_frozen BK304.out 1; obtain ⟨Ao42, co42, eo42⟩ := Kd.R_slice HO_305000.out; subst eo42; obtain ⟨Ao43, co43, eo43⟩ := Kd.R_slice HO_305001.out; subst eo43) | (go_at_call 45; (with_reducible refine (flongref04_say.calls (fun k_ => some k_ = (.slice Ao42 x305000_1.length co42 : Value).ownBlock) (.slice Ao42 x305000_1.length co42) x305000_1 (fun k_ => some k_ = (.slice Ao43 x305001_1.length co43 : Value).ownBlock) (.slice Ao43 x305001_1.length co43) x305001_1 1 65533 t321 t324 w _ ?side1 ?side2 ?side3 A39.out).mono ?_); (case side1 => repeat (first | (with_reducible first | exact HB.out | apply below_alloc | apply pw_below_drewN | apply below_drew1 | refine below_set ?_ GE304.out) | exact HB.out)); (case side2 => exact Kd.R_tight rfl HO_305000.out); (case side3 => exact Kd.R_tight rfl HO_305001.out); rintro e w44 ⟨v322, v325, rfl, ho0, ho1, hb, hkp⟩; have n0_ := Aside0.mk (Kd.R_mono (ok' := fun k_ => True) (Kd.R_keptB ((Kd.R_apart' (Kd.R_apart' HO_4.out (Kd.R_typed HO_305000.out) (by decide)) (Kd.R_typed HO_305001.out) (by decide))) hkp (fun k_ hk_ hs_ => Or.elim hs_ (fun e_ => (hk_.1.2) e_) (fun e_ => (hk_.2) e_))) (fun k_ hk_ => trivial)); have n1_ := Aside0.mk (blk_kept (by (with_reducible repeat (first | refine blk_drewN ?_ _ | refine blk_drew ?_ | refine blk_alloc ?_ _)); exact BK304.out) hkp (fun hs_ => Or.elim hs_ (fun e_ => (fun e_ => (Kd.R_ne HO_305000.out BK304.out (by decide)) e_) e_) (fun e_ => (fun e_ => (Kd.R_ne HO_305001.out BK304.out (by decide)) e_) e_))); have n2_ := Aside0.mk (Kd.R_mono (ok' := fun k_ => True) ho0 (fun k_ hk_ => trivial)); have n3_ := Aside0.mk (Kd.R_mono (ok' := fun k_ => True) ho1 (fun k_ hk_ => trivial)); have n4_ := Aside0.mk (hb); clear HO_4; clear BK304; clear HB; clear HO_305000; clear HO_305001; have HO_4 := n0_; have BK304 := n1_; have HO323 := n2_; have HO326 := n3_; have HB := n4_; clear n0_ n1_ n2_ n3_ n4_; (try clear hb); (try clear hkp); (try clear ho0); (try clear ho1); obtain ⟨Ao45, co45, eo45⟩ := Kd.R_slice HO323.out; subst eo45; obtain ⟨Ao46, co46, eo46⟩ := Kd.R_slice HO326.out; subst eo46) | (go_at_call 46; (with_reducible refine (flongref04_tell.calls (fun k_ => some k_ = (.slice Ao45 t321.length co45 : Value).ownBlock) (.slice Ao45 t321.length co45) t321 (fun k_ => some k_ = (.slice Ao46 t324.length co46 : Value).ownBlock) (.slice Ao46 t324.length co46) t324 3 x6_1 t327 t330 w _ ?side1 ?side2 ?side3 A40.out).mono ?_); (case side1 => repeat (first | (with_reducible first | exact HB.out | apply below_alloc | apply pw_below_drewN | apply below_drew1 | refine below_set ?_ GE304.out) | exact HB.out)); (case side2 => exact Kd.R_tight rfl HO323.out); (case side3 => exact Kd.R_tight rfl HO326.out); rintro e w47 ⟨v328, v331, rfl, ho0, ho1, hb, hkp⟩; have n0_ := Aside0.mk (Kd.R_mono (ok' := fun k_ => True) (Kd.R_keptB ((Kd.R_apart' (Kd.R_apart' HO_4.out (Kd.R_typed HO323.out) (by decide)) (Kd.R_typed HO326.out) (by decide))) hkp (fun k_ hk_ hs_ => Or.elim hs_ (fun e_ => (hk_.1.2) e_) (fun e_ => (hk_.2) e_))) (fun k_ hk_ => trivial)); have n1_ := Aside0.mk (blk_kept (by (with_reducible repeat (first | refine blk_drewN ?_ _ | refine blk_drew ?_ | refine blk_alloc ?_ _)); exact BK304.out) hkp (fun hs_ => Or.elim hs_ (fun e_ => (fun e_ => (Kd.R_ne HO323.out BK304.out (by decide)) e_) e_) (fun e_ => (fun e_ => (Kd.R_ne HO326.out BK304.out (by decide)) e_) e_))); have n2_ := Aside0.mk (Kd.R_mono (ok' := fun k_ => True) ho0 (fun k_ hk_ => trivial)); have n3_ := Aside0.mk (Kd.R_mono (ok' := fun k_ => True) ho1 (fun k_ hk_ => trivial)); have n4_ := Aside0.mk (hb); clear HO_4; clear BK304; clear HB; clear HO323; clear HO326; have HO_4 := n0_; have BK304 := n1_; have HO329 := n2_; have HO332 := n3_; have HB := n4_; clear n0_ n1_ n2_ n3_ n4_; (try clear hb); (try clear hkp); (try clear ho0); (try clear ho1); obtain ⟨Ao48, co48, eo48⟩ := Kd.R_slice HO329.out; subst eo48; have hcz49_0 : w47.cell? ⟨gb304, 0, none⟩ = some (.slice Ao42 x305000_1.length co42) := (blk_cell BK304.out 0).trans rfl; have hcz49_1 : w47.cell? ⟨gb304, 1, none⟩ = some (.slice Ao43 x305001_1.length co43) := (blk_cell BK304.out 1).trans rfl; have hfz49_0 := blk_frozen BK304.out 0; have hfz49_1 := blk_frozen BK304.out 1; obtain ⟨Ao50, co50, eo50⟩ := Kd.R_slice HO332.out; subst eo50))
                      repeat (go_quiet (first | (go_at_call 27; (with_reducible refine (flongref02_Control.calls (rd t301 x6_1) true _ A37.out).mono ?_); rintro e w' ⟨rfl, ⟨nd, rfl⟩⟩; (try first | exact ⟨rfl, _, World.drewN_drewN _ _ _⟩ | exact ⟨rfl, _, Eq.trans (World.drewN_drewN _ _ _) (congrArg (World.drewN _) (Nat.add_assoc _ _ _))⟩); have hcz41_0 : wc.cell? ⟨gb304, 0, none⟩ = some (u305000) := (blk_cell BK304.out 0).trans rfl; have hcz41_1 : wc.cell? ⟨gb304, 1, none⟩ = some (u305001) := (blk_cell BK304.out 1).trans rfl; have hfz41_0 := blk_frozen BK304.out 0; have hfz41_1 := blk_frozen BK304.out 1; obtain ⟨Ao42, co42, eo42⟩ := Kd.R_slice HO_305000.out; subst eo42; obtain ⟨Ao43, co43, eo43⟩ := Kd.R_slice HO_305001.out; subst eo43) | (go_at_call 45; (with_reducible refine (flongref04_say.calls (fun k_ => some k_ = (.slice Ao42 x305000_1.length co42 : Value).ownBlock) (.slice Ao42 x305000_1.length co42) x305000_1 (fun k_ => some k_ = (.slice Ao43 x305001_1.length co43 : Value).ownBlock) (.slice Ao43 x305001_1.length co43) x305001_1 1 65533 t321 t324 w _ ?side1 ?side2 ?side3 A39.out).mono ?_); (case side1 => repeat (first | (with_reducible first | exact HB.out | apply below_alloc | apply pw_below_drewN | apply below_drew1 | refine below_set ?_ GE304.out) | exact HB.out)); (case side2 => exact Kd.R_tight rfl HO_305000.out); (case side3 => exact Kd.R_tight rfl HO_305001.out); rintro e w44 ⟨v322, v325, rfl, ho0, ho1, hb, hkp⟩; have n0_ := Aside0.mk (Kd.R_mono (ok' := fun k_ => True) (Kd.R_keptB ((Kd.R_apart' (Kd.R_apart' HO_4.out (Kd.R_typed HO_305000.out) (by decide)) (Kd.R_typed HO_305001.out) (by decide))) hkp (fun k_ hk_ hs_ => Or.elim hs_ (fun e_ => (hk_.1.2) e_) (fun e_ => (hk_.2) e_))) (fun k_ hk_ => trivial)); have n1_ := Aside0.mk (blk_kept (by (with_reducible repeat (first | refine blk_drewN ?_ _ | refine blk_drew ?_ | refine blk_alloc ?_ _)); exact BK304.out) hkp (fun hs_ => Or.elim hs_ (fun e_ => (fun e_ => (Kd.R_ne HO_305000.out BK304.out (by decide)) e_) e_) (fun e_ => (fun e_ => (Kd.R_ne HO_305001.out BK304.out (by decide)) e_) e_))); have n2_ := Aside0.mk (Kd.R_mono (ok' := fun k_ => True) ho0 (fun k_ hk_ => trivial)); have n3_ := Aside0.mk (Kd.R_mono (ok' := fun k_ => True) ho1 (fun k_ hk_ => trivial)); have n4_ := Aside0.mk (hb); clear HO_4; clear BK304; clear HB; clear HO_305000; clear HO_305001; have HO_4 := n0_; have BK304 := n1_; have HO323 := n2_; have HO326 := n3_; have HB := n4_; clear n0_ n1_ n2_ n3_ n4_; (try clear hb); (try clear hkp); (try clear ho0); (try clear ho1); obtain ⟨Ao45, co45, eo45⟩ := Kd.R_slice HO323.out; subst eo45; obtain ⟨Ao46, co46, eo46⟩ := Kd.R_slice HO326.out; subst eo46) | (go_at_call 46; (with_reducible refine (flongref04_tell.calls (fun k_ => some k_ = (.slice Ao45 t321.length co45 : Value).ownBlock) (.slice Ao45 t321.length co45) t321 (fun k_ => some k_ = (.slice Ao46 t324.length co46 : Value).ownBlock) (.slice Ao46 t324.length co46) t324 3 x6_1 t327 t330 w _ ?side1 ?side2 ?side3 A40.out).mono ?_); (case side1 => repeat (first | (with_reducible first | exact HB.out | apply below_alloc | apply pw_below_drewN | apply below_drew1 | refine below_set ?_ GE304.out) | exact HB.out)); (case side2 => exact Kd.R_tight rfl HO323.out); (case side3 => exact Kd.R_tight rfl HO326.out); rintro e w47 ⟨v328, v331, rfl, ho0, ho1, hb, hkp⟩; have n0_ := Aside0.mk (Kd.R_mono (ok' := fun k_ => True) (Kd.R_keptB ((Kd.R_apart' (Kd.R_apart' HO_4.out (Kd.R_typed HO323.out) (by decide)) (Kd.R_typed HO326.out) (by decide))) hkp (fun k_ hk_ hs_ => Or.elim hs_ (fun e_ => (hk_.1.2) e_) (fun e_ => (hk_.2) e_))) (fun k_ hk_ => trivial)); have n1_ := Aside0.mk (blk_kept (by (with_reducible repeat (first | refine blk_drewN ?_ _ | refine blk_drew ?_ | refine blk_alloc ?_ _)); exact BK304.out) hkp (fun hs_ => Or.elim hs_ (fun e_ => (fun e_ => (Kd.R_ne HO323.out BK304.out (by decide)) e_) e_) (fun e_ => (fun e_ => (Kd.R_ne HO326.out BK304.out (by decide)) e_) e_))); have n2_ := Aside0.mk (Kd.R_mono (ok' := fun k_ => True) ho0 (fun k_ hk_ => trivial)); have n3_ := Aside0.mk (Kd.R_mono (ok' := fun k_ => True) ho1 (fun k_ hk_ => trivial)); have n4_ := Aside0.mk (hb); clear HO_4; clear BK304; clear HB; clear HO323; clear HO326; have HO_4 := n0_; have BK304 := n1_; have HO329 := n2_; have HO332 := n3_; have HB := n4_; clear n0_ n1_ n2_ n3_ n4_; (try clear hb); (try clear hkp); (try clear ho0); (try clear ho1); obtain ⟨Ao48, co48, eo48⟩ := Kd.R_slice HO329.out; subst eo48; have hcz49_0 : w47.cell? ⟨gb304, 0, none⟩ = some (.slice Ao42 x305000_1.length co42) := (blk_cell BK304.out 0).trans rfl; have hcz49_1 : w47.cell? ⟨gb304, 1, none⟩ = some (.slice Ao43 x305001_1.length co43) := (blk_cell BK304.out 1).trans rfl; have hfz49_0 := blk_frozen BK304.out 0; have hfz49_1 := blk_frozen BK304.out 1; obtain ⟨Ao50, co50, eo50⟩ := Kd.R_slice HO332.out; subst eo50)); try go_wp2_with (first | (go_at_call 27; (with_reducible refine (flongref02_Control.calls (rd t301 x6_1) true _ A37.out).mono ?_); rintro e w' ⟨rfl, ⟨nd, rfl⟩⟩; (try first | exact ⟨rfl, _, World.drewN_drewN _ _ _⟩ | exact ⟨rfl, _, Eq.trans (World.drewN_drewN _ _ _) (congrArg (World.drewN _) (Nat.add_assoc _ _ _))⟩); have hcz41_0 : wc.cell? ⟨gb304, 0, none⟩ = some (u305000) := (blk_cell BK304.out 0).trans rfl; have hcz41_1 : wc.cell? ⟨gb304, 1, none⟩ = some (u305001) := (blk_cell BK304.out 1).trans rfl; have hfz41_0 := blk_frozen BK304.out 0; have hfz41_1 := blk_frozen BK304.out 1; obtain ⟨Ao42, co42, eo42⟩ := Kd.R_slice HO_305000.out; subst eo42; obtain ⟨Ao43, co43, eo43⟩ := Kd.R_slice HO_305001.out; subst eo43) | (go_at_call 45; (with_reducible refine (flongref04_say.calls (fun k_ => some k_ = (.slice Ao42 x305000_1.length co42 : Value).ownBlock) (.slice Ao42 x305000_1.length co42) x305000_1 (fun k_ => some k_ = (.slice Ao43 x305001_1.length co43 : Value).ownBlock) (.slice Ao43 x305001_1.length co43) x305001_1 1 65533 t321 t324 w _ ?side1 ?side2 ?side3 A39.out).mono ?_); (case side1 => repeat (first | (with_reducible first | exact HB.out | apply below_alloc | apply pw_below_drewN | apply below_drew1 | refine below_set ?_ GE304.out) | exact HB.out)); (case side2 => exact Kd.R_tight rfl HO_305000.out); (case side3 => exact Kd.R_tight rfl HO_305001.out); rintro e w44 ⟨v322, v325, rfl, ho0, ho1, hb, hkp⟩; have n0_ := Aside0.mk (Kd.R_mono (ok' := fun k_ => True) (Kd.R_keptB ((Kd.R_apart' (Kd.R_apart' HO_4.out (Kd.R_typed HO_305000.out) (by decide)) (Kd.R_typed HO_305001.out) (by decide))) hkp (fun k_ hk_ hs_ => Or.elim hs_ (fun e_ => (hk_.1.2) e_) (fun e_ => (hk_.2) e_))) (fun k_ hk_ => trivial)); have n1_ := Aside0.mk (blk_kept (by (with_reducible repeat (first | refine blk_drewN ?_ _ | refine blk_drew ?_ | refine blk_alloc ?_ _)); exact BK304.out) hkp (fun hs_ => Or.elim hs_ (fun e_ => (fun e_ => (Kd.R_ne HO_305000.out BK304.out (by decide)) e_) e_) (fun e_ => (fun e_ => (Kd.R_ne HO_305001.out BK304.out (by decide)) e_) e_))); have n2_ := Aside0.mk (Kd.R_mono (ok' := fun k_ => True) ho0 (fun k_ hk_ => trivial)); have n3_ := Aside0.mk (Kd.R_mono (ok' := fun k_ => True) ho1 (fun k_ hk_ => trivial)); have n4_ := Aside0.mk (hb); clear HO_4; clear BK304; clear HB; clear HO_305000; clear HO_305001; have HO_4 := n0_; have BK304 := n1_; have HO323 := n2_; have HO326 := n3_; have HB := n4_; clear n0_ n1_ n2_ n3_ n4_; (try clear hb); (try clear hkp); (try clear ho0); (try clear ho1); obtain ⟨Ao45, co45, eo45⟩ := Kd.R_slice HO323.out; subst eo45; obtain ⟨Ao46, co46, eo46⟩ := Kd.R_slice HO326.out; subst eo46) | (go_at_call 46; (with_reducible refine (flongref04_tell.calls (fun k_ => some k_ = (.slice Ao45 t321.length co45 : Value).ownBlock) (.slice Ao45 t321.length co45) t321 (fun k_ => some k_ = (.slice Ao46 t324.length co46 : Value).ownBlock) (.slice Ao46 t324.length co46) t324 3 x6_1 t327 t330 w _ ?side1 ?side2 ?side3 A40.out).mono ?_); (case side1 => repeat (first | (with_reducible first | exact HB.out | apply below_alloc | apply pw_below_drewN | apply below_drew1 | refine below_set ?_ GE304.out) | exact HB.out)); (case side2 => exact Kd.R_tight rfl HO323.out); (case side3 => exact Kd.R_tight rfl HO326.out); rintro e w47 ⟨v328, v331, rfl, ho0, ho1, hb, hkp⟩; have n0_ := Aside0.mk (Kd.R_mono (ok' := fun k_ => True) (Kd.R_keptB ((Kd.R_apart' (Kd.R_apart' HO_4.out (Kd.R_typed HO323.out) (by decide)) (Kd.R_typed HO326.out) (by decide))) hkp (fun k_ hk_ hs_ => Or.elim hs_ (fun e_ => (hk_.1.2) e_) (fun e_ => (hk_.2) e_))) (fun k_ hk_ => trivial)); have n1_ := Aside0.mk (blk_kept (by (with_reducible repeat (first | refine blk_drewN ?_ _ | refine blk_drew ?_ | refine blk_alloc ?_ _)); exact BK304.out) hkp (fun hs_ => Or.elim hs_ (fun e_ => (fun e_ => (Kd.R_ne HO323.out BK304.out (by decide)) e_) e_) (fun e_ => (fun e_ => (Kd.R_ne HO326.out BK304.out (by decide)) e_) e_))); have n2_ := Aside0.mk (Kd.R_mono (ok' := fun k_ => True) ho0 (fun k_ hk_ => trivial)); have n3_ := Aside0.mk (Kd.R_mono (ok' := fun k_ => True) ho1 (fun k_ hk_ => trivial)); have n4_ := Aside0.mk (hb); clear HO_4; clear BK304; clear HB; clear HO323; clear HO326; have HO_4 := n0_; have BK304 := n1_; have HO329 := n2_; have HO332 := n3_; have HB := n4_; clear n0_ n1_ n2_ n3_ n4_; (try clear hb); (try clear hkp); (try clear ho0); (try clear ho1); obtain ⟨Ao48, co48, eo48⟩ := Kd.R_slice HO329.out; subst eo48; have hcz49_0 : w47.cell? ⟨gb304, 0, none⟩ = some (.slice Ao42 x305000_1.length co42) := (blk_cell BK304.out 0).trans rfl; have hcz49_1 : w47.cell? ⟨gb304, 1, none⟩ = some (.slice Ao43 x305001_1.length co43) := (blk_cell BK304.out 1).trans rfl; have hfz49_0 := blk_frozen BK304.out 0; have hfz49_1 := blk_frozen BK304.out 1; obtain ⟨Ao50, co50, eo50⟩ := Kd.R_slice HO332.out; subst eo50)))
                      go_roundg kj24
                      case measure => have := HK1.out; have := HJ24.out; omega
                      case rel => exact ⟨(wrap64 (x6_1 + 1)), (t327), (t330), (.slice Ao48 t327.length co48), (.slice Ao50 t330.length co50), (by first | rfl | (simp; done) | (simp [*]; done)), H', ⟨by have := HK1.out; have := HJ24.out; omega⟩, ⟨by (with_reducible repeat (first | apply Kd.R_alloc | apply Kd.R_drewN | apply Kd.R_drew)); exact Kd.R_mono (Kd.R_far (p := ⟨gb304, 1, none⟩) (Kd.R_far (p := ⟨gb304, 0, none⟩) (Kd.R_types HO_4.out BK304.out (by decide)) (fun _ hk => hk.2) (.slice Ao48 t327.length co48)) (fun _ hk => hk.2) (.slice Ao50 t330.length co50)) (fun _ hk => trivial)⟩, ⟨by (with_reducible repeat (first | apply Kd.R_alloc | apply Kd.R_drewN | apply Kd.R_drew)); exact Kd.R_mono (Kd.R_far (p := ⟨gb304, 1, none⟩) (Kd.R_far (p := ⟨gb304, 0, none⟩) (Kd.R_types HO329.out BK304.out (by decide)) (fun _ hk => hk.2) (.slice Ao48 t327.length co48)) (fun _ hk => hk.2) (.slice Ao50 t330.length co50)) (fun _ hk => trivial)⟩, ⟨by (with_reducible repeat (first | apply Kd.R_alloc | apply Kd.R_drewN | apply Kd.R_drew)); exact Kd.R_mono (Kd.R_far (p := ⟨gb304, 1, none⟩) (Kd.R_far (p := ⟨gb304, 0, none⟩) (Kd.R_types HO332.out BK304.out (by decide)) (fun _ hk => hk.2) (.slice Ao48 t327.length co48)) (fun _ hk => hk.2) (.slice Ao50 t330.length co50)) (fun _ hk => trivial)⟩, ⟨by (with_reducible repeat (first | refine blk_drewN ?_ _ | refine blk_drew ?_ | refine blk_alloc ?_ _)); refine blk_put (cs := #[.slice Ao48 t327.length co48, .slice Ao43 x305001_1.length co43]) ?_ 1 _ rfl; (with_reducible repeat (first | refine blk_drewN ?_ _ | refine blk_drew ?_ | refine blk_alloc ?_ _)); refine blk_put (cs := #[.slice Ao42 x305000_1.length co42, .slice Ao43 x305001_1.length co43]) ?_ 0 _ rfl; (with_reducible repeat (first | refine blk_drewN ?_ _ | refine blk_drew ?_ | refine blk_alloc ?_ _)); exact BK304.out⟩, ⟨by repeat (first | (with_reducible first | exact HB.out | apply below_alloc | apply pw_below_drewN | apply below_drew1 | refine below_set ?_ GE304.out) | exact HB.out)⟩⟩
                    · replace c38 := Bool.eq_false_iff.mpr c38
                      subst c38
                      have H1 : ((flongref04_say.f x305000_1 x305001_1 1 (rd t301 x6_1)).bind fun bt333 => (flongref04_Scan.l0 kj24 t301 (wrap64 (x6_1 + 1)) bt333.1 bt333.2)) = some (r1, r2) := by rw [if_neg (show ¬ (false = true) by decide)] at H; exact H
                      clear H
                      have H := H1
                      clear H1
                      replace H := Option.bind_eq_some_iff.mp H
                      obtain ⟨⟨t333, t336⟩, A510, H⟩ := H
                      replace H : (flongref04_Scan.l0 kj24 t301 (wrap64 (x6_1 + 1)) t333 t336) = some (r1, r2) := H
                      have A51 := Aside0.mk A510
                      clear A510
                      have H' := Aside0.mk H
                      clear H
                      go_wp2_with (first | (go_at_call 27; (with_reducible refine (flongref02_Control.calls (rd t301 x6_1) false _ A37.out).mono ?_); rintro e w' ⟨rfl, ⟨nd, rfl⟩⟩; (try first | exact ⟨rfl, _, World.drewN_drewN _ _ _⟩ | exact ⟨rfl, _, Eq.trans (World.drewN_drewN _ _ _) (congrArg (World.drewN _) (Nat.add_assoc _ _ _))⟩); have hcz52_0 : wc.cell? ⟨gb304, 0, none⟩ = some (u305000) := (blk_cell BK304.out 0).trans rfl; have hcz52_1 : wc.cell? ⟨gb304, 1, none⟩ = some (u305001) := (blk_cell BK304.out 1).trans rfl; have hfz52_0 := blk_frozen BK304.out 0; have hfz52_1 := blk_frozen BK304.out 1; obtain ⟨Ao53, co53, eo53⟩ := Kd.R_slice HO_305000.out; subst eo53; obtain ⟨Ao54, co54, eo54⟩ := Kd.R_slice HO_305001.out; subst eo54) | (go_at_call 45; (with_reducible refine (flongref04_say.calls (fun k_ => some k_ = (.slice Ao53 x305000_1.length co53 : Value).ownBlock) (.slice Ao53 x305000_1.length co53) x305000_1 (fun k_ => some k_ = (.slice Ao54 x305001_1.length co54 : Value).ownBlock) (.slice Ao54 x305001_1.length co54) x305001_1 1 (rd t301 x6_1) t333 t336 w _ ?side1 ?side2 ?side3 A51.out).mono ?_); (case side1 => repeat (first | (with_reducible first | exact HB.out | apply below_alloc | apply pw_below_drewN | apply below_drew1 | refine below_set ?_ GE304.out) | exact HB.out)); (case side2 => exact Kd.R_tight rfl HO_305000.out); (case side3 => exact Kd.R_tight rfl HO_305001.out); rintro e w55 ⟨v334, v337, rfl, ho0, ho1, hb, hkp⟩; have n0_ := Aside0.mk (Kd.R_mono (ok' := fun k_ => True) (Kd.R_keptB ((Kd.R_apart' (Kd.R_apart' HO_4.out (Kd.R_typed HO_305000.out) (by decide)) (Kd.R_typed HO_305001.out) (by decide))) hkp (fun k_ hk_ hs_ => Or.elim hs_ (fun e_ => (hk_.1.2) e_) (fun e_ => (hk_.2) e_))) (fun k_ hk_ => trivial)); have n1_ := Aside0.mk (blk_kept (by (with_reducible repeat (first | refine blk_drewN ?_ _ | refine blk_drew ?_ | refine blk_alloc ?_ _)); exact BK304.out) hkp (fun hs_ => Or.elim hs_ (fun e_ => (fun e_ => (Kd.R_ne HO_305000.out BK304.out (by decide)) e_) e_) (fun e_ => (fun e_ => (Kd.R_ne HO_305001.out BK304.out (by decide)) e_) e_))); have n2_ := Aside0.mk (Kd.R_mono (ok' := fun k_ => True) ho0 (fun k_ hk_ => trivial)); have n3_ := Aside0.mk (Kd.R_mono (ok' := fun k_ => True) ho1 (fun k_ hk_ => trivial)); have n4_ := Aside0.mk (hb); clear HO_4; clear BK304; clear HB; clear HO_305000; clear HO_305001; have HO_4 := n0_; have BK304 := n1_; have HO335 := n2_; have HO338 := n3_; have HB := n4_; clear n0_ n1_ n2_ n3_ n4_; (try clear hb); (try clear hkp); (try clear ho0); (try clear ho1); obtain ⟨Ao56, co56, eo56⟩ := Kd.R_slice HO335.out; subst eo56; have hcz57_0 : w55.cell? ⟨gb304, 0, none⟩ = some (.slice Ao53 x305000_1.length co53) := (blk_cell BK304.out 0).trans rfl; have hcz57_1 : w55.cell? ⟨gb304, 1, none⟩ = some (.slice Ao54 x305001_1.length co54) := (blk_cell BK304.out 1).trans rfl; have hfz57_0 := blk_frozen BK304.out 0; have hfz57_1 := blk_frozen BK304.out 1; obtain ⟨Ao58, co58, eo58⟩ := Kd.R_slice HO338.out; subst eo58))
                      repeat (go_quiet (first | (go_at_call 27; (with_reducible refine (flongref02_Control.calls (rd t301 x6_1) false _ A37.out).mono ?_); rintro e w' ⟨rfl, ⟨nd, rfl⟩⟩; (try first | exact ⟨rfl, _, World.drewN_drewN _ _ _⟩ | exact ⟨rfl, _, Eq.trans (World.drewN_drewN _ _ _) (congrArg (World.drewN _) (Nat.add_assoc _ _ _))⟩); have hcz52_0 : wc.cell? ⟨gb304, 0, none⟩ = some (u305000) := (blk_cell BK304.out 0).trans rfl; have hcz52_1 : wc.cell? ⟨gb304, 1, none⟩ = some (u305001) := (blk_cell BK304.out 1).trans rfl; have hfz52_0 := blk_frozen BK304.out 0; have hfz52_1 := blk_frozen BK304.out 1; obtain ⟨Ao53, co53, eo53⟩ := Kd.R_slice HO_305000.out; subst eo53; obtain ⟨Ao54, co54, eo54⟩ := Kd.R_slice HO_305001.out; subst eo54) | (go_at_call 45; (with_reducible refine (flongref04_say.calls (fun k_ => some k_ = (.slice Ao53 x305000_1.length co53 : Value).ownBlock) (.slice Ao53 x305000_1.length co53) x305000_1 (fun k_ => some k_ = (.slice Ao54 x305001_1.length co54 : Value).ownBlock) (.slice Ao54 x305001_1.length co54) x305001_1 1 (rd t301 x6_1) t333 t336 w _ ?side1 ?side2 ?side3 A51.out).mono ?_); (case side1 => repeat (first | (with_reducible first | exact HB.out | apply below_alloc | apply pw_below_drewN | apply below_drew1 | refine below_set ?_ GE304.out) | exact HB.out)); (case side2 => exact Kd.R_tight rfl HO_305000.out); (case side3 => exact Kd.R_tight rfl HO_305001.out); rintro e w55 ⟨v334, v337, rfl, ho0, ho1, hb, hkp⟩; have n0_ := Aside0.mk (Kd.R_mono (ok' := fun k_ => True) (Kd.R_keptB ((Kd.R_apart' (Kd.R_apart' HO_4.out (Kd.R_typed HO_305000.out) (by decide)) (Kd.R_typed HO_305001.out) (by decide))) hkp (fun k_ hk_ hs_ => Or.elim hs_ (fun e_ => (hk_.1.2) e_) (fun e_ => (hk_.2) e_))) (fun k_ hk_ => trivial)); have n1_ := Aside0.mk (blk_kept (by (with_reducible repeat (first | refine blk_drewN ?_ _ | refine blk_drew ?_ | refine blk_alloc ?_ _)); exact BK304.out) hkp (fun hs_ => Or.elim hs_ (fun e_ => (fun e_ => (Kd.R_ne HO_305000.out BK304.out (by decide)) e_) e_) (fun e_ => (fun e_ => (Kd.R_ne HO_305001.out BK304.out (by decide)) e_) e_))); have n2_ := Aside0.mk (Kd.R_mono (ok' := fun k_ => True) ho0 (fun k_ hk_ => trivial)); have n3_ := Aside0.mk (Kd.R_mono (ok' := fun k_ => True) ho1 (fun k_ hk_ => trivial)); have n4_ := Aside0.mk (hb); clear HO_4; clear BK304; clear HB; clear HO_305000; clear HO_305001; have HO_4 := n0_; have BK304 := n1_; have HO335 := n2_; have HO338 := n3_; have HB := n4_; clear n0_ n1_ n2_ n3_ n4_; (try clear hb); (try clear hkp); (try clear ho0); (try clear ho1); obtain ⟨Ao56, co56, eo56⟩ := Kd.R_slice HO335.out; subst eo56; have hcz57_0 : w55.cell? ⟨gb304, 0, none⟩ = some (.slice Ao53 x305000_1.length co53) := (blk_cell BK304.out 0).trans rfl; have hcz57_1 : w55.cell? ⟨gb304, 1, none⟩ = some (.slice Ao54 x305001_1.length co54) := (blk_cell BK304.out 1).trans rfl; have hfz57_0 := blk_frozen BK304.out 0; have hfz57_1 := blk_frozen BK304.out 1; obtain ⟨Ao58, co58, eo58⟩ := Kd.R_slice HO338.out; subst eo58)); try go_wp2_with (first | (go_at_call 27; (with_reducible refine (flongref02_Control.calls (rd t301 x6_1) false _ A37.out).mono ?_); rintro e w' ⟨rfl, ⟨nd, rfl⟩⟩; (try first | exact ⟨rfl, _, World.drewN_drewN _ _ _⟩ | exact ⟨rfl, _, Eq.trans (World.drewN_drewN _ _ _) (congrArg (World.drewN _) (Nat.add_assoc _ _ _))⟩); have hcz52_0 : wc.cell? ⟨gb304, 0, none⟩ = some (u305000) := (blk_cell BK304.out 0).trans rfl; have hcz52_1 : wc.cell? ⟨gb304, 1, none⟩ = some (u305001) := (blk_cell BK304.out 1).trans rfl; have hfz52_0 := blk_frozen BK304.out 0; have hfz52_1 := blk_frozen BK304.out 1; obtain ⟨Ao53, co53, eo53⟩ := Kd.R_slice HO_305000.out; subst eo53; obtain ⟨Ao54, co54, eo54⟩ := Kd.R_slice HO_305001.out; subst eo54) | (go_at_call 45; (with_reducible refine (flongref04_say.calls (fun k_ => some k_ = (.slice Ao53 x305000_1.length co53 : Value).ownBlock) (.slice Ao53 x305000_1.length co53) x305000_1 (fun k_ => some k_ = (.slice Ao54 x305001_1.length co54 : Value).ownBlock) (.slice Ao54 x305001_1.length co54) x305001_1 1 (rd t301 x6_1) t333 t336 w _ ?side1 ?side2 ?side3 A51.out).mono ?_); (case side1 => repeat (first | (with_reducible first | exact HB.out | apply below_alloc | apply pw_below_drewN | apply below_drew1 | refine below_set ?_ GE304.out) | exact HB.out)); (case side2 => exact Kd.R_tight rfl HO_305000.out); (case side3 => exact Kd.R_tight rfl HO_305001.out); rintro e w55 ⟨v334, v337, rfl, ho0, ho1, hb, hkp⟩; have n0_ := Aside0.mk (Kd.R_mono (ok' := fun k_ => True) (Kd.R_keptB ((Kd.R_apart' (Kd.R_apart' HO_4.out (Kd.R_typed HO_305000.out) (by decide)) (Kd.R_typed HO_305001.out) (by decide))) hkp (fun k_ hk_ hs_ => Or.elim hs_ (fun e_ => (hk_.1.2) e_) (fun e_ => (hk_.2) e_))) (fun k_ hk_ => trivial)); have n1_ := Aside0.mk (blk_kept (by (with_reducible repeat (first | refine blk_drewN ?_ _ | refine blk_drew ?_ | refine blk_alloc ?_ _)); exact BK304.out) hkp (fun hs_ => Or.elim hs_ (fun e_ => (fun e_ => (Kd.R_ne HO_305000.out BK304.out (by decide)) e_) e_) (fun e_ => (fun e_ => (Kd.R_ne HO_305001.out BK304.out (by decide)) e_) e_))); have n2_ := Aside0.mk (Kd.R_mono (ok' := fun k_ => True) ho0 (fun k_ hk_ => trivial)); have n3_ := Aside0.mk (Kd.R_mono (ok' := fun k_ => True) ho1 (fun k_ hk_ => trivial)); have n4_ := Aside0.mk (hb); clear HO_4; clear BK304; clear HB; clear HO_305000; clear HO_305001; have HO_4 := n0_; have BK304 := n1_; have HO335 := n2_; have HO338 := n3_; have HB := n4_; clear n0_ n1_ n2_ n3_ n4_; (try clear hb); (try clear hkp); (try clear ho0); (try clear ho1); obtain ⟨Ao56, co56, eo56⟩ := Kd.R_slice HO335.out; subst eo56; have hcz57_0 : w55.cell? ⟨gb304, 0, none⟩ = some (.slice Ao53 x305000_1.length co53) := (blk_cell BK304.out 0).trans rfl; have hcz57_1 : w55.cell? ⟨gb304, 1, none⟩ = some (.slice Ao54 x305001_1.length co54) := (blk_cell BK304.out 1).trans rfl; have hfz57_0 := blk_frozen BK304.out 0; have hfz57_1 := blk_frozen BK304.out 1; obtain ⟨Ao58, co58, eo58⟩ := Kd.R_slice HO338.out; subst eo58)))
                      go_roundg kj24
                      case measure => have := HK1.out; have := HJ24.out; omega
                      case rel => exact ⟨(wrap64 (x6_1 + 1)), (t333), (t336), (.slice Ao56 t333.length co56), (.slice Ao58 t336.length co58), (by first | rfl | (simp; done) | (simp [*]; done)), H', ⟨by have := HK1.out; have := HJ24.out; omega⟩, ⟨by (with_reducible repeat (first | apply Kd.R_alloc | apply Kd.R_drewN | apply Kd.R_drew)); exact Kd.R_mono (Kd.R_far (p := ⟨gb304, 1, none⟩) (Kd.R_far (p := ⟨gb304, 0, none⟩) (Kd.R_types HO_4.out BK304.out (by decide)) (fun _ hk => hk.2) (.slice Ao56 t333.length co56)) (fun _ hk => hk.2) (.slice Ao58 t336.length co58)) (fun _ hk => trivial)⟩, ⟨by (with_reducible repeat (first | apply Kd.R_alloc | apply Kd.R_drewN | apply Kd.R_drew)); exact Kd.R_mono (Kd.R_far (p := ⟨gb304, 1, none⟩) (Kd.R_far (p := ⟨gb304, 0, none⟩) (Kd.R_types HO335.out BK304.out (by decide)) (fun _ hk => hk.2) (.slice Ao56 t333.length co56)) (fun _ hk => hk.2) (.slice Ao58 t336.length co58)) (fun _ hk => trivial)⟩, ⟨by (with_reducible repeat (first | apply Kd.R_alloc | apply Kd.R_drewN | apply Kd.R_drew)); exact Kd.R_mono (Kd.R_far (p := ⟨gb304, 1, none⟩) (Kd.R_far (p := ⟨gb304, 0, none⟩) (Kd.R_types HO338.out BK304.out (by decide)) (fun _ hk => hk.2) (.slice Ao56 t333.length co56)) (fun _ hk => hk.2) (.slice Ao58 t336.length co58)) (fun _ hk => trivial)⟩, ⟨by (with_reducible repeat (first | refine blk_drewN ?_ _ | refine blk_drew ?_ | refine blk_alloc ?_ _)); refine blk_put (cs := #[.slice Ao56 t333.length co56, .slice Ao54 x305001_1.length co54]) ?_ 1 _ rfl; (with_reducible repeat (first | refine blk_drewN ?_ _ | refine blk_drew ?_ | refine blk_alloc ?_ _)); refine blk_put (cs := #[.slice Ao53 x305000_1.length co53, .slice Ao54 x305001_1.length co54]) ?_ 0 _ rfl; (with_reducible repeat (first | refine blk_drewN ?_ _ | refine blk_drew ?_ | refine blk_alloc ?_ _)); exact BK304.out⟩, ⟨by repeat (first | (with_reducible first | exact HB.out | apply below_alloc | apply pw_below_drewN | apply below_drew1 | refine below_set ?_ GE304.out) | exact HB.out)⟩⟩
          · rw [if_neg c11] at H
            exact absurd H (by simp)
        · rw [if_neg c10] at H
          have c10b0 : decide (x6_1 < (t301.length : Int)) = false := decide_eq_false c10
          clear c10
          simp only [Option.some.injEq, Prod.mk.injEq] at H
          obtain ⟨rfl, rfl⟩ := H
          obtain ⟨Ao59, co59, eo59⟩ := Kd.R_slice HO_4.out
          subst eo59
          have hcz60_0 : wr.cell? ⟨gb304, 0, none⟩ = some (u305000) := (blk_cell BK304.out 0).trans rfl
          have hcz60_1 : wr.cell? ⟨gb304, 1, none⟩ = some (u305001) := (blk_cell BK304.out 1).trans rfl
          have hfz60_0 := blk_frozen BK304.out 0
          have hfz60_1 := blk_frozen BK304.out 1
          go_wp2
          repeat (go_quiet (fail); try go_wp2)
          go_ret2
          exact ⟨_, _, by first | rfl | (simp [errW_none, errW_some] <;> rfl) | (simp [*, errW_none, errW_some] <;> rfl), by (with_reducible repeat (first | apply Kd.R_alloc | apply Kd.R_drewN | apply Kd.R_drew)); exact HO_305000.out, by (with_reducible repeat (first | apply Kd.R_alloc | apply Kd.R_drewN | apply Kd.R_drew)); exact HO_305001.out, by repeat (first | (with_reducible first | exact HB.out | apply below_alloc | apply pw_below_drewN | apply below_drew1 | refine below_set ?_ GE304.out) | exact HB.out)⟩
  · rw [if_neg c2] at H
    exact absurd H (by simp)
end Go.Proofs.YtdogljnddalgdaaDoor.A4
end
section
namespace Go.Proofs.YtdogljnddalgdaaDoor.A4
open Go.RowKit Go.Proofs.YtdogljnddalgdaaDoorW.PrintWords Go.Proofs.YtdogljnddalgdaaDoorW.PrintLast Go.Proofs.YtdogljnddalgdaaDoorW.PrintMore
attribute [local go_sem] max2_int min2_int max_two min_two max_three min_three max_four min_four   -- for this text's walks alone
set_option linter.unusedVariables false
set_option linter.unusedSimpArgs false
attribute [local go_sem high] eqA41
def flongref01_Same.l0 : Nat → List (S41) → List (S41) → Int → Option (Bool)
  | 0, _, _, _ => none
  | k + 1, x0, x1, x5 => if x5 < (x0.length : Int) then (if 0 ≤ x5 then (if x5 < (x1.length : Int) then (if (!(((rd_T41 x0 x5).f0) == ((rd_T41 x1 x5).f0)) || (!(((rd_T41 x0 x5).f1) == ((rd_T41 x1 x5).f1)) || (!(((rd_T41 x0 x5).f2) == ((rd_T41 x1 x5).f2))))) = true then (some false) else (flongref01_Same.l0 k x0 x1 (wrap64 (x5 + 1)))) else (none)) else (none)) else (some true)
def flongref01_Same.f (k : Nat) (l0 : List (S41)) (l1 : List (S41)) : Option (Bool) := if (l0.length : Int) = (l1.length : Int) then (flongref01_Same.l0 k l0 l1 0) else (some false)
theorem flongref01_Same.mono_l : ∀ k, (∀ y0 y1 y2, LeO (flongref01_Same.l0 k y0 y1 y2) (flongref01_Same.l0 (k + 1) y0 y1 y2))
  | 0 => fun _ _ _ r h => by simp [flongref01_Same.l0] at h
  | k + 1 => by
    have ih0 := flongref01_Same.mono_l k
    · intro y0 y1 y2
      unfold flongref01_Same.l0
      repeat' first
      | (with_reducible exact ih0 _ _ _)
      | (with_reducible exact LeO.refl _)
      | (with_reducible exact LeO.none _)
      | (with_reducible refine LeO.ite ?_ ?_)
      | (with_reducible refine LeO.bind ?_ (fun _ => ?_))
      | exact ih0 _ _ _
      | exact LeO.none _
      | refine LeO.ite ?_ ?_
      | refine LeO.bind ?_ (fun _ => ?_)
theorem flongref01_Same.mono : ∀ a0 a1 k, LeO (flongref01_Same.f k a0 a1) (flongref01_Same.f (k + 1) a0 a1) := by
  intro a0 a1 k
  have ih0 := flongref01_Same.mono_l k
  unfold flongref01_Same.f
  repeat' first
      | (with_reducible exact ih0 _ _ _)
      | (with_reducible exact LeO.refl _)
      | (with_reducible exact LeO.none _)
      | (with_reducible refine LeO.ite ?_ ?_)
      | (with_reducible refine LeO.bind ?_ (fun _ => ?_))
      | exact ih0 _ _ _
      | exact LeO.none _
      | refine LeO.ite ?_ ?_
      | refine LeO.bind ?_ (fun _ => ?_)
set_option maxHeartbeats 8000000 in
set_option maxRecDepth 100000 in
theorem flongref01_Same.calls (k : Nat) (A0 : Option Addr) (c0 : Nat) (l0 : List (S41)) (A1 : Option Addr) (c1 : Nat) (l1 : List (S41)) (r : Bool) (w : World) (hr0 : Kd.C k41 w A0 l0.length l0) (hc0 : l0.length ≤ c0) (hr1 : Kd.C k41 w A1 l1.length l1) (hc1 : l1.length ≤ c1) (h : flongref01_Same.f k l0 l1 = some r) :
    Calls Tryd.prog 18 #[.slice A0 l0.length c0, .slice A1 l1.length c1] w fun e w' => e = .returned (.bool r) ∧ Drawn0 w w' := by
  have hu41 := Tryd.underlying41
  have HR0 := Aside0.mk hr0
  have HC0 := Aside0.mk hc0
  clear hr0 hc0
  have HR1 := Aside0.mk hr1
  have HC1 := Aside0.mk hc1
  clear hr1 hc1
  have H : (if (l0.length : Int) = (l1.length : Int) then (flongref01_Same.l0 k l0 l1 0) else (some false)) = some r := h
  clear h
  by_cases c3 : (l0.length : Int) = (l1.length : Int)
  · rw [if_pos c3] at H
    have c3b0 : ((l0.length : Int) == (l1.length : Int)) = true := beq_iff_eq.mpr c3
    have c3b1 : ((l0.length : Int) != (l1.length : Int)) = false := bne_eq_false_iff_eq.mpr c3
    have c3b2 : (l0.length == l1.length) = true := by first | simpa using c3 | (simp at c3 ⊢; omega)
    clear c3
    have H' := Aside0.mk H
    clear H
    go_enter Tryd.func18, Tryd.ntmps18
    go_wp2
    repeat (go_quiet (fail); try go_wp2)
    go_loopg [5] k (fun kq v5 w' => ∃ (x5_1 : Int), v5 = .int .i64 x5_1 ∧ Aside0 (flongref01_Same.l0 kq l0 l1 x5_1 = some r) ∧ Aside0 (kq ≤ k) ∧ Drawn0 w w')
    case atStart => exact ⟨(0), (by first | rfl | (simp; done) | (simp [*]; done)), H', ⟨Nat.le_refl _⟩, by repeat (first | exact Drawn0.refl _ | apply Drawn0.step)⟩
    case round =>
      clear H'
      try clear c1
      try clear p2
      try clear c3
      try clear c3b0
      try clear c3b1
      try clear c3b2
      obtain ⟨x5_1, rfl, HA, HK1, ⟨m1, rfl⟩⟩ := hrel
      cases gk with
      | zero => exact absurd HA.out (by simp [flongref01_Same.l0])
      | succ k1 =>
        have H := HA.out
        clear HA
        simp only [flongref01_Same.l0] at H
        by_cases c4 : x5_1 < (l0.length : Int)
        · rw [if_pos c4] at H
          have c4b0 : decide (x5_1 < (l0.length : Int)) = true := decide_eq_true c4
          clear c4
          by_cases c5 : 0 ≤ x5_1
          · rw [if_pos c5] at H
            have c5b0 : decide (0 ≤ x5_1) = true := decide_eq_true c5
            clear c5
            by_cases c6 : x5_1 < (l1.length : Int)
            · rw [if_pos c6] at H
              have c6b0 : decide (x5_1 < (l1.length : Int)) = true := decide_eq_true c6
              clear c6
              by_cases c7 : (!(((rd_T41 l0 x5_1).f0) == ((rd_T41 l1 x5_1).f0)) || (!(((rd_T41 l0 x5_1).f1) == ((rd_T41 l1 x5_1).f1)) || (!(((rd_T41 l0 x5_1).f2) == ((rd_T41 l1 x5_1).f2))))) = true
              · rw [if_pos c7] at H
                have c7b0 : (!(((rd_T41 l0 x5_1).f0) == ((rd_T41 l1 x5_1).f0)) || (!(((rd_T41 l0 x5_1).f1) == ((rd_T41 l1 x5_1).f1)) || (!(((rd_T41 l0 x5_1).f2) == ((rd_T41 l1 x5_1).f2))))) = true := c7
                clear c7
                obtain rfl := Option.some.inj H
                have p339 : 0 ≤ (x5_1 : Int) := of_decide_eq_true (by first | (with_reducible assumption) | assumption)
                have q339 : x5_1 < (l0.length : Int) := of_decide_eq_true (by first | (with_reducible assumption) | assumption)
                obtain ⟨ad339, e339, hx339_0, hx339_1, hx339_2⟩ := at_T41 HR0.out x5_1 p339 q339
                cases e339
                replace p339 := eq_true p339
                replace q339 := eq_true q339
                have p340 : 0 ≤ (x5_1 : Int) := of_decide_eq_true (by first | (with_reducible assumption) | assumption)
                have q340 : x5_1 < (l1.length : Int) := of_decide_eq_true (by first | (with_reducible assumption) | assumption)
                obtain ⟨ad340, e340, hx340_0, hx340_1, hx340_2⟩ := at_T41 HR1.out x5_1 p340 q340
                cases e340
                replace p340 := eq_true p340
                replace q340 := eq_true q340
                go_wp2
                repeat (go_quiet (fail); try go_wp2)
                go_ret
                exact ⟨by first | rfl | (simp; done) | (simp [*]; done), by repeat (first | exact Drawn0.refl _ | apply Drawn0.step)⟩
              · rw [if_neg c7] at H
                have c7b0 : (!(((rd_T41 l0 x5_1).f0) == ((rd_T41 l1 x5_1).f0)) || (!(((rd_T41 l0 x5_1).f1) == ((rd_T41 l1 x5_1).f1)) || (!(((rd_T41 l0 x5_1).f2) == ((rd_T41 l1 x5_1).f2))))) = false := by simpa using c7
                clear c7
                have H' := Aside0.mk H
                clear H
                have p339 : 0 ≤ (x5_1 : Int) := of_decide_eq_true (by first | (with_reducible assumption) | assumption)
                have q339 : x5_1 < (l0.length : Int) := of_decide_eq_true (by first | (with_reducible assumption) | assumption)
                obtain ⟨ad339, e339, hx339_0, hx339_1, hx339_2⟩ := at_T41 HR0.out x5_1 p339 q339
                cases e339
                replace p339 := eq_true p339
                replace q339 := eq_true q339
                have p340 : 0 ≤ (x5_1 : Int) := of_decide_eq_true (by first | (with_reducible assumption) | assumption)
                have q340 : x5_1 < (l1.length : Int) := of_decide_eq_true (by first | (with_reducible assumption) | assumption)
                obtain ⟨ad340, e340, hx340_0, hx340_1, hx340_2⟩ := at_T41 HR1.out x5_1 p340 q340
                cases e340
                replace p340 := eq_true p340
                replace q340 := eq_true q340
                go_wp2
                repeat (go_quiet (fail); try go_wp2)
                go_roundg k1
                case measure => have := HK1.out; omega
                case rel => exact ⟨(wrap64 (x5_1 + 1)), (by first | rfl | (simp; done) | (simp [*]; done)), H', ⟨by have := HK1.out; omega⟩, by repeat (first | exact Drawn0.refl _ | apply Drawn0.step)⟩
            · rw [if_neg c6] at H
              exact absurd H (by simp)
          · rw [if_neg c5] at H
            exact absurd H (by simp)
        · rw [if_neg c4] at H
          have c4b0 : decide (x5_1 < (l0.length : Int)) = false := decide_eq_false c4
          clear c4
          obtain rfl := Option.some.inj H
          go_wp2
          repeat (go_quiet (fail); try go_wp2)
          go_ret
          exact ⟨by first | rfl | (simp; done) | (simp [*]; done), by repeat (first | exact Drawn0.refl _ | apply Drawn0.step)⟩
  · rw [if_neg c3] at H
    have c3b0 : ((l0.length : Int) == (l1.length : Int)) = false := beq_eq_false_iff_ne.mpr c3
    have c3b1 : ((l0.length : Int) != (l1.length : Int)) = true := bne_iff_ne.mpr c3
    have c3b2 : (l0.length == l1.length) = false := by first | simpa using c3 | (simp at c3 ⊢; omega)
    obtain rfl := Option.some.inj H
    go_enter Tryd.func18, Tryd.ntmps18
    go_wp2
    repeat (go_quiet (fail); try go_wp2)
    go_ret
    exact ⟨by first | rfl | (simp; done) | (simp [*]; done), by repeat (first | exact Drawn0.refl _ | apply Drawn0.step)⟩
def flonglaw04_EscapeScans.f (k : Nat) (a0 : ByteArray) : Option (Bool) := if (a0.size : Int) > 1500 then ((flonglaw04_known.f k).bind fun t341 => (some t341)) else ((escape_Scan.f k a0).bind fun bt342 => ((flongref04_Scan.f k a0).bind fun bt348 => ((flongref04_Same.f k bt342.1 bt348.1).bind fun t354 => (if t354 = true then ((flongref01_Same.f k bt342.2 bt348.2).bind fun t355 => (if t355 = true then ((flonglaw04_known.f k).bind fun t356 => (some t356)) else (some false))) else (some false)))))
theorem flonglaw04_EscapeScans.mono : ∀ a0 k, LeO (flonglaw04_EscapeScans.f k a0) (flonglaw04_EscapeScans.f (k + 1) a0) := by
  intro a0 k
  unfold flonglaw04_EscapeScans.f
  repeat' first
      | (with_reducible exact escape_Scan.mono _ _)
      | (with_reducible exact flonglaw04_known.mono _)
      | (with_reducible exact flongref01_Same.mono _ _ _)
      | (with_reducible exact flongref04_Same.mono _ _ _)
      | (with_reducible exact flongref04_Scan.mono _ _)
      | (with_reducible exact LeO.refl _)
      | (with_reducible exact LeO.none _)
      | (with_reducible refine LeO.ite ?_ ?_)
      | (with_reducible refine LeO.bind ?_ (fun _ => ?_))
      | exact escape_Scan.mono _ _
      | exact flonglaw04_known.mono _
      | exact flongref01_Same.mono _ _ _
      | exact flongref04_Same.mono _ _ _
      | exact flongref04_Scan.mono _ _
      | exact LeO.none _
      | refine LeO.ite ?_ ?_
      | refine LeO.bind ?_ (fun _ => ?_)
set_option maxHeartbeats 8000000 in
set_option maxRecDepth 100000 in
theorem flonglaw04_EscapeScans.calls (k : Nat) (a0 : ByteArray) (r : Bool) (w : World) (hG : GL w) (h : flonglaw04_EscapeScans.f k a0 = some r) :
    Calls Tryd.prog 3 #[.string a0] w fun e w' => e = .returned (.bool r) ∧ Below w.heap.size w w' := by
  have HG := Aside0.mk hG
  clear hG
  have HB := Aside0.mk (Below.refl w.heap.size w)
  have H : (if (a0.size : Int) > 1500 then ((flonglaw04_known.f k).bind fun t341 => (some t341)) else ((escape_Scan.f k a0).bind fun bt342 => ((flongref04_Scan.f k a0).bind fun bt348 => ((flongref04_Same.f k bt342.1 bt348.1).bind fun t354 => (if t354 = true then ((flongref01_Same.f k bt342.2 bt348.2).bind fun t355 => (if t355 = true then ((flonglaw04_known.f k).bind fun t356 => (some t356)) else (some false))) else (some false)))))) = some r := h
  clear h
  by_cases c2 : (a0.size : Int) > 1500
  · rw [if_pos c2] at H
    have c2b0 : decide (1500 < (a0.size : Int)) = true := decide_eq_true c2
    have c2b1 : decide (1500 < a0.size) = true := decide_eq_true (by omega)
    clear c2
    replace H := Option.bind_eq_some_iff.mp H
    obtain ⟨t341, A30, H⟩ := H
    replace H : (some t341) = some r := H
    have A3 := Aside0.mk A30
    clear A30
    obtain rfl := Option.some.inj H
    go_enter Tryd.func3, Tryd.ntmps3
    go_wp2_with (first | ((with_reducible refine gate_callee (f := 14) rfl ?_); refine goesL_ (some 10) rfl rfl Tryd.func14 (by kernel_rfl) rfl #[] rfl (by (try simp only [List.map_toArray, List.map_cons, List.map_nil]); first | done | rfl | (simp only [List.length_drop, List.length_take]; rfl)) ?_; (with_reducible refine (flonglaw04_known.calls k  t341 _ ?side1 A3.out).mono ?_); (case side1 => exact GL.below HG.out (by repeat (first | (with_reducible first | exact HB.out | apply below_alloc | apply pw_below_drewN | apply below_drew1) | exact HB.out))); rintro e w4 ⟨rfl, hb⟩; refine ⟨_, rfl, ?_⟩; have n0_ := Aside0.mk (below_step (by repeat (first | (with_reducible first | exact HB.out | apply below_alloc | apply pw_below_drewN | apply below_drew1) | exact HB.out)) hb); clear HB; have HB := n0_; clear n0_; (try clear hb); (try clear hb2); (try clear hk); (try clear hi)))
    go_ret
    exact ⟨by first | rfl | (simp [errW_none, errW_some] <;> rfl) | (simp [*, errW_none, errW_some] <;> rfl), by repeat (first | (with_reducible first | exact HB.out | apply below_alloc | apply pw_below_drewN | apply below_drew1) | exact HB.out)⟩
  · rw [if_neg c2] at H
    have c2b0 : decide (1500 < (a0.size : Int)) = false := decide_eq_false c2
    have c2b1 : decide (1500 < a0.size) = false := decide_eq_false (by omega)
    clear c2
    replace H := Option.bind_eq_some_iff.mp H
    obtain ⟨⟨t342, t343⟩, A50, H⟩ := H
    replace H : ((flongref04_Scan.f k a0).bind fun bt348 => ((flongref04_Same.f k t342 bt348.1).bind fun t354 => (if t354 = true then ((flongref01_Same.f k t343 bt348.2).bind fun t355 => (if t355 = true then ((flonglaw04_known.f k).bind fun t356 => (some t356)) else (some false))) else (some false)))) = some r := H
    have A5 := Aside0.mk A50
    clear A50
    replace H := Option.bind_eq_some_iff.mp H
    obtain ⟨⟨t348, t349⟩, A60, H⟩ := H
    replace H : ((flongref04_Same.f k t342 t348).bind fun t354 => (if t354 = true then ((flongref01_Same.f k t343 t349).bind fun t355 => (if t355 = true then ((flonglaw04_known.f k).bind fun t356 => (some t356)) else (some false))) else (some false))) = some r := H
    have A6 := Aside0.mk A60
    clear A60
    replace H := Option.bind_eq_some_iff.mp H
    obtain ⟨t354, A70, H⟩ := H
    replace H : (if t354 = true then ((flongref01_Same.f k t343 t349).bind fun t355 => (if t355 = true then ((flonglaw04_known.f k).bind fun t356 => (some t356)) else (some false))) else (some false)) = some r := H
    have A7 := Aside0.mk A70
    clear A70
    by_cases c8 : t354 = true
    · subst c8
      have H1 : ((flongref01_Same.f k t343 t349).bind fun t355 => (if t355 = true then ((flonglaw04_known.f k).bind fun t356 => (some t356)) else (some false))) = some r := by rw [if_pos rfl] at H; exact H
      clear H
      have H := H1
      clear H1
      replace H := Option.bind_eq_some_iff.mp H
      obtain ⟨t355, A90, H⟩ := H
      replace H : (if t355 = true then ((flonglaw04_known.f k).bind fun t356 => (some t356)) else (some false)) = some r := H
      have A9 := Aside0.mk A90
      clear A90
      by_cases c10 : t355 = true
      · subst c10
        have H1 : ((flonglaw04_known.f k).bind fun t356 => (some t356)) = some r := by rw [if_pos rfl] at H; exact H
        clear H
        have H := H1
        clear H1
        replace H := Option.bind_eq_some_iff.mp H
        obtain ⟨t356, A110, H⟩ := H
        replace H : (some t356) = some r := H
        have A11 := Aside0.mk A110
        clear A110
        obtain rfl := Option.some.inj H
        go_enter Tryd.func3, Tryd.ntmps3
        go_wp2_with (first | ((with_reducible refine gate_callee (f := 15) rfl ?_); refine goesL_ (some 13) rfl rfl Tryd.func15 (by kernel_rfl) rfl #[.string a0] rfl (by (try simp only [List.map_toArray, List.map_cons, List.map_nil]); first | done | rfl | (simp only [List.length_drop, List.length_take]; rfl)) ?_; (with_reducible refine (escape_Scan.calls k a0 t342 t343 _ ?side1 A5.out).mono ?_); (case side1 => exact GL.below HG.out (by repeat (first | (with_reducible first | exact HB.out | apply below_alloc | apply pw_below_drewN | apply below_drew1) | exact HB.out))); rintro e w12 ⟨v344, v346, rfl, ho0, ho1, hb⟩; refine ⟨_, rfl, ?_⟩; have n0_ := Aside0.mk (Kd.R_lower ho0 (below_size (by repeat (first | (with_reducible first | exact HB.out | apply below_alloc | apply pw_below_drewN | apply below_drew1) | exact HB.out)))); have n1_ := Aside0.mk (Kd.R_lower ho1 (below_size (by repeat (first | (with_reducible first | exact HB.out | apply below_alloc | apply pw_below_drewN | apply below_drew1) | exact HB.out)))); have n2_ := Aside0.mk (below_step (by repeat (first | (with_reducible first | exact HB.out | apply below_alloc | apply pw_below_drewN | apply below_drew1) | exact HB.out)) hb); clear HB; have HO345 := n0_; have HO347 := n1_; have HB := n2_; clear n0_ n1_ n2_; (try clear hb); (try clear hb2); (try clear hk); (try clear hi); (try clear ho0); (try clear ho1)) | ((with_reducible refine gate_callee (f := 16) rfl ?_); refine goesL_ (some 18) rfl rfl Tryd.func16 (by kernel_rfl) rfl #[.string a0] rfl (by (try simp only [List.map_toArray, List.map_cons, List.map_nil]); first | done | rfl | (simp only [List.length_drop, List.length_take]; rfl)) ?_; (with_reducible refine (flongref04_Scan.calls k a0 t348 t349 _ A6.out).mono ?_); rintro e w13 ⟨v350, v352, rfl, ho0, ho1, hb⟩; refine ⟨_, rfl, ?_⟩; have n0_ := Aside0.mk (Kd.R_elder' (by (with_reducible repeat (first | apply Kd.R_alloc | apply Kd.R_drewN | apply Kd.R_drew)); exact HO345.out) (Kd.R_base ho0) hb); have n1_ := Aside0.mk (Kd.R_elder' (by (with_reducible repeat (first | apply Kd.R_alloc | apply Kd.R_drewN | apply Kd.R_drew)); exact HO347.out) (Kd.R_base ho1) hb); have n2_ := Aside0.mk (Kd.R_lower (Kd.R_new' ho0 (Kd.R_lt (by (with_reducible repeat (first | apply Kd.R_alloc | apply Kd.R_drewN | apply Kd.R_drew)); exact HO345.out))) (below_size (by repeat (first | (with_reducible first | exact HB.out | apply below_alloc | apply pw_below_drewN | apply below_drew1) | exact HB.out)))); have n3_ := Aside0.mk (Kd.R_lower (Kd.R_new' ho1 (Kd.R_lt (by (with_reducible repeat (first | apply Kd.R_alloc | apply Kd.R_drewN | apply Kd.R_drew)); exact HO347.out))) (below_size (by repeat (first | (with_reducible first | exact HB.out | apply below_alloc | apply pw_below_drewN | apply below_drew1) | exact HB.out)))); have n4_ := Aside0.mk (below_step (by repeat (first | (with_reducible first | exact HB.out | apply below_alloc | apply pw_below_drewN | apply below_drew1) | exact HB.out)) hb); clear HO345; clear HO347; clear HB; have HO345 := n0_; have HO347 := n1_; have HO351 := n2_; have HO353 := n3_; have HB := n4_; clear n0_ n1_ n2_ n3_ n4_; (try clear hb); (try clear hb2); (try clear hk); (try clear hi); (try clear ho0); (try clear ho1); obtain ⟨Ao14, co14, eo14⟩ := Kd.R_slice HO345.out; subst eo14; obtain ⟨Ao15, co15, eo15⟩ := Kd.R_slice HO351.out; subst eo15) | ((with_reducible refine gate_callee (f := 17) rfl ?_); refine goesL_ (some 23) rfl rfl Tryd.func17 (by kernel_rfl) rfl #[.slice Ao14 t342.length co14, .slice Ao15 t348.length co15] rfl (by (try simp only [List.map_toArray, List.map_cons, List.map_nil]); first | done | rfl | (simp only [List.length_drop, List.length_take]; rfl)) ?_; (with_reducible refine (flongref04_Same.calls k _ _ t342 _ _ t348 true _ ?side1 ?side2 ?side3 ?side4 A7.out).mono ?_); (case side1 => repeat (first | exact (Kd.R_reads' HO345.out).2.2 | (with_reducible refine Kd.C_alloc ?_ _) | (with_reducible refine Kd.C_drewN ?_ _) | (with_reducible refine Kd.C_drew ?_))); (case side2 => exact (Kd.R_reads' HO345.out).2.1); (case side3 => repeat (first | exact (Kd.R_reads' HO351.out).2.2 | (with_reducible refine Kd.C_alloc ?_ _) | (with_reducible refine Kd.C_drewN ?_ _) | (with_reducible refine Kd.C_drew ?_))); (case side4 => exact (Kd.R_reads' HO351.out).2.1); rintro e w' ⟨rfl, ⟨nd, rfl⟩⟩; refine ⟨_, rfl, ?_⟩; obtain ⟨Ao16, co16, eo16⟩ := Kd.R_slice HO347.out; subst eo16; obtain ⟨Ao17, co17, eo17⟩ := Kd.R_slice HO353.out; subst eo17) | (go_at_call 18; (with_reducible refine (flongref01_Same.calls k _ _ t343 _ _ t349 true _ ?side1 ?side2 ?side3 ?side4 A9.out).mono ?_); (case side1 => repeat (first | exact (Kd.R_reads' HO347.out).2.2 | (with_reducible refine Kd.C_alloc ?_ _) | (with_reducible refine Kd.C_drewN ?_ _) | (with_reducible refine Kd.C_drew ?_))); (case side2 => exact (Kd.R_reads' HO347.out).2.1); (case side3 => repeat (first | exact (Kd.R_reads' HO353.out).2.2 | (with_reducible refine Kd.C_alloc ?_ _) | (with_reducible refine Kd.C_drewN ?_ _) | (with_reducible refine Kd.C_drew ?_))); (case side4 => exact (Kd.R_reads' HO353.out).2.1); rintro e w' ⟨rfl, ⟨nd, rfl⟩⟩) | (go_at_call 14; (with_reducible refine (flonglaw04_known.calls k  t356 _ ?side1 A11.out).mono ?_); (case side1 => exact GL.below HG.out (by repeat (first | (with_reducible first | exact HB.out | apply below_alloc | apply pw_below_drewN | apply below_drew1) | exact HB.out))); rintro e w18 ⟨rfl, hb⟩; have n0_ := Aside0.mk (Kd.R_below (by (with_reducible repeat (first | apply Kd.R_alloc | apply Kd.R_drewN | apply Kd.R_drew)); exact HO345.out) hb); have n1_ := Aside0.mk (Kd.R_below (by (with_reducible repeat (first | apply Kd.R_alloc | apply Kd.R_drewN | apply Kd.R_drew)); exact HO347.out) hb); have n2_ := Aside0.mk (Kd.R_below (by (with_reducible repeat (first | apply Kd.R_alloc | apply Kd.R_drewN | apply Kd.R_drew)); exact HO351.out) hb); have n3_ := Aside0.mk (Kd.R_below (by (with_reducible repeat (first | apply Kd.R_alloc | apply Kd.R_drewN | apply Kd.R_drew)); exact HO353.out) hb); have n4_ := Aside0.mk (below_step (by repeat (first | (with_reducible first | exact HB.out | apply below_alloc | apply pw_below_drewN | apply below_drew1) | exact HB.out)) hb); clear HO345; clear HO347; clear HO351; clear HO353; clear HB; have HO345 := n0_; have HO347 := n1_; have HO351 := n2_; have HO353 := n3_; have HB := n4_; clear n0_ n1_ n2_ n3_ n4_; (try clear hb); (try clear hb2); (try clear hk); (try clear hi)))
        go_ret
        exact ⟨by first | rfl | (simp [errW_none, errW_some] <;> rfl) | (simp [*, errW_none, errW_some] <;> rfl), by repeat (first | (with_reducible first | exact HB.out | apply below_alloc | apply pw_below_drewN | apply below_drew1) | exact HB.out)⟩
      · replace c10 := Bool.eq_false_iff.mpr c10
        subst c10
        have H1 : (some false) = some r := by rw [if_neg (show ¬ (false = true) by decide)] at H; exact H
        clear H
        have H := H1
        clear H1
        obtain rfl := Option.some.inj H
        go_enter Tryd.func3, Tryd.ntmps3
        go_wp2_with (first | ((with_reducible refine gate_callee (f := 15) rfl ?_); refine goesL_ (some 13) rfl rfl Tryd.func15 (by kernel_rfl) rfl #[.string a0] rfl (by (try simp only [List.map_toArray, List.map_cons, List.map_nil]); first | done | rfl | (simp only [List.length_drop, List.length_take]; rfl)) ?_; (with_reducible refine (escape_Scan.calls k a0 t342 t343 _ ?side1 A5.out).mono ?_); (case side1 => exact GL.below HG.out (by repeat (first | (with_reducible first | exact HB.out | apply below_alloc | apply pw_below_drewN | apply below_drew1) | exact HB.out))); rintro e w19 ⟨v344, v346, rfl, ho0, ho1, hb⟩; refine ⟨_, rfl, ?_⟩; have n0_ := Aside0.mk (Kd.R_lower ho0 (below_size (by repeat (first | (with_reducible first | exact HB.out | apply below_alloc | apply pw_below_drewN | apply below_drew1) | exact HB.out)))); have n1_ := Aside0.mk (Kd.R_lower ho1 (below_size (by repeat (first | (with_reducible first | exact HB.out | apply below_alloc | apply pw_below_drewN | apply below_drew1) | exact HB.out)))); have n2_ := Aside0.mk (below_step (by repeat (first | (with_reducible first | exact HB.out | apply below_alloc | apply pw_below_drewN | apply below_drew1) | exact HB.out)) hb); clear HB; have HO345 := n0_; have HO347 := n1_; have HB := n2_; clear n0_ n1_ n2_; (try clear hb); (try clear hb2); (try clear hk); (try clear hi); (try clear ho0); (try clear ho1)) | ((with_reducible refine gate_callee (f := 16) rfl ?_); refine goesL_ (some 18) rfl rfl Tryd.func16 (by kernel_rfl) rfl #[.string a0] rfl (by (try simp only [List.map_toArray, List.map_cons, List.map_nil]); first | done | rfl | (simp only [List.length_drop, List.length_take]; rfl)) ?_; (with_reducible refine (flongref04_Scan.calls k a0 t348 t349 _ A6.out).mono ?_); rintro e w20 ⟨v350, v352, rfl, ho0, ho1, hb⟩; refine ⟨_, rfl, ?_⟩; have n0_ := Aside0.mk (Kd.R_elder' (by (with_reducible repeat (first | apply Kd.R_alloc | apply Kd.R_drewN | apply Kd.R_drew)); exact HO345.out) (Kd.R_base ho0) hb); have n1_ := Aside0.mk (Kd.R_elder' (by (with_reducible repeat (first | apply Kd.R_alloc | apply Kd.R_drewN | apply Kd.R_drew)); exact HO347.out) (Kd.R_base ho1) hb); have n2_ := Aside0.mk (Kd.R_lower (Kd.R_new' ho0 (Kd.R_lt (by (with_reducible repeat (first | apply Kd.R_alloc | apply Kd.R_drewN | apply Kd.R_drew)); exact HO345.out))) (below_size (by repeat (first | (with_reducible first | exact HB.out | apply below_alloc | apply pw_below_drewN | apply below_drew1) | exact HB.out)))); have n3_ := Aside0.mk (Kd.R_lower (Kd.R_new' ho1 (Kd.R_lt (by (with_reducible repeat (first | apply Kd.R_alloc | apply Kd.R_drewN | apply Kd.R_drew)); exact HO347.out))) (below_size (by repeat (first | (with_reducible first | exact HB.out | apply below_alloc | apply pw_below_drewN | apply below_drew1) | exact HB.out)))); have n4_ := Aside0.mk (below_step (by repeat (first | (with_reducible first | exact HB.out | apply below_alloc | apply pw_below_drewN | apply below_drew1) | exact HB.out)) hb); clear HO345; clear HO347; clear HB; have HO345 := n0_; have HO347 := n1_; have HO351 := n2_; have HO353 := n3_; have HB := n4_; clear n0_ n1_ n2_ n3_ n4_; (try clear hb); (try clear hb2); (try clear hk); (try clear hi); (try clear ho0); (try clear ho1); obtain ⟨Ao21, co21, eo21⟩ := Kd.R_slice HO345.out; subst eo21; obtain ⟨Ao22, co22, eo22⟩ := Kd.R_slice HO351.out; subst eo22) | ((with_reducible refine gate_callee (f := 17) rfl ?_); refine goesL_ (some 23) rfl rfl Tryd.func17 (by kernel_rfl) rfl #[.slice Ao21 t342.length co21, .slice Ao22 t348.length co22] rfl (by (try simp only [List.map_toArray, List.map_cons, List.map_nil]); first | done | rfl | (simp only [List.length_drop, List.length_take]; rfl)) ?_; (with_reducible refine (flongref04_Same.calls k _ _ t342 _ _ t348 true _ ?side1 ?side2 ?side3 ?side4 A7.out).mono ?_); (case side1 => repeat (first | exact (Kd.R_reads' HO345.out).2.2 | (with_reducible refine Kd.C_alloc ?_ _) | (with_reducible refine Kd.C_drewN ?_ _) | (with_reducible refine Kd.C_drew ?_))); (case side2 => exact (Kd.R_reads' HO345.out).2.1); (case side3 => repeat (first | exact (Kd.R_reads' HO351.out).2.2 | (with_reducible refine Kd.C_alloc ?_ _) | (with_reducible refine Kd.C_drewN ?_ _) | (with_reducible refine Kd.C_drew ?_))); (case side4 => exact (Kd.R_reads' HO351.out).2.1); rintro e w' ⟨rfl, ⟨nd, rfl⟩⟩; refine ⟨_, rfl, ?_⟩; obtain ⟨Ao23, co23, eo23⟩ := Kd.R_slice HO347.out; subst eo23; obtain ⟨Ao24, co24, eo24⟩ := Kd.R_slice HO353.out; subst eo24) | (go_at_call 18; (with_reducible refine (flongref01_Same.calls k _ _ t343 _ _ t349 false _ ?side1 ?side2 ?side3 ?side4 A9.out).mono ?_); (case side1 => repeat (first | exact (Kd.R_reads' HO347.out).2.2 | (with_reducible refine Kd.C_alloc ?_ _) | (with_reducible refine Kd.C_drewN ?_ _) | (with_reducible refine Kd.C_drew ?_))); (case side2 => exact (Kd.R_reads' HO347.out).2.1); (case side3 => repeat (first | exact (Kd.R_reads' HO353.out).2.2 | (with_reducible refine Kd.C_alloc ?_ _) | (with_reducible refine Kd.C_drewN ?_ _) | (with_reducible refine Kd.C_drew ?_))); (case side4 => exact (Kd.R_reads' HO353.out).2.1); rintro e w' ⟨rfl, ⟨nd, rfl⟩⟩))
        go_ret
        exact ⟨by first | rfl | (simp [errW_none, errW_some] <;> rfl) | (simp [*, errW_none, errW_some] <;> rfl), by repeat (first | (with_reducible first | exact HB.out | apply below_alloc | apply pw_below_drewN | apply below_drew1) | exact HB.out)⟩
    · replace c8 := Bool.eq_false_iff.mpr c8
      subst c8
      have H1 : (some false) = some r := by rw [if_neg (show ¬ (false = true) by decide)] at H; exact H
      clear H
      have H := H1
      clear H1
      obtain rfl := Option.some.inj H
      go_enter Tryd.func3, Tryd.ntmps3
      go_wp2_with (first | ((with_reducible refine gate_callee (f := 15) rfl ?_); refine goesL_ (some 13) rfl rfl Tryd.func15 (by kernel_rfl) rfl #[.string a0] rfl (by (try simp only [List.map_toArray, List.map_cons, List.map_nil]); first | done | rfl | (simp only [List.length_drop, List.length_take]; rfl)) ?_; (with_reducible refine (escape_Scan.calls k a0 t342 t343 _ ?side1 A5.out).mono ?_); (case side1 => exact GL.below HG.out (by repeat (first | (with_reducible first | exact HB.out | apply below_alloc | apply pw_below_drewN | apply below_drew1) | exact HB.out))); rintro e w25 ⟨v344, v346, rfl, ho0, ho1, hb⟩; refine ⟨_, rfl, ?_⟩; have n0_ := Aside0.mk (Kd.R_lower ho0 (below_size (by repeat (first | (with_reducible first | exact HB.out | apply below_alloc | apply pw_below_drewN | apply below_drew1) | exact HB.out)))); have n1_ := Aside0.mk (Kd.R_lower ho1 (below_size (by repeat (first | (with_reducible first | exact HB.out | apply below_alloc | apply pw_below_drewN | apply below_drew1) | exact HB.out)))); have n2_ := Aside0.mk (below_step (by repeat (first | (with_reducible first | exact HB.out | apply below_alloc | apply pw_below_drewN | apply below_drew1) | exact HB.out)) hb); clear HB; have HO345 := n0_; have HO347 := n1_; have HB := n2_; clear n0_ n1_ n2_; (try clear hb); (try clear hb2); (try clear hk); (try clear hi); (try clear ho0); (try clear ho1)) | ((with_reducible refine gate_callee (f := 16) rfl ?_); refine goesL_ (some 18) rfl rfl Tryd.func16 (by kernel_rfl) rfl #[.string a0] rfl (by (try simp only [List.map_toArray, List.map_cons, List.map_nil]); first | done | rfl | (simp only [List.length_drop, List.length_take]; rfl)) ?_; (with_reducible refine (flongref04_Scan.calls k a0 t348 t349 _ A6.out).mono ?_); rintro e w26 ⟨v350, v352, rfl, ho0, ho1, hb⟩; refine ⟨_, rfl, ?_⟩; have n0_ := Aside0.mk (Kd.R_elder' (by (with_reducible repeat (first | apply Kd.R_alloc | apply Kd.R_drewN | apply Kd.R_drew)); exact HO345.out) (Kd.R_base ho0) hb); have n1_ := Aside0.mk (Kd.R_elder' (by (with_reducible repeat (first | apply Kd.R_alloc | apply Kd.R_drewN | apply Kd.R_drew)); exact HO347.out) (Kd.R_base ho1) hb); have n2_ := Aside0.mk (Kd.R_lower (Kd.R_new' ho0 (Kd.R_lt (by (with_reducible repeat (first | apply Kd.R_alloc | apply Kd.R_drewN | apply Kd.R_drew)); exact HO345.out))) (below_size (by repeat (first | (with_reducible first | exact HB.out | apply below_alloc | apply pw_below_drewN | apply below_drew1) | exact HB.out)))); have n3_ := Aside0.mk (Kd.R_lower (Kd.R_new' ho1 (Kd.R_lt (by (with_reducible repeat (first | apply Kd.R_alloc | apply Kd.R_drewN | apply Kd.R_drew)); exact HO347.out))) (below_size (by repeat (first | (with_reducible first | exact HB.out | apply below_alloc | apply pw_below_drewN | apply below_drew1) | exact HB.out)))); have n4_ := Aside0.mk (below_step (by repeat (first | (with_reducible first | exact HB.out | apply below_alloc | apply pw_below_drewN | apply below_drew1) | exact HB.out)) hb); clear HO345; clear HO347; clear HB; have HO345 := n0_; have HO347 := n1_; have HO351 := n2_; have HO353 := n3_; have HB := n4_; clear n0_ n1_ n2_ n3_ n4_; (try clear hb); (try clear hb2); (try clear hk); (try clear hi); (try clear ho0); (try clear ho1); obtain ⟨Ao27, co27, eo27⟩ := Kd.R_slice HO345.out; subst eo27; obtain ⟨Ao28, co28, eo28⟩ := Kd.R_slice HO351.out; subst eo28) | ((with_reducible refine gate_callee (f := 17) rfl ?_); refine goesL_ (some 23) rfl rfl Tryd.func17 (by kernel_rfl) rfl #[.slice Ao27 t342.length co27, .slice Ao28 t348.length co28] rfl (by (try simp only [List.map_toArray, List.map_cons, List.map_nil]); first | done | rfl | (simp only [List.length_drop, List.length_take]; rfl)) ?_; (with_reducible refine (flongref04_Same.calls k _ _ t342 _ _ t348 false _ ?side1 ?side2 ?side3 ?side4 A7.out).mono ?_); (case side1 => repeat (first | exact (Kd.R_reads' HO345.out).2.2 | (with_reducible refine Kd.C_alloc ?_ _) | (with_reducible refine Kd.C_drewN ?_ _) | (with_reducible refine Kd.C_drew ?_))); (case side2 => exact (Kd.R_reads' HO345.out).2.1); (case side3 => repeat (first | exact (Kd.R_reads' HO351.out).2.2 | (with_reducible refine Kd.C_alloc ?_ _) | (with_reducible refine Kd.C_drewN ?_ _) | (with_reducible refine Kd.C_drew ?_))); (case side4 => exact (Kd.R_reads' HO351.out).2.1); rintro e w' ⟨rfl, ⟨nd, rfl⟩⟩; refine ⟨_, rfl, ?_⟩))
      go_ret
      exact ⟨by first | rfl | (simp [errW_none, errW_some] <;> rfl) | (simp [*, errW_none, errW_some] <;> rfl), by repeat (first | (with_reducible first | exact HB.out | apply below_alloc | apply pw_below_drewN | apply below_drew1) | exact HB.out)⟩
def flonglaw04_EscapeScans.Pure : Prop := ∀ (a0 : ByteArray), a0.size ≤ 140737488351232 → ∃ k, flonglaw04_EscapeScans.f k a0 = some true
theorem flonglaw04_EscapeScans.walk (P : flonglaw04_EscapeScans.Pure) (a0 : ByteArray) (w : World) (hG : GL w) (w0 : a0.size ≤ 140737488351232) :
    Calls Tryd.prog 3 #[.string a0] w fun e w' => e = .returned (.bool true) ∧ Below w.heap.size w w' := by
  obtain ⟨k, h⟩ := P a0 w0
  refine (flonglaw04_EscapeScans.calls k a0 true w hG h).mono ?_
  rintro e w' ⟨rfl, hd⟩
  exact ⟨rfl, hd⟩
end Go.Proofs.YtdogljnddalgdaaDoor.A4
end
section
namespace Go.Proofs.YtdogljnddalgdaaDoor.A4
open Go Go.RowKit Go.Proofs.YtdogljnddalgdaaDoor Go.Proofs.YtdogljnddalgdaaDoorW.PrintWords Go.Proofs.YtdogljnddalgdaaDoorW.PrintLast Go.Proofs.YtdogljnddalgdaaDoorW.PrintMore
theorem Ev_eq {α : Type} {g : Nat → Option α} {a b : α} (h : Ev g a) (e : a = b) : Ev g b := e ▸ h
def ctl (c : Int) : Bool := decide ((0 ≤ c ∧ c ≤ 31) ∨ (127 ≤ c ∧ c ≤ 159) ∨ c = 8232 ∨ c = 8233)
def val (c : Int) : Bool := decide (0 ≤ c ∧ c ≤ 1114111 ∧ (c < 55296 ∨ 57343 < c))
def safe (c : Int) : Int := if val c = true ∧ ctl c = false then c else 65533
theorem runes_Valid_is (c : Int) : runes_Valid.f c = some (val c) := by
  unfold runes_Valid.f val
  repeat' split
  all_goals (congr 1; rw [Bool.eq_iff_iff]; simp; try omega)
theorem ref_Valid_is (c : Int) : flongref02_Valid.f c = some (val c) := by
  unfold flongref02_Valid.f val
  repeat' split
  all_goals (congr 1; rw [Bool.eq_iff_iff]; simp; try omega)
theorem ref_Control_is (c : Int) : flongref02_Control.f c = some (ctl c) := by
  unfold flongref02_Control.f ctl
  repeat' split
  all_goals (congr 1; rw [Bool.eq_iff_iff]; simp; try omega)
theorem Ev_Control (c : Int) : Ev (fun k => runes_Control.f k c) (ctl c) := by
  have j1 : ∀ b, Ev (fun k => runes_Control.j1 k c b) (b || decide (c = 8232 ∨ c = 8233)) := by
    intro b
    refine Ev.succ ?_
    simp only [runes_Control.j1]
    by_cases h1 : b = true
    · exact Ev.pos h1 (Ev.val (by simp [h1]))
    refine Ev.neg h1 ?_
    by_cases h2 : c = 8232
    · exact Ev.pos h2 (Ev.val (by simp [h2]))
    refine Ev.neg h2 ?_
    by_cases h3 : c = 8233
    · exact Ev.pos h3 (Ev.val (by simp [h3]))
    · exact Ev.neg h3 (Ev.val (by simp [h1, h2, h3]))
  have j0 : ∀ b, Ev (fun k => runes_Control.j0 k c b) (b || decide (127 ≤ c ∧ c ≤ 159) || decide (c = 8232 ∨ c = 8233)) := by
    intro b
    refine Ev.succ ?_
    simp only [runes_Control.j0]
    by_cases h1 : b = true
    · exact Ev.pos h1 (Ev_eq (j1 b) (by simp [h1]))
    refine Ev.neg h1 ?_
    by_cases h2 : c ≥ 127
    · exact Ev.pos h2 (Ev_eq (j1 _) (by simp [h1, show 127 ≤ c from h2]))
    · exact Ev.neg h2 (Ev_eq (j1 _) (by simp [h1, h2]))
  unfold runes_Control.f ctl
  by_cases h : c ≥ 0
  · refine Ev.pos h (Ev_eq (j0 _) ?_)
    rw [Bool.eq_iff_iff]; simp; omega
  · refine Ev.neg h (Ev_eq (j0 _) ?_)
    rw [Bool.eq_iff_iff]; simp; omega
theorem Ev_Safe (c : Int) : Ev (fun k => runes_Safe.f k c) (safe c) := by
  unfold runes_Safe.f safe
  refine Ev.const_bind (runes_Valid_is c) ?_
  by_cases h : val c = true
  · refine Ev.pos h (Ev.bind (Ev_Control c) ?_)
    by_cases h2 : ctl c = true
    · exact Ev.pos h2 (Ev.val (by simp [h2]))
    · exact Ev.neg h2 (Ev.val (by simp [h, h2]))
  · exact Ev.neg h (Ev.val (by simp [h]))
theorem ref_Safe_is (c : Int) : flongref02_Safe.f c = some (safe c) := by
  unfold flongref02_Safe.f safe
  rw [ref_Valid_is]
  simp only [Option.bind_some]
  by_cases h : val c = true
  · rw [if_pos h, ref_Control_is]
    simp only [Option.bind_some]
    by_cases h2 : ctl c = true
    · rw [if_pos h2]; simp [h2]
    · rw [if_neg h2]; simp [h, h2]
  · rw [if_neg h]; simp [h]
def hexd (c : Int) : Option Int := if 48 ≤ c ∧ c ≤ 57 then some (c - 48) else if 65 ≤ c ∧ c ≤ 70 then some (c - 55) else none
theorem Ev_digit (c : Int) (h0 : 0 ≤ c) (h1 : c ≤ 255) : Ev (fun k => escape_digit.f k c) (match hexd c with | some d => (d, true) | none => (0, false)) := by
  have j0 : ∀ b : Bool, b = decide (48 ≤ c ∧ c ≤ 57) → Ev (fun k => escape_digit.j0 k c b) (match hexd c with | some d => (d, true) | none => (0, false)) := by
    intro b hb
    refine Ev.succ ?_
    simp only [escape_digit.j0]
    by_cases h : b = true
    · refine Ev.pos h (Ev.val ?_)
      have : 48 ≤ c ∧ c ≤ 57 := by rw [hb] at h; simpa using h
      simp [hexd, this]
      omega
    · refine Ev.neg h ?_
      have hn : ¬ (48 ≤ c ∧ c ≤ 57) := by rw [hb] at h; simpa using h
      by_cases h2 : c ≥ 65
      · refine Ev.pos h2 ?_
        by_cases h3 : c ≤ 70
        · refine Ev.pos h3 (Ev.val ?_)
          simp only [hexd, if_neg hn, if_pos (show 65 ≤ c ∧ c ≤ 70 from ⟨h2, h3⟩)]
          congr 1
          omega
        · refine Ev.neg h3 (Ev.val ?_)
          simp only [hexd, if_neg hn, if_neg (show ¬ (65 ≤ c ∧ c ≤ 70) by omega)]
      · refine Ev.neg h2 (Ev.val ?_)
        simp only [hexd, if_neg hn, if_neg (show ¬ (65 ≤ c ∧ c ≤ 70) by omega)]
  unfold escape_digit.f
  by_cases h : c ≥ 48
  · exact Ev.pos h (j0 _ (by rw [Bool.eq_iff_iff]; simp; omega))
  · exact Ev.neg h (j0 _ (by rw [Bool.eq_iff_iff]; simp; omega))
end Go.Proofs.YtdogljnddalgdaaDoor.A4
end
