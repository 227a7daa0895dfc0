/- Of what the law EscapeQuotes needs: part 22. -/
import Derived.ArgAppend
import Derived.Below
import Derived.BigQuiet
import Derived.Deep.AppendLies
import Derived.Deep.CutBlock
import Derived.Deep.DeepCutAuto
import Derived.Deep.Draws
import Derived.Deep.LoopGhost
import Derived.Deep.OwnRows
import Derived.Deep.QuietTactic
import Derived.Deep.RegionHeld3
import Derived.KernelRfl
import Derived.Laws.BitsLemmas
import Derived.Laws.BytesArg
import Derived.Laws.Cover4
import Derived.Laws.IdiomCopy
import Derived.Laws.MakeOwn
import Derived.Laws.OwnMore
import Derived.Laws.Rows
import Derived.Laws.Slices
import Derived.Laws.StructEq
import Derived.Lib.AppendStr
import Derived.Lib.ConvBytes
import Derived.Maps.AppendAt
import Derived.Maps.Own
import Derived.Maps.OwnOps
import Derived.Maps.OwnSet
import Derived.OrdersHeld
import Derived.OwnWalk
import Derived.RowKit
import Derived.RowKit3
import Derived.StringKeys
import Derived.Tactics
import Derived.Test.YtdogljnddalgdaaDoorProg
import Derived.WalkKit
import Derived.WalkMore
import Derived.WideLaws
import Derived.Test.YtdogljnddalgdaaDoorBQuotes8
import Derived.Test.YtdogljnddalgdaaDoorBQuotes10
import Derived.Test.YtdogljnddalgdaaDoorBQuotes11
import Derived.Test.YtdogljnddalgdaaDoorBQuotes12
import Derived.Test.YtdogljnddalgdaaDoorBQuotes13
namespace Go.Proofs.YtdogljnddalgdaaDoorW.PrintLast
end Go.Proofs.YtdogljnddalgdaaDoorW.PrintLast
namespace Go.Proofs.YtdogljnddalgdaaDoorW.PrintMore
end Go.Proofs.YtdogljnddalgdaaDoorW.PrintMore
namespace Go.Proofs.YtdogljnddalgdaaDoorW.PrintWords
end Go.Proofs.YtdogljnddalgdaaDoorW.PrintWords
section
namespace Go.Proofs.YtdogljnddalgdaaDoor.A4
open Go.RowKit Go.Proofs.YtdogljnddalgdaaDoorW.PrintWords Go.Proofs.YtdogljnddalgdaaDoorW.PrintLast Go.Proofs.YtdogljnddalgdaaDoorW.PrintMore
attribute [local go_sem] max2_int min2_int max_two min_two max_three min_three max_four min_four   -- for this text's walks alone
set_option linter.unusedVariables false
set_option linter.unusedSimpArgs false
mutual
def flonglaw04_EscapeSafe.l0 : Nat → List (S38) → List (S41) → Int → Int → Option (Bool)
  | 0, _, _, _, _ => none
  | k + 1, x3, x4, x5, x6 => if x6 < (x3.length : Int) then (if 0 ≤ x6 then (if ((rd_T38 x3 x6).f0) = 1 then ((flongref02_Safe.f ((rd_T38 x3 x6).f1)).bind fun t382 => (if t382 = ((rd_T38 x3 x6).f1) then (flonglaw04_EscapeSafe.l0 k x3 x4 x5 (wrap64 (x6 + 1))) else (some false))) else (if ((rd_T38 x3 x6).f0) = 2 then (if ((rd_T38 x3 x6).f1) = 0 then (flonglaw04_EscapeSafe.l0 k x3 x4 x5 (wrap64 (x6 + 1))) else (some false)) else (if ((rd_T38 x3 x6).f0) = 3 then (if ((rd_T38 x3 x6).f1) < 0 then (some false) else (if ((rd_T38 x3 x6).f1) > 4 then (some false) else (flonglaw04_EscapeSafe.l0 k x3 x4 x5 (wrap64 (x6 + 1))))) else (some false)))) else (none)) else (flonglaw04_EscapeSafe.l1 k x3 x4 x5 0)
def flonglaw04_EscapeSafe.l1 : Nat → List (S38) → List (S41) → Int → Int → Option (Bool)
  | 0, _, _, _, _ => none
  | k + 1, x3, x4, x5, x7 => if x7 < (x4.length : Int) then (if 0 ≤ x7 then (if ((rd_T41 x4 x7).f1) = 0 then (if ((rd_T41 x4 x7).f2) < 1 then (some false) else (if ((rd_T41 x4 x7).f2) > x5 then (some false) else (if x7 > 0 then (if 0 ≤ (wrap64 (x7 - 1)) then (if (wrap64 (x7 - 1)) < (x4.length : Int) then (if ((rd_T41 x4 x7).f2) ≤ ((rd_T41 x4 (wrap64 (x7 - 1))).f2) then (some false) else (if ((rd_T41 x4 x7).f0) < 1 then (some false) else (if ((rd_T41 x4 x7).f0) > 3 then (some false) else (flonglaw04_EscapeSafe.l1 k x3 x4 x5 (wrap64 (x7 + 1)))))) else (none)) else (none)) else (if ((rd_T41 x4 x7).f0) < 1 then (some false) else (if ((rd_T41 x4 x7).f0) > 3 then (some false) else (flonglaw04_EscapeSafe.l1 k x3 x4 x5 (wrap64 (x7 + 1)))))))) else (some false)) else (none)) else (if (x3.length : Int) ≤ x5 then ((flonglaw04_known.f k).bind fun t396 => (some t396)) else (some false))
end
def flonglaw04_EscapeSafe.f (k : Nat) (a0 : ByteArray) : Option (Bool) := if (a0.size : Int) > 1500 then ((flonglaw04_known.f k).bind fun t367 => (some t367)) else ((escape_Scan.f k a0).bind fun bt368 => (if a0.size ≤ 9223372036854775807 then ((some (bytesOf a0)).bind fun t374 => ((flongref02_Decode.f k t374).bind fun t377 => (flonglaw04_EscapeSafe.l0 k bt368.1 bt368.2 (t377.length : Int) 0))) else (none)))
theorem flonglaw04_EscapeSafe.mono_l : ∀ k, (∀ y0 y1 y2 y3, LeO (flonglaw04_EscapeSafe.l0 k y0 y1 y2 y3) (flonglaw04_EscapeSafe.l0 (k + 1) y0 y1 y2 y3)) ∧ (∀ y0 y1 y2 y3, LeO (flonglaw04_EscapeSafe.l1 k y0 y1 y2 y3) (flonglaw04_EscapeSafe.l1 (k + 1) y0 y1 y2 y3))
  | 0 => ⟨fun _ _ _ _ r h => by simp [flonglaw04_EscapeSafe.l0] at h, fun _ _ _ _ r h => by simp [flonglaw04_EscapeSafe.l1] at h⟩
  | k + 1 => by
    obtain ⟨ih0, ih1⟩ := flonglaw04_EscapeSafe.mono_l k
    refine ⟨?_, ?_⟩
    · intro y0 y1 y2 y3
      unfold flonglaw04_EscapeSafe.l0
      repeat' first
      | (with_reducible exact ih0 _ _ _ _)
      | (with_reducible exact ih1 _ _ _ _)
      | (with_reducible exact escape_Scan.mono _ _)
      | (with_reducible exact flonglaw04_known.mono _)
      | (with_reducible exact flongref02_Decode.mono _ _)
      | (with_reducible exact LeO.refl _)
      | (with_reducible exact LeO.none _)
      | (with_reducible refine LeO.ite ?_ ?_)
      | (with_reducible refine LeO.bind ?_ (fun _ => ?_))
      | exact ih0 _ _ _ _
      | exact ih1 _ _ _ _
      | exact escape_Scan.mono _ _
      | exact flonglaw04_known.mono _
      | exact flongref02_Decode.mono _ _
      | exact LeO.none _
      | refine LeO.ite ?_ ?_
      | refine LeO.bind ?_ (fun _ => ?_)
    · intro y0 y1 y2 y3
      unfold flonglaw04_EscapeSafe.l1
      repeat' first
      | (with_reducible exact ih0 _ _ _ _)
      | (with_reducible exact ih1 _ _ _ _)
      | (with_reducible exact escape_Scan.mono _ _)
      | (with_reducible exact flonglaw04_known.mono _)
      | (with_reducible exact flongref02_Decode.mono _ _)
      | (with_reducible exact LeO.refl _)
      | (with_reducible exact LeO.none _)
      | (with_reducible refine LeO.ite ?_ ?_)
      | (with_reducible refine LeO.bind ?_ (fun _ => ?_))
      | exact ih0 _ _ _ _
      | exact ih1 _ _ _ _
      | exact escape_Scan.mono _ _
      | exact flonglaw04_known.mono _
      | exact flongref02_Decode.mono _ _
      | exact LeO.none _
      | refine LeO.ite ?_ ?_
      | refine LeO.bind ?_ (fun _ => ?_)
theorem flonglaw04_EscapeSafe.mono : ∀ a0 k, LeO (flonglaw04_EscapeSafe.f k a0) (flonglaw04_EscapeSafe.f (k + 1) a0) := by
  intro a0 k
  obtain ⟨ih0, ih1⟩ := flonglaw04_EscapeSafe.mono_l k
  unfold flonglaw04_EscapeSafe.f
  repeat' first
      | (with_reducible exact ih0 _ _ _ _)
      | (with_reducible exact ih1 _ _ _ _)
      | (with_reducible exact escape_Scan.mono _ _)
      | (with_reducible exact flonglaw04_known.mono _)
      | (with_reducible exact flongref02_Decode.mono _ _)
      | (with_reducible exact LeO.refl _)
      | (with_reducible exact LeO.none _)
      | (with_reducible refine LeO.ite ?_ ?_)
      | (with_reducible refine LeO.bind ?_ (fun _ => ?_))
      | exact ih0 _ _ _ _
      | exact ih1 _ _ _ _
      | exact escape_Scan.mono _ _
      | exact flonglaw04_known.mono _
      | exact flongref02_Decode.mono _ _
      | exact LeO.none _
      | refine LeO.ite ?_ ?_
      | refine LeO.bind ?_ (fun _ => ?_)
set_option maxHeartbeats 8000000 in
set_option maxRecDepth 100000 in
theorem flonglaw04_EscapeSafe.calls (k : Nat) (a0 : ByteArray) (r : Bool) (w : World) (hG : GL w) (h : flonglaw04_EscapeSafe.f k a0 = some r) :
    Calls Tryd.prog 5 #[.string a0] w fun e w' => e = .returned (.bool r) ∧ Below w.heap.size w w' := by
  have HG := Aside0.mk hG
  clear hG
  have HB := Aside0.mk (Below.refl w.heap.size w)
  have H : (if (a0.size : Int) > 1500 then ((flonglaw04_known.f k).bind fun t367 => (some t367)) else ((escape_Scan.f k a0).bind fun bt368 => (if a0.size ≤ 9223372036854775807 then ((some (bytesOf a0)).bind fun t374 => ((flongref02_Decode.f k t374).bind fun t377 => (flonglaw04_EscapeSafe.l0 k bt368.1 bt368.2 (t377.length : Int) 0))) else (none)))) = some r := h
  clear h
  by_cases c2 : (a0.size : Int) > 1500
  · rw [if_pos c2] at H
    have c2b0 : decide (1500 < (a0.size : Int)) = true := decide_eq_true c2
    have c2b1 : decide (1500 < a0.size) = true := decide_eq_true (by omega)
    clear c2
    replace H := Option.bind_eq_some_iff.mp H
    obtain ⟨t367, A30, H⟩ := H
    replace H : (some t367) = some r := H
    have A3 := Aside0.mk A30
    clear A30
    obtain rfl := Option.some.inj H
    go_enter Tryd.func5, Tryd.ntmps5
    go_wp2_with (first | (go_at_call 14; (with_reducible refine (flonglaw04_known.calls k  t367 _ ?side1 A3.out).mono ?_); (case side1 => exact GL.below HG.out (by repeat (first | (with_reducible first | exact HB.out | apply below_alloc | apply pw_below_drewN | apply below_drew1) | exact HB.out))); rintro e w4 ⟨rfl, hb⟩; have n0_ := Aside0.mk (below_step (by repeat (first | (with_reducible first | exact HB.out | apply below_alloc | apply pw_below_drewN | apply below_drew1) | exact HB.out)) hb); clear HB; have HB := n0_; clear n0_; (try clear hb); (try clear hb2); (try clear hk); (try clear hi)))
    repeat (go_quiet (first | (go_at_call 14; (with_reducible refine (flonglaw04_known.calls k  t367 _ ?side1 A3.out).mono ?_); (case side1 => exact GL.below HG.out (by repeat (first | (with_reducible first | exact HB.out | apply below_alloc | apply pw_below_drewN | apply below_drew1) | exact HB.out))); rintro e w4 ⟨rfl, hb⟩; have n0_ := Aside0.mk (below_step (by repeat (first | (with_reducible first | exact HB.out | apply below_alloc | apply pw_below_drewN | apply below_drew1) | exact HB.out)) hb); clear HB; have HB := n0_; clear n0_; (try clear hb); (try clear hb2); (try clear hk); (try clear hi))); try go_wp2_with (first | (go_at_call 14; (with_reducible refine (flonglaw04_known.calls k  t367 _ ?side1 A3.out).mono ?_); (case side1 => exact GL.below HG.out (by repeat (first | (with_reducible first | exact HB.out | apply below_alloc | apply pw_below_drewN | apply below_drew1) | exact HB.out))); rintro e w4 ⟨rfl, hb⟩; have n0_ := Aside0.mk (below_step (by repeat (first | (with_reducible first | exact HB.out | apply below_alloc | apply pw_below_drewN | apply below_drew1) | exact HB.out)) hb); clear HB; have HB := n0_; clear n0_; (try clear hb); (try clear hb2); (try clear hk); (try clear hi))))
    go_ret
    exact ⟨by first | rfl | (simp [errW_none, errW_some] <;> rfl) | (simp [*, errW_none, errW_some] <;> rfl), by repeat (first | (with_reducible first | exact HB.out | apply below_alloc | apply pw_below_drewN | apply below_drew1) | exact HB.out)⟩
  · rw [if_neg c2] at H
    have c2b0 : decide (1500 < (a0.size : Int)) = false := decide_eq_false c2
    have c2b1 : decide (1500 < a0.size) = false := decide_eq_false (by omega)
    clear c2
    replace H := Option.bind_eq_some_iff.mp H
    obtain ⟨⟨t368, t369⟩, A50, H⟩ := H
    replace H : (if a0.size ≤ 9223372036854775807 then ((some (bytesOf a0)).bind fun t374 => ((flongref02_Decode.f k t374).bind fun t377 => (flonglaw04_EscapeSafe.l0 k t368 t369 (t377.length : Int) 0))) else (none)) = some r := H
    have A5 := Aside0.mk A50
    clear A50
    by_cases c6 : a0.size ≤ 9223372036854775807
    · rw [if_pos c6] at H
      have c6b0 := eq_true c6
      have c6b1 : decide (a0.size ≤ 9223372036854775807) = true := decide_eq_true c6
      try have c6b2 : (9223372036854775807 < a0.size) = False := eq_false (Nat.not_lt.2 c6)
      clear c6
      replace H := Option.bind_eq_some_iff.mp H
      obtain ⟨t374, A70, H⟩ := H
      replace H : ((flongref02_Decode.f k t374).bind fun t377 => (flonglaw04_EscapeSafe.l0 k t368 t369 (t377.length : Int) 0)) = some r := H
      have A7 := Aside0.mk A70
      clear A70
      replace H := Option.bind_eq_some_iff.mp H
      obtain ⟨t377, A80, H⟩ := H
      replace H : (flonglaw04_EscapeSafe.l0 k t368 t369 (t377.length : Int) 0) = some r := H
      have A8 := Aside0.mk A80
      clear A80
      have H' := Aside0.mk H
      clear H
      go_enter Tryd.func5, Tryd.ntmps5
      go_wp2_with (first | (go_at_call 15; (with_reducible refine (escape_Scan.calls k a0 t368 t369 _ ?side1 A5.out).mono ?_); (case side1 => exact GL.below HG.out (by repeat (first | (with_reducible first | exact HB.out | apply below_alloc | apply pw_below_drewN | apply below_drew1) | exact HB.out))); rintro e w9 ⟨v370, v372, rfl, ho0, ho1, hb⟩; have n0_ := Aside0.mk (Kd.R_lower ho0 (below_size (by repeat (first | (with_reducible first | exact HB.out | apply below_alloc | apply pw_below_drewN | apply below_drew1) | exact HB.out)))); have n1_ := Aside0.mk (Kd.R_lower ho1 (below_size (by repeat (first | (with_reducible first | exact HB.out | apply below_alloc | apply pw_below_drewN | apply below_drew1) | exact HB.out)))); have n2_ := Aside0.mk (below_step (by repeat (first | (with_reducible first | exact HB.out | apply below_alloc | apply pw_below_drewN | apply below_drew1) | exact HB.out)) hb); clear HB; have HO371 := n0_; have HO373 := n1_; have HB := n2_; clear n0_ n1_ n2_; (try clear hb); (try clear hb2); (try clear hk); (try clear hi); (try clear ho0); (try clear ho1)) | ((with_reducible refine gate_dst (N := 18) rfl ?_); refine conv_step (by rfl) 9 36 5 _ rfl Tryd.underlying9 Tryd.underlying36 Tryd.underlying5 a0 (of_decide_eq_true (by first | (with_reducible assumption) | assumption)) (by rfl) t374 A7.out ?_; rintro e w10 ⟨v375, rfl, ho0, hb⟩; have n0_ := Aside0.mk (Kd.R_below (by (with_reducible repeat (first | apply Kd.R_alloc | apply Kd.R_drewN | apply Kd.R_drew)); exact HO371.out) hb); have n1_ := Aside0.mk (Kd.R_below (by (with_reducible repeat (first | apply Kd.R_alloc | apply Kd.R_drewN | apply Kd.R_drew)); exact HO373.out) hb); have n2_ := Aside0.mk (Kd.V_lower (Kd.V_mono (ok' := fun k_ => some k_ ≠ (v370 : Value).ownBlock ∧ some k_ ≠ (v372 : Value).ownBlock) ho0 (fun k_ hk_ => ⟨(Kd.fresh' (Kd.R_lt (by (with_reducible repeat (first | apply Kd.R_alloc | apply Kd.R_drewN | apply Kd.R_drew)); exact HO371.out)) k_ hk_), (Kd.fresh' (Kd.R_lt (by (with_reducible repeat (first | apply Kd.R_alloc | apply Kd.R_drewN | apply Kd.R_drew)); exact HO373.out)) k_ hk_)⟩)) (below_size (by repeat (first | (with_reducible first | exact HB.out | apply below_alloc | apply pw_below_drewN | apply below_drew1) | exact HB.out)))); have n3_ := Aside0.mk (below_step (by repeat (first | (with_reducible first | exact HB.out | apply below_alloc | apply pw_below_drewN | apply below_drew1) | exact HB.out)) hb); clear HO371; clear HO373; clear HB; have HO371 := n0_; have HO373 := n1_; have HO376 := n2_; have HB := n3_; clear n0_ n1_ n2_ n3_; (try clear hb); (try clear hb2); (try clear hk); (try clear hi); (try clear ho0); obtain ⟨Ao11, co11, eo11⟩ := Kd.V_slice HO376.out; subst eo11) | (go_at_call 25; (with_reducible refine (flongref02_Decode.calls k _ _ t374 t377 _ ?side1 ?side2 A8.out).mono ?_); (case side1 => repeat (first | exact (Kd.V_reads' HO376.out).2.2 | (with_reducible refine Kd.C_alloc ?_ _) | (with_reducible refine Kd.C_drewN ?_ _) | (with_reducible refine Kd.C_drew ?_))); (case side2 => exact (Kd.V_reads' HO376.out).2.1); rintro e w12 ⟨v378, rfl, ho0, hb⟩; have n0_ := Aside0.mk (Kd.R_below (by (with_reducible repeat (first | apply Kd.R_alloc | apply Kd.R_drewN | apply Kd.R_drew)); exact HO371.out) hb); have n1_ := Aside0.mk (Kd.R_below (by (with_reducible repeat (first | apply Kd.R_alloc | apply Kd.R_drewN | apply Kd.R_drew)); exact HO373.out) hb); have n2_ := Aside0.mk (Kd.V_elder' (by (with_reducible repeat (first | apply Kd.V_alloc | apply Kd.V_drewN | apply Kd.V_drew)); exact HO376.out) (Kd.R_base ho0) hb); have n3_ := Aside0.mk (Kd.R_lower ho0 (below_size (by repeat (first | (with_reducible first | exact HB.out | apply below_alloc | apply pw_below_drewN | apply below_drew1) | exact HB.out)))); have n4_ := Aside0.mk (below_step (by repeat (first | (with_reducible first | exact HB.out | apply below_alloc | apply pw_below_drewN | apply below_drew1) | exact HB.out)) hb); clear HO371; clear HO373; clear HO376; clear HB; have HO371 := n0_; have HO373 := n1_; have HO376 := n2_; have HO379 := n3_; have HB := n4_; clear n0_ n1_ n2_ n3_ n4_; (try clear hb); (try clear hb2); (try clear hk); (try clear hi); (try clear ho0); obtain ⟨Ao13, co13, eo13⟩ := Kd.R_slice HO379.out; subst eo13))
      repeat (go_quiet (first | (go_at_call 15; (with_reducible refine (escape_Scan.calls k a0 t368 t369 _ ?side1 A5.out).mono ?_); (case side1 => exact GL.below HG.out (by repeat (first | (with_reducible first | exact HB.out | apply below_alloc | apply pw_below_drewN | apply below_drew1) | exact HB.out))); rintro e w9 ⟨v370, v372, rfl, ho0, ho1, hb⟩; have n0_ := Aside0.mk (Kd.R_lower ho0 (below_size (by repeat (first | (with_reducible first | exact HB.out | apply below_alloc | apply pw_below_drewN | apply below_drew1) | exact HB.out)))); have n1_ := Aside0.mk (Kd.R_lower ho1 (below_size (by repeat (first | (with_reducible first | exact HB.out | apply below_alloc | apply pw_below_drewN | apply below_drew1) | exact HB.out)))); have n2_ := Aside0.mk (below_step (by repeat (first | (with_reducible first | exact HB.out | apply below_alloc | apply pw_below_drewN | apply below_drew1) | exact HB.out)) hb); clear HB; have HO371 := n0_; have HO373 := n1_; have HB := n2_; clear n0_ n1_ n2_; (try clear hb); (try clear hb2); (try clear hk); (try clear hi); (try clear ho0); (try clear ho1)) | ((with_reducible refine gate_dst (N := 18) rfl ?_); refine conv_step (by rfl) 9 36 5 _ rfl Tryd.underlying9 Tryd.underlying36 Tryd.underlying5 a0 (of_decide_eq_true (by first | (with_reducible assumption) | assumption)) (by rfl) t374 A7.out ?_; rintro e w10 ⟨v375, rfl, ho0, hb⟩; have n0_ := Aside0.mk (Kd.R_below (by (with_reducible repeat (first | apply Kd.R_alloc | apply Kd.R_drewN | apply Kd.R_drew)); exact HO371.out) hb); have n1_ := Aside0.mk (Kd.R_below (by (with_reducible repeat (first | apply Kd.R_alloc | apply Kd.R_drewN | apply Kd.R_drew)); exact HO373.out) hb); have n2_ := Aside0.mk (Kd.V_lower (Kd.V_mono (ok' := fun k_ => some k_ ≠ (v370 : Value).ownBlock ∧ some k_ ≠ (v372 : Value).ownBlock) ho0 (fun k_ hk_ => ⟨(Kd.fresh' (Kd.R_lt (by (with_reducible repeat (first | apply Kd.R_alloc | apply Kd.R_drewN | apply Kd.R_drew)); exact HO371.out)) k_ hk_), (Kd.fresh' (Kd.R_lt (by (with_reducible repeat (first | apply Kd.R_alloc | apply Kd.R_drewN | apply Kd.R_drew)); exact HO373.out)) k_ hk_)⟩)) (below_size (by repeat (first | (with_reducible first | exact HB.out | apply below_alloc | apply pw_below_drewN | apply below_drew1) | exact HB.out)))); have n3_ := Aside0.mk (below_step (by repeat (first | (with_reducible first | exact HB.out | apply below_alloc | apply pw_below_drewN | apply below_drew1) | exact HB.out)) hb); clear HO371; clear HO373; clear HB; have HO371 := n0_; have HO373 := n1_; have HO376 := n2_; have HB := n3_; clear n0_ n1_ n2_ n3_; (try clear hb); (try clear hb2); (try clear hk); (try clear hi); (try clear ho0); obtain ⟨Ao11, co11, eo11⟩ := Kd.V_slice HO376.out; subst eo11) | (go_at_call 25; (with_reducible refine (flongref02_Decode.calls k _ _ t374 t377 _ ?side1 ?side2 A8.out).mono ?_); (case side1 => repeat (first | exact (Kd.V_reads' HO376.out).2.2 | (with_reducible refine Kd.C_alloc ?_ _) | (with_reducible refine Kd.C_drewN ?_ _) | (with_reducible refine Kd.C_drew ?_))); (case side2 => exact (Kd.V_reads' HO376.out).2.1); rintro e w12 ⟨v378, rfl, ho0, hb⟩; have n0_ := Aside0.mk (Kd.R_below (by (with_reducible repeat (first | apply Kd.R_alloc | apply Kd.R_drewN | apply Kd.R_drew)); exact HO371.out) hb); have n1_ := Aside0.mk (Kd.R_below (by (with_reducible repeat (first | apply Kd.R_alloc | apply Kd.R_drewN | apply Kd.R_drew)); exact HO373.out) hb); have n2_ := Aside0.mk (Kd.V_elder' (by (with_reducible repeat (first | apply Kd.V_alloc | apply Kd.V_drewN | apply Kd.V_drew)); exact HO376.out) (Kd.R_base ho0) hb); have n3_ := Aside0.mk (Kd.R_lower ho0 (below_size (by repeat (first | (with_reducible first | exact HB.out | apply below_alloc | apply pw_below_drewN | apply below_drew1) | exact HB.out)))); have n4_ := Aside0.mk (below_step (by repeat (first | (with_reducible first | exact HB.out | apply below_alloc | apply pw_below_drewN | apply below_drew1) | exact HB.out)) hb); clear HO371; clear HO373; clear HO376; clear HB; have HO371 := n0_; have HO373 := n1_; have HO376 := n2_; have HO379 := n3_; have HB := n4_; clear n0_ n1_ n2_ n3_ n4_; (try clear hb); (try clear hb2); (try clear hk); (try clear hi); (try clear ho0); obtain ⟨Ao13, co13, eo13⟩ := Kd.R_slice HO379.out; subst eo13)); try go_wp2_with (first | (go_at_call 15; (with_reducible refine (escape_Scan.calls k a0 t368 t369 _ ?side1 A5.out).mono ?_); (case side1 => exact GL.below HG.out (by repeat (first | (with_reducible first | exact HB.out | apply below_alloc | apply pw_below_drewN | apply below_drew1) | exact HB.out))); rintro e w9 ⟨v370, v372, rfl, ho0, ho1, hb⟩; have n0_ := Aside0.mk (Kd.R_lower ho0 (below_size (by repeat (first | (with_reducible first | exact HB.out | apply below_alloc | apply pw_below_drewN | apply below_drew1) | exact HB.out)))); have n1_ := Aside0.mk (Kd.R_lower ho1 (below_size (by repeat (first | (with_reducible first | exact HB.out | apply below_alloc | apply pw_below_drewN | apply below_drew1) | exact HB.out)))); have n2_ := Aside0.mk (below_step (by repeat (first | (with_reducible first | exact HB.out | apply below_alloc | apply pw_below_drewN | apply below_drew1) | exact HB.out)) hb); clear HB; have HO371 := n0_; have HO373 := n1_; have HB := n2_; clear n0_ n1_ n2_; (try clear hb); (try clear hb2); (try clear hk); (try clear hi); (try clear ho0); (try clear ho1)) | ((with_reducible refine gate_dst (N := 18) rfl ?_); refine conv_step (by rfl) 9 36 5 _ rfl Tryd.underlying9 Tryd.underlying36 Tryd.underlying5 a0 (of_decide_eq_true (by first | (with_reducible assumption) | assumption)) (by rfl) t374 A7.out ?_; rintro e w10 ⟨v375, rfl, ho0, hb⟩; have n0_ := Aside0.mk (Kd.R_below (by (with_reducible repeat (first | apply Kd.R_alloc | apply Kd.R_drewN | apply Kd.R_drew)); exact HO371.out) hb); have n1_ := Aside0.mk (Kd.R_below (by (with_reducible repeat (first | apply Kd.R_alloc | apply Kd.R_drewN | apply Kd.R_drew)); exact HO373.out) hb); have n2_ := Aside0.mk (Kd.V_lower (Kd.V_mono (ok' := fun k_ => some k_ ≠ (v370 : Value).ownBlock ∧ some k_ ≠ (v372 : Value).ownBlock) ho0 (fun k_ hk_ => ⟨(Kd.fresh' (Kd.R_lt (by (with_reducible repeat (first | apply Kd.R_alloc | apply Kd.R_drewN | apply Kd.R_drew)); exact HO371.out)) k_ hk_), (Kd.fresh' (Kd.R_lt (by (with_reducible repeat (first | apply Kd.R_alloc | apply Kd.R_drewN | apply Kd.R_drew)); exact HO373.out)) k_ hk_)⟩)) (below_size (by repeat (first | (with_reducible first | exact HB.out | apply below_alloc | apply pw_below_drewN | apply below_drew1) | exact HB.out)))); have n3_ := Aside0.mk (below_step (by repeat (first | (with_reducible first | exact HB.out | apply below_alloc | apply pw_below_drewN | apply below_drew1) | exact HB.out)) hb); clear HO371; clear HO373; clear HB; have HO371 := n0_; have HO373 := n1_; have HO376 := n2_; have HB := n3_; clear n0_ n1_ n2_ n3_; (try clear hb); (try clear hb2); (try clear hk); (try clear hi); (try clear ho0); obtain ⟨Ao11, co11, eo11⟩ := Kd.V_slice HO376.out; subst eo11) | (go_at_call 25; (with_reducible refine (flongref02_Decode.calls k _ _ t374 t377 _ ?side1 ?side2 A8.out).mono ?_); (case side1 => repeat (first | exact (Kd.V_reads' HO376.out).2.2 | (with_reducible refine Kd.C_alloc ?_ _) | (with_reducible refine Kd.C_drewN ?_ _) | (with_reducible refine Kd.C_drew ?_))); (case side2 => exact (Kd.V_reads' HO376.out).2.1); rintro e w12 ⟨v378, rfl, ho0, hb⟩; have n0_ := Aside0.mk (Kd.R_below (by (with_reducible repeat (first | apply Kd.R_alloc | apply Kd.R_drewN | apply Kd.R_drew)); exact HO371.out) hb); have n1_ := Aside0.mk (Kd.R_below (by (with_reducible repeat (first | apply Kd.R_alloc | apply Kd.R_drewN | apply Kd.R_drew)); exact HO373.out) hb); have n2_ := Aside0.mk (Kd.V_elder' (by (with_reducible repeat (first | apply Kd.V_alloc | apply Kd.V_drewN | apply Kd.V_drew)); exact HO376.out) (Kd.R_base ho0) hb); have n3_ := Aside0.mk (Kd.R_lower ho0 (below_size (by repeat (first | (with_reducible first | exact HB.out | apply below_alloc | apply pw_below_drewN | apply below_drew1) | exact HB.out)))); have n4_ := Aside0.mk (below_step (by repeat (first | (with_reducible first | exact HB.out | apply below_alloc | apply pw_below_drewN | apply below_drew1) | exact HB.out)) hb); clear HO371; clear HO373; clear HO376; clear HB; have HO371 := n0_; have HO373 := n1_; have HO376 := n2_; have HO379 := n3_; have HB := n4_; clear n0_ n1_ n2_ n3_ n4_; (try clear hb); (try clear hb2); (try clear hk); (try clear hi); (try clear ho0); obtain ⟨Ao13, co13, eo13⟩ := Kd.R_slice HO379.out; subst eo13)))
      go_loopg [6] k (fun kq v6 w' => ∃ (x6_1 : Int), v6 = .int .i64 x6_1 ∧ Aside0 (flonglaw04_EscapeSafe.l0 kq t368 t369 (t377.length : Int) x6_1 = some r) ∧ Aside0 (kq ≤ k) ∧ Aside0 (Kd.R k38 38 w' w.heap.size (fun _ => True) v370 t368) ∧ Aside0 (Kd.R k41 41 w' w.heap.size (fun _ => True) v372 t369) ∧ Aside0 (Below w.heap.size w w'))
      case atStart => exact ⟨(0), (by first | rfl | (simp; done) | (simp [*]; done)), H', ⟨Nat.le_refl _⟩, ⟨by (with_reducible repeat (first | apply Kd.R_alloc | apply Kd.R_drewN | apply Kd.R_drew)); exact HO371.out⟩, ⟨by (with_reducible repeat (first | apply Kd.R_alloc | apply Kd.R_drewN | apply Kd.R_drew)); exact HO373.out⟩, ⟨by repeat (first | (with_reducible first | exact HB.out | apply below_alloc | apply pw_below_drewN | apply below_drew1) | exact HB.out)⟩⟩
      case round =>
        clear H'
        try clear c2
        try clear c2b0
        try clear c2b1
        try clear p2
        try clear c5
        try clear c6
        try clear c6b0
        try clear c6b1
        try clear c6b2
        obtain ⟨x6_1, rfl, HA, HK1, HO_3, HO_4, HB⟩ := hrel
        cases gk with
        | zero => exact absurd HA.out (by simp [flonglaw04_EscapeSafe.l0])
        | succ k1 =>
          have H := HA.out
          clear HA
          simp only [flonglaw04_EscapeSafe.l0] at H
          by_cases c14 : x6_1 < (t368.length : Int)
          · rw [if_pos c14] at H
            have c14b0 : decide (x6_1 < (t368.length : Int)) = true := decide_eq_true c14
            clear c14
            by_cases c15 : 0 ≤ x6_1
            · rw [if_pos c15] at H
              have c15b0 : decide (0 ≤ x6_1) = true := decide_eq_true c15
              clear c15
              by_cases c16 : ((rd_T38 t368 x6_1).f0) = 1
              · rw [if_pos c16] at H
                have c16b0 : (((rd_T38 t368 x6_1).f0) == 1) = true := beq_iff_eq.mpr c16
                have c16b1 : (((rd_T38 t368 x6_1).f0) != 1) = false := bne_eq_false_iff_eq.mpr c16
                clear c16
                replace H := Option.bind_eq_some_iff.mp H
                obtain ⟨t382, A170, H⟩ := H
                replace H : (if t382 = ((rd_T38 t368 x6_1).f1) then (flonglaw04_EscapeSafe.l0 k1 t368 t369 (t377.length : Int) (wrap64 (x6_1 + 1))) else (some false)) = some r := H
                have A17 := Aside0.mk A170
                clear A170
                by_cases c18 : t382 = ((rd_T38 t368 x6_1).f1)
                · rw [if_pos c18] at H
                  have c18b0 : (t382 == ((rd_T38 t368 x6_1).f1)) = true := beq_iff_eq.mpr c18
                  have c18b1 : (t382 != ((rd_T38 t368 x6_1).f1)) = false := bne_eq_false_iff_eq.mpr c18
                  clear c18
                  have H' := Aside0.mk H
                  clear H
                  obtain ⟨Ao19, co19, eo19⟩ := Kd.R_slice HO_3.out
                  subst eo19
                  have p380 : 0 ≤ (x6_1 : Int) := of_decide_eq_true (by first | (with_reducible assumption) | assumption)
                  have q380 : x6_1 < (t368.length : Int) := of_decide_eq_true (by first | (with_reducible assumption) | assumption)
                  obtain ⟨ad380, e380, hx380_0, hx380_1⟩ := at_T38 (Kd.R_reads' HO_3.out).2.2 x6_1 p380 q380
                  cases e380
                  replace p380 := eq_true p380
                  replace q380 := eq_true q380
                  have p381 : 0 ≤ (x6_1 : Int) := of_decide_eq_true (by first | (with_reducible assumption) | assumption)
                  have q381 : x6_1 < (t368.length : Int) := of_decide_eq_true (by first | (with_reducible assumption) | assumption)
                  obtain ⟨ad381, e381, hx381_0, hx381_1⟩ := at_T38 (Kd.R_reads' HO_3.out).2.2 x6_1 p381 q381
                  obtain rfl : ad380 = ad381 := (by injection e381)
                  replace p381 := eq_true p381
                  replace q381 := eq_true q381
                  go_wp2_with (first | (go_at_call 26; (with_reducible refine (flongref02_Safe.calls ((rd_T38 t368 x6_1).f1) t382 _ A17.out).mono ?_); rintro e w' ⟨rfl, ⟨nd, rfl⟩⟩; (try first | exact ⟨rfl, _, World.drewN_drewN _ _ _⟩ | exact ⟨rfl, _, Eq.trans (World.drewN_drewN _ _ _) (congrArg (World.drewN _) (Nat.add_assoc _ _ _))⟩); have p383 : 0 ≤ (x6_1 : Int) := of_decide_eq_true (by first | (with_reducible assumption) | assumption); have q383 : x6_1 < (t368.length : Int) := of_decide_eq_true (by first | (with_reducible assumption) | assumption); obtain ⟨ad383, e383, hx383_0, hx383_1⟩ := at_T38 (Kd.R_reads' HO_3.out).2.2 x6_1 p383 q383; obtain rfl : ad380 = ad383 := (by injection e383); replace p383 := eq_true p383; replace q383 := eq_true q383))
                  repeat (go_quiet (first | (go_at_call 26; (with_reducible refine (flongref02_Safe.calls ((rd_T38 t368 x6_1).f1) t382 _ A17.out).mono ?_); rintro e w' ⟨rfl, ⟨nd, rfl⟩⟩; (try first | exact ⟨rfl, _, World.drewN_drewN _ _ _⟩ | exact ⟨rfl, _, Eq.trans (World.drewN_drewN _ _ _) (congrArg (World.drewN _) (Nat.add_assoc _ _ _))⟩); have p383 : 0 ≤ (x6_1 : Int) := of_decide_eq_true (by first | (with_reducible assumption) | assumption); have q383 : x6_1 < (t368.length : Int) := of_decide_eq_true (by first | (with_reducible assumption) | assumption); obtain ⟨ad383, e383, hx383_0, hx383_1⟩ := at_T38 (Kd.R_reads' HO_3.out).2.2 x6_1 p383 q383; obtain rfl : ad380 = ad383 := (by injection e383); replace p383 := eq_true p383; replace q383 := eq_true q383)); try go_wp2_with (first | (go_at_call 26; (with_reducible refine (flongref02_Safe.calls ((rd_T38 t368 x6_1).f1) t382 _ A17.out).mono ?_); rintro e w' ⟨rfl, ⟨nd, rfl⟩⟩; (try first | exact ⟨rfl, _, World.drewN_drewN _ _ _⟩ | exact ⟨rfl, _, Eq.trans (World.drewN_drewN _ _ _) (congrArg (World.drewN _) (Nat.add_assoc _ _ _))⟩); have p383 : 0 ≤ (x6_1 : Int) := of_decide_eq_true (by first | (with_reducible assumption) | assumption); have q383 : x6_1 < (t368.length : Int) := of_decide_eq_true (by first | (with_reducible assumption) | assumption); obtain ⟨ad383, e383, hx383_0, hx383_1⟩ := at_T38 (Kd.R_reads' HO_3.out).2.2 x6_1 p383 q383; obtain rfl : ad380 = ad383 := (by injection e383); replace p383 := eq_true p383; replace q383 := eq_true q383)))
                  go_roundg k1
                  case measure => have := HK1.out; omega
                  case rel => exact ⟨(wrap64 (x6_1 + 1)), (by first | rfl | (simp; done) | (simp [*]; done)), H', ⟨by have := HK1.out; omega⟩, ⟨by (with_reducible repeat (first | apply Kd.R_alloc | apply Kd.R_drewN | apply Kd.R_drew)); exact HO_3.out⟩, ⟨by (with_reducible repeat (first | apply Kd.R_alloc | apply Kd.R_drewN | apply Kd.R_drew)); exact HO_4.out⟩, ⟨by repeat (first | (with_reducible first | exact HB.out | apply below_alloc | apply pw_below_drewN | apply below_drew1) | exact HB.out)⟩⟩
                · rw [if_neg c18] at H
                  have c18b0 : (t382 == ((rd_T38 t368 x6_1).f1)) = false := beq_eq_false_iff_ne.mpr c18
                  have c18b1 : (t382 != ((rd_T38 t368 x6_1).f1)) = true := bne_iff_ne.mpr c18
                  obtain rfl := Option.some.inj H
                  obtain ⟨Ao20, co20, eo20⟩ := Kd.R_slice HO_3.out
                  subst eo20
                  have p380 : 0 ≤ (x6_1 : Int) := of_decide_eq_true (by first | (with_reducible assumption) | assumption)
                  have q380 : x6_1 < (t368.length : Int) := of_decide_eq_true (by first | (with_reducible assumption) | assumption)
                  obtain ⟨ad380, e380, hx380_0, hx380_1⟩ := at_T38 (Kd.R_reads' HO_3.out).2.2 x6_1 p380 q380
                  cases e380
                  replace p380 := eq_true p380
                  replace q380 := eq_true q380
                  have p381 : 0 ≤ (x6_1 : Int) := of_decide_eq_true (by first | (with_reducible assumption) | assumption)
                  have q381 : x6_1 < (t368.length : Int) := of_decide_eq_true (by first | (with_reducible assumption) | assumption)
                  obtain ⟨ad381, e381, hx381_0, hx381_1⟩ := at_T38 (Kd.R_reads' HO_3.out).2.2 x6_1 p381 q381
                  obtain rfl : ad380 = ad381 := (by injection e381)
                  replace p381 := eq_true p381
                  replace q381 := eq_true q381
                  go_wp2_with (first | (go_at_call 26; (with_reducible refine (flongref02_Safe.calls ((rd_T38 t368 x6_1).f1) t382 _ A17.out).mono ?_); rintro e w' ⟨rfl, ⟨nd, rfl⟩⟩; (try first | exact ⟨rfl, _, World.drewN_drewN _ _ _⟩ | exact ⟨rfl, _, Eq.trans (World.drewN_drewN _ _ _) (congrArg (World.drewN _) (Nat.add_assoc _ _ _))⟩); have p383 : 0 ≤ (x6_1 : Int) := of_decide_eq_true (by first | (with_reducible assumption) | assumption); have q383 : x6_1 < (t368.length : Int) := of_decide_eq_true (by first | (with_reducible assumption) | assumption); obtain ⟨ad383, e383, hx383_0, hx383_1⟩ := at_T38 (Kd.R_reads' HO_3.out).2.2 x6_1 p383 q383; obtain rfl : ad380 = ad383 := (by injection e383); replace p383 := eq_true p383; replace q383 := eq_true q383))
                  repeat (go_quiet (first | (go_at_call 26; (with_reducible refine (flongref02_Safe.calls ((rd_T38 t368 x6_1).f1) t382 _ A17.out).mono ?_); rintro e w' ⟨rfl, ⟨nd, rfl⟩⟩; (try first | exact ⟨rfl, _, World.drewN_drewN _ _ _⟩ | exact ⟨rfl, _, Eq.trans (World.drewN_drewN _ _ _) (congrArg (World.drewN _) (Nat.add_assoc _ _ _))⟩); have p383 : 0 ≤ (x6_1 : Int) := of_decide_eq_true (by first | (with_reducible assumption) | assumption); have q383 : x6_1 < (t368.length : Int) := of_decide_eq_true (by first | (with_reducible assumption) | assumption); obtain ⟨ad383, e383, hx383_0, hx383_1⟩ := at_T38 (Kd.R_reads' HO_3.out).2.2 x6_1 p383 q383; obtain rfl : ad380 = ad383 := (by injection e383); replace p383 := eq_true p383; replace q383 := eq_true q383)); try go_wp2_with (first | (go_at_call 26; (with_reducible refine (flongref02_Safe.calls ((rd_T38 t368 x6_1).f1) t382 _ A17.out).mono ?_); rintro e w' ⟨rfl, ⟨nd, rfl⟩⟩; (try first | exact ⟨rfl, _, World.drewN_drewN _ _ _⟩ | exact ⟨rfl, _, Eq.trans (World.drewN_drewN _ _ _) (congrArg (World.drewN _) (Nat.add_assoc _ _ _))⟩); have p383 : 0 ≤ (x6_1 : Int) := of_decide_eq_true (by first | (with_reducible assumption) | assumption); have q383 : x6_1 < (t368.length : Int) := of_decide_eq_true (by first | (with_reducible assumption) | assumption); obtain ⟨ad383, e383, hx383_0, hx383_1⟩ := at_T38 (Kd.R_reads' HO_3.out).2.2 x6_1 p383 q383; obtain rfl : ad380 = ad383 := (by injection e383); replace p383 := eq_true p383; replace q383 := eq_true q383)))
                  go_ret
                  exact ⟨by first | rfl | (simp [errW_none, errW_some] <;> rfl) | (simp [*, errW_none, errW_some] <;> rfl), by repeat (first | (with_reducible first | exact HB.out | apply below_alloc | apply pw_below_drewN | apply below_drew1) | exact HB.out)⟩
              · rw [if_neg c16] at H
                have c16b0 : (((rd_T38 t368 x6_1).f0) == 1) = false := beq_eq_false_iff_ne.mpr c16
                have c16b1 : (((rd_T38 t368 x6_1).f0) != 1) = true := bne_iff_ne.mpr c16
                by_cases c21 : ((rd_T38 t368 x6_1).f0) = 2
                · rw [if_pos c21] at H
                  have c21b0 : (((rd_T38 t368 x6_1).f0) == 2) = true := beq_iff_eq.mpr c21
                  have c21b1 : (((rd_T38 t368 x6_1).f0) != 2) = false := bne_eq_false_iff_eq.mpr c21
                  clear c21
                  by_cases c22 : ((rd_T38 t368 x6_1).f1) = 0
                  · rw [if_pos c22] at H
                    have c22b0 : (((rd_T38 t368 x6_1).f1) == 0) = true := beq_iff_eq.mpr c22
                    have c22b1 : (((rd_T38 t368 x6_1).f1) != 0) = false := bne_eq_false_iff_eq.mpr c22
                    clear c22
                    have H' := Aside0.mk H
                    clear H
                    obtain ⟨Ao23, co23, eo23⟩ := Kd.R_slice HO_3.out
                    subst eo23
                    have p380 : 0 ≤ (x6_1 : Int) := of_decide_eq_true (by first | (with_reducible assumption) | assumption)
                    have q380 : x6_1 < (t368.length : Int) := of_decide_eq_true (by first | (with_reducible assumption) | assumption)
                    obtain ⟨ad380, e380, hx380_0, hx380_1⟩ := at_T38 (Kd.R_reads' HO_3.out).2.2 x6_1 p380 q380
                    cases e380
                    replace p380 := eq_true p380
                    replace q380 := eq_true q380
                    have p384 : 0 ≤ (x6_1 : Int) := of_decide_eq_true (by first | (with_reducible assumption) | assumption)
                    have q384 : x6_1 < (t368.length : Int) := of_decide_eq_true (by first | (with_reducible assumption) | assumption)
                    obtain ⟨ad384, e384, hx384_0, hx384_1⟩ := at_T38 (Kd.R_reads' HO_3.out).2.2 x6_1 p384 q384
                    obtain rfl : ad380 = ad384 := (by injection e384)
                    replace p384 := eq_true p384
                    replace q384 := eq_true q384
                    go_wp2
                    repeat (go_quiet (fail); try go_wp2)
                    go_roundg k1
                    case measure => have := HK1.out; omega
                    case rel => exact ⟨(wrap64 (x6_1 + 1)), (by first | rfl | (simp; done) | (simp [*]; done)), H', ⟨by have := HK1.out; omega⟩, ⟨by (with_reducible repeat (first | apply Kd.R_alloc | apply Kd.R_drewN | apply Kd.R_drew)); exact HO_3.out⟩, ⟨by (with_reducible repeat (first | apply Kd.R_alloc | apply Kd.R_drewN | apply Kd.R_drew)); exact HO_4.out⟩, ⟨by repeat (first | (with_reducible first | exact HB.out | apply below_alloc | apply pw_below_drewN | apply below_drew1) | exact HB.out)⟩⟩
                  · rw [if_neg c22] at H
                    have c22b0 : (((rd_T38 t368 x6_1).f1) == 0) = false := beq_eq_false_iff_ne.mpr c22
                    have c22b1 : (((rd_T38 t368 x6_1).f1) != 0) = true := bne_iff_ne.mpr c22
                    obtain rfl := Option.some.inj H
                    obtain ⟨Ao24, co24, eo24⟩ := Kd.R_slice HO_3.out
                    subst eo24
                    have p380 : 0 ≤ (x6_1 : Int) := of_decide_eq_true (by first | (with_reducible assumption) | assumption)
                    have q380 : x6_1 < (t368.length : Int) := of_decide_eq_true (by first | (with_reducible assumption) | assumption)
                    obtain ⟨ad380, e380, hx380_0, hx380_1⟩ := at_T38 (Kd.R_reads' HO_3.out).2.2 x6_1 p380 q380
                    cases e380
                    replace p380 := eq_true p380
                    replace q380 := eq_true q380
                    have p384 : 0 ≤ (x6_1 : Int) := of_decide_eq_true (by first | (with_reducible assumption) | assumption)
                    have q384 : x6_1 < (t368.length : Int) := of_decide_eq_true (by first | (with_reducible assumption) | assumption)
                    obtain ⟨ad384, e384, hx384_0, hx384_1⟩ := at_T38 (Kd.R_reads' HO_3.out).2.2 x6_1 p384 q384
                    obtain rfl : ad380 = ad384 := (by injection e384)
                    replace p384 := eq_true p384
                    replace q384 := eq_true q384
                    go_wp2
                    repeat (go_quiet (fail); try go_wp2)
                    go_ret
                    exact ⟨by first | rfl | (simp [errW_none, errW_some] <;> rfl) | (simp [*, errW_none, errW_some] <;> rfl), by repeat (first | (with_reducible first | exact HB.out | apply below_alloc | apply pw_below_drewN | apply below_drew1) | exact HB.out)⟩
                · rw [if_neg c21] at H
                  have c21b0 : (((rd_T38 t368 x6_1).f0) == 2) = false := beq_eq_false_iff_ne.mpr c21
                  have c21b1 : (((rd_T38 t368 x6_1).f0) != 2) = true := bne_iff_ne.mpr c21
                  by_cases c25 : ((rd_T38 t368 x6_1).f0) = 3
                  · rw [if_pos c25] at H
                    have c25b0 : (((rd_T38 t368 x6_1).f0) == 3) = true := beq_iff_eq.mpr c25
                    have c25b1 : (((rd_T38 t368 x6_1).f0) != 3) = false := bne_eq_false_iff_eq.mpr c25
                    clear c25
                    by_cases c26 : ((rd_T38 t368 x6_1).f1) < 0
                    · rw [if_pos c26] at H
                      have c26b0 : decide (((rd_T38 t368 x6_1).f1) < 0) = true := decide_eq_true c26
                      clear c26
                      obtain rfl := Option.some.inj H
                      obtain ⟨Ao27, co27, eo27⟩ := Kd.R_slice HO_3.out
                      subst eo27
                      have p380 : 0 ≤ (x6_1 : Int) := of_decide_eq_true (by first | (with_reducible assumption) | assumption)
                      have q380 : x6_1 < (t368.length : Int) := of_decide_eq_true (by first | (with_reducible assumption) | assumption)
                      obtain ⟨ad380, e380, hx380_0, hx380_1⟩ := at_T38 (Kd.R_reads' HO_3.out).2.2 x6_1 p380 q380
                      cases e380
                      replace p380 := eq_true p380
                      replace q380 := eq_true q380
                      have p385 : 0 ≤ (x6_1 : Int) := of_decide_eq_true (by first | (with_reducible assumption) | assumption)
                      have q385 : x6_1 < (t368.length : Int) := of_decide_eq_true (by first | (with_reducible assumption) | assumption)
                      obtain ⟨ad385, e385, hx385_0, hx385_1⟩ := at_T38 (Kd.R_reads' HO_3.out).2.2 x6_1 p385 q385
                      obtain rfl : ad380 = ad385 := (by injection e385)
                      replace p385 := eq_true p385
                      replace q385 := eq_true q385
                      go_wp2
                      repeat (go_quiet (fail); try go_wp2)
                      go_ret
                      exact ⟨by first | rfl | (simp [errW_none, errW_some] <;> rfl) | (simp [*, errW_none, errW_some] <;> rfl), by repeat (first | (with_reducible first | exact HB.out | apply below_alloc | apply pw_below_drewN | apply below_drew1) | exact HB.out)⟩
                    · rw [if_neg c26] at H
                      have c26b0 : decide (((rd_T38 t368 x6_1).f1) < 0) = false := decide_eq_false c26
                      clear c26
                      by_cases c28 : ((rd_T38 t368 x6_1).f1) > 4
                      · rw [if_pos c28] at H
                        have c28b0 : decide (4 < ((rd_T38 t368 x6_1).f1)) = true := decide_eq_true c28
                        clear c28
                        obtain rfl := Option.some.inj H
                        obtain ⟨Ao29, co29, eo29⟩ := Kd.R_slice HO_3.out
                        subst eo29
                        have p380 : 0 ≤ (x6_1 : Int) := of_decide_eq_true (by first | (with_reducible assumption) | assumption)
                        have q380 : x6_1 < (t368.length : Int) := of_decide_eq_true (by first | (with_reducible assumption) | assumption)
                        obtain ⟨ad380, e380, hx380_0, hx380_1⟩ := at_T38 (Kd.R_reads' HO_3.out).2.2 x6_1 p380 q380
                        cases e380
                        replace p380 := eq_true p380
                        replace q380 := eq_true q380
                        have p385 : 0 ≤ (x6_1 : Int) := of_decide_eq_true (by first | (with_reducible assumption) | assumption)
                        have q385 : x6_1 < (t368.length : Int) := of_decide_eq_true (by first | (with_reducible assumption) | assumption)
                        obtain ⟨ad385, e385, hx385_0, hx385_1⟩ := at_T38 (Kd.R_reads' HO_3.out).2.2 x6_1 p385 q385
                        obtain rfl : ad380 = ad385 := (by injection e385)
                        replace p385 := eq_true p385
                        replace q385 := eq_true q385
                        have p386 : 0 ≤ (x6_1 : Int) := of_decide_eq_true (by first | (with_reducible assumption) | assumption)
                        have q386 : x6_1 < (t368.length : Int) := of_decide_eq_true (by first | (with_reducible assumption) | assumption)
                        obtain ⟨ad386, e386, hx386_0, hx386_1⟩ := at_T38 (Kd.R_reads' HO_3.out).2.2 x6_1 p386 q386
                        obtain rfl : ad380 = ad386 := (by injection e386)
                        replace p386 := eq_true p386
                        replace q386 := eq_true q386
                        go_wp2
                        repeat (go_quiet (fail); try go_wp2)
                        go_ret
                        exact ⟨by first | rfl | (simp [errW_none, errW_some] <;> rfl) | (simp [*, errW_none, errW_some] <;> rfl), by repeat (first | (with_reducible first | exact HB.out | apply below_alloc | apply pw_below_drewN | apply below_drew1) | exact HB.out)⟩
                      · rw [if_neg c28] at H
                        have c28b0 : decide (4 < ((rd_T38 t368 x6_1).f1)) = false := decide_eq_false c28
                        clear c28
                        have H' := Aside0.mk H
                        clear H
                        obtain ⟨Ao30, co30, eo30⟩ := Kd.R_slice HO_3.out
                        subst eo30
                        have p380 : 0 ≤ (x6_1 : Int) := of_decide_eq_true (by first | (with_reducible assumption) | assumption)
                        have q380 : x6_1 < (t368.length : Int) := of_decide_eq_true (by first | (with_reducible assumption) | assumption)
                        obtain ⟨ad380, e380, hx380_0, hx380_1⟩ := at_T38 (Kd.R_reads' HO_3.out).2.2 x6_1 p380 q380
                        cases e380
                        replace p380 := eq_true p380
                        replace q380 := eq_true q380
                        have p385 : 0 ≤ (x6_1 : Int) := of_decide_eq_true (by first | (with_reducible assumption) | assumption)
                        have q385 : x6_1 < (t368.length : Int) := of_decide_eq_true (by first | (with_reducible assumption) | assumption)
                        obtain ⟨ad385, e385, hx385_0, hx385_1⟩ := at_T38 (Kd.R_reads' HO_3.out).2.2 x6_1 p385 q385
                        obtain rfl : ad380 = ad385 := (by injection e385)
                        replace p385 := eq_true p385
                        replace q385 := eq_true q385
                        have p386 : 0 ≤ (x6_1 : Int) := of_decide_eq_true (by first | (with_reducible assumption) | assumption)
                        have q386 : x6_1 < (t368.length : Int) := of_decide_eq_true (by first | (with_reducible assumption) | assumption)
                        obtain ⟨ad386, e386, hx386_0, hx386_1⟩ := at_T38 (Kd.R_reads' HO_3.out).2.2 x6_1 p386 q386
                        obtain rfl : ad380 = ad386 := (by injection e386)
                        replace p386 := eq_true p386
                        replace q386 := eq_true q386
                        go_wp2
                        repeat (go_quiet (fail); try go_wp2)
                        go_roundg k1
                        case measure => have := HK1.out; omega
                        case rel => exact ⟨(wrap64 (x6_1 + 1)), (by first | rfl | (simp; done) | (simp [*]; done)), H', ⟨by have := HK1.out; omega⟩, ⟨by (with_reducible repeat (first | apply Kd.R_alloc | apply Kd.R_drewN | apply Kd.R_drew)); exact HO_3.out⟩, ⟨by (with_reducible repeat (first | apply Kd.R_alloc | apply Kd.R_drewN | apply Kd.R_drew)); exact HO_4.out⟩, ⟨by repeat (first | (with_reducible first | exact HB.out | apply below_alloc | apply pw_below_drewN | apply below_drew1) | exact HB.out)⟩⟩
                  · rw [if_neg c25] at H
                    have c25b0 : (((rd_T38 t368 x6_1).f0) == 3) = false := beq_eq_false_iff_ne.mpr c25
                    have c25b1 : (((rd_T38 t368 x6_1).f0) != 3) = true := bne_iff_ne.mpr c25
                    obtain rfl := Option.some.inj H
                    obtain ⟨Ao31, co31, eo31⟩ := Kd.R_slice HO_3.out
                    subst eo31
                    have p380 : 0 ≤ (x6_1 : Int) := of_decide_eq_true (by first | (with_reducible assumption) | assumption)
                    have q380 : x6_1 < (t368.length : Int) := of_decide_eq_true (by first | (with_reducible assumption) | assumption)
                    obtain ⟨ad380, e380, hx380_0, hx380_1⟩ := at_T38 (Kd.R_reads' HO_3.out).2.2 x6_1 p380 q380
                    cases e380
                    replace p380 := eq_true p380
                    replace q380 := eq_true q380
                    go_wp2
                    repeat (go_quiet (fail); try go_wp2)
                    go_ret
                    exact ⟨by first | rfl | (simp [errW_none, errW_some] <;> rfl) | (simp [*, errW_none, errW_some] <;> rfl), by repeat (first | (with_reducible first | exact HB.out | apply below_alloc | apply pw_below_drewN | apply below_drew1) | exact HB.out)⟩
            · rw [if_neg c15] at H
              exact absurd H (by simp)
          · rw [if_neg c14] at H
            have c14b0 : decide (x6_1 < (t368.length : Int)) = false := decide_eq_false c14
            clear c14
            have H' := Aside0.mk H
            clear H
            obtain ⟨Ao32, co32, eo32⟩ := Kd.R_slice HO_3.out
            subst eo32
            go_wp2
            repeat (go_quiet (fail); try go_wp2)
            go_loopg [7] k1 (fun kq v7 w' => ∃ (x7_2 : Int), v7 = .int .i64 x7_2 ∧ Aside0 (flonglaw04_EscapeSafe.l1 kq t368 t369 (t377.length : Int) x7_2 = some r) ∧ Aside0 (kq ≤ k1) ∧ Aside0 (Kd.R k38 38 w' w.heap.size (fun _ => True) (.slice Ao32 t368.length co32) t368) ∧ Aside0 (Kd.R k41 41 w' w.heap.size (fun _ => True) v372 t369) ∧ Aside0 (Below w.heap.size w w'))
            case atStart => exact ⟨(0), (by first | rfl | (simp; done) | (simp [*]; done)), H', ⟨Nat.le_refl _⟩, ⟨by (with_reducible repeat (first | apply Kd.R_alloc | apply Kd.R_drewN | apply Kd.R_drew)); exact HO_3.out⟩, ⟨by (with_reducible repeat (first | apply Kd.R_alloc | apply Kd.R_drewN | apply Kd.R_drew)); exact HO_4.out⟩, ⟨by repeat (first | (with_reducible first | exact HB.out | apply below_alloc | apply pw_below_drewN | apply below_drew1) | exact HB.out)⟩⟩
            case round =>
              clear H'
              try clear c1
              try clear c2
              try clear c2b0
              try clear c2b1
              try clear p2
              try clear p3
              try clear q3
              try clear hx3
              try clear c5
              try clear c6
              try clear c6b0
              try clear c6b1
              try clear c6b2
              try clear p6
              try clear c14
              try clear c14b0
              try clear c15
              try clear c15b0
              try clear c16
              try clear c16b0
              try clear c16b1
              try clear c18
              try clear c18b0
              try clear c18b1
              try clear c21
              try clear c21b0
              try clear c21b1
              try clear c22
              try clear c22b0
              try clear c22b1
              try clear c25
              try clear c25b0
              try clear c25b1
              try clear c26
              try clear c26b0
              try clear c28
              try clear c28b0
              try clear hx380_0
              try clear hx380_1
              try clear hx381_0
              try clear hx381_1
              try clear hx383_0
              try clear hx383_1
              try clear hx384_0
              try clear hx384_1
              try clear hx385_0
              try clear hx385_1
              try clear hx386_0
              try clear hx386_1
              try clear p2
              try clear p380
              try clear p381
              try clear p383
              try clear p384
              try clear p385
              try clear p386
              try clear q380
              try clear q381
              try clear q383
              try clear q384
              try clear q385
              try clear q386
              obtain ⟨x7_2, rfl, HA, HK2, HO_3, HO_4, HB⟩ := hrel
              cases gk with
              | zero => exact absurd HA.out (by simp [flonglaw04_EscapeSafe.l1])
              | succ k2 =>
                have H := HA.out
                clear HA
                simp only [flonglaw04_EscapeSafe.l1] at H
                by_cases c33 : x7_2 < (t369.length : Int)
                · rw [if_pos c33] at H
                  have c33b0 : decide (x7_2 < (t369.length : Int)) = true := decide_eq_true c33
                  clear c33
                  by_cases c34 : 0 ≤ x7_2
                  · rw [if_pos c34] at H
                    have c34b0 : decide (0 ≤ x7_2) = true := decide_eq_true c34
                    clear c34
                    by_cases c35 : ((rd_T41 t369 x7_2).f1) = 0
                    · rw [if_pos c35] at H
                      have c35b0 : (((rd_T41 t369 x7_2).f1) == 0) = true := beq_iff_eq.mpr c35
                      have c35b1 : (((rd_T41 t369 x7_2).f1) != 0) = false := bne_eq_false_iff_eq.mpr c35
                      clear c35
                      by_cases c36 : ((rd_T41 t369 x7_2).f2) < 1
                      · rw [if_pos c36] at H
                        have c36b0 : decide (((rd_T41 t369 x7_2).f2) < 1) = true := decide_eq_true c36
                        clear c36
                        obtain rfl := Option.some.inj H
                        obtain ⟨Ao37, co37, eo37⟩ := Kd.R_slice HO_4.out
                        subst eo37
                        have p387 : 0 ≤ (x7_2 : Int) := of_decide_eq_true (by first | (with_reducible assumption) | assumption)
                        have q387 : x7_2 < (t369.length : Int) := of_decide_eq_true (by first | (with_reducible assumption) | assumption)
                        obtain ⟨ad387, e387, hx387_0, hx387_1, hx387_2⟩ := at_T41 (Kd.R_reads' HO_4.out).2.2 x7_2 p387 q387
                        cases e387
                        replace p387 := eq_true p387
                        replace q387 := eq_true q387
                        have p388 : 0 ≤ (x7_2 : Int) := of_decide_eq_true (by first | (with_reducible assumption) | assumption)
                        have q388 : x7_2 < (t369.length : Int) := of_decide_eq_true (by first | (with_reducible assumption) | assumption)
                        obtain ⟨ad388, e388, hx388_0, hx388_1, hx388_2⟩ := at_T41 (Kd.R_reads' HO_4.out).2.2 x7_2 p388 q388
                        obtain rfl : ad387 = ad388 := (by injection e388)
                        replace p388 := eq_true p388
                        replace q388 := eq_true q388
                        go_wp2
                        repeat (go_quiet (fail); try go_wp2)
                        go_ret
                        exact ⟨by first | rfl | (simp [errW_none, errW_some] <;> rfl) | (simp [*, errW_none, errW_some] <;> rfl), by repeat (first | (with_reducible first | exact HB.out | apply below_alloc | apply pw_below_drewN | apply below_drew1) | exact HB.out)⟩
                      · rw [if_neg c36] at H
                        have c36b0 : decide (((rd_T41 t369 x7_2).f2) < 1) = false := decide_eq_false c36
                        clear c36
                        by_cases c38 : ((rd_T41 t369 x7_2).f2) > (t377.length : Int)
                        · rw [if_pos c38] at H
                          have c38b0 : decide ((t377.length : Int) < ((rd_T41 t369 x7_2).f2)) = true := decide_eq_true c38
                          clear c38
                          obtain rfl := Option.some.inj H
                          obtain ⟨Ao39, co39, eo39⟩ := Kd.R_slice HO_4.out
                          subst eo39
                          have p387 : 0 ≤ (x7_2 : Int) := of_decide_eq_true (by first | (with_reducible assumption) | assumption)
                          have q387 : x7_2 < (t369.length : Int) := of_decide_eq_true (by first | (with_reducible assumption) | assumption)
                          obtain ⟨ad387, e387, hx387_0, hx387_1, hx387_2⟩ := at_T41 (Kd.R_reads' HO_4.out).2.2 x7_2 p387 q387
                          cases e387
                          replace p387 := eq_true p387
                          replace q387 := eq_true q387
                          have p388 : 0 ≤ (x7_2 : Int) := of_decide_eq_true (by first | (with_reducible assumption) | assumption)
                          have q388 : x7_2 < (t369.length : Int) := of_decide_eq_true (by first | (with_reducible assumption) | assumption)
                          obtain ⟨ad388, e388, hx388_0, hx388_1, hx388_2⟩ := at_T41 (Kd.R_reads' HO_4.out).2.2 x7_2 p388 q388
                          obtain rfl : ad387 = ad388 := (by injection e388)
                          replace p388 := eq_true p388
                          replace q388 := eq_true q388
                          have p389 : 0 ≤ (x7_2 : Int) := of_decide_eq_true (by first | (with_reducible assumption) | assumption)
                          have q389 : x7_2 < (t369.length : Int) := of_decide_eq_true (by first | (with_reducible assumption) | assumption)
                          obtain ⟨ad389, e389, hx389_0, hx389_1, hx389_2⟩ := at_T41 (Kd.R_reads' HO_4.out).2.2 x7_2 p389 q389
                          obtain rfl : ad387 = ad389 := (by injection e389)
                          replace p389 := eq_true p389
                          replace q389 := eq_true q389
                          go_wp2
                          repeat (go_quiet (fail); try go_wp2)
                          go_ret
                          exact ⟨by first | rfl | (simp [errW_none, errW_some] <;> rfl) | (simp [*, errW_none, errW_some] <;> rfl), by repeat (first | (with_reducible first | exact HB.out | apply below_alloc | apply pw_below_drewN | apply below_drew1) | exact HB.out)⟩
                        · rw [if_neg c38] at H
                          have c38b0 : decide ((t377.length : Int) < ((rd_T41 t369 x7_2).f2)) = false := decide_eq_false c38
                          clear c38
                          by_cases c40 : x7_2 > 0
                          · rw [if_pos c40] at H
                            have c40b0 : decide (0 < x7_2) = true := decide_eq_true c40
                            clear c40
                            obtain ⟨ji41, hji41⟩ : ∃ j_ : Int, (wrap64 (x7_2 - 1)) = j_ := ⟨_, rfl⟩
                            replace H : (if 0 ≤ (ji41) then (if (ji41) < (t369.length : Int) then (if ((rd_T41 t369 x7_2).f2) ≤ ((rd_T41 t369 (ji41)).f2) then (some false) else (if ((rd_T41 t369 x7_2).f0) < 1 then (some false) else (if ((rd_T41 t369 x7_2).f0) > 3 then (some false) else (flonglaw04_EscapeSafe.l1 k2 t368 t369 (t377.length : Int) (wrap64 (x7_2 + 1)))))) else (none)) else (none)) = some r := by first | (rw [hji41] at H; exact H) | (simp only [hji41] at H ⊢; exact H)
                            have hji41w : (IntKind.i64.wrap (x7_2 - 1)) = ji41 := (i64_w _).trans hji41
                            by_cases c42 : 0 ≤ (ji41)
                            · rw [if_pos c42] at H
                              have c42b0 : decide (0 ≤ (ji41)) = true := decide_eq_true c42
                              clear c42
                              by_cases c43 : (ji41) < (t369.length : Int)
                              · rw [if_pos c43] at H
                                have c43b0 : decide ((ji41) < (t369.length : Int)) = true := decide_eq_true c43
                                clear c43
                                by_cases c44 : ((rd_T41 t369 x7_2).f2) ≤ ((rd_T41 t369 (ji41)).f2)
                                · rw [if_pos c44] at H
                                  have c44b0 : decide (((rd_T41 t369 x7_2).f2) ≤ ((rd_T41 t369 (ji41)).f2)) = true := decide_eq_true c44
                                  clear c44
                                  obtain rfl := Option.some.inj H
                                  obtain ⟨Ao45, co45, eo45⟩ := Kd.R_slice HO_4.out
                                  subst eo45
                                  have p387 : 0 ≤ (x7_2 : Int) := of_decide_eq_true (by first | (with_reducible assumption) | assumption)
                                  have q387 : x7_2 < (t369.length : Int) := of_decide_eq_true (by first | (with_reducible assumption) | assumption)
                                  obtain ⟨ad387, e387, hx387_0, hx387_1, hx387_2⟩ := at_T41 (Kd.R_reads' HO_4.out).2.2 x7_2 p387 q387
                                  cases e387
                                  replace p387 := eq_true p387
                                  replace q387 := eq_true q387
                                  have p388 : 0 ≤ (x7_2 : Int) := of_decide_eq_true (by first | (with_reducible assumption) | assumption)
                                  have q388 : x7_2 < (t369.length : Int) := of_decide_eq_true (by first | (with_reducible assumption) | assumption)
                                  obtain ⟨ad388, e388, hx388_0, hx388_1, hx388_2⟩ := at_T41 (Kd.R_reads' HO_4.out).2.2 x7_2 p388 q388
                                  obtain rfl : ad387 = ad388 := (by injection e388)
                                  replace p388 := eq_true p388
                                  replace q388 := eq_true q388
                                  have p389 : 0 ≤ (x7_2 : Int) := of_decide_eq_true (by first | (with_reducible assumption) | assumption)
                                  have q389 : x7_2 < (t369.length : Int) := of_decide_eq_true (by first | (with_reducible assumption) | assumption)
                                  obtain ⟨ad389, e389, hx389_0, hx389_1, hx389_2⟩ := at_T41 (Kd.R_reads' HO_4.out).2.2 x7_2 p389 q389
                                  obtain rfl : ad387 = ad389 := (by injection e389)
                                  replace p389 := eq_true p389
                                  replace q389 := eq_true q389
                                  have p390 : 0 ≤ (x7_2 : Int) := of_decide_eq_true (by first | (with_reducible assumption) | assumption)
                                  have q390 : x7_2 < (t369.length : Int) := of_decide_eq_true (by first | (with_reducible assumption) | assumption)
                                  obtain ⟨ad390, e390, hx390_0, hx390_1, hx390_2⟩ := at_T41 (Kd.R_reads' HO_4.out).2.2 x7_2 p390 q390
                                  obtain rfl : ad387 = ad390 := (by injection e390)
                                  replace p390 := eq_true p390
                                  replace q390 := eq_true q390
                                  have p391 : 0 ≤ ((ji41) : Int) := of_decide_eq_true (by first | (with_reducible assumption) | assumption)
                                  have q391 : (ji41) < (t369.length : Int) := of_decide_eq_true (by first | (with_reducible assumption) | assumption)
                                  obtain ⟨ad391, e391, hx391_0, hx391_1, hx391_2⟩ := at_T41 (Kd.R_reads' HO_4.out).2.2 (ji41) p391 q391
                                  obtain rfl : ad387 = ad391 := (by injection e391)
                                  replace p391 := eq_true p391
                                  replace q391 := eq_true q391
                                  go_wp2
                                  repeat (go_quiet (fail); try go_wp2)
                                  go_ret
                                  exact ⟨by first | rfl | (simp [errW_none, errW_some] <;> rfl) | (simp only [← hji41]; first | rfl | (simp [errW_none, errW_some] <;> rfl)) | (simp [*, errW_none, errW_some] <;> rfl), by repeat (first | (with_reducible first | exact HB.out | apply below_alloc | apply pw_below_drewN | apply below_drew1) | exact HB.out)⟩
                                · rw [if_neg c44] at H
                                  have c44b0 : decide (((rd_T41 t369 x7_2).f2) ≤ ((rd_T41 t369 (ji41)).f2)) = false := decide_eq_false c44
                                  clear c44
                                  by_cases c46 : ((rd_T41 t369 x7_2).f0) < 1
                                  · rw [if_pos c46] at H
                                    have c46b0 : decide (((rd_T41 t369 x7_2).f0) < 1) = true := decide_eq_true c46
                                    clear c46
                                    obtain rfl := Option.some.inj H
                                    obtain ⟨Ao47, co47, eo47⟩ := Kd.R_slice HO_4.out
                                    subst eo47
                                    have p387 : 0 ≤ (x7_2 : Int) := of_decide_eq_true (by first | (with_reducible assumption) | assumption)
                                    have q387 : x7_2 < (t369.length : Int) := of_decide_eq_true (by first | (with_reducible assumption) | assumption)
                                    obtain ⟨ad387, e387, hx387_0, hx387_1, hx387_2⟩ := at_T41 (Kd.R_reads' HO_4.out).2.2 x7_2 p387 q387
                                    cases e387
                                    replace p387 := eq_true p387
                                    replace q387 := eq_true q387
                                    have p388 : 0 ≤ (x7_2 : Int) := of_decide_eq_true (by first | (with_reducible assumption) | assumption)
                                    have q388 : x7_2 < (t369.length : Int) := of_decide_eq_true (by first | (with_reducible assumption) | assumption)
                                    obtain ⟨ad388, e388, hx388_0, hx388_1, hx388_2⟩ := at_T41 (Kd.R_reads' HO_4.out).2.2 x7_2 p388 q388
                                    obtain rfl : ad387 = ad388 := (by injection e388)
                                    replace p388 := eq_true p388
                                    replace q388 := eq_true q388
                                    have p389 : 0 ≤ (x7_2 : Int) := of_decide_eq_true (by first | (with_reducible assumption) | assumption)
                                    have q389 : x7_2 < (t369.length : Int) := of_decide_eq_true (by first | (with_reducible assumption) | assumption)
                                    obtain ⟨ad389, e389, hx389_0, hx389_1, hx389_2⟩ := at_T41 (Kd.R_reads' HO_4.out).2.2 x7_2 p389 q389
                                    obtain rfl : ad387 = ad389 := (by injection e389)
                                    replace p389 := eq_true p389
                                    replace q389 := eq_true q389
                                    have p390 : 0 ≤ (x7_2 : Int) := of_decide_eq_true (by first | (with_reducible assumption) | assumption)
                                    have q390 : x7_2 < (t369.length : Int) := of_decide_eq_true (by first | (with_reducible assumption) | assumption)
                                    obtain ⟨ad390, e390, hx390_0, hx390_1, hx390_2⟩ := at_T41 (Kd.R_reads' HO_4.out).2.2 x7_2 p390 q390
                                    obtain rfl : ad387 = ad390 := (by injection e390)
                                    replace p390 := eq_true p390
                                    replace q390 := eq_true q390
                                    have p391 : 0 ≤ ((ji41) : Int) := of_decide_eq_true (by first | (with_reducible assumption) | assumption)
                                    have q391 : (ji41) < (t369.length : Int) := of_decide_eq_true (by first | (with_reducible assumption) | assumption)
                                    obtain ⟨ad391, e391, hx391_0, hx391_1, hx391_2⟩ := at_T41 (Kd.R_reads' HO_4.out).2.2 (ji41) p391 q391
                                    obtain rfl : ad387 = ad391 := (by injection e391)
                                    replace p391 := eq_true p391
                                    replace q391 := eq_true q391
                                    have p392 : 0 ≤ (x7_2 : Int) := of_decide_eq_true (by first | (with_reducible assumption) | assumption)
                                    have q392 : x7_2 < (t369.length : Int) := of_decide_eq_true (by first | (with_reducible assumption) | assumption)
                                    obtain ⟨ad392, e392, hx392_0, hx392_1, hx392_2⟩ := at_T41 (Kd.R_reads' HO_4.out).2.2 x7_2 p392 q392
                                    obtain rfl : ad387 = ad392 := (by injection e392)
                                    replace p392 := eq_true p392
                                    replace q392 := eq_true q392
                                    go_wp2
                                    repeat (go_quiet (fail); try go_wp2)
                                    go_ret
                                    exact ⟨by first | rfl | (simp [errW_none, errW_some] <;> rfl) | (simp only [← hji41]; first | rfl | (simp [errW_none, errW_some] <;> rfl)) | (simp [*, errW_none, errW_some] <;> rfl), by repeat (first | (with_reducible first | exact HB.out | apply below_alloc | apply pw_below_drewN | apply below_drew1) | exact HB.out)⟩
                                  · rw [if_neg c46] at H
                                    have c46b0 : decide (((rd_T41 t369 x7_2).f0) < 1) = false := decide_eq_false c46
                                    clear c46
                                    by_cases c48 : ((rd_T41 t369 x7_2).f0) > 3
                                    · rw [if_pos c48] at H
                                      have c48b0 : decide (3 < ((rd_T41 t369 x7_2).f0)) = true := decide_eq_true c48
                                      clear c48
                                      obtain rfl := Option.some.inj H
                                      obtain ⟨Ao49, co49, eo49⟩ := Kd.R_slice HO_4.out
                                      subst eo49
                                      have p387 : 0 ≤ (x7_2 : Int) := of_decide_eq_true (by first | (with_reducible assumption) | assumption)
                                      have q387 : x7_2 < (t369.length : Int) := of_decide_eq_true (by first | (with_reducible assumption) | assumption)
                                      obtain ⟨ad387, e387, hx387_0, hx387_1, hx387_2⟩ := at_T41 (Kd.R_reads' HO_4.out).2.2 x7_2 p387 q387
                                      cases e387
                                      replace p387 := eq_true p387
                                      replace q387 := eq_true q387
                                      have p388 : 0 ≤ (x7_2 : Int) := of_decide_eq_true (by first | (with_reducible assumption) | assumption)
                                      have q388 : x7_2 < (t369.length : Int) := of_decide_eq_true (by first | (with_reducible assumption) | assumption)
                                      obtain ⟨ad388, e388, hx388_0, hx388_1, hx388_2⟩ := at_T41 (Kd.R_reads' HO_4.out).2.2 x7_2 p388 q388
                                      obtain rfl : ad387 = ad388 := (by injection e388)
                                      replace p388 := eq_true p388
                                      replace q388 := eq_true q388
                                      have p389 : 0 ≤ (x7_2 : Int) := of_decide_eq_true (by first | (with_reducible assumption) | assumption)
                                      have q389 : x7_2 < (t369.length : Int) := of_decide_eq_true (by first | (with_reducible assumption) | assumption)
                                      obtain ⟨ad389, e389, hx389_0, hx389_1, hx389_2⟩ := at_T41 (Kd.R_reads' HO_4.out).2.2 x7_2 p389 q389
                                      obtain rfl : ad387 = ad389 := (by injection e389)
                                      replace p389 := eq_true p389
                                      replace q389 := eq_true q389
                                      have p390 : 0 ≤ (x7_2 : Int) := of_decide_eq_true (by first | (with_reducible assumption) | assumption)
                                      have q390 : x7_2 < (t369.length : Int) := of_decide_eq_true (by first | (with_reducible assumption) | assumption)
                                      obtain ⟨ad390, e390, hx390_0, hx390_1, hx390_2⟩ := at_T41 (Kd.R_reads' HO_4.out).2.2 x7_2 p390 q390
                                      obtain rfl : ad387 = ad390 := (by injection e390)
                                      replace p390 := eq_true p390
                                      replace q390 := eq_true q390
                                      have p391 : 0 ≤ ((ji41) : Int) := of_decide_eq_true (by first | (with_reducible assumption) | assumption)
                                      have q391 : (ji41) < (t369.length : Int) := of_decide_eq_true (by first | (with_reducible assumption) | assumption)
                                      obtain ⟨ad391, e391, hx391_0, hx391_1, hx391_2⟩ := at_T41 (Kd.R_reads' HO_4.out).2.2 (ji41) p391 q391
                                      obtain rfl : ad387 = ad391 := (by injection e391)
                                      replace p391 := eq_true p391
                                      replace q391 := eq_true q391
                                      have p392 : 0 ≤ (x7_2 : Int) := of_decide_eq_true (by first | (with_reducible assumption) | assumption)
                                      have q392 : x7_2 < (t369.length : Int) := of_decide_eq_true (by first | (with_reducible assumption) | assumption)
                                      obtain ⟨ad392, e392, hx392_0, hx392_1, hx392_2⟩ := at_T41 (Kd.R_reads' HO_4.out).2.2 x7_2 p392 q392
                                      obtain rfl : ad387 = ad392 := (by injection e392)
                                      replace p392 := eq_true p392
                                      replace q392 := eq_true q392
                                      have p393 : 0 ≤ (x7_2 : Int) := of_decide_eq_true (by first | (with_reducible assumption) | assumption)
                                      have q393 : x7_2 < (t369.length : Int) := of_decide_eq_true (by first | (with_reducible assumption) | assumption)
                                      obtain ⟨ad393, e393, hx393_0, hx393_1, hx393_2⟩ := at_T41 (Kd.R_reads' HO_4.out).2.2 x7_2 p393 q393
                                      obtain rfl : ad387 = ad393 := (by injection e393)
                                      replace p393 := eq_true p393
                                      replace q393 := eq_true q393
                                      go_wp2
                                      repeat (go_quiet (fail); try go_wp2)
                                      go_ret
                                      exact ⟨by first | rfl | (simp [errW_none, errW_some] <;> rfl) | (simp only [← hji41]; first | rfl | (simp [errW_none, errW_some] <;> rfl)) | (simp [*, errW_none, errW_some] <;> rfl), by repeat (first | (with_reducible first | exact HB.out | apply below_alloc | apply pw_below_drewN | apply below_drew1) | exact HB.out)⟩
                                    · rw [if_neg c48] at H
                                      have c48b0 : decide (3 < ((rd_T41 t369 x7_2).f0)) = false := decide_eq_false c48
                                      clear c48
                                      have H' := Aside0.mk H
                                      clear H
                                      obtain ⟨Ao50, co50, eo50⟩ := Kd.R_slice HO_4.out
                                      subst eo50
                                      have p387 : 0 ≤ (x7_2 : Int) := of_decide_eq_true (by first | (with_reducible assumption) | assumption)
                                      have q387 : x7_2 < (t369.length : Int) := of_decide_eq_true (by first | (with_reducible assumption) | assumption)
                                      obtain ⟨ad387, e387, hx387_0, hx387_1, hx387_2⟩ := at_T41 (Kd.R_reads' HO_4.out).2.2 x7_2 p387 q387
                                      cases e387
                                      replace p387 := eq_true p387
                                      replace q387 := eq_true q387
                                      have p388 : 0 ≤ (x7_2 : Int) := of_decide_eq_true (by first | (with_reducible assumption) | assumption)
                                      have q388 : x7_2 < (t369.length : Int) := of_decide_eq_true (by first | (with_reducible assumption) | assumption)
                                      obtain ⟨ad388, e388, hx388_0, hx388_1, hx388_2⟩ := at_T41 (Kd.R_reads' HO_4.out).2.2 x7_2 p388 q388
                                      obtain rfl : ad387 = ad388 := (by injection e388)
                                      replace p388 := eq_true p388
                                      replace q388 := eq_true q388
                                      have p389 : 0 ≤ (x7_2 : Int) := of_decide_eq_true (by first | (with_reducible assumption) | assumption)
                                      have q389 : x7_2 < (t369.length : Int) := of_decide_eq_true (by first | (with_reducible assumption) | assumption)
                                      obtain ⟨ad389, e389, hx389_0, hx389_1, hx389_2⟩ := at_T41 (Kd.R_reads' HO_4.out).2.2 x7_2 p389 q389
                                      obtain rfl : ad387 = ad389 := (by injection e389)
                                      replace p389 := eq_true p389
                                      replace q389 := eq_true q389
                                      have p390 : 0 ≤ (x7_2 : Int) := of_decide_eq_true (by first | (with_reducible assumption) | assumption)
                                      have q390 : x7_2 < (t369.length : Int) := of_decide_eq_true (by first | (with_reducible assumption) | assumption)
                                      obtain ⟨ad390, e390, hx390_0, hx390_1, hx390_2⟩ := at_T41 (Kd.R_reads' HO_4.out).2.2 x7_2 p390 q390
                                      obtain rfl : ad387 = ad390 := (by injection e390)
                                      replace p390 := eq_true p390
                                      replace q390 := eq_true q390
                                      have p391 : 0 ≤ ((ji41) : Int) := of_decide_eq_true (by first | (with_reducible assumption) | assumption)
                                      have q391 : (ji41) < (t369.length : Int) := of_decide_eq_true (by first | (with_reducible assumption) | assumption)
                                      obtain ⟨ad391, e391, hx391_0, hx391_1, hx391_2⟩ := at_T41 (Kd.R_reads' HO_4.out).2.2 (ji41) p391 q391
                                      obtain rfl : ad387 = ad391 := (by injection e391)
                                      replace p391 := eq_true p391
                                      replace q391 := eq_true q391
                                      have p392 : 0 ≤ (x7_2 : Int) := of_decide_eq_true (by first | (with_reducible assumption) | assumption)
                                      have q392 : x7_2 < (t369.length : Int) := of_decide_eq_true (by first | (with_reducible assumption) | assumption)
                                      obtain ⟨ad392, e392, hx392_0, hx392_1, hx392_2⟩ := at_T41 (Kd.R_reads' HO_4.out).2.2 x7_2 p392 q392
                                      obtain rfl : ad387 = ad392 := (by injection e392)
                                      replace p392 := eq_true p392
                                      replace q392 := eq_true q392
                                      have p393 : 0 ≤ (x7_2 : Int) := of_decide_eq_true (by first | (with_reducible assumption) | assumption)
                                      have q393 : x7_2 < (t369.length : Int) := of_decide_eq_true (by first | (with_reducible assumption) | assumption)
                                      obtain ⟨ad393, e393, hx393_0, hx393_1, hx393_2⟩ := at_T41 (Kd.R_reads' HO_4.out).2.2 x7_2 p393 q393
                                      obtain rfl : ad387 = ad393 := (by injection e393)
                                      replace p393 := eq_true p393
                                      replace q393 := eq_true q393
                                      go_wp2
                                      repeat (go_quiet (fail); try go_wp2)
                                      go_roundg k2
                                      case measure => have := HK1.out; have := HK2.out; omega
                                      case rel => exact ⟨(wrap64 (x7_2 + 1)), (by first | rfl | (simp; done) | (simp [*]; done)), H', ⟨by have := HK1.out; have := HK2.out; omega⟩, ⟨by (with_reducible repeat (first | apply Kd.R_alloc | apply Kd.R_drewN | apply Kd.R_drew)); exact HO_3.out⟩, ⟨by (with_reducible repeat (first | apply Kd.R_alloc | apply Kd.R_drewN | apply Kd.R_drew)); exact HO_4.out⟩, ⟨by repeat (first | (with_reducible first | exact HB.out | apply below_alloc | apply pw_below_drewN | apply below_drew1) | exact HB.out)⟩⟩
                              · rw [if_neg c43] at H
                                exact absurd H (by simp)
                            · rw [if_neg c42] at H
                              exact absurd H (by simp)
                          · rw [if_neg c40] at H
                            have c40b0 : decide (0 < x7_2) = false := decide_eq_false c40
                            clear c40
                            by_cases c51 : ((rd_T41 t369 x7_2).f0) < 1
                            · rw [if_pos c51] at H
                              have c51b0 : decide (((rd_T41 t369 x7_2).f0) < 1) = true := decide_eq_true c51
                              clear c51
                              obtain rfl := Option.some.inj H
                              obtain ⟨Ao52, co52, eo52⟩ := Kd.R_slice HO_4.out
                              subst eo52
                              have p387 : 0 ≤ (x7_2 : Int) := of_decide_eq_true (by first | (with_reducible assumption) | assumption)
                              have q387 : x7_2 < (t369.length : Int) := of_decide_eq_true (by first | (with_reducible assumption) | assumption)
                              obtain ⟨ad387, e387, hx387_0, hx387_1, hx387_2⟩ := at_T41 (Kd.R_reads' HO_4.out).2.2 x7_2 p387 q387
                              cases e387
                              replace p387 := eq_true p387
                              replace q387 := eq_true q387
                              have p388 : 0 ≤ (x7_2 : Int) := of_decide_eq_true (by first | (with_reducible assumption) | assumption)
                              have q388 : x7_2 < (t369.length : Int) := of_decide_eq_true (by first | (with_reducible assumption) | assumption)
                              obtain ⟨ad388, e388, hx388_0, hx388_1, hx388_2⟩ := at_T41 (Kd.R_reads' HO_4.out).2.2 x7_2 p388 q388
                              obtain rfl : ad387 = ad388 := (by injection e388)
                              replace p388 := eq_true p388
                              replace q388 := eq_true q388
                              have p389 : 0 ≤ (x7_2 : Int) := of_decide_eq_true (by first | (with_reducible assumption) | assumption)
                              have q389 : x7_2 < (t369.length : Int) := of_decide_eq_true (by first | (with_reducible assumption) | assumption)
                              obtain ⟨ad389, e389, hx389_0, hx389_1, hx389_2⟩ := at_T41 (Kd.R_reads' HO_4.out).2.2 x7_2 p389 q389
                              obtain rfl : ad387 = ad389 := (by injection e389)
                              replace p389 := eq_true p389
                              replace q389 := eq_true q389
                              have p394 : 0 ≤ (x7_2 : Int) := of_decide_eq_true (by first | (with_reducible assumption) | assumption)
                              have q394 : x7_2 < (t369.length : Int) := of_decide_eq_true (by first | (with_reducible assumption) | assumption)
                              obtain ⟨ad394, e394, hx394_0, hx394_1, hx394_2⟩ := at_T41 (Kd.R_reads' HO_4.out).2.2 x7_2 p394 q394
                              obtain rfl : ad387 = ad394 := (by injection e394)
                              replace p394 := eq_true p394
                              replace q394 := eq_true q394
                              go_wp2
                              repeat (go_quiet (fail); try go_wp2)
                              go_ret
                              exact ⟨by first | rfl | (simp [errW_none, errW_some] <;> rfl) | (simp [*, errW_none, errW_some] <;> rfl), by repeat (first | (with_reducible first | exact HB.out | apply below_alloc | apply pw_below_drewN | apply below_drew1) | exact HB.out)⟩
                            · rw [if_neg c51] at H
                              have c51b0 : decide (((rd_T41 t369 x7_2).f0) < 1) = false := decide_eq_false c51
                              clear c51
                              by_cases c53 : ((rd_T41 t369 x7_2).f0) > 3
                              · rw [if_pos c53] at H
                                have c53b0 : decide (3 < ((rd_T41 t369 x7_2).f0)) = true := decide_eq_true c53
                                clear c53
                                obtain rfl := Option.some.inj H
                                obtain ⟨Ao54, co54, eo54⟩ := Kd.R_slice HO_4.out
                                subst eo54
                                have p387 : 0 ≤ (x7_2 : Int) := of_decide_eq_true (by first | (with_reducible assumption) | assumption)
                                have q387 : x7_2 < (t369.length : Int) := of_decide_eq_true (by first | (with_reducible assumption) | assumption)
                                obtain ⟨ad387, e387, hx387_0, hx387_1, hx387_2⟩ := at_T41 (Kd.R_reads' HO_4.out).2.2 x7_2 p387 q387
                                cases e387
                                replace p387 := eq_true p387
                                replace q387 := eq_true q387
                                have p388 : 0 ≤ (x7_2 : Int) := of_decide_eq_true (by first | (with_reducible assumption) | assumption)
                                have q388 : x7_2 < (t369.length : Int) := of_decide_eq_true (by first | (with_reducible assumption) | assumption)
                                obtain ⟨ad388, e388, hx388_0, hx388_1, hx388_2⟩ := at_T41 (Kd.R_reads' HO_4.out).2.2 x7_2 p388 q388
                                obtain rfl : ad387 = ad388 := (by injection e388)
                                replace p388 := eq_true p388
                                replace q388 := eq_true q388
                                have p389 : 0 ≤ (x7_2 : Int) := of_decide_eq_true (by first | (with_reducible assumption) | assumption)
                                have q389 : x7_2 < (t369.length : Int) := of_decide_eq_true (by first | (with_reducible assumption) | assumption)
                                obtain ⟨ad389, e389, hx389_0, hx389_1, hx389_2⟩ := at_T41 (Kd.R_reads' HO_4.out).2.2 x7_2 p389 q389
                                obtain rfl : ad387 = ad389 := (by injection e389)
                                replace p389 := eq_true p389
                                replace q389 := eq_true q389
                                have p394 : 0 ≤ (x7_2 : Int) := of_decide_eq_true (by first | (with_reducible assumption) | assumption)
                                have q394 : x7_2 < (t369.length : Int) := of_decide_eq_true (by first | (with_reducible assumption) | assumption)
                                obtain ⟨ad394, e394, hx394_0, hx394_1, hx394_2⟩ := at_T41 (Kd.R_reads' HO_4.out).2.2 x7_2 p394 q394
                                obtain rfl : ad387 = ad394 := (by injection e394)
                                replace p394 := eq_true p394
                                replace q394 := eq_true q394
                                have p395 : 0 ≤ (x7_2 : Int) := of_decide_eq_true (by first | (with_reducible assumption) | assumption)
                                have q395 : x7_2 < (t369.length : Int) := of_decide_eq_true (by first | (with_reducible assumption) | assumption)
                                obtain ⟨ad395, e395, hx395_0, hx395_1, hx395_2⟩ := at_T41 (Kd.R_reads' HO_4.out).2.2 x7_2 p395 q395
                                obtain rfl : ad387 = ad395 := (by injection e395)
                                replace p395 := eq_true p395
                                replace q395 := eq_true q395
                                go_wp2
                                repeat (go_quiet (fail); try go_wp2)
                                go_ret
                                exact ⟨by first | rfl | (simp [errW_none, errW_some] <;> rfl) | (simp [*, errW_none, errW_some] <;> rfl), by repeat (first | (with_reducible first | exact HB.out | apply below_alloc | apply pw_below_drewN | apply below_drew1) | exact HB.out)⟩
                              · rw [if_neg c53] at H
                                have c53b0 : decide (3 < ((rd_T41 t369 x7_2).f0)) = false := decide_eq_false c53
                                clear c53
                                have H' := Aside0.mk H
                                clear H
                                obtain ⟨Ao55, co55, eo55⟩ := Kd.R_slice HO_4.out
                                subst eo55
                                have p387 : 0 ≤ (x7_2 : Int) := of_decide_eq_true (by first | (with_reducible assumption) | assumption)
                                have q387 : x7_2 < (t369.length : Int) := of_decide_eq_true (by first | (with_reducible assumption) | assumption)
                                obtain ⟨ad387, e387, hx387_0, hx387_1, hx387_2⟩ := at_T41 (Kd.R_reads' HO_4.out).2.2 x7_2 p387 q387
                                cases e387
                                replace p387 := eq_true p387
                                replace q387 := eq_true q387
                                have p388 : 0 ≤ (x7_2 : Int) := of_decide_eq_true (by first | (with_reducible assumption) | assumption)
                                have q388 : x7_2 < (t369.length : Int) := of_decide_eq_true (by first | (with_reducible assumption) | assumption)
                                obtain ⟨ad388, e388, hx388_0, hx388_1, hx388_2⟩ := at_T41 (Kd.R_reads' HO_4.out).2.2 x7_2 p388 q388
                                obtain rfl : ad387 = ad388 := (by injection e388)
                                replace p388 := eq_true p388
                                replace q388 := eq_true q388
                                have p389 : 0 ≤ (x7_2 : Int) := of_decide_eq_true (by first | (with_reducible assumption) | assumption)
                                have q389 : x7_2 < (t369.length : Int) := of_decide_eq_true (by first | (with_reducible assumption) | assumption)
                                obtain ⟨ad389, e389, hx389_0, hx389_1, hx389_2⟩ := at_T41 (Kd.R_reads' HO_4.out).2.2 x7_2 p389 q389
                                obtain rfl : ad387 = ad389 := (by injection e389)
                                replace p389 := eq_true p389
                                replace q389 := eq_true q389
                                have p394 : 0 ≤ (x7_2 : Int) := of_decide_eq_true (by first | (with_reducible assumption) | assumption)
                                have q394 : x7_2 < (t369.length : Int) := of_decide_eq_true (by first | (with_reducible assumption) | assumption)
                                obtain ⟨ad394, e394, hx394_0, hx394_1, hx394_2⟩ := at_T41 (Kd.R_reads' HO_4.out).2.2 x7_2 p394 q394
                                obtain rfl : ad387 = ad394 := (by injection e394)
                                replace p394 := eq_true p394
                                replace q394 := eq_true q394
                                have p395 : 0 ≤ (x7_2 : Int) := of_decide_eq_true (by first | (with_reducible assumption) | assumption)
                                have q395 : x7_2 < (t369.length : Int) := of_decide_eq_true (by first | (with_reducible assumption) | assumption)
                                obtain ⟨ad395, e395, hx395_0, hx395_1, hx395_2⟩ := at_T41 (Kd.R_reads' HO_4.out).2.2 x7_2 p395 q395
                                obtain rfl : ad387 = ad395 := (by injection e395)
                                replace p395 := eq_true p395
                                replace q395 := eq_true q395
                                go_wp2
                                repeat (go_quiet (fail); try go_wp2)
                                go_roundg k2
                                case measure => have := HK1.out; have := HK2.out; omega
                                case rel => exact ⟨(wrap64 (x7_2 + 1)), (by first | rfl | (simp; done) | (simp [*]; done)), H', ⟨by have := HK1.out; have := HK2.out; omega⟩, ⟨by (with_reducible repeat (first | apply Kd.R_alloc | apply Kd.R_drewN | apply Kd.R_drew)); exact HO_3.out⟩, ⟨by (with_reducible repeat (first | apply Kd.R_alloc | apply Kd.R_drewN | apply Kd.R_drew)); exact HO_4.out⟩, ⟨by repeat (first | (with_reducible first | exact HB.out | apply below_alloc | apply pw_below_drewN | apply below_drew1) | exact HB.out)⟩⟩
                    · rw [if_neg c35] at H
                      have c35b0 : (((rd_T41 t369 x7_2).f1) == 0) = false := beq_eq_false_iff_ne.mpr c35
                      have c35b1 : (((rd_T41 t369 x7_2).f1) != 0) = true := bne_iff_ne.mpr c35
                      obtain rfl := Option.some.inj H
                      obtain ⟨Ao56, co56, eo56⟩ := Kd.R_slice HO_4.out
                      subst eo56
                      have p387 : 0 ≤ (x7_2 : Int) := of_decide_eq_true (by first | (with_reducible assumption) | assumption)
                      have q387 : x7_2 < (t369.length : Int) := of_decide_eq_true (by first | (with_reducible assumption) | assumption)
                      obtain ⟨ad387, e387, hx387_0, hx387_1, hx387_2⟩ := at_T41 (Kd.R_reads' HO_4.out).2.2 x7_2 p387 q387
                      cases e387
                      replace p387 := eq_true p387
                      replace q387 := eq_true q387
                      go_wp2
                      repeat (go_quiet (fail); try go_wp2)
                      go_ret
                      exact ⟨by first | rfl | (simp [errW_none, errW_some] <;> rfl) | (simp [*, errW_none, errW_some] <;> rfl), by repeat (first | (with_reducible first | exact HB.out | apply below_alloc | apply pw_below_drewN | apply below_drew1) | exact HB.out)⟩
                  · rw [if_neg c34] at H
                    exact absurd H (by simp)
                · rw [if_neg c33] at H
                  have c33b0 : decide (x7_2 < (t369.length : Int)) = false := decide_eq_false c33
                  clear c33
                  by_cases c57 : (t368.length : Int) ≤ (t377.length : Int)
                  · rw [if_pos c57] at H
                    have c57b0 : decide ((t368.length : Int) ≤ (t377.length : Int)) = true := decide_eq_true c57
                    have c57b1 : decide (t368.length ≤ t377.length) = true := decide_eq_true (Int.ofNat_le.mp c57)
                    clear c57
                    replace H := Option.bind_eq_some_iff.mp H
                    obtain ⟨t396, A580, H⟩ := H
                    replace H : (some t396) = some r := H
                    have A58 := Aside0.mk A580
                    clear A580
                    obtain rfl := Option.some.inj H
                    obtain ⟨Ao59, co59, eo59⟩ := Kd.R_slice HO_4.out
                    subst eo59
                    go_wp2_with (first | (go_at_call 14; (with_reducible refine (flonglaw04_known.calls k2  t396 _ ?side1 A58.out).mono ?_); (case side1 => exact GL.below HG.out (by repeat (first | (with_reducible first | exact HB.out | apply below_alloc | apply pw_below_drewN | apply below_drew1) | exact HB.out))); rintro e w60 ⟨rfl, hb⟩; have n0_ := Aside0.mk (Kd.R_below (by (with_reducible repeat (first | apply Kd.R_alloc | apply Kd.R_drewN | apply Kd.R_drew)); exact HO_3.out) hb); have n1_ := Aside0.mk (Kd.R_below (by (with_reducible repeat (first | apply Kd.R_alloc | apply Kd.R_drewN | apply Kd.R_drew)); exact HO_4.out) hb); have n2_ := Aside0.mk (below_step (by repeat (first | (with_reducible first | exact HB.out | apply below_alloc | apply pw_below_drewN | apply below_drew1) | exact HB.out)) hb); clear HO_3; clear HO_4; clear HB; have HO_3 := n0_; have HO_4 := n1_; have HB := n2_; clear n0_ n1_ n2_; (try clear hb); (try clear hb2); (try clear hk); (try clear hi)))
                    repeat (go_quiet (first | (go_at_call 14; (with_reducible refine (flonglaw04_known.calls k2  t396 _ ?side1 A58.out).mono ?_); (case side1 => exact GL.below HG.out (by repeat (first | (with_reducible first | exact HB.out | apply below_alloc | apply pw_below_drewN | apply below_drew1) | exact HB.out))); rintro e w60 ⟨rfl, hb⟩; have n0_ := Aside0.mk (Kd.R_below (by (with_reducible repeat (first | apply Kd.R_alloc | apply Kd.R_drewN | apply Kd.R_drew)); exact HO_3.out) hb); have n1_ := Aside0.mk (Kd.R_below (by (with_reducible repeat (first | apply Kd.R_alloc | apply Kd.R_drewN | apply Kd.R_drew)); exact HO_4.out) hb); have n2_ := Aside0.mk (below_step (by repeat (first | (with_reducible first | exact HB.out | apply below_alloc | apply pw_below_drewN | apply below_drew1) | exact HB.out)) hb); clear HO_3; clear HO_4; clear HB; have HO_3 := n0_; have HO_4 := n1_; have HB := n2_; clear n0_ n1_ n2_; (try clear hb); (try clear hb2); (try clear hk); (try clear hi))); try go_wp2_with (first | (go_at_call 14; (with_reducible refine (flonglaw04_known.calls k2  t396 _ ?side1 A58.out).mono ?_); (case side1 => exact GL.below HG.out (by repeat (first | (with_reducible first | exact HB.out | apply below_alloc | apply pw_below_drewN | apply below_drew1) | exact HB.out))); rintro e w60 ⟨rfl, hb⟩; have n0_ := Aside0.mk (Kd.R_below (by (with_reducible repeat (first | apply Kd.R_alloc | apply Kd.R_drewN | apply Kd.R_drew)); exact HO_3.out) hb); have n1_ := Aside0.mk (Kd.R_below (by (with_reducible repeat (first | apply Kd.R_alloc | apply Kd.R_drewN | apply Kd.R_drew)); exact HO_4.out) hb); have n2_ := Aside0.mk (below_step (by repeat (first | (with_reducible first | exact HB.out | apply below_alloc | apply pw_below_drewN | apply below_drew1) | exact HB.out)) hb); clear HO_3; clear HO_4; clear HB; have HO_3 := n0_; have HO_4 := n1_; have HB := n2_; clear n0_ n1_ n2_; (try clear hb); (try clear hb2); (try clear hk); (try clear hi))))
                    go_ret
                    exact ⟨by first | rfl | (simp [errW_none, errW_some] <;> rfl) | (simp [*, errW_none, errW_some] <;> rfl), by repeat (first | (with_reducible first | exact HB.out | apply below_alloc | apply pw_below_drewN | apply below_drew1) | exact HB.out)⟩
                  · rw [if_neg c57] at H
                    have c57b0 : decide ((t368.length : Int) ≤ (t377.length : Int)) = false := decide_eq_false c57
                    have c57b1 : decide (t368.length ≤ t377.length) = false := decide_eq_false (fun h => c57 (Int.ofNat_le.mpr h))
                    clear c57
                    obtain rfl := Option.some.inj H
                    obtain ⟨Ao61, co61, eo61⟩ := Kd.R_slice HO_4.out
                    subst eo61
                    go_wp2
                    repeat (go_quiet (fail); try go_wp2)
                    go_ret
                    exact ⟨by first | rfl | (simp [errW_none, errW_some] <;> rfl) | (simp [*, errW_none, errW_some] <;> rfl), by repeat (first | (with_reducible first | exact HB.out | apply below_alloc | apply pw_below_drewN | apply below_drew1) | exact HB.out)⟩
    · rw [if_neg c6] at H
      exact absurd H (by simp)
def flonglaw04_EscapeSafe.Pure : Prop := ∀ (a0 : ByteArray), a0.size ≤ 140737488351232 → ∃ k, flonglaw04_EscapeSafe.f k a0 = some true
theorem flonglaw04_EscapeSafe.walk (P : flonglaw04_EscapeSafe.Pure) (a0 : ByteArray) (w : World) (hG : GL w) (w0 : a0.size ≤ 140737488351232) :
    Calls Tryd.prog 5 #[.string a0] w fun e w' => e = .returned (.bool true) ∧ Below w.heap.size w w' := by
  obtain ⟨k, h⟩ := P a0 w0
  refine (flonglaw04_EscapeSafe.calls k a0 true w hG h).mono ?_
  rintro e w' ⟨rfl, hd⟩
  exact ⟨rfl, hd⟩
end Go.Proofs.YtdogljnddalgdaaDoor.A4
end
