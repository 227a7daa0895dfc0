/- Of what the law EscapeScans needs: part 9. -/
import Derived.ArgAppend
import Derived.Below
import Derived.BigQuiet
import Derived.Deep.AppendLies
import Derived.Deep.CutBlock
import Derived.Deep.DeepCutAuto
import Derived.Deep.Draws
import Derived.Deep.LoopGhost
import Derived.Deep.OwnRows
import Derived.Deep.QuietTactic
import Derived.Deep.RegionHeld3
import Derived.KernelRfl
import Derived.Laws.BitsLemmas
import Derived.Laws.BytesArg
import Derived.Laws.Cover4
import Derived.Laws.IdiomCopy
import Derived.Laws.MakeOwn
import Derived.Laws.OwnMore
import Derived.Laws.Rows
import Derived.Laws.Slices
import Derived.Laws.StructEq
import Derived.Lib.AppendStr
import Derived.Lib.ConvBytes
import Derived.Maps.AppendAt
import Derived.Maps.Own
import Derived.Maps.OwnOps
import Derived.Maps.OwnSet
import Derived.OrdersHeld
import Derived.OwnWalk
import Derived.RowKit
import Derived.RowKit3
import Derived.StringKeys
import Derived.Tactics
import Derived.Test.YtdogljnddalgdaaDoorProg
import Derived.WalkKit
import Derived.WalkMore
import Derived.WideLaws
import Derived.Test.YtdogljnddalgdaaDoorBScans7
import Derived.Test.YtdogljnddalgdaaDoorBScans8
namespace Go.Proofs.YtdogljnddalgdaaDoorW.PrintLast
end Go.Proofs.YtdogljnddalgdaaDoorW.PrintLast
namespace Go.Proofs.YtdogljnddalgdaaDoorW.PrintMore
end Go.Proofs.YtdogljnddalgdaaDoorW.PrintMore
namespace Go.Proofs.YtdogljnddalgdaaDoorW.PrintWords
end Go.Proofs.YtdogljnddalgdaaDoorW.PrintWords
section
namespace Go.Proofs.YtdogljnddalgdaaDoor.A4
open Go.RowKit Go.Proofs.YtdogljnddalgdaaDoorW.PrintWords Go.Proofs.YtdogljnddalgdaaDoorW.PrintLast Go.Proofs.YtdogljnddalgdaaDoorW.PrintMore
attribute [local go_sem] max2_int min2_int max_two min_two max_three min_three max_four min_four   -- for this text's walks alone
set_option linter.unusedVariables false
set_option linter.unusedSimpArgs false
mutual
def flongref02_Decode.l0 : Nat → List Int → List Int → Int → Option (List Int)
  | 0, _, _, _ => none
  | k + 1, x0, x3, x4 => if x4 < (x0.length : Int) then (flongref02_Decode.l1 k x0 x3 x4 0 1) else (some x3)
def flongref02_Decode.l1 : Nat → List Int → List Int → Int → Int → Int → Option (List Int)
  | 0, _, _, _, _, _ => none
  | k + 1, x0, x3, x4, x5, x6 => if x6 ≤ 4 then (if (wrap64 (x4 + x6)) ≤ (x0.length : Int) then (flongref02_Decode.j2 k x0 x3 x4 x5 x6 (x5 == 0)) else (flongref02_Decode.j2 k x0 x3 x4 x5 x6 false)) else (flongref02_Decode.j2 k x0 x3 x4 x5 x6 false)
def flongref02_Decode.j2 : Nat → List Int → List Int → Int → Int → Int → Bool → Option (List Int)
  | 0, _, _, _, _, _, _ => none
  | k + 1, x0, x3, x4, x5, x6, x24 => if x24 = true then (if 0 ≤ x4 then (if x4 ≤ (wrap64 (x4 + x6)) then (if (wrap64 (x4 + x6)) ≤ (x0.length : Int) then ((flongref02_is.f k ((x0.take ((wrap64 (x4 + x6)) : Int).toNat).drop (x4 : Int).toNat)).bind fun t164 => (if t164 = true then (flongref02_Decode.l1 k x0 x3 x4 x6 (wrap64 (x6 + 1))) else (flongref02_Decode.l1 k x0 x3 x4 x5 (wrap64 (x6 + 1))))) else (none)) else (none)) else (none)) else (if x5 = 0 then (if x3.length < 35184372088832 then (flongref02_Decode.l0 k x0 (x3 ++ [65533]) (wrap64 (x4 + 1))) else (none)) else (if 0 ≤ x4 then (if x4 ≤ (wrap64 (x4 + x5)) then (if (wrap64 (x4 + x5)) ≤ (x0.length : Int) then ((flongref02_value.f k ((x0.take ((wrap64 (x4 + x5)) : Int).toNat).drop (x4 : Int).toNat)).bind fun t169 => (if x3.length < 35184372088832 then (flongref02_Decode.l0 k x0 (x3 ++ [wrap32 (t169)]) (wrap64 (x4 + x5))) else (none))) else (none)) else (none)) else (none)))
end
def flongref02_Decode.f (k : Nat) (l0 : List Int) : Option (List Int) := flongref02_Decode.l0 k l0 ([] : List Int) 0
theorem flongref02_Decode.mono_l : ∀ k, (∀ y0 y1 y2, LeO (flongref02_Decode.l0 k y0 y1 y2) (flongref02_Decode.l0 (k + 1) y0 y1 y2)) ∧ (∀ y0 y1 y2 y3 y4, LeO (flongref02_Decode.l1 k y0 y1 y2 y3 y4) (flongref02_Decode.l1 (k + 1) y0 y1 y2 y3 y4)) ∧ (∀ y0 y1 y2 y3 y4 y5, LeO (flongref02_Decode.j2 k y0 y1 y2 y3 y4 y5) (flongref02_Decode.j2 (k + 1) y0 y1 y2 y3 y4 y5))
  | 0 => ⟨fun _ _ _ r h => by simp [flongref02_Decode.l0] at h, fun _ _ _ _ _ r h => by simp [flongref02_Decode.l1] at h, fun _ _ _ _ _ _ r h => by simp [flongref02_Decode.j2] at h⟩
  | k + 1 => by
    obtain ⟨ih0, ih1, ih2⟩ := flongref02_Decode.mono_l k
    refine ⟨?_, ?_, ?_⟩
    · intro y0 y1 y2
      unfold flongref02_Decode.l0
      repeat' first
      | (with_reducible exact ih0 _ _ _)
      | (with_reducible exact ih1 _ _ _ _ _)
      | (with_reducible exact ih2 _ _ _ _ _ _)
      | (with_reducible exact flongref02_is.mono _ _)
      | (with_reducible exact flongref02_value.mono _ _)
      | (with_reducible exact LeO.refl _)
      | (with_reducible exact LeO.none _)
      | (with_reducible refine LeO.ite ?_ ?_)
      | (with_reducible refine LeO.bind ?_ (fun _ => ?_))
      | exact ih0 _ _ _
      | exact ih1 _ _ _ _ _
      | exact ih2 _ _ _ _ _ _
      | exact flongref02_is.mono _ _
      | exact flongref02_value.mono _ _
      | exact LeO.none _
      | refine LeO.ite ?_ ?_
      | refine LeO.bind ?_ (fun _ => ?_)
    · intro y0 y1 y2 y3 y4
      unfold flongref02_Decode.l1
      repeat' first
      | (with_reducible exact ih0 _ _ _)
      | (with_reducible exact ih1 _ _ _ _ _)
      | (with_reducible exact ih2 _ _ _ _ _ _)
      | (with_reducible exact flongref02_is.mono _ _)
      | (with_reducible exact flongref02_value.mono _ _)
      | (with_reducible exact LeO.refl _)
      | (with_reducible exact LeO.none _)
      | (with_reducible refine LeO.ite ?_ ?_)
      | (with_reducible refine LeO.bind ?_ (fun _ => ?_))
      | exact ih0 _ _ _
      | exact ih1 _ _ _ _ _
      | exact ih2 _ _ _ _ _ _
      | exact flongref02_is.mono _ _
      | exact flongref02_value.mono _ _
      | exact LeO.none _
      | refine LeO.ite ?_ ?_
      | refine LeO.bind ?_ (fun _ => ?_)
    · intro y0 y1 y2 y3 y4 y5
      unfold flongref02_Decode.j2
      repeat' first
      | (with_reducible exact ih0 _ _ _)
      | (with_reducible exact ih1 _ _ _ _ _)
      | (with_reducible exact ih2 _ _ _ _ _ _)
      | (with_reducible exact flongref02_is.mono _ _)
      | (with_reducible exact flongref02_value.mono _ _)
      | (with_reducible exact LeO.refl _)
      | (with_reducible exact LeO.none _)
      | (with_reducible refine LeO.ite ?_ ?_)
      | (with_reducible refine LeO.bind ?_ (fun _ => ?_))
      | exact ih0 _ _ _
      | exact ih1 _ _ _ _ _
      | exact ih2 _ _ _ _ _ _
      | exact flongref02_is.mono _ _
      | exact flongref02_value.mono _ _
      | exact LeO.none _
      | refine LeO.ite ?_ ?_
      | refine LeO.bind ?_ (fun _ => ?_)
theorem flongref02_Decode.mono : ∀ a0 k, LeO (flongref02_Decode.f k a0) (flongref02_Decode.f (k + 1) a0) := by
  intro a0 k
  obtain ⟨ih0, ih1, ih2⟩ := flongref02_Decode.mono_l k
  unfold flongref02_Decode.f
  repeat' first
      | (with_reducible exact ih0 _ _ _)
      | (with_reducible exact ih1 _ _ _ _ _)
      | (with_reducible exact ih2 _ _ _ _ _ _)
      | (with_reducible exact flongref02_is.mono _ _)
      | (with_reducible exact flongref02_value.mono _ _)
      | (with_reducible exact LeO.refl _)
      | (with_reducible exact LeO.none _)
      | (with_reducible refine LeO.ite ?_ ?_)
      | (with_reducible refine LeO.bind ?_ (fun _ => ?_))
      | exact ih0 _ _ _
      | exact ih1 _ _ _ _ _
      | exact ih2 _ _ _ _ _ _
      | exact flongref02_is.mono _ _
      | exact flongref02_value.mono _ _
      | exact LeO.none _
      | refine LeO.ite ?_ ?_
      | refine LeO.bind ?_ (fun _ => ?_)
set_option maxHeartbeats 8000000 in
set_option maxRecDepth 100000 in
theorem flongref02_Decode.calls (k : Nat) (A0 : Option Addr) (c0 : Nat) (l0 : List Int) (r : List Int) (w : World) (hr0 : Kd.C (Kd.int .u8) w A0 l0.length l0) (hc0 : l0.length ≤ c0) (h : flongref02_Decode.f k l0 = some r) :
    Calls Tryd.prog 25 #[.slice A0 l0.length c0] w fun e w' => ∃ v0_ : Value, e = .returned (v0_) ∧ Kd.R (Kd.int .i32) 21 w' w.heap.size (fun _ => True) v0_ r ∧ Below w.heap.size w w' := by
  have HR0 := Aside0.mk hr0
  have HC0 := Aside0.mk hc0
  clear hr0 hc0
  have HB := Aside0.mk (Below.refl w.heap.size w)
  have H : (flongref02_Decode.l0 k l0 ([] : List Int) 0) = some r := h
  clear h
  have H' := Aside0.mk H
  clear H
  go_enter Tryd.func25, Tryd.ntmps25
  go_wp2
  go_loopg [3, 4] k (fun kq v3 v4 w' => ∃ (x3_1 : List Int) (x4_1 : Int), v4 = .int .i64 x4_1 ∧ Aside0 (flongref02_Decode.l0 kq l0 x3_1 x4_1 = some r) ∧ Aside0 (kq ≤ k) ∧ Aside0 (Kd.R (Kd.int .i32) 21 w' w.heap.size (fun _ => True) v3 x3_1) ∧ Aside0 (Below w.heap.size w w'))
  case atStart => exact ⟨(([] : List Int)), (0), (by first | rfl | (simp; done) | (simp [*]; done)), H', ⟨Nat.le_refl _⟩, ⟨by first | exact Kd.R_nil _ _ _ _ _ | exact Kd.N_nil _ _ _ _ _ | exact Kd.V_nil _ _ _ _ _ | exact Kd.Q_nil _ _ _ _ _ | exact Kd.S_nil _ _ _ _ _⟩, ⟨by repeat (first | (with_reducible first | exact HB.out | apply below_alloc | apply pw_below_drewN | apply below_drew1) | exact HB.out)⟩⟩
  case round =>
    clear H'
    obtain ⟨x3_1, x4_1, rfl, HA, HK1, HO_3, HB⟩ := hrel
    cases gk with
    | zero => exact absurd HA.out (by simp [flongref02_Decode.l0])
    | succ k1 =>
      have H := HA.out
      clear HA
      simp only [flongref02_Decode.l0] at H
      by_cases c2 : x4_1 < (l0.length : Int)
      · rw [if_pos c2] at H
        have c2b0 : decide (x4_1 < (l0.length : Int)) = true := decide_eq_true c2
        clear c2
        have H' := Aside0.mk H
        clear H
        go_wp2
        go_loopg [5, 6] k1 (fun kq v5 v6 w' => ∃ (x5_2 : Int) (x6_2 : Int), v5 = .int .i64 x5_2 ∧ v6 = .int .i64 x6_2 ∧ Aside0 (flongref02_Decode.l1 kq l0 x3_1 x4_1 x5_2 x6_2 = some r) ∧ Aside0 (kq ≤ k1) ∧ Aside0 (Kd.R (Kd.int .i32) 21 w' w.heap.size (fun _ => True) u3 x3_1) ∧ Aside0 (Below w.heap.size w w'))
        case atStart => exact ⟨(0), (1), (by first | rfl | (simp; done) | (simp [*]; done)), (by first | rfl | (simp; done) | (simp [*]; done)), H', ⟨Nat.le_refl _⟩, ⟨by (with_reducible repeat (first | apply Kd.R_alloc | apply Kd.R_drewN | apply Kd.R_drew)); exact HO_3.out⟩, ⟨by repeat (first | (with_reducible first | exact HB.out | apply below_alloc | apply pw_below_drewN | apply below_drew1) | exact HB.out)⟩⟩
        case round =>
          clear H'
          try clear c2
          try clear c2b0
          try clear p2
          obtain ⟨x5_2, x6_2, rfl, rfl, HA, HK2, HO_3, HB⟩ := hrel
          cases gk with
          | zero => exact absurd HA.out (by simp [flongref02_Decode.l1])
          | succ k2 =>
            have H := HA.out
            clear HA
            simp only [flongref02_Decode.l1] at H
            have HC3 := Aside0.mk H
            clear H
            go_upto_region 6 with (fail)
            go_cut [24] (fun v24 wc => ∃ (kq : Nat) (x24_2 : Bool), v24 = .bool x24_2 ∧ Aside0 (flongref02_Decode.j2 kq l0 x3_1 x4_1 x5_2 x6_2 x24_2 = some r) ∧ Aside0 (kq ≤ k2) ∧ Aside0 (Kd.R (Kd.int .i32) 21 wc w.heap.size (fun _ => True) u3 x3_1) ∧ Aside0 (Below w.heap.size w wc))
            case first =>
              have H := HC3.out
              clear HC3
              by_cases c4 : x6_2 ≤ 4
              · rw [if_pos c4] at H
                have c4b0 : decide (x6_2 ≤ 4) = true := decide_eq_true c4
                clear c4
                (first | rw [c4b0] | (simp only [i64_w, i32_w]; rw [c4b0]) | skip)
                by_cases c5 : (wrap64 (x4_1 + x6_2)) ≤ (l0.length : Int)
                · rw [if_pos c5] at H
                  have c5b0 : decide ((wrap64 (x4_1 + x6_2)) ≤ (l0.length : Int)) = true := decide_eq_true c5
                  clear c5
                  have H' := Aside0.mk H
                  clear H
                  go_wp2
                  go_meet
                  case rel => exact ⟨_, ((x5_2 == 0)), (by first | rfl | (simp; done) | (simp [*]; done)), H', ⟨by have := HK1.out; have := HK2.out; first | omega | exact Nat.le_refl _⟩, ⟨by (with_reducible repeat (first | apply Kd.R_alloc | apply Kd.R_drewN | apply Kd.R_drew)); exact HO_3.out⟩, ⟨by repeat (first | (with_reducible first | exact HB.out | apply below_alloc | apply pw_below_drewN | apply below_drew1) | exact HB.out)⟩⟩
                · rw [if_neg c5] at H
                  have c5b0 : decide ((wrap64 (x4_1 + x6_2)) ≤ (l0.length : Int)) = false := decide_eq_false c5
                  clear c5
                  have H' := Aside0.mk H
                  clear H
                  go_wp2
                  go_meet
                  case rel => exact ⟨_, (false), (by first | rfl | (simp; done) | (simp [*]; done)), H', ⟨by have := HK1.out; have := HK2.out; first | omega | exact Nat.le_refl _⟩, ⟨by (with_reducible repeat (first | apply Kd.R_alloc | apply Kd.R_drewN | apply Kd.R_drew)); exact HO_3.out⟩, ⟨by repeat (first | (with_reducible first | exact HB.out | apply below_alloc | apply pw_below_drewN | apply below_drew1) | exact HB.out)⟩⟩
              · rw [if_neg c4] at H
                have c4b0 : decide (x6_2 ≤ 4) = false := decide_eq_false c4
                clear c4
                (first | rw [c4b0] | (simp only [i64_w, i32_w]; rw [c4b0]) | skip)
                have H' := Aside0.mk H
                clear H
                go_wp2
                go_meet
                case rel => exact ⟨_, (false), (by first | rfl | (simp; done) | (simp [*]; done)), H', ⟨by have := HK1.out; have := HK2.out; first | omega | exact Nat.le_refl _⟩, ⟨by (with_reducible repeat (first | apply Kd.R_alloc | apply Kd.R_drewN | apply Kd.R_drew)); exact HO_3.out⟩, ⟨by repeat (first | (with_reducible first | exact HB.out | apply below_alloc | apply pw_below_drewN | apply below_drew1) | exact HB.out)⟩⟩
            case rest =>
              clear HC3
              try clear c2
              try clear c2b0
              try clear p2
              try clear c4
              try clear c4b0
              try clear c5
              try clear c5b0
              try clear p2
              obtain ⟨kq, x24_2, rfl, HA, HJ2, HO_3, HB⟩ := hcut
              cases kq with
              | zero => exact absurd HA.out (by simp [flongref02_Decode.j2])
              | succ kj2 =>
                have H := HA.out
                clear HA
                simp only [flongref02_Decode.j2] at H
                by_cases c6 : x24_2 = true
                · subst c6
                  have H1 : (if 0 ≤ x4_1 then (if x4_1 ≤ (wrap64 (x4_1 + x6_2)) then (if (wrap64 (x4_1 + x6_2)) ≤ (l0.length : Int) then ((flongref02_is.f kj2 ((l0.take ((wrap64 (x4_1 + x6_2)) : Int).toNat).drop (x4_1 : Int).toNat)).bind fun t164 => (if t164 = true then (flongref02_Decode.l1 kj2 l0 x3_1 x4_1 x6_2 (wrap64 (x6_2 + 1))) else (flongref02_Decode.l1 kj2 l0 x3_1 x4_1 x5_2 (wrap64 (x6_2 + 1))))) else (none)) else (none)) else (none)) = some r := by rw [if_pos rfl] at H; exact H
                  clear H
                  have H := H1
                  clear H1
                  by_cases c7 : 0 ≤ x4_1
                  · rw [if_pos c7] at H
                    have c7b0 := eq_true c7
                    have c7b1 : decide (0 ≤ x4_1) = true := decide_eq_true c7
                    clear c7
                    by_cases c8 : x4_1 ≤ (wrap64 (x4_1 + x6_2))
                    · rw [if_pos c8] at H
                      have c8b0 := eq_true c8
                      have c8b1 : decide (x4_1 ≤ (wrap64 (x4_1 + x6_2))) = true := decide_eq_true c8
                      by_cases c9 : (wrap64 (x4_1 + x6_2)) ≤ (l0.length : Int)
                      · rw [if_pos c9] at H
                        have c9b0 := eq_true c9
                        have c9b1 : decide ((wrap64 (x4_1 + x6_2)) ≤ (l0.length : Int)) = true := decide_eq_true c9
                        replace H := Option.bind_eq_some_iff.mp H
                        obtain ⟨t164, A100, H⟩ := H
                        replace H : (if t164 = true then (flongref02_Decode.l1 kj2 l0 x3_1 x4_1 x6_2 (wrap64 (x6_2 + 1))) else (flongref02_Decode.l1 kj2 l0 x3_1 x4_1 x5_2 (wrap64 (x6_2 + 1)))) = some r := H
                        have A10 := Aside0.mk A100
                        clear A100
                        by_cases c11 : t164 = true
                        · subst c11
                          have H1 : (flongref02_Decode.l1 kj2 l0 x3_1 x4_1 x6_2 (wrap64 (x6_2 + 1))) = some r := by rw [if_pos rfl] at H; exact H
                          clear H
                          have H := H1
                          clear H1
                          have H' := Aside0.mk H
                          clear H
                          obtain ⟨i012, hi012, _, hsz12, _⟩ := info_parts info5
                          obtain ⟨A12, hcut12, hA12, hC12⟩ := print_mid_of (P := Tryd.prog) (Value.int .u8) 0 36 5 .i64 .i64 Tryd.underlying36 hi012 hsz12 A0 c0 l0 x4_1 (wrap64 (x4_1 + x6_2)) (of_decide_eq_true (by first | (with_reducible assumption) | assumption)) (by first | omega | exact of_decide_eq_true (by first | (with_reducible assumption) | assumption)) (of_decide_eq_true (by first | (with_reducible assumption) | assumption)) HC0.out
                          have HR163 := Aside0.mk (Kd.C_of_reads (h1 := fun _ => rfl) (hA12 _ (Kd.reads_of_C HR0.out)))
                          have HC163 := Aside0.mk hC12
                          clear hA12 hC12 hi012 hsz12
                          go_wp2_with (first | ((with_reducible refine gate_callee (f := 50) rfl ?_); refine goesL_ (some 33) rfl rfl Tryd.func50 (by kernel_rfl) rfl #[.slice A12 ((l0.take ((wrap64 (x4_1 + x6_2)) : Int).toNat).drop (x4_1 : Int).toNat).length (c0 - x4_1.toNat)] rfl (by (try simp only [List.map_toArray, List.map_cons, List.map_nil]); first | done | (rw [show ((l0.take ((wrap64 (x4_1 + x6_2)) : Int).toNat).drop (x4_1 : Int).toNat).length = ((wrap64 (x4_1 + x6_2)).toNat - x4_1.toNat) from (by rw [List.length_drop, List.length_take]; have h_ : ((wrap64 (x4_1 + x6_2)) : Int) ≤ (l0.length : Int) := of_decide_eq_true (by first | (with_reducible assumption) | assumption); omega)] <;> rfl) | rfl | (simp only [List.length_drop, List.length_take]; rfl)) ?_; (with_reducible refine (flongref02_is.calls kj2 _ _ ((l0.take ((wrap64 (x4_1 + x6_2)) : Int).toNat).drop (x4_1 : Int).toNat) true _ ?side1 ?side2 A10.out).mono ?_); (case side1 => repeat (first | exact (Kd.C_below HR163.out HB.out) | (with_reducible refine Kd.C_alloc ?_ _) | (with_reducible refine Kd.C_drewN ?_ _) | (with_reducible refine Kd.C_drew ?_))); (case side2 => exact HC163.out); rintro e w13 ⟨rfl, hb⟩; refine ⟨_, rfl, ?_⟩; have n0_ := Aside0.mk (Kd.R_below (by (with_reducible repeat (first | apply Kd.R_alloc | apply Kd.R_drewN | apply Kd.R_drew)); exact HO_3.out) hb); have n1_ := Aside0.mk (below_step (by repeat (first | (with_reducible first | exact HB.out | apply below_alloc | apply pw_below_drewN | apply below_drew1) | exact HB.out)) hb); clear HO_3; clear HB; have HO_3 := n0_; have HB := n1_; clear n0_ n1_; (try clear hb); (try clear hb2); (try clear hk); (try clear hi)))
                          go_roundg kj2
                          case measure => have := HK1.out; have := HK2.out; have := HJ2.out; omega
                          case rel => exact ⟨(x6_2), (wrap64 (x6_2 + 1)), (by first | rfl | (simp; done) | (simp [*]; done)), (by first | rfl | (simp; done) | (simp [*]; done)), H', ⟨by have := HK1.out; have := HK2.out; have := HJ2.out; omega⟩, ⟨by (with_reducible repeat (first | apply Kd.R_alloc | apply Kd.R_drewN | apply Kd.R_drew)); exact HO_3.out⟩, ⟨by repeat (first | (with_reducible first | exact HB.out | apply below_alloc | apply pw_below_drewN | apply below_drew1) | exact HB.out)⟩⟩
                        · replace c11 := Bool.eq_false_iff.mpr c11
                          subst c11
                          have H1 : (flongref02_Decode.l1 kj2 l0 x3_1 x4_1 x5_2 (wrap64 (x6_2 + 1))) = some r := by rw [if_neg (show ¬ (false = true) by decide)] at H; exact H
                          clear H
                          have H := H1
                          clear H1
                          have H' := Aside0.mk H
                          clear H
                          obtain ⟨i014, hi014, _, hsz14, _⟩ := info_parts info5
                          obtain ⟨A14, hcut14, hA14, hC14⟩ := print_mid_of (P := Tryd.prog) (Value.int .u8) 0 36 5 .i64 .i64 Tryd.underlying36 hi014 hsz14 A0 c0 l0 x4_1 (wrap64 (x4_1 + x6_2)) (of_decide_eq_true (by first | (with_reducible assumption) | assumption)) (by first | omega | exact of_decide_eq_true (by first | (with_reducible assumption) | assumption)) (of_decide_eq_true (by first | (with_reducible assumption) | assumption)) HC0.out
                          have HR163 := Aside0.mk (Kd.C_of_reads (h1 := fun _ => rfl) (hA14 _ (Kd.reads_of_C HR0.out)))
                          have HC163 := Aside0.mk hC14
                          clear hA14 hC14 hi014 hsz14
                          go_wp2_with (first | ((with_reducible refine gate_callee (f := 50) rfl ?_); refine goesL_ (some 33) rfl rfl Tryd.func50 (by kernel_rfl) rfl #[.slice A14 ((l0.take ((wrap64 (x4_1 + x6_2)) : Int).toNat).drop (x4_1 : Int).toNat).length (c0 - x4_1.toNat)] rfl (by (try simp only [List.map_toArray, List.map_cons, List.map_nil]); first | done | (rw [show ((l0.take ((wrap64 (x4_1 + x6_2)) : Int).toNat).drop (x4_1 : Int).toNat).length = ((wrap64 (x4_1 + x6_2)).toNat - x4_1.toNat) from (by rw [List.length_drop, List.length_take]; have h_ : ((wrap64 (x4_1 + x6_2)) : Int) ≤ (l0.length : Int) := of_decide_eq_true (by first | (with_reducible assumption) | assumption); omega)] <;> rfl) | rfl | (simp only [List.length_drop, List.length_take]; rfl)) ?_; (with_reducible refine (flongref02_is.calls kj2 _ _ ((l0.take ((wrap64 (x4_1 + x6_2)) : Int).toNat).drop (x4_1 : Int).toNat) false _ ?side1 ?side2 A10.out).mono ?_); (case side1 => repeat (first | exact (Kd.C_below HR163.out HB.out) | (with_reducible refine Kd.C_alloc ?_ _) | (with_reducible refine Kd.C_drewN ?_ _) | (with_reducible refine Kd.C_drew ?_))); (case side2 => exact HC163.out); rintro e w15 ⟨rfl, hb⟩; refine ⟨_, rfl, ?_⟩; have n0_ := Aside0.mk (Kd.R_below (by (with_reducible repeat (first | apply Kd.R_alloc | apply Kd.R_drewN | apply Kd.R_drew)); exact HO_3.out) hb); have n1_ := Aside0.mk (below_step (by repeat (first | (with_reducible first | exact HB.out | apply below_alloc | apply pw_below_drewN | apply below_drew1) | exact HB.out)) hb); clear HO_3; clear HB; have HO_3 := n0_; have HB := n1_; clear n0_ n1_; (try clear hb); (try clear hb2); (try clear hk); (try clear hi)))
                          go_roundg kj2
                          case measure => have := HK1.out; have := HK2.out; have := HJ2.out; omega
                          case rel => exact ⟨(x5_2), (wrap64 (x6_2 + 1)), (by first | rfl | (simp; done) | (simp [*]; done)), (by first | rfl | (simp; done) | (simp [*]; done)), H', ⟨by have := HK1.out; have := HK2.out; have := HJ2.out; omega⟩, ⟨by (with_reducible repeat (first | apply Kd.R_alloc | apply Kd.R_drewN | apply Kd.R_drew)); exact HO_3.out⟩, ⟨by repeat (first | (with_reducible first | exact HB.out | apply below_alloc | apply pw_below_drewN | apply below_drew1) | exact HB.out)⟩⟩
                      · rw [if_neg c9] at H
                        exact absurd H (by simp)
                    · rw [if_neg c8] at H
                      exact absurd H (by simp)
                  · rw [if_neg c7] at H
                    exact absurd H (by simp)
                · replace c6 := Bool.eq_false_iff.mpr c6
                  subst c6
                  have H1 : (if x5_2 = 0 then (if x3_1.length < 35184372088832 then (flongref02_Decode.l0 kj2 l0 (x3_1 ++ [65533]) (wrap64 (x4_1 + 1))) else (none)) else (if 0 ≤ x4_1 then (if x4_1 ≤ (wrap64 (x4_1 + x5_2)) then (if (wrap64 (x4_1 + x5_2)) ≤ (l0.length : Int) then ((flongref02_value.f kj2 ((l0.take ((wrap64 (x4_1 + x5_2)) : Int).toNat).drop (x4_1 : Int).toNat)).bind fun t169 => (if x3_1.length < 35184372088832 then (flongref02_Decode.l0 kj2 l0 (x3_1 ++ [wrap32 (t169)]) (wrap64 (x4_1 + x5_2))) else (none))) else (none)) else (none)) else (none))) = some r := by rw [if_neg (show ¬ (false = true) by decide)] at H; exact H
                  clear H
                  have H := H1
                  clear H1
                  by_cases c16 : x5_2 = 0
                  · rw [if_pos c16] at H
                    have c16b0 : (x5_2 == 0) = true := beq_iff_eq.mpr c16
                    have c16b1 : (x5_2 != 0) = false := bne_eq_false_iff_eq.mpr c16
                    clear c16
                    by_cases c17 : x3_1.length < 35184372088832
                    · rw [if_pos c17] at H
                      have LMc17 := Aside0.mk c17
                      clear c17
                      obtain ⟨y165, hy165⟩ : ∃ y_ : List Int, y_ = (x3_1 ++ [65533]) := ⟨_, rfl⟩
                      replace H : (flongref02_Decode.l0 kj2 l0 y165 (wrap64 (x4_1 + 1))) = some r := by first | (rw [hy165]; with_reducible exact H) | (have H2_ := (Option.bind_some _ _).symm.trans H; rw [hy165]; with_reducible exact H2_) | (have H2_ := (Option.bind_some _ _).symm.trans H; with_reducible exact H2_) | with_reducible exact H | (rw [hy165]; exact H) | exact H
                      have Ny165 := Aside0.mk hy165
                      clear hy165
                      have H' := Aside0.mk H
                      clear H
                      go_wp2_with (first | ((with_reducible refine gate_builtin (b := .append) (xs := #[.tmp 37, .tmp 38]) rfl ?_); (try (refine gate_guard (by rfl) ?_; dsimp only)); at_builtin; refine Kd.R_append (Kd.int .i32) (w0 := w) w.heap.size rfl (.tmp 37) (.tmp 38) 34 21 (.int .i32 0) 4 rfl Tryd.underlying34 info21 rfl (by decide) (by omega) u3 x3_1 65533 [.int .i32 65533] (fun _ => True) (fun _ => False) rfl rfl ?aP (fun _ hk => hk.elim) ?aF ?aO ?aB ?aS ?aL ?_; (case aP => exact rfl); (case aB => exact (by repeat (first | (with_reducible first | exact HB.out | apply below_alloc | apply pw_below_drewN | apply below_drew1) | exact HB.out))); (case aF => exact (fun _ _ => trivial)); (case aO => exact (by (with_reducible repeat (first | apply Kd.R_alloc | apply Kd.R_drewN | apply Kd.R_drew)); exact HO_3.out)); (case aS => exact (below_size (by repeat (first | (with_reducible first | exact HB.out | apply below_alloc | apply pw_below_drewN | apply below_drew1) | exact HB.out)))); (case aL => have := LMc17.out; omega); intro v166 w18 ho hb hg hat; rw [← Ny165.out] at ho; have n0_ := Aside0.mk (hb); have n1_ := Aside0.mk (ho); clear HB; clear HO_3; have HB := n0_; have HO167 := n1_; clear n0_ n1_; clear ho hb hg hat))
                      go_roundg kj2
                      case measure => have := HK1.out; have := HK2.out; have := HJ2.out; omega
                      case rel => exact ⟨(y165), (wrap64 (x4_1 + 1)), (by first | rfl | (simp; done) | (simp [*]; done)), H', ⟨by have := HK1.out; have := HK2.out; have := HJ2.out; omega⟩, ⟨by (with_reducible repeat (first | apply Kd.R_alloc | apply Kd.R_drewN | apply Kd.R_drew)); exact HO167.out⟩, ⟨by repeat (first | (with_reducible first | exact HB.out | apply below_alloc | apply pw_below_drewN | apply below_drew1) | exact HB.out)⟩⟩
                    · rw [if_neg c17] at H
                      exact absurd H (by simp)
                  · rw [if_neg c16] at H
                    have c16b0 : (x5_2 == 0) = false := beq_eq_false_iff_ne.mpr c16
                    have c16b1 : (x5_2 != 0) = true := bne_iff_ne.mpr c16
                    by_cases c19 : 0 ≤ x4_1
                    · rw [if_pos c19] at H
                      have c19b0 := eq_true c19
                      have c19b1 : decide (0 ≤ x4_1) = true := decide_eq_true c19
                      clear c19
                      by_cases c20 : x4_1 ≤ (wrap64 (x4_1 + x5_2))
                      · rw [if_pos c20] at H
                        have c20b0 := eq_true c20
                        have c20b1 : decide (x4_1 ≤ (wrap64 (x4_1 + x5_2))) = true := decide_eq_true c20
                        by_cases c21 : (wrap64 (x4_1 + x5_2)) ≤ (l0.length : Int)
                        · rw [if_pos c21] at H
                          have c21b0 := eq_true c21
                          have c21b1 : decide ((wrap64 (x4_1 + x5_2)) ≤ (l0.length : Int)) = true := decide_eq_true c21
                          replace H := Option.bind_eq_some_iff.mp H
                          obtain ⟨t169, A220, H⟩ := H
                          replace H : (if x3_1.length < 35184372088832 then (flongref02_Decode.l0 kj2 l0 (x3_1 ++ [wrap32 (t169)]) (wrap64 (x4_1 + x5_2))) else (none)) = some r := H
                          have A22 := Aside0.mk A220
                          clear A220
                          by_cases c23 : x3_1.length < 35184372088832
                          · rw [if_pos c23] at H
                            have LMc23 := Aside0.mk c23
                            clear c23
                            obtain ⟨y170, hy170⟩ : ∃ y_ : List Int, y_ = (x3_1 ++ [wrap32 (t169)]) := ⟨_, rfl⟩
                            replace H : (flongref02_Decode.l0 kj2 l0 y170 (wrap64 (x4_1 + x5_2))) = some r := by first | (rw [hy170]; with_reducible exact H) | (have H2_ := (Option.bind_some _ _).symm.trans H; rw [hy170]; with_reducible exact H2_) | (have H2_ := (Option.bind_some _ _).symm.trans H; with_reducible exact H2_) | with_reducible exact H | (rw [hy170]; exact H) | exact H
                            have Ny170 := Aside0.mk hy170
                            clear hy170
                            have H' := Aside0.mk H
                            clear H
                            obtain ⟨i024, hi024, _, hsz24, _⟩ := info_parts info5
                            obtain ⟨A24, hcut24, hA24, hC24⟩ := print_mid_of (P := Tryd.prog) (Value.int .u8) 0 36 5 .i64 .i64 Tryd.underlying36 hi024 hsz24 A0 c0 l0 x4_1 (wrap64 (x4_1 + x5_2)) (of_decide_eq_true (by first | (with_reducible assumption) | assumption)) (by first | omega | exact of_decide_eq_true (by first | (with_reducible assumption) | assumption)) (of_decide_eq_true (by first | (with_reducible assumption) | assumption)) HC0.out
                            have HR168 := Aside0.mk (Kd.C_of_reads (h1 := fun _ => rfl) (hA24 _ (Kd.reads_of_C HR0.out)))
                            have HC168 := Aside0.mk hC24
                            clear hA24 hC24 hi024 hsz24
                            go_wp2_with (first | ((with_reducible refine gate_callee (f := 51) rfl ?_); refine goesL_ (some 49) rfl rfl Tryd.func51 (by kernel_rfl) rfl #[.slice A24 ((l0.take ((wrap64 (x4_1 + x5_2)) : Int).toNat).drop (x4_1 : Int).toNat).length (c0 - x4_1.toNat)] rfl (by (try simp only [List.map_toArray, List.map_cons, List.map_nil]); first | done | (rw [show ((l0.take ((wrap64 (x4_1 + x5_2)) : Int).toNat).drop (x4_1 : Int).toNat).length = ((wrap64 (x4_1 + x5_2)).toNat - x4_1.toNat) from (by rw [List.length_drop, List.length_take]; have h_ : ((wrap64 (x4_1 + x5_2)) : Int) ≤ (l0.length : Int) := of_decide_eq_true (by first | (with_reducible assumption) | assumption); omega)] <;> rfl) | rfl | (simp only [List.length_drop, List.length_take]; rfl)) ?_; (with_reducible refine (flongref02_value.calls kj2 _ _ ((l0.take ((wrap64 (x4_1 + x5_2)) : Int).toNat).drop (x4_1 : Int).toNat) t169 _ ?side1 ?side2 A22.out).mono ?_); (case side1 => repeat (first | exact (Kd.C_below HR168.out HB.out) | (with_reducible refine Kd.C_alloc ?_ _) | (with_reducible refine Kd.C_drewN ?_ _) | (with_reducible refine Kd.C_drew ?_))); (case side2 => exact HC168.out); rintro e w' ⟨rfl, ⟨nd, rfl⟩⟩; refine ⟨_, rfl, ?_⟩) | ((with_reducible refine gate_builtin (b := .append) (xs := #[.tmp 42, .tmp 51]) rfl ?_); (try (refine gate_guard (by rfl) ?_; dsimp only)); at_builtin; refine Kd.R_append (Kd.int .i32) (w0 := w) w.heap.size rfl (.tmp 42) (.tmp 51) 34 21 (.int .i32 0) 4 rfl Tryd.underlying34 info21 rfl (by decide) (by omega) u3 x3_1 (wrap32 (t169)) [.int .i32 (wrap32 (t169))] (fun _ => True) (fun _ => False) rfl rfl ?aP (fun _ hk => hk.elim) ?aF ?aO ?aB ?aS ?aL ?_; (case aP => exact rfl); (case aB => exact (by repeat (first | (with_reducible first | exact HB.out | apply below_alloc | apply pw_below_drewN | apply below_drew1) | exact HB.out))); (case aF => exact (fun _ _ => trivial)); (case aO => exact (by (with_reducible repeat (first | apply Kd.R_alloc | apply Kd.R_drewN | apply Kd.R_drew)); exact HO_3.out)); (case aS => exact (below_size (by repeat (first | (with_reducible first | exact HB.out | apply below_alloc | apply pw_below_drewN | apply below_drew1) | exact HB.out)))); (case aL => have := LMc23.out; omega); intro v171 w25 ho hb hg hat; rw [← Ny170.out] at ho; have n0_ := Aside0.mk (hb); have n1_ := Aside0.mk (ho); clear HB; clear HO_3; have HB := n0_; have HO172 := n1_; clear n0_ n1_; clear ho hb hg hat))
                            go_roundg kj2
                            case measure => have := HK1.out; have := HK2.out; have := HJ2.out; omega
                            case rel => exact ⟨(y170), (wrap64 (x4_1 + x5_2)), (by first | rfl | (simp; done) | (simp [*]; done)), H', ⟨by have := HK1.out; have := HK2.out; have := HJ2.out; omega⟩, ⟨by (with_reducible repeat (first | apply Kd.R_alloc | apply Kd.R_drewN | apply Kd.R_drew)); exact HO172.out⟩, ⟨by repeat (first | (with_reducible first | exact HB.out | apply below_alloc | apply pw_below_drewN | apply below_drew1) | exact HB.out)⟩⟩
                          · rw [if_neg c23] at H
                            exact absurd H (by simp)
                        · rw [if_neg c21] at H
                          exact absurd H (by simp)
                      · rw [if_neg c20] at H
                        exact absurd H (by simp)
                    · rw [if_neg c19] at H
                      exact absurd H (by simp)
      · rw [if_neg c2] at H
        have c2b0 : decide (x4_1 < (l0.length : Int)) = false := decide_eq_false c2
        clear c2
        obtain rfl := Option.some.inj H
        go_wp2
        go_ret
        exact ⟨_, by first | rfl | (simp [errW_none, errW_some] <;> rfl) | (simp [*, errW_none, errW_some] <;> rfl), by (with_reducible repeat (first | apply Kd.R_alloc | apply Kd.R_drewN | apply Kd.R_drew)); exact HO_3.out, by repeat (first | (with_reducible first | exact HB.out | apply below_alloc | apply pw_below_drewN | apply below_drew1) | exact HB.out)⟩
end Go.Proofs.YtdogljnddalgdaaDoor.A4
end
section
namespace Go.Proofs.YtdogljnddalgdaaDoor.A4
open Go.RowKit Go.Proofs.YtdogljnddalgdaaDoorW.PrintWords Go.Proofs.YtdogljnddalgdaaDoorW.PrintLast Go.Proofs.YtdogljnddalgdaaDoorW.PrintMore
attribute [local go_sem] max2_int min2_int max_two min_two max_three min_three max_four min_four   -- for this text's walks alone
set_option linter.unusedVariables false
set_option linter.unusedSimpArgs false
def flongref02_Control.f (a0 : Int) : Option (Bool) := if a0 ≥ 0 then (if a0 ≤ 31 then (some true) else (if a0 ≥ 127 then (if a0 ≤ 159 then (some true) else (if a0 = 8232 then (some true) else (some (a0 == 8233)))) else (if a0 = 8232 then (some true) else (some (a0 == 8233))))) else (if a0 ≥ 127 then (if a0 ≤ 159 then (some true) else (if a0 = 8232 then (some true) else (some (a0 == 8233)))) else (if a0 = 8232 then (some true) else (some (a0 == 8233))))
set_option maxHeartbeats 8000000 in
set_option maxRecDepth 100000 in
theorem flongref02_Control.calls (a0 : Int) (r : Bool) (w : World) (h : flongref02_Control.f a0 = some r) :
    Calls Tryd.prog 27 #[.int .i32 a0] w fun e w' => e = .returned (.bool r) ∧ Drawn0 w w' := by
  have H : (if a0 ≥ 0 then (if a0 ≤ 31 then (some true) else (if a0 ≥ 127 then (if a0 ≤ 159 then (some true) else (if a0 = 8232 then (some true) else (some (a0 == 8233)))) else (if a0 = 8232 then (some true) else (some (a0 == 8233))))) else (if a0 ≥ 127 then (if a0 ≤ 159 then (some true) else (if a0 = 8232 then (some true) else (some (a0 == 8233)))) else (if a0 = 8232 then (some true) else (some (a0 == 8233))))) = some r := h
  clear h
  by_cases c2 : a0 ≥ 0
  · rw [if_pos c2] at H
    have c2b0 : decide (0 ≤ a0) = true := decide_eq_true c2
    clear c2
    by_cases c3 : a0 ≤ 31
    · rw [if_pos c3] at H
      have c3b0 : decide (a0 ≤ 31) = true := decide_eq_true c3
      clear c3
      obtain rfl := Option.some.inj H
      go_enter Tryd.func27, Tryd.ntmps27
      go_wp2
      go_ret
      exact ⟨by first | rfl | (simp; done) | (simp [*]; done), by repeat (first | exact Drawn0.refl _ | apply Drawn0.step)⟩
    · rw [if_neg c3] at H
      have c3b0 : decide (a0 ≤ 31) = false := decide_eq_false c3
      clear c3
      by_cases c4 : a0 ≥ 127
      · rw [if_pos c4] at H
        have c4b0 : decide (127 ≤ a0) = true := decide_eq_true c4
        clear c4
        by_cases c5 : a0 ≤ 159
        · rw [if_pos c5] at H
          have c5b0 : decide (a0 ≤ 159) = true := decide_eq_true c5
          clear c5
          obtain rfl := Option.some.inj H
          go_enter Tryd.func27, Tryd.ntmps27
          go_wp2
          go_ret
          exact ⟨by first | rfl | (simp; done) | (simp [*]; done), by repeat (first | exact Drawn0.refl _ | apply Drawn0.step)⟩
        · rw [if_neg c5] at H
          have c5b0 : decide (a0 ≤ 159) = false := decide_eq_false c5
          clear c5
          by_cases c6 : a0 = 8232
          · rw [if_pos c6] at H
            have c6b0 : (a0 == 8232) = true := beq_iff_eq.mpr c6
            have c6b1 : (a0 != 8232) = false := bne_eq_false_iff_eq.mpr c6
            clear c6
            obtain rfl := Option.some.inj H
            go_enter Tryd.func27, Tryd.ntmps27
            go_wp2
            go_ret
            exact ⟨by first | rfl | (simp; done) | (simp [*]; done), by repeat (first | exact Drawn0.refl _ | apply Drawn0.step)⟩
          · rw [if_neg c6] at H
            have c6b0 : (a0 == 8232) = false := beq_eq_false_iff_ne.mpr c6
            have c6b1 : (a0 != 8232) = true := bne_iff_ne.mpr c6
            obtain rfl := Option.some.inj H
            go_enter Tryd.func27, Tryd.ntmps27
            go_wp2
            go_ret
            exact ⟨by first | rfl | (simp; done) | (simp [*]; done), by repeat (first | exact Drawn0.refl _ | apply Drawn0.step)⟩
      · rw [if_neg c4] at H
        have c4b0 : decide (127 ≤ a0) = false := decide_eq_false c4
        clear c4
        by_cases c7 : a0 = 8232
        · rw [if_pos c7] at H
          have c7b0 : (a0 == 8232) = true := beq_iff_eq.mpr c7
          have c7b1 : (a0 != 8232) = false := bne_eq_false_iff_eq.mpr c7
          clear c7
          obtain rfl := Option.some.inj H
          go_enter Tryd.func27, Tryd.ntmps27
          go_wp2
          go_ret
          exact ⟨by first | rfl | (simp; done) | (simp [*]; done), by repeat (first | exact Drawn0.refl _ | apply Drawn0.step)⟩
        · rw [if_neg c7] at H
          have c7b0 : (a0 == 8232) = false := beq_eq_false_iff_ne.mpr c7
          have c7b1 : (a0 != 8232) = true := bne_iff_ne.mpr c7
          obtain rfl := Option.some.inj H
          go_enter Tryd.func27, Tryd.ntmps27
          go_wp2
          go_ret
          exact ⟨by first | rfl | (simp; done) | (simp [*]; done), by repeat (first | exact Drawn0.refl _ | apply Drawn0.step)⟩
  · rw [if_neg c2] at H
    have c2b0 : decide (0 ≤ a0) = false := decide_eq_false c2
    clear c2
    by_cases c8 : a0 ≥ 127
    · rw [if_pos c8] at H
      have c8b0 : decide (127 ≤ a0) = true := decide_eq_true c8
      clear c8
      by_cases c9 : a0 ≤ 159
      · rw [if_pos c9] at H
        have c9b0 : decide (a0 ≤ 159) = true := decide_eq_true c9
        clear c9
        obtain rfl := Option.some.inj H
        go_enter Tryd.func27, Tryd.ntmps27
        go_wp2
        go_ret
        exact ⟨by first | rfl | (simp; done) | (simp [*]; done), by repeat (first | exact Drawn0.refl _ | apply Drawn0.step)⟩
      · rw [if_neg c9] at H
        have c9b0 : decide (a0 ≤ 159) = false := decide_eq_false c9
        clear c9
        by_cases c10 : a0 = 8232
        · rw [if_pos c10] at H
          have c10b0 : (a0 == 8232) = true := beq_iff_eq.mpr c10
          have c10b1 : (a0 != 8232) = false := bne_eq_false_iff_eq.mpr c10
          clear c10
          obtain rfl := Option.some.inj H
          go_enter Tryd.func27, Tryd.ntmps27
          go_wp2
          go_ret
          exact ⟨by first | rfl | (simp; done) | (simp [*]; done), by repeat (first | exact Drawn0.refl _ | apply Drawn0.step)⟩
        · rw [if_neg c10] at H
          have c10b0 : (a0 == 8232) = false := beq_eq_false_iff_ne.mpr c10
          have c10b1 : (a0 != 8232) = true := bne_iff_ne.mpr c10
          obtain rfl := Option.some.inj H
          go_enter Tryd.func27, Tryd.ntmps27
          go_wp2
          go_ret
          exact ⟨by first | rfl | (simp; done) | (simp [*]; done), by repeat (first | exact Drawn0.refl _ | apply Drawn0.step)⟩
    · rw [if_neg c8] at H
      have c8b0 : decide (127 ≤ a0) = false := decide_eq_false c8
      clear c8
      by_cases c11 : a0 = 8232
      · rw [if_pos c11] at H
        have c11b0 : (a0 == 8232) = true := beq_iff_eq.mpr c11
        have c11b1 : (a0 != 8232) = false := bne_eq_false_iff_eq.mpr c11
        clear c11
        obtain rfl := Option.some.inj H
        go_enter Tryd.func27, Tryd.ntmps27
        go_wp2
        go_ret
        exact ⟨by first | rfl | (simp; done) | (simp [*]; done), by repeat (first | exact Drawn0.refl _ | apply Drawn0.step)⟩
      · rw [if_neg c11] at H
        have c11b0 : (a0 == 8232) = false := beq_eq_false_iff_ne.mpr c11
        have c11b1 : (a0 != 8232) = true := bne_iff_ne.mpr c11
        obtain rfl := Option.some.inj H
        go_enter Tryd.func27, Tryd.ntmps27
        go_wp2
        go_ret
        exact ⟨by first | rfl | (simp; done) | (simp [*]; done), by repeat (first | exact Drawn0.refl _ | apply Drawn0.step)⟩
def flongref02_Safe.f (a0 : Int) : Option (Int) := (flongref02_Valid.f a0).bind fun t173 => (if t173 = true then ((flongref02_Control.f a0).bind fun t174 => (if t174 = true then (some 65533) else (some a0))) else (some 65533))
set_option maxHeartbeats 8000000 in
set_option maxRecDepth 100000 in
theorem flongref02_Safe.calls (a0 : Int) (r : Int) (w : World) (h : flongref02_Safe.f a0 = some r) :
    Calls Tryd.prog 26 #[.int .i32 a0] w fun e w' => e = .returned (.int .i32 r) ∧ Drawn0 w w' := by
  have H : ((flongref02_Valid.f a0).bind fun t173 => (if t173 = true then ((flongref02_Control.f a0).bind fun t174 => (if t174 = true then (some 65533) else (some a0))) else (some 65533))) = some r := h
  clear h
  replace H := Option.bind_eq_some_iff.mp H
  obtain ⟨t173, A20, H⟩ := H
  replace H : (if t173 = true then ((flongref02_Control.f a0).bind fun t174 => (if t174 = true then (some 65533) else (some a0))) else (some 65533)) = some r := H
  have A2 := Aside0.mk A20
  clear A20
  by_cases c3 : t173 = true
  · subst c3
    have H1 : ((flongref02_Control.f a0).bind fun t174 => (if t174 = true then (some 65533) else (some a0))) = some r := by rw [if_pos rfl] at H; exact H
    clear H
    have H := H1
    clear H1
    replace H := Option.bind_eq_some_iff.mp H
    obtain ⟨t174, A40, H⟩ := H
    replace H : (if t174 = true then (some 65533) else (some a0)) = some r := H
    have A4 := Aside0.mk A40
    clear A40
    by_cases c5 : t174 = true
    · subst c5
      have H1 : (some 65533) = some r := by rw [if_pos rfl] at H; exact H
      clear H
      have H := H1
      clear H1
      obtain rfl := Option.some.inj H
      go_enter Tryd.func26, Tryd.ntmps26
      go_wp2_with (first | ((with_reducible refine gate_callee (f := 52) rfl ?_); refine goesL_ (some 4) rfl rfl Tryd.func52 (by kernel_rfl) rfl #[.int .i32 a0] rfl (by (try simp only [List.map_toArray, List.map_cons, List.map_nil]); first | done | rfl | (simp only [List.length_drop, List.length_take]; rfl)) ?_; (with_reducible refine (flongref02_Valid.calls a0 true _ A2.out).mono ?_); rintro e w' ⟨rfl, ⟨nd, rfl⟩⟩; refine ⟨_, rfl, ?_⟩) | (go_at_call 27; (with_reducible refine (flongref02_Control.calls a0 true _ A4.out).mono ?_); rintro e w' ⟨rfl, ⟨nd, rfl⟩⟩))
      go_ret
      exact ⟨by first | rfl | (simp; done) | (simp [*]; done), by repeat (first | exact Drawn0.refl _ | apply Drawn0.step)⟩
    · replace c5 := Bool.eq_false_iff.mpr c5
      subst c5
      have H1 : (some a0) = some r := by rw [if_neg (show ¬ (false = true) by decide)] at H; exact H
      clear H
      have H := H1
      clear H1
      obtain rfl := Option.some.inj H
      go_enter Tryd.func26, Tryd.ntmps26
      go_wp2_with (first | ((with_reducible refine gate_callee (f := 52) rfl ?_); refine goesL_ (some 4) rfl rfl Tryd.func52 (by kernel_rfl) rfl #[.int .i32 a0] rfl (by (try simp only [List.map_toArray, List.map_cons, List.map_nil]); first | done | rfl | (simp only [List.length_drop, List.length_take]; rfl)) ?_; (with_reducible refine (flongref02_Valid.calls a0 true _ A2.out).mono ?_); rintro e w' ⟨rfl, ⟨nd, rfl⟩⟩; refine ⟨_, rfl, ?_⟩) | (go_at_call 27; (with_reducible refine (flongref02_Control.calls a0 false _ A4.out).mono ?_); rintro e w' ⟨rfl, ⟨nd, rfl⟩⟩))
      go_ret
      exact ⟨by first | rfl | (simp; done) | (simp [*]; done), by repeat (first | exact Drawn0.refl _ | apply Drawn0.step)⟩
  · replace c3 := Bool.eq_false_iff.mpr c3
    subst c3
    have H1 : (some 65533) = some r := by rw [if_neg (show ¬ (false = true) by decide)] at H; exact H
    clear H
    have H := H1
    clear H1
    obtain rfl := Option.some.inj H
    go_enter Tryd.func26, Tryd.ntmps26
    go_wp2_with (first | ((with_reducible refine gate_callee (f := 52) rfl ?_); refine goesL_ (some 4) rfl rfl Tryd.func52 (by kernel_rfl) rfl #[.int .i32 a0] rfl (by (try simp only [List.map_toArray, List.map_cons, List.map_nil]); first | done | rfl | (simp only [List.length_drop, List.length_take]; rfl)) ?_; (with_reducible refine (flongref02_Valid.calls a0 false _ A2.out).mono ?_); rintro e w' ⟨rfl, ⟨nd, rfl⟩⟩; refine ⟨_, rfl, ?_⟩))
    go_ret
    exact ⟨by first | rfl | (simp; done) | (simp [*]; done), by repeat (first | exact Drawn0.refl _ | apply Drawn0.step)⟩
def flongref04_all.f  : Option (List ByteArray × List Int) := some ((([(⟨#[101, 109]⟩ : ByteArray), (⟨#[101, 110]⟩ : ByteArray), (⟨#[104, 121]⟩ : ByteArray), (⟨#[98, 117]⟩ : ByteArray), (⟨#[108, 113]⟩ : ByteArray), (⟨#[114, 113]⟩ : ByteArray), (⟨#[111, 113]⟩ : ByteArray), (⟨#[99, 113]⟩ : ByteArray), (⟨#[97, 113]⟩ : ByteArray), (⟨#[100, 113]⟩ : ByteArray), (⟨#[99, 111]⟩ : ByteArray), (⟨#[114, 103]⟩ : ByteArray), (⟨#[116, 109]⟩ : ByteArray), (⟨#[114, 115]⟩ : ByteArray), (⟨#[104, 97]⟩ : ByteArray), (⟨#[116, 105]⟩ : ByteArray), (⟨#[109, 117]⟩ : ByteArray), (⟨#[100, 105]⟩ : ByteArray), (⟨#[60, 45]⟩ : ByteArray), (⟨#[45, 62]⟩ : ByteArray), (⟨#[60, 61]⟩ : ByteArray), (⟨#[62, 61]⟩ : ByteArray), (⟨#[33, 61]⟩ : ByteArray), (⟨#[100, 101]⟩ : ByteArray), (⟨#[115, 99]⟩ : ByteArray), (⟨#[69, 117]⟩ : ByteArray), (⟨#[117, 58]⟩ : ByteArray), (⟨#[111, 58]⟩ : ByteArray), (⟨#[97, 58]⟩ : ByteArray), (⟨#[115, 115]⟩ : ByteArray)] : List ByteArray)), (([8212, 8211, 8208, 8226, 8220, 8221, 8216, 8217, 39, 34, 169, 174, 8482, 92, 94, 126, 215, 247, 8592, 8594, 8804, 8805, 8800, 176, 167, 8364, 252, 246, 228, 223] : List Int)))
set_option maxHeartbeats 8000000 in
set_option maxRecDepth 100000 in
theorem flongref04_all.calls  (r1 : List ByteArray) (r2 : List Int) (w : World) (h : flongref04_all.f  = some (r1, r2)) :
    Calls Tryd.prog 49 #[] w fun e w' => ∃ v0_ v1_ : Value, e = .returned (.tuple #[v0_, v1_]) ∧ Kd.R Kd.string 9 w' w.heap.size (fun _ => True) v0_ r1 ∧ Kd.R (Kd.int .i32) 21 w' w.heap.size (fun _ => True) v1_ r2 ∧ Below w.heap.size w w' := by
  have HB := Aside0.mk (Below.refl w.heap.size w)
  have H : (some ((([(⟨#[101, 109]⟩ : ByteArray), (⟨#[101, 110]⟩ : ByteArray), (⟨#[104, 121]⟩ : ByteArray), (⟨#[98, 117]⟩ : ByteArray), (⟨#[108, 113]⟩ : ByteArray), (⟨#[114, 113]⟩ : ByteArray), (⟨#[111, 113]⟩ : ByteArray), (⟨#[99, 113]⟩ : ByteArray), (⟨#[97, 113]⟩ : ByteArray), (⟨#[100, 113]⟩ : ByteArray), (⟨#[99, 111]⟩ : ByteArray), (⟨#[114, 103]⟩ : ByteArray), (⟨#[116, 109]⟩ : ByteArray), (⟨#[114, 115]⟩ : ByteArray), (⟨#[104, 97]⟩ : ByteArray), (⟨#[116, 105]⟩ : ByteArray), (⟨#[109, 117]⟩ : ByteArray), (⟨#[100, 105]⟩ : ByteArray), (⟨#[60, 45]⟩ : ByteArray), (⟨#[45, 62]⟩ : ByteArray), (⟨#[60, 61]⟩ : ByteArray), (⟨#[62, 61]⟩ : ByteArray), (⟨#[33, 61]⟩ : ByteArray), (⟨#[100, 101]⟩ : ByteArray), (⟨#[115, 99]⟩ : ByteArray), (⟨#[69, 117]⟩ : ByteArray), (⟨#[117, 58]⟩ : ByteArray), (⟨#[111, 58]⟩ : ByteArray), (⟨#[97, 58]⟩ : ByteArray), (⟨#[115, 115]⟩ : ByteArray)] : List ByteArray)), (([8212, 8211, 8208, 8226, 8220, 8221, 8216, 8217, 39, 34, 169, 174, 8482, 92, 94, 126, 215, 247, 8592, 8594, 8804, 8805, 8800, 176, 167, 8364, 252, 246, 228, 223] : List Int)))) = some (r1, r2) := h
  clear h
  obtain ⟨y175, hy175⟩ : ∃ y_ : List ByteArray, y_ = (([(⟨#[101, 109]⟩ : ByteArray), (⟨#[101, 110]⟩ : ByteArray), (⟨#[104, 121]⟩ : ByteArray), (⟨#[98, 117]⟩ : ByteArray), (⟨#[108, 113]⟩ : ByteArray), (⟨#[114, 113]⟩ : ByteArray), (⟨#[111, 113]⟩ : ByteArray), (⟨#[99, 113]⟩ : ByteArray), (⟨#[97, 113]⟩ : ByteArray), (⟨#[100, 113]⟩ : ByteArray), (⟨#[99, 111]⟩ : ByteArray), (⟨#[114, 103]⟩ : ByteArray), (⟨#[116, 109]⟩ : ByteArray), (⟨#[114, 115]⟩ : ByteArray), (⟨#[104, 97]⟩ : ByteArray), (⟨#[116, 105]⟩ : ByteArray), (⟨#[109, 117]⟩ : ByteArray), (⟨#[100, 105]⟩ : ByteArray), (⟨#[60, 45]⟩ : ByteArray), (⟨#[45, 62]⟩ : ByteArray), (⟨#[60, 61]⟩ : ByteArray), (⟨#[62, 61]⟩ : ByteArray), (⟨#[33, 61]⟩ : ByteArray), (⟨#[100, 101]⟩ : ByteArray), (⟨#[115, 99]⟩ : ByteArray), (⟨#[69, 117]⟩ : ByteArray), (⟨#[117, 58]⟩ : ByteArray), (⟨#[111, 58]⟩ : ByteArray), (⟨#[97, 58]⟩ : ByteArray), (⟨#[115, 115]⟩ : ByteArray)] : List ByteArray)) := ⟨_, rfl⟩
  replace H : (some (y175, (([8212, 8211, 8208, 8226, 8220, 8221, 8216, 8217, 39, 34, 169, 174, 8482, 92, 94, 126, 215, 247, 8592, 8594, 8804, 8805, 8800, 176, 167, 8364, 252, 246, 228, 223] : List Int)))) = some (r1, r2) := by first | (rw [hy175]; with_reducible exact H) | (have H2_ := (Option.bind_some _ _).symm.trans H; rw [hy175]; with_reducible exact H2_) | (have H2_ := (Option.bind_some _ _).symm.trans H; with_reducible exact H2_) | with_reducible exact H | (rw [hy175]; exact H) | exact H
  have Ny175 := Aside0.mk hy175
  clear hy175
  obtain ⟨y178, hy178⟩ : ∃ y_ : List Int, y_ = (([8212, 8211, 8208, 8226, 8220, 8221, 8216, 8217, 39, 34, 169, 174, 8482, 92, 94, 126, 215, 247, 8592, 8594, 8804, 8805, 8800, 176, 167, 8364, 252, 246, 228, 223] : List Int)) := ⟨_, rfl⟩
  replace H : (some (y175, y178)) = some (r1, r2) := by first | (rw [hy178]; with_reducible exact H) | (have H2_ := (Option.bind_some _ _).symm.trans H; rw [hy178]; with_reducible exact H2_) | (have H2_ := (Option.bind_some _ _).symm.trans H; with_reducible exact H2_) | with_reducible exact H | (rw [hy178]; exact H) | exact H
  have Ny178 := Aside0.mk hy178
  clear hy178
  simp only [Option.some.injEq, Prod.mk.injEq] at H
  obtain ⟨rfl, rfl⟩ := H
  go_enter Tryd.func49, Tryd.ntmps49
  go_wp2_with (first | ((with_reducible refine gate_dst (N := 2) rfl ?_); refine Kd.R_lit Kd.string _ 9 ?hg (N := 2) ?hd (xs := ([(⟨#[101, 109]⟩ : ByteArray), (⟨#[101, 110]⟩ : ByteArray), (⟨#[104, 121]⟩ : ByteArray), (⟨#[98, 117]⟩ : ByteArray), (⟨#[108, 113]⟩ : ByteArray), (⟨#[114, 113]⟩ : ByteArray), (⟨#[111, 113]⟩ : ByteArray), (⟨#[99, 113]⟩ : ByteArray), (⟨#[97, 113]⟩ : ByteArray), (⟨#[100, 113]⟩ : ByteArray), (⟨#[99, 111]⟩ : ByteArray), (⟨#[114, 103]⟩ : ByteArray), (⟨#[116, 109]⟩ : ByteArray), (⟨#[114, 115]⟩ : ByteArray), (⟨#[104, 97]⟩ : ByteArray), (⟨#[116, 105]⟩ : ByteArray), (⟨#[109, 117]⟩ : ByteArray), (⟨#[100, 105]⟩ : ByteArray), (⟨#[60, 45]⟩ : ByteArray), (⟨#[45, 62]⟩ : ByteArray), (⟨#[60, 61]⟩ : ByteArray), (⟨#[62, 61]⟩ : ByteArray), (⟨#[33, 61]⟩ : ByteArray), (⟨#[100, 101]⟩ : ByteArray), (⟨#[115, 99]⟩ : ByteArray), (⟨#[69, 117]⟩ : ByteArray), (⟨#[117, 58]⟩ : ByteArray), (⟨#[111, 58]⟩ : ByteArray), (⟨#[97, 58]⟩ : ByteArray), (⟨#[115, 115]⟩ : ByteArray)] : List ByteArray)) (inner := [.string (⟨#[101, 109]⟩ : ByteArray), .string (⟨#[101, 110]⟩ : ByteArray), .string (⟨#[104, 121]⟩ : ByteArray), .string (⟨#[98, 117]⟩ : ByteArray), .string (⟨#[108, 113]⟩ : ByteArray), .string (⟨#[114, 113]⟩ : ByteArray), .string (⟨#[111, 113]⟩ : ByteArray), .string (⟨#[99, 113]⟩ : ByteArray), .string (⟨#[97, 113]⟩ : ByteArray), .string (⟨#[100, 113]⟩ : ByteArray), .string (⟨#[99, 111]⟩ : ByteArray), .string (⟨#[114, 103]⟩ : ByteArray), .string (⟨#[116, 109]⟩ : ByteArray), .string (⟨#[114, 115]⟩ : ByteArray), .string (⟨#[104, 97]⟩ : ByteArray), .string (⟨#[116, 105]⟩ : ByteArray), .string (⟨#[109, 117]⟩ : ByteArray), .string (⟨#[100, 105]⟩ : ByteArray), .string (⟨#[60, 45]⟩ : ByteArray), .string (⟨#[45, 62]⟩ : ByteArray), .string (⟨#[60, 61]⟩ : ByteArray), .string (⟨#[62, 61]⟩ : ByteArray), .string (⟨#[33, 61]⟩ : ByteArray), .string (⟨#[100, 101]⟩ : ByteArray), .string (⟨#[115, 99]⟩ : ByteArray), .string (⟨#[69, 117]⟩ : ByteArray), .string (⟨#[117, 58]⟩ : ByteArray), .string (⟨#[111, 58]⟩ : ByteArray), .string (⟨#[97, 58]⟩ : ByteArray), .string (⟨#[115, 115]⟩ : ByteArray)]) (ok := fun _ => True) (okp := fun _ => True) ?hr ?hp (fun _ hk => hk) trivial (Below.refl _ _) (Nat.le_refl _) (by simp) ?_; (case hd => rfl); (case hg => rfl); (case hr => first | (go_simp; done) | (go_simp; rfl)); (case hp => exact (Reps.one (show Kd.M Kd.string _ _ _ (⟨#[101, 109]⟩ : ByteArray) [.string (⟨#[101, 109]⟩ : ByteArray)] from rfl) (Reps.one (show Kd.M Kd.string _ _ _ (⟨#[101, 110]⟩ : ByteArray) [.string (⟨#[101, 110]⟩ : ByteArray)] from rfl) (Reps.one (show Kd.M Kd.string _ _ _ (⟨#[104, 121]⟩ : ByteArray) [.string (⟨#[104, 121]⟩ : ByteArray)] from rfl) (Reps.one (show Kd.M Kd.string _ _ _ (⟨#[98, 117]⟩ : ByteArray) [.string (⟨#[98, 117]⟩ : ByteArray)] from rfl) (Reps.one (show Kd.M Kd.string _ _ _ (⟨#[108, 113]⟩ : ByteArray) [.string (⟨#[108, 113]⟩ : ByteArray)] from rfl) (Reps.one (show Kd.M Kd.string _ _ _ (⟨#[114, 113]⟩ : ByteArray) [.string (⟨#[114, 113]⟩ : ByteArray)] from rfl) (Reps.one (show Kd.M Kd.string _ _ _ (⟨#[111, 113]⟩ : ByteArray) [.string (⟨#[111, 113]⟩ : ByteArray)] from rfl) (Reps.one (show Kd.M Kd.string _ _ _ (⟨#[99, 113]⟩ : ByteArray) [.string (⟨#[99, 113]⟩ : ByteArray)] from rfl) (Reps.one (show Kd.M Kd.string _ _ _ (⟨#[97, 113]⟩ : ByteArray) [.string (⟨#[97, 113]⟩ : ByteArray)] from rfl) (Reps.one (show Kd.M Kd.string _ _ _ (⟨#[100, 113]⟩ : ByteArray) [.string (⟨#[100, 113]⟩ : ByteArray)] from rfl) (Reps.one (show Kd.M Kd.string _ _ _ (⟨#[99, 111]⟩ : ByteArray) [.string (⟨#[99, 111]⟩ : ByteArray)] from rfl) (Reps.one (show Kd.M Kd.string _ _ _ (⟨#[114, 103]⟩ : ByteArray) [.string (⟨#[114, 103]⟩ : ByteArray)] from rfl) (Reps.one (show Kd.M Kd.string _ _ _ (⟨#[116, 109]⟩ : ByteArray) [.string (⟨#[116, 109]⟩ : ByteArray)] from rfl) (Reps.one (show Kd.M Kd.string _ _ _ (⟨#[114, 115]⟩ : ByteArray) [.string (⟨#[114, 115]⟩ : ByteArray)] from rfl) (Reps.one (show Kd.M Kd.string _ _ _ (⟨#[104, 97]⟩ : ByteArray) [.string (⟨#[104, 97]⟩ : ByteArray)] from rfl) (Reps.one (show Kd.M Kd.string _ _ _ (⟨#[116, 105]⟩ : ByteArray) [.string (⟨#[116, 105]⟩ : ByteArray)] from rfl) (Reps.one (show Kd.M Kd.string _ _ _ (⟨#[109, 117]⟩ : ByteArray) [.string (⟨#[109, 117]⟩ : ByteArray)] from rfl) (Reps.one (show Kd.M Kd.string _ _ _ (⟨#[100, 105]⟩ : ByteArray) [.string (⟨#[100, 105]⟩ : ByteArray)] from rfl) (Reps.one (show Kd.M Kd.string _ _ _ (⟨#[60, 45]⟩ : ByteArray) [.string (⟨#[60, 45]⟩ : ByteArray)] from rfl) (Reps.one (show Kd.M Kd.string _ _ _ (⟨#[45, 62]⟩ : ByteArray) [.string (⟨#[45, 62]⟩ : ByteArray)] from rfl) (Reps.one (show Kd.M Kd.string _ _ _ (⟨#[60, 61]⟩ : ByteArray) [.string (⟨#[60, 61]⟩ : ByteArray)] from rfl) (Reps.one (show Kd.M Kd.string _ _ _ (⟨#[62, 61]⟩ : ByteArray) [.string (⟨#[62, 61]⟩ : ByteArray)] from rfl) (Reps.one (show Kd.M Kd.string _ _ _ (⟨#[33, 61]⟩ : ByteArray) [.string (⟨#[33, 61]⟩ : ByteArray)] from rfl) (Reps.one (show Kd.M Kd.string _ _ _ (⟨#[100, 101]⟩ : ByteArray) [.string (⟨#[100, 101]⟩ : ByteArray)] from rfl) (Reps.one (show Kd.M Kd.string _ _ _ (⟨#[115, 99]⟩ : ByteArray) [.string (⟨#[115, 99]⟩ : ByteArray)] from rfl) (Reps.one (show Kd.M Kd.string _ _ _ (⟨#[69, 117]⟩ : ByteArray) [.string (⟨#[69, 117]⟩ : ByteArray)] from rfl) (Reps.one (show Kd.M Kd.string _ _ _ (⟨#[117, 58]⟩ : ByteArray) [.string (⟨#[117, 58]⟩ : ByteArray)] from rfl) (Reps.one (show Kd.M Kd.string _ _ _ (⟨#[111, 58]⟩ : ByteArray) [.string (⟨#[111, 58]⟩ : ByteArray)] from rfl) (Reps.one (show Kd.M Kd.string _ _ _ (⟨#[97, 58]⟩ : ByteArray) [.string (⟨#[97, 58]⟩ : ByteArray)] from rfl) (Reps.one (show Kd.M Kd.string _ _ _ (⟨#[115, 115]⟩ : ByteArray) [.string (⟨#[115, 115]⟩ : ByteArray)] from rfl) (Reps.none _ _)))))))))))))))))))))))))))))))); intro v176 w1 ho2 hb hg_ hnew_; clear hg_ hnew_; (first | rw [← Ny175.out] at ho2 | (simp only [Int.reduceToNat] at ho2; rw [← Ny175.out] at ho2)); have n0_ := Aside0.mk (Kd.R_lower ho2 (below_size (by repeat (first | (with_reducible first | exact HB.out | apply below_alloc | apply pw_below_drewN | apply below_drew1) | exact HB.out)))); have n1_ := Aside0.mk (below_step (by repeat (first | (with_reducible first | exact HB.out | apply below_alloc | apply pw_below_drewN | apply below_drew1) | exact HB.out)) hb); clear HB; have HO177 := n0_; have HB := n1_; clear n0_ n1_; clear hb ho2) | ((with_reducible refine gate_dst (N := 3) rfl ?_); refine Kd.R_lit (Kd.int .i32) _ 21 ?hg (N := 3) ?hd (xs := ([8212, 8211, 8208, 8226, 8220, 8221, 8216, 8217, 39, 34, 169, 174, 8482, 92, 94, 126, 215, 247, 8592, 8594, 8804, 8805, 8800, 176, 167, 8364, 252, 246, 228, 223] : List Int)) (inner := [.int .i32 8212, .int .i32 8211, .int .i32 8208, .int .i32 8226, .int .i32 8220, .int .i32 8221, .int .i32 8216, .int .i32 8217, .int .i32 39, .int .i32 34, .int .i32 169, .int .i32 174, .int .i32 8482, .int .i32 92, .int .i32 94, .int .i32 126, .int .i32 215, .int .i32 247, .int .i32 8592, .int .i32 8594, .int .i32 8804, .int .i32 8805, .int .i32 8800, .int .i32 176, .int .i32 167, .int .i32 8364, .int .i32 252, .int .i32 246, .int .i32 228, .int .i32 223]) (ok := fun _ => True) (okp := fun _ => True) ?hr ?hp (fun _ hk => hk) trivial (Below.refl _ _) (Nat.le_refl _) (by simp) ?_; (case hd => rfl); (case hg => rfl); (case hr => first | (go_simp; done) | (go_simp; rfl)); (case hp => exact (Reps.one (show Kd.M (Kd.int .i32) _ _ _ 8212 [.int .i32 8212] from rfl) (Reps.one (show Kd.M (Kd.int .i32) _ _ _ 8211 [.int .i32 8211] from rfl) (Reps.one (show Kd.M (Kd.int .i32) _ _ _ 8208 [.int .i32 8208] from rfl) (Reps.one (show Kd.M (Kd.int .i32) _ _ _ 8226 [.int .i32 8226] from rfl) (Reps.one (show Kd.M (Kd.int .i32) _ _ _ 8220 [.int .i32 8220] from rfl) (Reps.one (show Kd.M (Kd.int .i32) _ _ _ 8221 [.int .i32 8221] from rfl) (Reps.one (show Kd.M (Kd.int .i32) _ _ _ 8216 [.int .i32 8216] from rfl) (Reps.one (show Kd.M (Kd.int .i32) _ _ _ 8217 [.int .i32 8217] from rfl) (Reps.one (show Kd.M (Kd.int .i32) _ _ _ 39 [.int .i32 39] from rfl) (Reps.one (show Kd.M (Kd.int .i32) _ _ _ 34 [.int .i32 34] from rfl) (Reps.one (show Kd.M (Kd.int .i32) _ _ _ 169 [.int .i32 169] from rfl) (Reps.one (show Kd.M (Kd.int .i32) _ _ _ 174 [.int .i32 174] from rfl) (Reps.one (show Kd.M (Kd.int .i32) _ _ _ 8482 [.int .i32 8482] from rfl) (Reps.one (show Kd.M (Kd.int .i32) _ _ _ 92 [.int .i32 92] from rfl) (Reps.one (show Kd.M (Kd.int .i32) _ _ _ 94 [.int .i32 94] from rfl) (Reps.one (show Kd.M (Kd.int .i32) _ _ _ 126 [.int .i32 126] from rfl) (Reps.one (show Kd.M (Kd.int .i32) _ _ _ 215 [.int .i32 215] from rfl) (Reps.one (show Kd.M (Kd.int .i32) _ _ _ 247 [.int .i32 247] from rfl) (Reps.one (show Kd.M (Kd.int .i32) _ _ _ 8592 [.int .i32 8592] from rfl) (Reps.one (show Kd.M (Kd.int .i32) _ _ _ 8594 [.int .i32 8594] from rfl) (Reps.one (show Kd.M (Kd.int .i32) _ _ _ 8804 [.int .i32 8804] from rfl) (Reps.one (show Kd.M (Kd.int .i32) _ _ _ 8805 [.int .i32 8805] from rfl) (Reps.one (show Kd.M (Kd.int .i32) _ _ _ 8800 [.int .i32 8800] from rfl) (Reps.one (show Kd.M (Kd.int .i32) _ _ _ 176 [.int .i32 176] from rfl) (Reps.one (show Kd.M (Kd.int .i32) _ _ _ 167 [.int .i32 167] from rfl) (Reps.one (show Kd.M (Kd.int .i32) _ _ _ 8364 [.int .i32 8364] from rfl) (Reps.one (show Kd.M (Kd.int .i32) _ _ _ 252 [.int .i32 252] from rfl) (Reps.one (show Kd.M (Kd.int .i32) _ _ _ 246 [.int .i32 246] from rfl) (Reps.one (show Kd.M (Kd.int .i32) _ _ _ 228 [.int .i32 228] from rfl) (Reps.one (show Kd.M (Kd.int .i32) _ _ _ 223 [.int .i32 223] from rfl) (Reps.none _ _)))))))))))))))))))))))))))))))); intro v179 w3 ho4 hb hg_ hnew_; clear hg_ hnew_; (first | rw [← Ny178.out] at ho4 | (simp only [Int.reduceToNat] at ho4; rw [← Ny178.out] at ho4)); have n0_ := Aside0.mk (Kd.R_below (by (with_reducible repeat (first | apply Kd.R_alloc | apply Kd.R_drewN | apply Kd.R_drew)); exact HO177.out) hb); have n1_ := Aside0.mk (Kd.R_lower ho4 (below_size (by repeat (first | (with_reducible first | exact HB.out | apply below_alloc | apply pw_below_drewN | apply below_drew1) | exact HB.out)))); have n2_ := Aside0.mk (below_step (by repeat (first | (with_reducible first | exact HB.out | apply below_alloc | apply pw_below_drewN | apply below_drew1) | exact HB.out)) hb); clear HO177; clear HB; have HO177 := n0_; have HO180 := n1_; have HB := n2_; clear n0_ n1_ n2_; clear hb ho4))
  go_ret2
  exact ⟨_, _, by first | rfl | (simp [errW_none, errW_some] <;> rfl) | (simp [*, errW_none, errW_some] <;> rfl), by (with_reducible repeat (first | apply Kd.R_alloc | apply Kd.R_drewN | apply Kd.R_drew)); exact HO177.out, by (with_reducible repeat (first | apply Kd.R_alloc | apply Kd.R_drewN | apply Kd.R_drew)); exact HO180.out, by repeat (first | (with_reducible first | exact HB.out | apply below_alloc | apply pw_below_drewN | apply below_drew1) | exact HB.out)⟩
end Go.Proofs.YtdogljnddalgdaaDoor.A4
end
section
namespace Go.Proofs.YtdogljnddalgdaaDoor.A4
open Go.RowKit Go.Proofs.YtdogljnddalgdaaDoorW.PrintWords Go.Proofs.YtdogljnddalgdaaDoorW.PrintLast Go.Proofs.YtdogljnddalgdaaDoorW.PrintMore
attribute [local go_sem] max2_int min2_int max_two min_two max_three min_three max_four min_four   -- for this text's walks alone
set_option linter.unusedVariables false
set_option linter.unusedSimpArgs false
def flongref04_Font.l0 : Nat → ByteArray → List ByteArray → Int → Option (Int)
  | 0, _, _, _ => none
  | k + 1, x0, x3, x4 => if x4 < (x3.length : Int) then (if 0 ≤ x4 then (if (rdOf ByteArray.empty x3 x4).toList = x0.toList then (some x4) else (flongref04_Font.l0 k x0 x3 (wrap64 (x4 + 1)))) else (none)) else (if (x0.size : Int) = 1 then (if 0 < (x0.size : Int) then (if (bt x0 0) ≥ 49 then (if (bt x0 0) ≤ 52 then (some (wrap64 ((wrap64 (bt x0 0)) - 49))) else (some (-1))) else (some (-1))) else (none)) else (some (-1)))
def flongref04_Font.f (k : Nat) (a0 : ByteArray) : Option (Int) := flongref04_Font.l0 k a0 (([(⟨#[82]⟩ : ByteArray), (⟨#[66]⟩ : ByteArray), (⟨#[73]⟩ : ByteArray), (⟨#[66, 73]⟩ : ByteArray), (⟨#[80]⟩ : ByteArray)] : List ByteArray)) 0
theorem flongref04_Font.mono_l : ∀ k, (∀ y0 y1 y2, LeO (flongref04_Font.l0 k y0 y1 y2) (flongref04_Font.l0 (k + 1) y0 y1 y2))
  | 0 => fun _ _ _ r h => by simp [flongref04_Font.l0] at h
  | k + 1 => by
    have ih0 := flongref04_Font.mono_l k
    · intro y0 y1 y2
      unfold flongref04_Font.l0
      repeat' first
      | (with_reducible exact ih0 _ _ _)
      | (with_reducible exact LeO.refl _)
      | (with_reducible exact LeO.none _)
      | (with_reducible refine LeO.ite ?_ ?_)
      | (with_reducible refine LeO.bind ?_ (fun _ => ?_))
      | exact ih0 _ _ _
      | exact LeO.none _
      | refine LeO.ite ?_ ?_
      | refine LeO.bind ?_ (fun _ => ?_)
theorem flongref04_Font.mono : ∀ a0 k, LeO (flongref04_Font.f k a0) (flongref04_Font.f (k + 1) a0) := by
  intro a0 k
  have ih0 := flongref04_Font.mono_l k
  unfold flongref04_Font.f
  repeat' first
      | (with_reducible exact ih0 _ _ _)
      | (with_reducible exact LeO.refl _)
      | (with_reducible exact LeO.none _)
      | (with_reducible refine LeO.ite ?_ ?_)
      | (with_reducible refine LeO.bind ?_ (fun _ => ?_))
      | exact ih0 _ _ _
      | exact LeO.none _
      | refine LeO.ite ?_ ?_
      | refine LeO.bind ?_ (fun _ => ?_)
set_option maxHeartbeats 8000000 in
set_option maxRecDepth 100000 in
theorem flongref04_Font.calls (k : Nat) (a0 : ByteArray) (r : Int) (w : World) (h : flongref04_Font.f k a0 = some r) :
    Calls Tryd.prog 22 #[.string a0] w fun e w' => e = .returned (.int .i64 r) ∧ Below w.heap.size w w' := by
  have HB := Aside0.mk (Below.refl w.heap.size w)
  have H : (flongref04_Font.l0 k a0 (([(⟨#[82]⟩ : ByteArray), (⟨#[66]⟩ : ByteArray), (⟨#[73]⟩ : ByteArray), (⟨#[66, 73]⟩ : ByteArray), (⟨#[80]⟩ : ByteArray)] : List ByteArray)) 0) = some r := h
  clear h
  obtain ⟨y190, hy190⟩ : ∃ y_ : List ByteArray, y_ = (([(⟨#[82]⟩ : ByteArray), (⟨#[66]⟩ : ByteArray), (⟨#[73]⟩ : ByteArray), (⟨#[66, 73]⟩ : ByteArray), (⟨#[80]⟩ : ByteArray)] : List ByteArray)) := ⟨_, rfl⟩
  replace H : (flongref04_Font.l0 k a0 y190 0) = some r := by first | (rw [hy190]; with_reducible exact H) | (have H2_ := (Option.bind_some _ _).symm.trans H; rw [hy190]; with_reducible exact H2_) | (have H2_ := (Option.bind_some _ _).symm.trans H; with_reducible exact H2_) | with_reducible exact H | (rw [hy190]; exact H) | exact H
  have Ny190 := Aside0.mk hy190
  clear hy190
  have H' := Aside0.mk H
  clear H
  go_enter Tryd.func22, Tryd.ntmps22
  go_wp2_with (first | ((with_reducible refine gate_dst (N := 5) rfl ?_); refine Kd.R_lit Kd.string _ 9 ?hg (N := 5) ?hd (xs := ([(⟨#[82]⟩ : ByteArray), (⟨#[66]⟩ : ByteArray), (⟨#[73]⟩ : ByteArray), (⟨#[66, 73]⟩ : ByteArray), (⟨#[80]⟩ : ByteArray)] : List ByteArray)) (inner := [.string (⟨#[82]⟩ : ByteArray), .string (⟨#[66]⟩ : ByteArray), .string (⟨#[73]⟩ : ByteArray), .string (⟨#[66, 73]⟩ : ByteArray), .string (⟨#[80]⟩ : ByteArray)]) (ok := fun _ => True) (okp := fun _ => True) ?hr ?hp (fun _ hk => hk) trivial (Below.refl _ _) (Nat.le_refl _) (by simp) ?_; (case hd => rfl); (case hg => rfl); (case hr => first | (go_simp; done) | (go_simp; rfl)); (case hp => exact (Reps.one (show Kd.M Kd.string _ _ _ (⟨#[82]⟩ : ByteArray) [.string (⟨#[82]⟩ : ByteArray)] from rfl) (Reps.one (show Kd.M Kd.string _ _ _ (⟨#[66]⟩ : ByteArray) [.string (⟨#[66]⟩ : ByteArray)] from rfl) (Reps.one (show Kd.M Kd.string _ _ _ (⟨#[73]⟩ : ByteArray) [.string (⟨#[73]⟩ : ByteArray)] from rfl) (Reps.one (show Kd.M Kd.string _ _ _ (⟨#[66, 73]⟩ : ByteArray) [.string (⟨#[66, 73]⟩ : ByteArray)] from rfl) (Reps.one (show Kd.M Kd.string _ _ _ (⟨#[80]⟩ : ByteArray) [.string (⟨#[80]⟩ : ByteArray)] from rfl) (Reps.none _ _))))))); intro v191 w2 ho3 hb hg_ hnew_; clear hg_ hnew_; (first | rw [← Ny190.out] at ho3 | (simp only [Int.reduceToNat] at ho3; rw [← Ny190.out] at ho3)); have n0_ := Aside0.mk (Kd.R_lower ho3 (below_size (by repeat (first | (with_reducible first | exact HB.out | apply below_alloc | apply pw_below_drewN | apply below_drew1) | exact HB.out)))); have n1_ := Aside0.mk (below_step (by repeat (first | (with_reducible first | exact HB.out | apply below_alloc | apply pw_below_drewN | apply below_drew1) | exact HB.out)) hb); clear HB; have HO192 := n0_; have HB := n1_; clear n0_ n1_; clear hb ho3))
  go_loopg [4] k (fun kq v4 w' => ∃ (x4_1 : Int), v4 = .int .i64 x4_1 ∧ Aside0 (flongref04_Font.l0 kq a0 y190 x4_1 = some r) ∧ Aside0 (kq ≤ k) ∧ Aside0 (Kd.R Kd.string 9 w' w.heap.size (fun _ => True) v191 y190) ∧ Aside0 (Below w.heap.size w w'))
  case atStart => exact ⟨(0), (by first | rfl | (simp; done) | (simp [*]; done)), H', ⟨Nat.le_refl _⟩, ⟨by (with_reducible repeat (first | apply Kd.R_alloc | apply Kd.R_drewN | apply Kd.R_drew)); exact HO192.out⟩, ⟨by repeat (first | (with_reducible first | exact HB.out | apply below_alloc | apply pw_below_drewN | apply below_drew1) | exact HB.out)⟩⟩
  case round =>
    clear H'
    try clear c2
    try clear p2
    obtain ⟨x4_1, rfl, HA, HK1, HO_3, HB⟩ := hrel
    cases gk with
    | zero => exact absurd HA.out (by simp [flongref04_Font.l0])
    | succ k1 =>
      have H := HA.out
      clear HA
      simp only [flongref04_Font.l0] at H
      by_cases c4 : x4_1 < (y190.length : Int)
      · rw [if_pos c4] at H
        have c4b0 : decide (x4_1 < (y190.length : Int)) = true := decide_eq_true c4
        clear c4
        by_cases c5 : 0 ≤ x4_1
        · rw [if_pos c5] at H
          have c5b0 : decide (0 ≤ x4_1) = true := decide_eq_true c5
          clear c5
          by_cases c6 : (rdOf ByteArray.empty y190 x4_1).toList = a0.toList
          · rw [if_pos c6] at H
            have c6b0 : ((rdOf ByteArray.empty y190 x4_1).toList == a0.toList) = true := beq_iff_eq.mpr c6
            have c6b1 : ((rdOf ByteArray.empty y190 x4_1).toList != a0.toList) = false := bne_eq_false_iff_eq.mpr c6
            clear c6
            obtain rfl := Option.some.inj H
            obtain ⟨Ao7, co7, eo7⟩ := Kd.R_slice HO_3.out
            subst eo7
            have p193 : 0 ≤ (x4_1 : Int) := of_decide_eq_true (by first | (with_reducible assumption) | assumption)
            have q193 : x4_1 < (y190.length : Int) := of_decide_eq_true (by first | (with_reducible assumption) | assumption)
            obtain ⟨ad193, e193, hx193_0⟩ := Kd.at_string (Kd.R_reads' HO_3.out).2.2 x4_1 p193 q193
            cases e193
            replace p193 := eq_true p193
            replace q193 := eq_true q193
            go_wp2
            go_ret
            exact ⟨by first | rfl | (simp [errW_none, errW_some] <;> rfl) | (simp [*, errW_none, errW_some] <;> rfl), by repeat (first | (with_reducible first | exact HB.out | apply below_alloc | apply pw_below_drewN | apply below_drew1) | exact HB.out)⟩
          · rw [if_neg c6] at H
            have c6b0 : ((rdOf ByteArray.empty y190 x4_1).toList == a0.toList) = false := beq_eq_false_iff_ne.mpr c6
            have c6b1 : ((rdOf ByteArray.empty y190 x4_1).toList != a0.toList) = true := bne_iff_ne.mpr c6
            have H' := Aside0.mk H
            clear H
            obtain ⟨Ao8, co8, eo8⟩ := Kd.R_slice HO_3.out
            subst eo8
            have p193 : 0 ≤ (x4_1 : Int) := of_decide_eq_true (by first | (with_reducible assumption) | assumption)
            have q193 : x4_1 < (y190.length : Int) := of_decide_eq_true (by first | (with_reducible assumption) | assumption)
            obtain ⟨ad193, e193, hx193_0⟩ := Kd.at_string (Kd.R_reads' HO_3.out).2.2 x4_1 p193 q193
            cases e193
            replace p193 := eq_true p193
            replace q193 := eq_true q193
            go_wp2
            go_roundg k1
            case measure => have := HK1.out; omega
            case rel => exact ⟨(wrap64 (x4_1 + 1)), (by first | rfl | (simp; done) | (simp [*]; done)), H', ⟨by have := HK1.out; omega⟩, ⟨by (with_reducible repeat (first | apply Kd.R_alloc | apply Kd.R_drewN | apply Kd.R_drew)); exact HO_3.out⟩, ⟨by repeat (first | (with_reducible first | exact HB.out | apply below_alloc | apply pw_below_drewN | apply below_drew1) | exact HB.out)⟩⟩
        · rw [if_neg c5] at H
          exact absurd H (by simp)
      · rw [if_neg c4] at H
        have c4b0 : decide (x4_1 < (y190.length : Int)) = false := decide_eq_false c4
        clear c4
        by_cases c9 : (a0.size : Int) = 1
        · rw [if_pos c9] at H
          have c9b0 : ((a0.size : Int) == 1) = true := beq_iff_eq.mpr c9
          have c9b1 : ((a0.size : Int) != 1) = false := bne_eq_false_iff_eq.mpr c9
          clear c9
          by_cases c10 : 0 < (a0.size : Int)
          · rw [if_pos c10] at H
            have c10b0 : decide (0 < (a0.size : Int)) = true := decide_eq_true c10
            have c10b1 : decide (0 < a0.size) = true := decide_eq_true (by omega)
            clear c10
            by_cases c12 : (bt a0 0) ≥ 49
            · rw [if_pos c12] at H
              have c12b0 : decide (49 ≤ (bt a0 0)) = true := decide_eq_true c12
              clear c12
              by_cases c14 : (bt a0 0) ≤ 52
              · rw [if_pos c14] at H
                have c14b0 : decide ((bt a0 0) ≤ 52) = true := decide_eq_true c14
                clear c14
                obtain rfl := Option.some.inj H
                obtain ⟨Ao16, co16, eo16⟩ := Kd.R_slice HO_3.out
                subst eo16
                have p11 : 0 ≤ (0 : Int) := (by omega)
                have q11 : 0 < a0.size := (by have : (0 : Int) < (a0.size : Int) := of_decide_eq_true (by first | (with_reducible assumption) | assumption); omega)
                have hx11 : ∀ h : 0 < a0.size, ((a0[0]'h).toNat : Int) = bt a0 0 := bt_at a0 0
                clear p11
                have qi11 : (0 < (a0.size : Int)) = True := eq_true (of_decide_eq_true (by first | (with_reducible assumption) | assumption))
                replace q11 := eq_true q11
                have p13 : 0 ≤ (0 : Int) := (by omega)
                have q13 : 0 < a0.size := (by have : (0 : Int) < (a0.size : Int) := of_decide_eq_true (by first | (with_reducible assumption) | assumption); omega)
                have hx13 : ∀ h : 0 < a0.size, ((a0[0]'h).toNat : Int) = bt a0 0 := bt_at a0 0
                clear p13
                have qi13 : (0 < (a0.size : Int)) = True := eq_true (of_decide_eq_true (by first | (with_reducible assumption) | assumption))
                replace q13 := eq_true q13
                have p15 : 0 ≤ (0 : Int) := (by omega)
                have q15 : 0 < a0.size := (by have : (0 : Int) < (a0.size : Int) := of_decide_eq_true (by first | (with_reducible assumption) | assumption); omega)
                have hx15 : ∀ h : 0 < a0.size, ((a0[0]'h).toNat : Int) = bt a0 0 := bt_at a0 0
                clear p15
                have qi15 : (0 < (a0.size : Int)) = True := eq_true (of_decide_eq_true (by first | (with_reducible assumption) | assumption))
                replace q15 := eq_true q15
                go_wp2
                go_ret
                exact ⟨by first | rfl | (simp [errW_none, errW_some] <;> rfl) | (simp [*, errW_none, errW_some] <;> rfl), by repeat (first | (with_reducible first | exact HB.out | apply below_alloc | apply pw_below_drewN | apply below_drew1) | exact HB.out)⟩
              · rw [if_neg c14] at H
                have c14b0 : decide ((bt a0 0) ≤ 52) = false := decide_eq_false c14
                clear c14
                obtain rfl := Option.some.inj H
                obtain ⟨Ao17, co17, eo17⟩ := Kd.R_slice HO_3.out
                subst eo17
                have p11 : 0 ≤ (0 : Int) := (by omega)
                have q11 : 0 < a0.size := (by have : (0 : Int) < (a0.size : Int) := of_decide_eq_true (by first | (with_reducible assumption) | assumption); omega)
                have hx11 : ∀ h : 0 < a0.size, ((a0[0]'h).toNat : Int) = bt a0 0 := bt_at a0 0
                clear p11
                have qi11 : (0 < (a0.size : Int)) = True := eq_true (of_decide_eq_true (by first | (with_reducible assumption) | assumption))
                replace q11 := eq_true q11
                have p13 : 0 ≤ (0 : Int) := (by omega)
                have q13 : 0 < a0.size := (by have : (0 : Int) < (a0.size : Int) := of_decide_eq_true (by first | (with_reducible assumption) | assumption); omega)
                have hx13 : ∀ h : 0 < a0.size, ((a0[0]'h).toNat : Int) = bt a0 0 := bt_at a0 0
                clear p13
                have qi13 : (0 < (a0.size : Int)) = True := eq_true (of_decide_eq_true (by first | (with_reducible assumption) | assumption))
                replace q13 := eq_true q13
                go_wp2
                go_ret
                exact ⟨by first | rfl | (simp [errW_none, errW_some] <;> rfl) | (simp [*, errW_none, errW_some] <;> rfl), by repeat (first | (with_reducible first | exact HB.out | apply below_alloc | apply pw_below_drewN | apply below_drew1) | exact HB.out)⟩
            · rw [if_neg c12] at H
              have c12b0 : decide (49 ≤ (bt a0 0)) = false := decide_eq_false c12
              clear c12
              obtain rfl := Option.some.inj H
              obtain ⟨Ao18, co18, eo18⟩ := Kd.R_slice HO_3.out
              subst eo18
              have p11 : 0 ≤ (0 : Int) := (by omega)
              have q11 : 0 < a0.size := (by have : (0 : Int) < (a0.size : Int) := of_decide_eq_true (by first | (with_reducible assumption) | assumption); omega)
              have hx11 : ∀ h : 0 < a0.size, ((a0[0]'h).toNat : Int) = bt a0 0 := bt_at a0 0
              clear p11
              have qi11 : (0 < (a0.size : Int)) = True := eq_true (of_decide_eq_true (by first | (with_reducible assumption) | assumption))
              replace q11 := eq_true q11
              go_wp2
              go_ret
              exact ⟨by first | rfl | (simp [errW_none, errW_some] <;> rfl) | (simp [*, errW_none, errW_some] <;> rfl), by repeat (first | (with_reducible first | exact HB.out | apply below_alloc | apply pw_below_drewN | apply below_drew1) | exact HB.out)⟩
          · rw [if_neg c10] at H
            exact absurd H (by simp)
        · rw [if_neg c9] at H
          have c9b0 : ((a0.size : Int) == 1) = false := beq_eq_false_iff_ne.mpr c9
          have c9b1 : ((a0.size : Int) != 1) = true := bne_iff_ne.mpr c9
          obtain rfl := Option.some.inj H
          obtain ⟨Ao19, co19, eo19⟩ := Kd.R_slice HO_3.out
          subst eo19
          go_wp2
          go_ret
          exact ⟨by first | rfl | (simp [errW_none, errW_some] <;> rfl) | (simp [*, errW_none, errW_some] <;> rfl), by repeat (first | (with_reducible first | exact HB.out | apply below_alloc | apply pw_below_drewN | apply below_drew1) | exact HB.out)⟩
def flongref04_say.f (l0_0 : List (S38)) (l0_1 : List (S41)) (a1 : Int) (a2 : Int) : Option ((List (S38)) × (List (S41))) := if l0_0.length < 8796093022208 then (some ((l0_0 ++ [(⟨a1, a2⟩ : S38)]), l0_1)) else (none)
set_option maxHeartbeats 8000000 in
set_option maxRecDepth 100000 in
theorem flongref04_say.calls (P0_0_ : Nat → Prop) (u9000_ : Value) (l0_0 : List (S38)) (P0_1_ : Nat → Prop) (u9001_ : Value) (l0_1 : List (S41)) (a1 : Int) (a2 : Int) (r1 : List (S38)) (r2 : List (S41)) (w0 w : World) (hB : Below w0.heap.size w0 w) (ho0_0 : Kd.R k38 38 w w0.heap.size P0_0_ u9000_ l0_0) (ho0_1 : Kd.R k41 41 w w0.heap.size P0_1_ u9001_ l0_1) (h : flongref04_say.f l0_0 l0_1 a1 a2 = some (r1, r2)) :
    Calls Tryd.prog 45 #[.agg #[u9000_, u9001_], .int .i64 a1, .int .i32 a2] w fun e w' => ∃ v0_ v1_ : Value, e = .returned (.agg #[v0_, v1_]) ∧ Kd.R k38 38 w' w0.heap.size (fun k_ => ((P0_0_ k_ ∨ P0_1_ k_) ∨ w.heap.size ≤ k_)) v0_ r1 ∧ Kd.R k41 41 w' w0.heap.size (fun k_ => ((P0_0_ k_ ∨ P0_1_ k_) ∨ w.heap.size ≤ k_)) v1_ r2 ∧ Below w0.heap.size w0 w' ∧ Kept w w' (fun k_ => P0_0_ k_ ∨ P0_1_ k_) := by
  have hu70 := Tryd.underlying70
  have hu38 := Tryd.underlying38
  have HO0_0 := Aside0.mk (show Kd.R k38 38 w w0.heap.size (fun k_ => ((P0_0_ k_ ∨ P0_1_ k_) ∨ w.heap.size ≤ k_)) u9000_ l0_0 from Kd.R_mono ho0_0 (fun k_ hk => (.inl (.inl hk))))
  have HO0_1 := Aside0.mk (show Kd.R k41 41 w w0.heap.size (fun k_ => ((P0_0_ k_ ∨ P0_1_ k_) ∨ w.heap.size ≤ k_)) u9001_ l0_1 from Kd.R_mono ho0_1 (fun k_ hk => (.inl (.inr hk))))
  have HK := Aside0.mk (Kept.refl w (fun k_ => P0_0_ k_ ∨ P0_1_ k_))
  have HW0 := Aside0.mk hB.size
  have HB := Aside0.mk hB
  clear hB
  have H : (if l0_0.length < 8796093022208 then (some ((l0_0 ++ [(⟨a1, a2⟩ : S38)]), l0_1)) else (none)) = some (r1, r2) := h
  clear h
  by_cases c4 : l0_0.length < 8796093022208
  · rw [if_pos c4] at H
    have LMc4 := Aside0.mk c4
    clear c4
    obtain ⟨y196, hy196⟩ : ∃ y_ : List (S38), y_ = (l0_0 ++ [(⟨a1, a2⟩ : S38)]) := ⟨_, rfl⟩
    replace H : (some (y196, l0_1)) = some (r1, r2) := by first | (rw [hy196]; with_reducible exact H) | (have H2_ := (Option.bind_some _ _).symm.trans H; rw [hy196]; with_reducible exact H2_) | (have H2_ := (Option.bind_some _ _).symm.trans H; with_reducible exact H2_) | with_reducible exact H | (rw [hy196]; exact H) | exact H
    have Ny196 := Aside0.mk hy196
    clear hy196
    simp only [Option.some.injEq, Prod.mk.injEq] at H
    obtain ⟨rfl, rfl⟩ := H
    obtain ⟨Ao5, co5, eo5⟩ := Kd.R_slice HO0_0.out
    subst eo5
    obtain ⟨Ao6, co6, eo6⟩ := Kd.R_slice HO0_1.out
    subst eo6
    go_enter Tryd.func45, Tryd.ntmps45
    go_wp2_with (first | ((with_reducible refine gate_dst (N := 3) rfl ?_); refine box_event ?hg (N := 3) ?hd (cs := #[.slice Ao5 l0_0.length co5, .slice Ao6 l0_1.length co6]) (t := 70) ?hr ?_; (case hd => rfl); (case hg => rfl); (case hr => first | (go_simp; done) | (go_simp; rfl)); intro gb194 hg w7 hbox hb; have n0_ := Aside0.mk (Kd.R_below (by (with_reducible repeat (first | apply Kd.R_alloc | apply Kd.R_drewN | apply Kd.R_drew)); exact HO0_0.out) hb); have n1_ := Aside0.mk (Kd.R_below (by (with_reducible repeat (first | apply Kd.R_alloc | apply Kd.R_drewN | apply Kd.R_drew)); exact HO0_1.out) hb); have n2_ := Aside0.mk (Kept.below (S := (fun k_ => P0_0_ k_ ∨ P0_1_ k_)) (by repeat (first | (with_reducible first | exact HK.out | apply Kept.alloc | apply Kept.drewN | apply Kept.drew) | exact HK.out)) hb); have n3_ := Aside0.mk (below_step (by repeat (first | (with_reducible first | exact HB.out | apply below_alloc | apply pw_below_drewN | apply below_drew1) | exact HB.out)) hb); have n4_ := Aside0.mk (hbox); have n5_ := Aside0.mk ((by rw [hg]; exact (by first | exact HK.out.1 | exact (show Kept w _ (fun k_ => P0_0_ k_ ∨ P0_1_ k_) from by repeat (first | (with_reducible first | exact HK.out | apply Kept.alloc | apply Kept.drewN | apply Kept.drew) | exact HK.out)).1) : w.heap.size ≤ gb194)); have n6_ := Aside0.mk ((by rw [hg]; exact (below_size (by repeat (first | (with_reducible first | exact HB.out | apply below_alloc | apply pw_below_drewN | apply below_drew1) | exact HB.out))) : w0.heap.size ≤ gb194)); clear HO0_0; clear HO0_1; clear HK; clear HB; have HO0_0 := n0_; have HO0_1 := n1_; have HK := n2_; have HB := n3_; have BK194 := n4_; have GW194 := n5_; have GE194 := n6_; clear n0_ n1_ n2_ n3_ n4_ n5_ n6_; clear hb hbox hg) | ((with_reducible refine gate_dst (N := 6) rfl ?_); refine box_event ?hg (N := 6) ?hd (cs := #[.slice none 0 0, .slice none 0 0]) (t := 70) ?hr ?_; (case hd => rfl); (case hg => rfl); (case hr => first | (go_simp; done) | (go_simp; rfl)); intro gb195 hg w8 hbox hb; have n0_ := Aside0.mk (Kd.R_below (by (with_reducible repeat (first | apply Kd.R_alloc | apply Kd.R_drewN | apply Kd.R_drew)); exact HO0_0.out) hb); have n1_ := Aside0.mk (Kd.R_below (by (with_reducible repeat (first | apply Kd.R_alloc | apply Kd.R_drewN | apply Kd.R_drew)); exact HO0_1.out) hb); have n2_ := Aside0.mk (blk_below (g := gb194) (o := .cells #[.slice Ao5 l0_0.length co5, .slice Ao6 l0_1.length co6] 70 (0, 0)) (by (with_reducible repeat (first | refine blk_drewN ?_ _ | refine blk_drew ?_ | refine blk_alloc ?_ _)); exact BK194.out) hb); have n3_ := Aside0.mk (Kept.below (S := (fun k_ => P0_0_ k_ ∨ P0_1_ k_)) (by repeat (first | (with_reducible first | exact HK.out | apply Kept.alloc | apply Kept.drewN | apply Kept.drew | refine Kept.setCell ?_ (.inr GW194.out) _) | exact HK.out)) hb); have n4_ := Aside0.mk (below_step (by repeat (first | (with_reducible first | exact HB.out | apply below_alloc | apply pw_below_drewN | apply below_drew1 | refine below_set ?_ GE194.out) | exact HB.out)) hb); have n5_ := Aside0.mk (hbox); have n6_ := Aside0.mk ((by rw [hg]; exact (by first | exact HK.out.1 | exact (show Kept w _ (fun k_ => P0_0_ k_ ∨ P0_1_ k_) from by repeat (first | (with_reducible first | exact HK.out | apply Kept.alloc | apply Kept.drewN | apply Kept.drew | refine Kept.setCell ?_ (.inr GW194.out) _) | exact HK.out)).1) : w.heap.size ≤ gb195)); have n7_ := Aside0.mk ((by rw [hg]; exact (below_size (by repeat (first | (with_reducible first | exact HB.out | apply below_alloc | apply pw_below_drewN | apply below_drew1 | refine below_set ?_ GE194.out) | exact HB.out))) : w0.heap.size ≤ gb195)); have n8_ := Aside0.mk ((by rw [hg]; exact Nat.ne_of_lt (blk_lt (g := gb194) (o := .cells #[.slice Ao5 l0_0.length co5, .slice Ao6 l0_1.length co6] 70 (0, 0)) (by (with_reducible repeat (first | refine blk_drewN ?_ _ | refine blk_drew ?_ | refine blk_alloc ?_ _)); exact BK194.out)) : gb194 ≠ gb195)); have n9_ := Aside0.mk ((by rw [hg]; exact Nat.ne_of_gt (blk_lt (g := gb194) (o := .cells #[.slice Ao5 l0_0.length co5, .slice Ao6 l0_1.length co6] 70 (0, 0)) (by (with_reducible repeat (first | refine blk_drewN ?_ _ | refine blk_drew ?_ | refine blk_alloc ?_ _)); exact BK194.out)) : gb195 ≠ gb194)); clear HO0_0; clear HO0_1; clear BK194; clear HK; clear HB; have HO0_0 := n0_; have HO0_1 := n1_; have BK194 := n2_; have HK := n3_; have HB := n4_; have BK195 := n5_; have GW195 := n6_; have GE195 := n7_; have NB194_195 := n8_; have NB195_194 := n9_; clear n0_ n1_ n2_ n3_ n4_ n5_ n6_ n7_ n8_ n9_; clear hb hbox hg; have hnb9 := NB194_195.out; have hnc9 := NB195_194.out; have hcz10_0 : w8.cell? ⟨gb194, 0, none⟩ = some (.slice Ao5 l0_0.length co5) := (blk_cell BK194.out 0).trans rfl; have hcz10_1 : w8.cell? ⟨gb194, 1, none⟩ = some (.slice Ao6 l0_1.length co6) := (blk_cell BK194.out 1).trans rfl; have hfz10_0 := blk_frozen BK194.out 0; have hfz10_1 := blk_frozen BK194.out 1) | ((with_reducible refine gate_builtin (b := .append) (xs := #[.tmp 8, .tmp 12]) rfl ?_); at_builtin; refine Kd.R_append k38 (w0 := w0) w0.heap.size rfl (.tmp 8) (.tmp 12) 23 38 (.agg #[(.int .i64 0), (.int .i32 0)]) 16 rfl Tryd.underlying23 info38 rfl (by decide) (by omega) (.slice Ao5 l0_0.length co5) l0_0 (⟨a1, a2⟩ : S38) [.int .i64 a1, .int .i32 a2] (fun k_ => ((P0_0_ k_ ∨ P0_1_ k_) ∨ w.heap.size ≤ k_)) (fun _ => False) rfl rfl ?aP (fun _ hk => hk.elim) ?aF ?aO ?aB ?aS ?aL ?_; (case aP => exact k38_mkM _ _ _ (⟨a1, a2⟩ : S38)); (case aB => exact (by repeat (first | (with_reducible first | exact HB.out | apply below_alloc | apply pw_below_drewN | apply below_drew1 | refine below_set ?_ GE194.out | refine below_set ?_ GE195.out) | exact HB.out))); (case aF => exact (fun k_ hk => (.inr (Nat.le_trans (by first | exact HK.out.1 | exact (show Kept w _ (fun k_ => P0_0_ k_ ∨ P0_1_ k_) from by repeat (first | (with_reducible first | exact HK.out | apply Kept.alloc | apply Kept.drewN | apply Kept.drew | refine Kept.setCell ?_ (.inr GW194.out) _ | refine Kept.setCell ?_ (.inr GW195.out) _) | exact HK.out)).1) hk)))); (case aO => exact (by (with_reducible repeat (first | apply Kd.R_alloc | apply Kd.R_drewN | apply Kd.R_drew)); exact HO0_0.out)); (case aS => exact (below_size (by repeat (first | (with_reducible first | exact HB.out | apply below_alloc | apply pw_below_drewN | apply below_drew1 | refine below_set ?_ GE194.out | refine below_set ?_ GE195.out) | exact HB.out)))); (case aL => have := LMc4.out; omega); intro v197 w11 ho hb hg hat; rw [← Ny196.out] at ho; have n0_ := Aside0.mk (Kd.R_over' (by (with_reducible repeat (first | apply Kd.R_alloc | apply Kd.R_drewN | apply Kd.R_drew)); exact HO0_1.out) (Kd.R_typed (by (with_reducible repeat (first | apply Kd.R_alloc | apply Kd.R_drewN | apply Kd.R_drew)); exact HO0_0.out)) (by decide) hg); have n1_ := Aside0.mk (blk_grown (g := gb194) (o := .cells #[.slice Ao5 l0_0.length co5, .slice Ao6 l0_1.length co6] 70 (0, 0)) (by (with_reducible repeat (first | refine blk_drewN ?_ _ | refine blk_drew ?_ | refine blk_alloc ?_ _)); exact BK194.out) hg (Kd.R_ne HO0_0.out BK194.out (by decide))); have n2_ := Aside0.mk (blk_grown (g := gb195) (o := .cells #[.slice none 0 0, .slice none 0 0] 70 (0, 0)) (by (with_reducible repeat (first | refine blk_drewN ?_ _ | refine blk_drew ?_ | refine blk_alloc ?_ _)); exact BK195.out) hg (Kd.R_ne HO0_0.out BK195.out (by decide))); have n3_ := Aside0.mk (hb); have n4_ := Aside0.mk (Kept.of_grown (S := (fun k_ => P0_0_ k_ ∨ P0_1_ k_)) hg (by repeat (first | (with_reducible first | exact HK.out | apply Kept.alloc | apply Kept.drewN | apply Kept.drew | refine Kept.setCell ?_ (.inr GW194.out) _ | refine Kept.setCell ?_ (.inr GW195.out) _) | exact HK.out)) (fun k_ e_ => (HO0_0.out.1 k_ e_))); have n5_ := Aside0.mk (ho); clear HO0_1; clear BK194; clear BK195; clear HB; clear HK; clear HO0_0; have HO0_1 := n0_; have BK194 := n1_; have BK195 := n2_; have HB := n3_; have HK := n4_; have HO198 := n5_; clear n0_ n1_ n2_ n3_ n4_ n5_; clear ho hb hg hat; obtain ⟨Ao12, co12, eo12⟩ := Kd.R_slice HO198.out; subst eo12; have hcz13_0 : w11.cell? ⟨gb194, 0, none⟩ = some (.slice Ao5 l0_0.length co5) := (blk_cell BK194.out 0).trans rfl; have hcz13_1 : w11.cell? ⟨gb194, 1, none⟩ = some (.slice Ao6 l0_1.length co6) := (blk_cell BK194.out 1).trans rfl; have hfz13_0 := blk_frozen BK194.out 0; have hfz13_1 := blk_frozen BK194.out 1; have hcz14_0 : w11.cell? ⟨gb195, 0, none⟩ = some (.slice none 0 0) := (blk_cell BK195.out 0).trans rfl; have hcz14_1 : w11.cell? ⟨gb195, 1, none⟩ = some (.slice none 0 0) := (blk_cell BK195.out 1).trans rfl; have hfz14_0 := blk_frozen BK195.out 0; have hfz14_1 := blk_frozen BK195.out 1))
    refine bodyPost_ret (results_cell_row rfl _ _ gb195 70 #[.slice Ao12 y196.length co12, .slice Ao6 l0_1.length co6] (0, 0) _ rfl (by (with_reducible repeat (first | refine blk_drewN ?_ _ | refine blk_drew ?_ | refine blk_alloc ?_ _)); refine blk_put (cs := #[.slice Ao12 y196.length co12, .slice none 0 0]) ?_ 1 _ rfl; (with_reducible repeat (first | refine blk_drewN ?_ _ | refine blk_drew ?_ | refine blk_alloc ?_ _)); refine blk_put (cs := #[.slice none 0 0, .slice none 0 0]) ?_ 0 _ rfl; (with_reducible repeat (first | refine blk_drewN ?_ _ | refine blk_drew ?_ | refine blk_alloc ?_ _)); refine blk_far ?_ NB195_194.out _; (with_reducible repeat (first | refine blk_drewN ?_ _ | refine blk_drew ?_ | refine blk_alloc ?_ _)); exact BK195.out) Tryd.underlying70 rfl (by kernel_rfl)) rfl ?_
    exact ⟨_, _, by first | rfl | (simp [errW_none, errW_some] <;> rfl) | (simp [*, errW_none, errW_some] <;> rfl), by (with_reducible repeat (first | apply Kd.R_alloc | apply Kd.R_drewN | apply Kd.R_drew)); exact Kd.R_mono (Kd.R_far (p := ⟨gb195, 1, none⟩) (Kd.R_far (p := ⟨gb195, 0, none⟩) (Kd.R_far (p := ⟨gb194, 0, none⟩) (Kd.R_types (Kd.R_types HO198.out BK194.out (by decide)) BK195.out (by decide)) (fun _ hk => hk.1.2) (.slice Ao12 y196.length co12)) (fun _ hk => hk.2) (.slice Ao12 y196.length co12)) (fun _ hk => hk.2) (.slice Ao6 l0_1.length co6)) (fun _ hk => hk.1.1), by (with_reducible repeat (first | apply Kd.R_alloc | apply Kd.R_drewN | apply Kd.R_drew)); exact Kd.R_mono (Kd.R_far (p := ⟨gb195, 1, none⟩) (Kd.R_far (p := ⟨gb195, 0, none⟩) (Kd.R_far (p := ⟨gb194, 0, none⟩) (Kd.R_types (Kd.R_types HO0_1.out BK194.out (by decide)) BK195.out (by decide)) (fun _ hk => hk.1.2) (.slice Ao12 y196.length co12)) (fun _ hk => hk.2) (.slice Ao12 y196.length co12)) (fun _ hk => hk.2) (.slice Ao6 l0_1.length co6)) (fun _ hk => hk.1.1), by repeat (first | (with_reducible first | exact HB.out | apply below_alloc | apply pw_below_drewN | apply below_drew1 | refine below_set ?_ GE194.out | refine below_set ?_ GE195.out) | exact HB.out), by repeat (first | (with_reducible first | exact HK.out | apply Kept.alloc | apply Kept.drewN | apply Kept.drew | refine Kept.setCell ?_ (.inr GW194.out) _ | refine Kept.setCell ?_ (.inr GW195.out) _) | exact HK.out)⟩
  · rw [if_neg c4] at H
    exact absurd H (by simp)
def flongref04_tell.f (l0_0 : List (S38)) (l0_1 : List (S41)) (a1 : Int) (a2 : Int) : Option ((List (S38)) × (List (S41))) := if l0_1.length < 5864062014805 then (some (l0_0, (l0_1 ++ [(⟨a1, 0, wrap64 (a2 + 1)⟩ : S41)]))) else (none)
set_option maxHeartbeats 8000000 in
set_option maxRecDepth 100000 in
theorem flongref04_tell.calls (P0_0_ : Nat → Prop) (u9000_ : Value) (l0_0 : List (S38)) (P0_1_ : Nat → Prop) (u9001_ : Value) (l0_1 : List (S41)) (a1 : Int) (a2 : Int) (r1 : List (S38)) (r2 : List (S41)) (w0 w : World) (hB : Below w0.heap.size w0 w) (ho0_0 : Kd.R k38 38 w w0.heap.size P0_0_ u9000_ l0_0) (ho0_1 : Kd.R k41 41 w w0.heap.size P0_1_ u9001_ l0_1) (h : flongref04_tell.f l0_0 l0_1 a1 a2 = some (r1, r2)) :
    Calls Tryd.prog 46 #[.agg #[u9000_, u9001_], .int .i64 a1, .int .i64 a2] w fun e w' => ∃ v0_ v1_ : Value, e = .returned (.agg #[v0_, v1_]) ∧ Kd.R k38 38 w' w0.heap.size (fun k_ => ((P0_0_ k_ ∨ P0_1_ k_) ∨ w.heap.size ≤ k_)) v0_ r1 ∧ Kd.R k41 41 w' w0.heap.size (fun k_ => ((P0_0_ k_ ∨ P0_1_ k_) ∨ w.heap.size ≤ k_)) v1_ r2 ∧ Below w0.heap.size w0 w' ∧ Kept w w' (fun k_ => P0_0_ k_ ∨ P0_1_ k_) := by
  have hu70 := Tryd.underlying70
  have hu41 := Tryd.underlying41
  have HO0_0 := Aside0.mk (show Kd.R k38 38 w w0.heap.size (fun k_ => ((P0_0_ k_ ∨ P0_1_ k_) ∨ w.heap.size ≤ k_)) u9000_ l0_0 from Kd.R_mono ho0_0 (fun k_ hk => (.inl (.inl hk))))
  have HO0_1 := Aside0.mk (show Kd.R k41 41 w w0.heap.size (fun k_ => ((P0_0_ k_ ∨ P0_1_ k_) ∨ w.heap.size ≤ k_)) u9001_ l0_1 from Kd.R_mono ho0_1 (fun k_ hk => (.inl (.inr hk))))
  have HK := Aside0.mk (Kept.refl w (fun k_ => P0_0_ k_ ∨ P0_1_ k_))
  have HW0 := Aside0.mk hB.size
  have HB := Aside0.mk hB
  clear hB
  have H : (if l0_1.length < 5864062014805 then (some (l0_0, (l0_1 ++ [(⟨a1, 0, wrap64 (a2 + 1)⟩ : S41)]))) else (none)) = some (r1, r2) := h
  clear h
  by_cases c4 : l0_1.length < 5864062014805
  · rw [if_pos c4] at H
    have LMc4 := Aside0.mk c4
    clear c4
    obtain ⟨y201, hy201⟩ : ∃ y_ : List (S41), y_ = (l0_1 ++ [(⟨a1, 0, wrap64 (a2 + 1)⟩ : S41)]) := ⟨_, rfl⟩
    replace H : (some (l0_0, y201)) = some (r1, r2) := by first | (rw [hy201]; with_reducible exact H) | (have H2_ := (Option.bind_some _ _).symm.trans H; rw [hy201]; with_reducible exact H2_) | (have H2_ := (Option.bind_some _ _).symm.trans H; with_reducible exact H2_) | with_reducible exact H | (rw [hy201]; exact H) | exact H
    have Ny201 := Aside0.mk hy201
    clear hy201
    simp only [Option.some.injEq, Prod.mk.injEq] at H
    obtain ⟨rfl, rfl⟩ := H
    obtain ⟨Ao5, co5, eo5⟩ := Kd.R_slice HO0_0.out
    subst eo5
    obtain ⟨Ao6, co6, eo6⟩ := Kd.R_slice HO0_1.out
    subst eo6
    go_enter Tryd.func46, Tryd.ntmps46
    go_wp2_with (first | ((with_reducible refine gate_dst (N := 3) rfl ?_); refine box_event ?hg (N := 3) ?hd (cs := #[.slice Ao5 l0_0.length co5, .slice Ao6 l0_1.length co6]) (t := 70) ?hr ?_; (case hd => rfl); (case hg => rfl); (case hr => first | (go_simp; done) | (go_simp; rfl)); intro gb199 hg w7 hbox hb; have n0_ := Aside0.mk (Kd.R_below (by (with_reducible repeat (first | apply Kd.R_alloc | apply Kd.R_drewN | apply Kd.R_drew)); exact HO0_0.out) hb); have n1_ := Aside0.mk (Kd.R_below (by (with_reducible repeat (first | apply Kd.R_alloc | apply Kd.R_drewN | apply Kd.R_drew)); exact HO0_1.out) hb); have n2_ := Aside0.mk (Kept.below (S := (fun k_ => P0_0_ k_ ∨ P0_1_ k_)) (by repeat (first | (with_reducible first | exact HK.out | apply Kept.alloc | apply Kept.drewN | apply Kept.drew) | exact HK.out)) hb); have n3_ := Aside0.mk (below_step (by repeat (first | (with_reducible first | exact HB.out | apply below_alloc | apply pw_below_drewN | apply below_drew1) | exact HB.out)) hb); have n4_ := Aside0.mk (hbox); have n5_ := Aside0.mk ((by rw [hg]; exact (by first | exact HK.out.1 | exact (show Kept w _ (fun k_ => P0_0_ k_ ∨ P0_1_ k_) from by repeat (first | (with_reducible first | exact HK.out | apply Kept.alloc | apply Kept.drewN | apply Kept.drew) | exact HK.out)).1) : w.heap.size ≤ gb199)); have n6_ := Aside0.mk ((by rw [hg]; exact (below_size (by repeat (first | (with_reducible first | exact HB.out | apply below_alloc | apply pw_below_drewN | apply below_drew1) | exact HB.out))) : w0.heap.size ≤ gb199)); clear HO0_0; clear HO0_1; clear HK; clear HB; have HO0_0 := n0_; have HO0_1 := n1_; have HK := n2_; have HB := n3_; have BK199 := n4_; have GW199 := n5_; have GE199 := n6_; clear n0_ n1_ n2_ n3_ n4_ n5_ n6_; clear hb hbox hg) | ((with_reducible refine gate_dst (N := 6) rfl ?_); refine box_event ?hg (N := 6) ?hd (cs := #[.slice none 0 0, .slice none 0 0]) (t := 70) ?hr ?_; (case hd => rfl); (case hg => rfl); (case hr => first | (go_simp; done) | (go_simp; rfl)); intro gb200 hg w8 hbox hb; have n0_ := Aside0.mk (Kd.R_below (by (with_reducible repeat (first | apply Kd.R_alloc | apply Kd.R_drewN | apply Kd.R_drew)); exact HO0_0.out) hb); have n1_ := Aside0.mk (Kd.R_below (by (with_reducible repeat (first | apply Kd.R_alloc | apply Kd.R_drewN | apply Kd.R_drew)); exact HO0_1.out) hb); have n2_ := Aside0.mk (blk_below (g := gb199) (o := .cells #[.slice Ao5 l0_0.length co5, .slice Ao6 l0_1.length co6] 70 (0, 0)) (by (with_reducible repeat (first | refine blk_drewN ?_ _ | refine blk_drew ?_ | refine blk_alloc ?_ _)); exact BK199.out) hb); have n3_ := Aside0.mk (Kept.below (S := (fun k_ => P0_0_ k_ ∨ P0_1_ k_)) (by repeat (first | (with_reducible first | exact HK.out | apply Kept.alloc | apply Kept.drewN | apply Kept.drew | refine Kept.setCell ?_ (.inr GW199.out) _) | exact HK.out)) hb); have n4_ := Aside0.mk (below_step (by repeat (first | (with_reducible first | exact HB.out | apply below_alloc | apply pw_below_drewN | apply below_drew1 | refine below_set ?_ GE199.out) | exact HB.out)) hb); have n5_ := Aside0.mk (hbox); have n6_ := Aside0.mk ((by rw [hg]; exact (by first | exact HK.out.1 | exact (show Kept w _ (fun k_ => P0_0_ k_ ∨ P0_1_ k_) from by repeat (first | (with_reducible first | exact HK.out | apply Kept.alloc | apply Kept.drewN | apply Kept.drew | refine Kept.setCell ?_ (.inr GW199.out) _) | exact HK.out)).1) : w.heap.size ≤ gb200)); have n7_ := Aside0.mk ((by rw [hg]; exact (below_size (by repeat (first | (with_reducible first | exact HB.out | apply below_alloc | apply pw_below_drewN | apply below_drew1 | refine below_set ?_ GE199.out) | exact HB.out))) : w0.heap.size ≤ gb200)); have n8_ := Aside0.mk ((by rw [hg]; exact Nat.ne_of_lt (blk_lt (g := gb199) (o := .cells #[.slice Ao5 l0_0.length co5, .slice Ao6 l0_1.length co6] 70 (0, 0)) (by (with_reducible repeat (first | refine blk_drewN ?_ _ | refine blk_drew ?_ | refine blk_alloc ?_ _)); exact BK199.out)) : gb199 ≠ gb200)); have n9_ := Aside0.mk ((by rw [hg]; exact Nat.ne_of_gt (blk_lt (g := gb199) (o := .cells #[.slice Ao5 l0_0.length co5, .slice Ao6 l0_1.length co6] 70 (0, 0)) (by (with_reducible repeat (first | refine blk_drewN ?_ _ | refine blk_drew ?_ | refine blk_alloc ?_ _)); exact BK199.out)) : gb200 ≠ gb199)); clear HO0_0; clear HO0_1; clear BK199; clear HK; clear HB; have HO0_0 := n0_; have HO0_1 := n1_; have BK199 := n2_; have HK := n3_; have HB := n4_; have BK200 := n5_; have GW200 := n6_; have GE200 := n7_; have NB199_200 := n8_; have NB200_199 := n9_; clear n0_ n1_ n2_ n3_ n4_ n5_ n6_ n7_ n8_ n9_; clear hb hbox hg; have hnb9 := NB199_200.out; have hnc9 := NB200_199.out; have hcz10_0 : w8.cell? ⟨gb199, 0, none⟩ = some (.slice Ao5 l0_0.length co5) := (blk_cell BK199.out 0).trans rfl; have hcz10_1 : w8.cell? ⟨gb199, 1, none⟩ = some (.slice Ao6 l0_1.length co6) := (blk_cell BK199.out 1).trans rfl; have hfz10_0 := blk_frozen BK199.out 0; have hfz10_1 := blk_frozen BK199.out 1) | ((with_reducible refine gate_builtin (b := .append) (xs := #[.tmp 8, .tmp 13]) rfl ?_); at_builtin; refine Kd.R_append k41 (w0 := w0) w0.heap.size rfl (.tmp 8) (.tmp 13) 24 41 (.agg #[(.int .i64 0), (.int .i64 0), (.int .i64 0)]) 24 rfl Tryd.underlying24 info41 rfl (by decide) (by omega) (.slice Ao6 l0_1.length co6) l0_1 (⟨a1, 0, wrap64 (a2 + 1)⟩ : S41) [.int .i64 a1, .int .i64 0, .int .i64 (wrap64 (a2 + 1))] (fun k_ => ((P0_0_ k_ ∨ P0_1_ k_) ∨ w.heap.size ≤ k_)) (fun _ => False) rfl rfl ?aP (fun _ hk => hk.elim) ?aF ?aO ?aB ?aS ?aL ?_; (case aP => exact k41_mkM _ _ _ (⟨a1, 0, wrap64 (a2 + 1)⟩ : S41)); (case aB => exact (by repeat (first | (with_reducible first | exact HB.out | apply below_alloc | apply pw_below_drewN | apply below_drew1 | refine below_set ?_ GE199.out | refine below_set ?_ GE200.out) | exact HB.out))); (case aF => exact (fun k_ hk => (.inr (Nat.le_trans (by first | exact HK.out.1 | exact (show Kept w _ (fun k_ => P0_0_ k_ ∨ P0_1_ k_) from by repeat (first | (with_reducible first | exact HK.out | apply Kept.alloc | apply Kept.drewN | apply Kept.drew | refine Kept.setCell ?_ (.inr GW199.out) _ | refine Kept.setCell ?_ (.inr GW200.out) _) | exact HK.out)).1) hk)))); (case aO => exact (by (with_reducible repeat (first | apply Kd.R_alloc | apply Kd.R_drewN | apply Kd.R_drew)); exact HO0_1.out)); (case aS => exact (below_size (by repeat (first | (with_reducible first | exact HB.out | apply below_alloc | apply pw_below_drewN | apply below_drew1 | refine below_set ?_ GE199.out | refine below_set ?_ GE200.out) | exact HB.out)))); (case aL => have := LMc4.out; omega); intro v202 w11 ho hb hg hat; rw [← Ny201.out] at ho; have n0_ := Aside0.mk (Kd.R_over' (by (with_reducible repeat (first | apply Kd.R_alloc | apply Kd.R_drewN | apply Kd.R_drew)); exact HO0_0.out) (Kd.R_typed (by (with_reducible repeat (first | apply Kd.R_alloc | apply Kd.R_drewN | apply Kd.R_drew)); exact HO0_1.out)) (by decide) hg); have n1_ := Aside0.mk (blk_grown (g := gb199) (o := .cells #[.slice Ao5 l0_0.length co5, .slice Ao6 l0_1.length co6] 70 (0, 0)) (by (with_reducible repeat (first | refine blk_drewN ?_ _ | refine blk_drew ?_ | refine blk_alloc ?_ _)); exact BK199.out) hg (Kd.R_ne HO0_1.out BK199.out (by decide))); have n2_ := Aside0.mk (blk_grown (g := gb200) (o := .cells #[.slice none 0 0, .slice none 0 0] 70 (0, 0)) (by (with_reducible repeat (first | refine blk_drewN ?_ _ | refine blk_drew ?_ | refine blk_alloc ?_ _)); exact BK200.out) hg (Kd.R_ne HO0_1.out BK200.out (by decide))); have n3_ := Aside0.mk (hb); have n4_ := Aside0.mk (Kept.of_grown (S := (fun k_ => P0_0_ k_ ∨ P0_1_ k_)) hg (by repeat (first | (with_reducible first | exact HK.out | apply Kept.alloc | apply Kept.drewN | apply Kept.drew | refine Kept.setCell ?_ (.inr GW199.out) _ | refine Kept.setCell ?_ (.inr GW200.out) _) | exact HK.out)) (fun k_ e_ => (HO0_1.out.1 k_ e_))); have n5_ := Aside0.mk (ho); clear HO0_0; clear BK199; clear BK200; clear HB; clear HK; clear HO0_1; have HO0_0 := n0_; have BK199 := n1_; have BK200 := n2_; have HB := n3_; have HK := n4_; have HO203 := n5_; clear n0_ n1_ n2_ n3_ n4_ n5_; clear ho hb hg hat; obtain ⟨Ao12, co12, eo12⟩ := Kd.R_slice HO203.out; subst eo12; have hcz13_0 : w11.cell? ⟨gb199, 0, none⟩ = some (.slice Ao5 l0_0.length co5) := (blk_cell BK199.out 0).trans rfl; have hcz13_1 : w11.cell? ⟨gb199, 1, none⟩ = some (.slice Ao6 l0_1.length co6) := (blk_cell BK199.out 1).trans rfl; have hfz13_0 := blk_frozen BK199.out 0; have hfz13_1 := blk_frozen BK199.out 1; have hcz14_0 : w11.cell? ⟨gb200, 0, none⟩ = some (.slice none 0 0) := (blk_cell BK200.out 0).trans rfl; have hcz14_1 : w11.cell? ⟨gb200, 1, none⟩ = some (.slice none 0 0) := (blk_cell BK200.out 1).trans rfl; have hfz14_0 := blk_frozen BK200.out 0; have hfz14_1 := blk_frozen BK200.out 1))
    refine bodyPost_ret (results_cell_row rfl _ _ gb200 70 #[.slice Ao5 l0_0.length co5, .slice Ao12 y201.length co12] (0, 0) _ rfl (by (with_reducible repeat (first | refine blk_drewN ?_ _ | refine blk_drew ?_ | refine blk_alloc ?_ _)); refine blk_put (cs := #[.slice Ao5 l0_0.length co5, .slice none 0 0]) ?_ 1 _ rfl; (with_reducible repeat (first | refine blk_drewN ?_ _ | refine blk_drew ?_ | refine blk_alloc ?_ _)); refine blk_put (cs := #[.slice none 0 0, .slice none 0 0]) ?_ 0 _ rfl; (with_reducible repeat (first | refine blk_drewN ?_ _ | refine blk_drew ?_ | refine blk_alloc ?_ _)); refine blk_far ?_ NB200_199.out _; (with_reducible repeat (first | refine blk_drewN ?_ _ | refine blk_drew ?_ | refine blk_alloc ?_ _)); exact BK200.out) Tryd.underlying70 rfl (by kernel_rfl)) rfl ?_
    exact ⟨_, _, by first | rfl | (simp [errW_none, errW_some] <;> rfl) | (simp [*, errW_none, errW_some] <;> rfl), by (with_reducible repeat (first | apply Kd.R_alloc | apply Kd.R_drewN | apply Kd.R_drew)); exact Kd.R_mono (Kd.R_far (p := ⟨gb200, 1, none⟩) (Kd.R_far (p := ⟨gb200, 0, none⟩) (Kd.R_far (p := ⟨gb199, 1, none⟩) (Kd.R_types (Kd.R_types HO0_0.out BK199.out (by decide)) BK200.out (by decide)) (fun _ hk => hk.1.2) (.slice Ao12 y201.length co12)) (fun _ hk => hk.2) (.slice Ao5 l0_0.length co5)) (fun _ hk => hk.2) (.slice Ao12 y201.length co12)) (fun _ hk => hk.1.1), by (with_reducible repeat (first | apply Kd.R_alloc | apply Kd.R_drewN | apply Kd.R_drew)); exact Kd.R_mono (Kd.R_far (p := ⟨gb200, 1, none⟩) (Kd.R_far (p := ⟨gb200, 0, none⟩) (Kd.R_far (p := ⟨gb199, 1, none⟩) (Kd.R_types (Kd.R_types HO203.out BK199.out (by decide)) BK200.out (by decide)) (fun _ hk => hk.1.2) (.slice Ao12 y201.length co12)) (fun _ hk => hk.2) (.slice Ao5 l0_0.length co5)) (fun _ hk => hk.2) (.slice Ao12 y201.length co12)) (fun _ hk => hk.1.1), by repeat (first | (with_reducible first | exact HB.out | apply below_alloc | apply pw_below_drewN | apply below_drew1 | refine below_set ?_ GE199.out | refine below_set ?_ GE200.out) | exact HB.out), by repeat (first | (with_reducible first | exact HK.out | apply Kept.alloc | apply Kept.drewN | apply Kept.drew | refine Kept.setCell ?_ (.inr GW199.out) _ | refine Kept.setCell ?_ (.inr GW200.out) _) | exact HK.out)⟩
  · rw [if_neg c4] at H
    exact absurd H (by simp)
def flongref04_close.l0 : Nat → List Int → Int → Option (Int)
  | 0, _, _ => none
  | k + 1, x0, x5 => if x5 < (x0.length : Int) then (if 0 ≤ x5 then (if (rd x0 x5) = 93 then (some x5) else (flongref04_close.l0 k x0 (wrap64 (x5 + 1)))) else (none)) else (some (-1))
def flongref04_close.f (k : Nat) (l0 : List Int) (a1 : Int) : Option (Int) := flongref04_close.l0 k l0 a1
theorem flongref04_close.mono_l : ∀ k, (∀ y0 y1, LeO (flongref04_close.l0 k y0 y1) (flongref04_close.l0 (k + 1) y0 y1))
  | 0 => fun _ _ r h => by simp [flongref04_close.l0] at h
  | k + 1 => by
    have ih0 := flongref04_close.mono_l k
    · intro y0 y1
      unfold flongref04_close.l0
      repeat' first
      | (with_reducible exact ih0 _ _)
      | (with_reducible exact LeO.refl _)
      | (with_reducible exact LeO.none _)
      | (with_reducible refine LeO.ite ?_ ?_)
      | (with_reducible refine LeO.bind ?_ (fun _ => ?_))
      | exact ih0 _ _
      | exact LeO.none _
      | refine LeO.ite ?_ ?_
      | refine LeO.bind ?_ (fun _ => ?_)
theorem flongref04_close.mono : ∀ a0 a1 k, LeO (flongref04_close.f k a0 a1) (flongref04_close.f (k + 1) a0 a1) := by
  intro a0 a1 k
  have ih0 := flongref04_close.mono_l k
  unfold flongref04_close.f
  repeat' first
      | (with_reducible exact ih0 _ _)
      | (with_reducible exact LeO.refl _)
      | (with_reducible exact LeO.none _)
      | (with_reducible refine LeO.ite ?_ ?_)
      | (with_reducible refine LeO.bind ?_ (fun _ => ?_))
      | exact ih0 _ _
      | exact LeO.none _
      | refine LeO.ite ?_ ?_
      | refine LeO.bind ?_ (fun _ => ?_)
set_option maxHeartbeats 8000000 in
set_option maxRecDepth 100000 in
theorem flongref04_close.calls (k : Nat) (A0 : Option Addr) (c0 : Nat) (l0 : List Int) (a1 : Int) (r : Int) (w : World) (hr0 : Kd.C (Kd.int .i32) w A0 l0.length l0) (hc0 : l0.length ≤ c0) (h : flongref04_close.f k l0 a1 = some r) :
    Calls Tryd.prog 68 #[.slice A0 l0.length c0, .int .i64 a1] w fun e w' => e = .returned (.int .i64 r) ∧ Drawn0 w w' := by
  have HR0 := Aside0.mk hr0
  have HC0 := Aside0.mk hc0
  clear hr0 hc0
  have H : (flongref04_close.l0 k l0 a1) = some r := h
  clear h
  have H' := Aside0.mk H
  clear H
  go_enter Tryd.func68, Tryd.ntmps68
  go_wp2
  go_loopg [5] k (fun kq v5 w' => ∃ (x5_1 : Int), v5 = .int .i64 x5_1 ∧ Aside0 (flongref04_close.l0 kq l0 x5_1 = some r) ∧ Aside0 (kq ≤ k) ∧ Drawn0 w w')
  case atStart => exact ⟨(a1), (by first | rfl | (simp; done) | (simp [*]; done)), H', ⟨Nat.le_refl _⟩, by repeat (first | exact Drawn0.refl _ | apply Drawn0.step)⟩
  case round =>
    clear H'
    try clear p2
    obtain ⟨x5_1, rfl, HA, HK1, ⟨m1, rfl⟩⟩ := hrel
    cases gk with
    | zero => exact absurd HA.out (by simp [flongref04_close.l0])
    | succ k1 =>
      have H := HA.out
      clear HA
      simp only [flongref04_close.l0] at H
      by_cases c3 : x5_1 < (l0.length : Int)
      · rw [if_pos c3] at H
        have c3b0 : decide (x5_1 < (l0.length : Int)) = true := decide_eq_true c3
        clear c3
        by_cases c4 : 0 ≤ x5_1
        · rw [if_pos c4] at H
          have c4b0 : decide (0 ≤ x5_1) = true := decide_eq_true c4
          clear c4
          by_cases c5 : (rd l0 x5_1) = 93
          · rw [if_pos c5] at H
            have c5b0 : ((rd l0 x5_1) == 93) = true := beq_iff_eq.mpr c5
            have c5b1 : ((rd l0 x5_1) != 93) = false := bne_eq_false_iff_eq.mpr c5
            clear c5
            obtain rfl := Option.some.inj H
            have p204 : 0 ≤ (x5_1 : Int) := of_decide_eq_true (by first | (with_reducible assumption) | assumption)
            have q204 : x5_1 < (l0.length : Int) := of_decide_eq_true (by first | (with_reducible assumption) | assumption)
            obtain ⟨ad204, e204, hx204_0⟩ := Kd.at_int HR0.out x5_1 p204 q204
            cases e204
            replace p204 := eq_true p204
            replace q204 := eq_true q204
            go_wp2
            go_ret
            exact ⟨by first | rfl | (simp; done) | (simp [*]; done), by repeat (first | exact Drawn0.refl _ | apply Drawn0.step)⟩
          · rw [if_neg c5] at H
            have c5b0 : ((rd l0 x5_1) == 93) = false := beq_eq_false_iff_ne.mpr c5
            have c5b1 : ((rd l0 x5_1) != 93) = true := bne_iff_ne.mpr c5
            have H' := Aside0.mk H
            clear H
            have p204 : 0 ≤ (x5_1 : Int) := of_decide_eq_true (by first | (with_reducible assumption) | assumption)
            have q204 : x5_1 < (l0.length : Int) := of_decide_eq_true (by first | (with_reducible assumption) | assumption)
            obtain ⟨ad204, e204, hx204_0⟩ := Kd.at_int HR0.out x5_1 p204 q204
            cases e204
            replace p204 := eq_true p204
            replace q204 := eq_true q204
            go_wp2
            go_roundg k1
            case measure => have := HK1.out; omega
            case rel => exact ⟨(wrap64 (x5_1 + 1)), (by first | rfl | (simp; done) | (simp [*]; done)), H', ⟨by have := HK1.out; omega⟩, by repeat (first | exact Drawn0.refl _ | apply Drawn0.step)⟩
        · rw [if_neg c4] at H
          exact absurd H (by simp)
      · rw [if_neg c3] at H
        have c3b0 : decide (x5_1 < (l0.length : Int)) = false := decide_eq_false c3
        clear c3
        obtain rfl := Option.some.inj H
        go_wp2
        go_ret
        exact ⟨by first | rfl | (simp; done) | (simp [*]; done), by repeat (first | exact Drawn0.refl _ | apply Drawn0.step)⟩
end Go.Proofs.YtdogljnddalgdaaDoor.A4
end
section
namespace Go.Proofs.YtdogljnddalgdaaDoor.A4
open Go.RowKit Go.Proofs.YtdogljnddalgdaaDoorW.PrintWords Go.Proofs.YtdogljnddalgdaaDoorW.PrintLast Go.Proofs.YtdogljnddalgdaaDoorW.PrintMore
attribute [local go_sem] max2_int min2_int max_two min_two max_three min_three max_four min_four   -- for this text's walks alone
set_option linter.unusedVariables false
set_option linter.unusedSimpArgs false
mutual
def flongref04_Name.l0 : Nat → ByteArray → List ByteArray → List Int → Int → Option (Int)
  | 0, _, _, _, _ => none
  | k + 1, x0, x3, x4, x5 => if x5 < (x3.length : Int) then (if 0 ≤ x5 then (if (rdOf ByteArray.empty x3 x5).toList = x0.toList then (if x5 < (x4.length : Int) then (some (wrap64 (rd x4 x5))) else (none)) else (flongref04_Name.l0 k x0 x3 x4 (wrap64 (x5 + 1)))) else (none)) else (if (x0.size : Int) < 5 then (flongref04_Name.j1 k x0 true) else (if (x0.size : Int) > 7 then (flongref04_Name.j1 k x0 true) else (if 0 < (x0.size : Int) then (flongref04_Name.j1 k x0 ((bt x0 0) != 117)) else (none))))
def flongref04_Name.j1 : Nat → ByteArray → Bool → Option (Int)
  | 0, _, _ => none
  | k + 1, x0, x42 => if x42 = true then (some (-1)) else (flongref04_Name.l1 k x0 0 1)
def flongref04_Name.l1 : Nat → ByteArray → Int → Int → Option (Int)
  | 0, _, _, _ => none
  | k + 1, x0, x6, x7 => if x7 < (x0.size : Int) then (if 0 ≤ x7 then (if (wrap64 (bt x0 x7)) ≥ 48 then (flongref04_Name.j3 k x0 x6 x7 (wrap64 (bt x0 x7)) (decide ((wrap64 (bt x0 x7)) ≤ 57))) else (flongref04_Name.j3 k x0 x6 x7 (wrap64 (bt x0 x7)) false)) else (none)) else (if x6 > 1114111 then (some (-1)) else ((flongref02_Safe.f (wrap32 (x6))).bind fun t189 => (if t189 = (wrap32 (x6)) then (some x6) else (some (-1)))))
def flongref04_Name.j3 : Nat → ByteArray → Int → Int → Int → Bool → Option (Int)
  | 0, _, _, _, _, _ => none
  | k + 1, x0, x6, x7, x8, x58 => if x58 = true then (flongref04_Name.l1 k x0 (wrap64 ((wrap64 ((wrap64 (16 * x6)) + x8)) - 48)) (wrap64 (x7 + 1))) else (if x8 ≥ 65 then (if x8 ≤ 70 then (flongref04_Name.l1 k x0 (wrap64 ((wrap64 ((wrap64 (16 * x6)) + x8)) - 55)) (wrap64 (x7 + 1))) else (some (-1))) else (some (-1)))
end
def flongref04_Name.f (k : Nat) (a0 : ByteArray) : Option (Int) := (flongref04_all.f).bind fun bt181 => (flongref04_Name.l0 k a0 bt181.1 bt181.2 0)
theorem flongref04_Name.mono_l : ∀ k, (∀ y0 y1 y2 y3, LeO (flongref04_Name.l0 k y0 y1 y2 y3) (flongref04_Name.l0 (k + 1) y0 y1 y2 y3)) ∧ (∀ y0 y1, LeO (flongref04_Name.j1 k y0 y1) (flongref04_Name.j1 (k + 1) y0 y1)) ∧ (∀ y0 y1 y2, LeO (flongref04_Name.l1 k y0 y1 y2) (flongref04_Name.l1 (k + 1) y0 y1 y2)) ∧ (∀ y0 y1 y2 y3 y4, LeO (flongref04_Name.j3 k y0 y1 y2 y3 y4) (flongref04_Name.j3 (k + 1) y0 y1 y2 y3 y4))
  | 0 => ⟨fun _ _ _ _ r h => by simp [flongref04_Name.l0] at h, fun _ _ r h => by simp [flongref04_Name.j1] at h, fun _ _ _ r h => by simp [flongref04_Name.l1] at h, fun _ _ _ _ _ r h => by simp [flongref04_Name.j3] at h⟩
  | k + 1 => by
    obtain ⟨ih0, ih1, ih2, ih3⟩ := flongref04_Name.mono_l k
    refine ⟨?_, ?_, ?_, ?_⟩
    · intro y0 y1 y2 y3
      unfold flongref04_Name.l0
      repeat' first
      | (with_reducible exact ih0 _ _ _ _)
      | (with_reducible exact ih1 _ _)
      | (with_reducible exact ih2 _ _ _)
      | (with_reducible exact ih3 _ _ _ _ _)
      | (with_reducible exact LeO.refl _)
      | (with_reducible exact LeO.none _)
      | (with_reducible refine LeO.ite ?_ ?_)
      | (with_reducible refine LeO.bind ?_ (fun _ => ?_))
      | exact ih0 _ _ _ _
      | exact ih1 _ _
      | exact ih2 _ _ _
      | exact ih3 _ _ _ _ _
      | exact LeO.none _
      | refine LeO.ite ?_ ?_
      | refine LeO.bind ?_ (fun _ => ?_)
    · intro y0 y1
      unfold flongref04_Name.j1
      repeat' first
      | (with_reducible exact ih0 _ _ _ _)
      | (with_reducible exact ih1 _ _)
      | (with_reducible exact ih2 _ _ _)
      | (with_reducible exact ih3 _ _ _ _ _)
      | (with_reducible exact LeO.refl _)
      | (with_reducible exact LeO.none _)
      | (with_reducible refine LeO.ite ?_ ?_)
      | (with_reducible refine LeO.bind ?_ (fun _ => ?_))
      | exact ih0 _ _ _ _
      | exact ih1 _ _
      | exact ih2 _ _ _
      | exact ih3 _ _ _ _ _
      | exact LeO.none _
      | refine LeO.ite ?_ ?_
      | refine LeO.bind ?_ (fun _ => ?_)
    · intro y0 y1 y2
      unfold flongref04_Name.l1
      repeat' first
      | (with_reducible exact ih0 _ _ _ _)
      | (with_reducible exact ih1 _ _)
      | (with_reducible exact ih2 _ _ _)
      | (with_reducible exact ih3 _ _ _ _ _)
      | (with_reducible exact LeO.refl _)
      | (with_reducible exact LeO.none _)
      | (with_reducible refine LeO.ite ?_ ?_)
      | (with_reducible refine LeO.bind ?_ (fun _ => ?_))
      | exact ih0 _ _ _ _
      | exact ih1 _ _
      | exact ih2 _ _ _
      | exact ih3 _ _ _ _ _
      | exact LeO.none _
      | refine LeO.ite ?_ ?_
      | refine LeO.bind ?_ (fun _ => ?_)
    · intro y0 y1 y2 y3 y4
      unfold flongref04_Name.j3
      repeat' first
      | (with_reducible exact ih0 _ _ _ _)
      | (with_reducible exact ih1 _ _)
      | (with_reducible exact ih2 _ _ _)
      | (with_reducible exact ih3 _ _ _ _ _)
      | (with_reducible exact LeO.refl _)
      | (with_reducible exact LeO.none _)
      | (with_reducible refine LeO.ite ?_ ?_)
      | (with_reducible refine LeO.bind ?_ (fun _ => ?_))
      | exact ih0 _ _ _ _
      | exact ih1 _ _
      | exact ih2 _ _ _
      | exact ih3 _ _ _ _ _
      | exact LeO.none _
      | refine LeO.ite ?_ ?_
      | refine LeO.bind ?_ (fun _ => ?_)
theorem flongref04_Name.mono : ∀ a0 k, LeO (flongref04_Name.f k a0) (flongref04_Name.f (k + 1) a0) := by
  intro a0 k
  obtain ⟨ih0, ih1, ih2, ih3⟩ := flongref04_Name.mono_l k
  unfold flongref04_Name.f
  repeat' first
      | (with_reducible exact ih0 _ _ _ _)
      | (with_reducible exact ih1 _ _)
      | (with_reducible exact ih2 _ _ _)
      | (with_reducible exact ih3 _ _ _ _ _)
      | (with_reducible exact LeO.refl _)
      | (with_reducible exact LeO.none _)
      | (with_reducible refine LeO.ite ?_ ?_)
      | (with_reducible refine LeO.bind ?_ (fun _ => ?_))
      | exact ih0 _ _ _ _
      | exact ih1 _ _
      | exact ih2 _ _ _
      | exact ih3 _ _ _ _ _
      | exact LeO.none _
      | refine LeO.ite ?_ ?_
      | refine LeO.bind ?_ (fun _ => ?_)
set_option maxHeartbeats 8000000 in
set_option maxRecDepth 100000 in
theorem flongref04_Name.calls (k : Nat) (a0 : ByteArray) (r : Int) (w : World) (h : flongref04_Name.f k a0 = some r) :
    Calls Tryd.prog 21 #[.string a0] w fun e w' => e = .returned (.int .i64 r) ∧ Below w.heap.size w w' := by
  have HB := Aside0.mk (Below.refl w.heap.size w)
  have H : ((flongref04_all.f).bind fun bt181 => (flongref04_Name.l0 k a0 bt181.1 bt181.2 0)) = some r := h
  clear h
  replace H := Option.bind_eq_some_iff.mp H
  obtain ⟨⟨t181, t182⟩, A20, H⟩ := H
  replace H : (flongref04_Name.l0 k a0 t181 t182 0) = some r := H
  have A2 := Aside0.mk A20
  clear A20
  have H' := Aside0.mk H
  clear H
  go_enter Tryd.func21, Tryd.ntmps21
  go_wp2_with (first | ((with_reducible refine gate_callee (f := 49) rfl ?_); refine goesL_ (some 10) rfl rfl Tryd.func49 (by kernel_rfl) rfl #[] rfl (by (try simp only [List.map_toArray, List.map_cons, List.map_nil]); first | done | rfl | (simp only [List.length_drop, List.length_take]; rfl)) ?_; (with_reducible refine (flongref04_all.calls  t181 t182 _ A2.out).mono ?_); rintro e w3 ⟨v183, v185, rfl, ho0, ho1, hb⟩; refine ⟨_, rfl, ?_⟩; have n0_ := Aside0.mk (Kd.R_lower ho0 (below_size (by repeat (first | (with_reducible first | exact HB.out | apply below_alloc | apply pw_below_drewN | apply below_drew1) | exact HB.out)))); have n1_ := Aside0.mk (Kd.R_lower ho1 (below_size (by repeat (first | (with_reducible first | exact HB.out | apply below_alloc | apply pw_below_drewN | apply below_drew1) | exact HB.out)))); have n2_ := Aside0.mk (below_step (by repeat (first | (with_reducible first | exact HB.out | apply below_alloc | apply pw_below_drewN | apply below_drew1) | exact HB.out)) hb); clear HB; have HO184 := n0_; have HO186 := n1_; have HB := n2_; clear n0_ n1_ n2_; (try clear hb); (try clear hb2); (try clear hk); (try clear hi); (try clear ho0); (try clear ho1)))
  go_loopg [5] k (fun kq v5 w' => ∃ (x5_1 : Int), v5 = .int .i64 x5_1 ∧ Aside0 (flongref04_Name.l0 kq a0 t181 t182 x5_1 = some r) ∧ Aside0 (kq ≤ k) ∧ Aside0 (Kd.R Kd.string 9 w' w.heap.size (fun _ => True) v183 t181) ∧ Aside0 (Kd.R (Kd.int .i32) 21 w' w.heap.size (fun _ => True) v185 t182) ∧ Aside0 (Below w.heap.size w w'))
  case atStart => exact ⟨(0), (by first | rfl | (simp; done) | (simp [*]; done)), H', ⟨Nat.le_refl _⟩, ⟨by (with_reducible repeat (first | apply Kd.R_alloc | apply Kd.R_drewN | apply Kd.R_drew)); exact HO184.out⟩, ⟨by (with_reducible repeat (first | apply Kd.R_alloc | apply Kd.R_drewN | apply Kd.R_drew)); exact HO186.out⟩, ⟨by repeat (first | (with_reducible first | exact HB.out | apply below_alloc | apply pw_below_drewN | apply below_drew1) | exact HB.out)⟩⟩
  case round =>
    clear H'
    try clear c2
    try clear p2
    obtain ⟨x5_1, rfl, HA, HK1, HO_3, HO_4, HB⟩ := hrel
    cases gk with
    | zero => exact absurd HA.out (by simp [flongref04_Name.l0])
    | succ k1 =>
      have H := HA.out
      clear HA
      simp only [flongref04_Name.l0] at H
      by_cases c4 : x5_1 < (t181.length : Int)
      · rw [if_pos c4] at H
        have c4b0 : decide (x5_1 < (t181.length : Int)) = true := decide_eq_true c4
        clear c4
        by_cases c5 : 0 ≤ x5_1
        · rw [if_pos c5] at H
          have c5b0 : decide (0 ≤ x5_1) = true := decide_eq_true c5
          clear c5
          by_cases c6 : (rdOf ByteArray.empty t181 x5_1).toList = a0.toList
          · rw [if_pos c6] at H
            have c6b0 : ((rdOf ByteArray.empty t181 x5_1).toList == a0.toList) = true := beq_iff_eq.mpr c6
            have c6b1 : ((rdOf ByteArray.empty t181 x5_1).toList != a0.toList) = false := bne_eq_false_iff_eq.mpr c6
            clear c6
            by_cases c7 : x5_1 < (t182.length : Int)
            · rw [if_pos c7] at H
              have c7b0 : decide (x5_1 < (t182.length : Int)) = true := decide_eq_true c7
              clear c7
              obtain rfl := Option.some.inj H
              obtain ⟨Ao8, co8, eo8⟩ := Kd.R_slice HO_3.out
              subst eo8
              have p187 : 0 ≤ (x5_1 : Int) := of_decide_eq_true (by first | (with_reducible assumption) | assumption)
              have q187 : x5_1 < (t181.length : Int) := of_decide_eq_true (by first | (with_reducible assumption) | assumption)
              obtain ⟨ad187, e187, hx187_0⟩ := Kd.at_string (Kd.R_reads' HO_3.out).2.2 x5_1 p187 q187
              cases e187
              replace p187 := eq_true p187
              replace q187 := eq_true q187
              obtain ⟨Ao9, co9, eo9⟩ := Kd.R_slice HO_4.out
              subst eo9
              have p188 : 0 ≤ (x5_1 : Int) := of_decide_eq_true (by first | (with_reducible assumption) | assumption)
              have q188 : x5_1 < (t182.length : Int) := of_decide_eq_true (by first | (with_reducible assumption) | assumption)
              obtain ⟨ad188, e188, hx188_0⟩ := Kd.at_int (Kd.R_reads' HO_4.out).2.2 x5_1 p188 q188
              cases e188
              replace p188 := eq_true p188
              replace q188 := eq_true q188
              go_wp2
              go_ret
              exact ⟨by first | rfl | (simp [errW_none, errW_some] <;> rfl) | (simp [*, errW_none, errW_some] <;> rfl), by repeat (first | (with_reducible first | exact HB.out | apply below_alloc | apply pw_below_drewN | apply below_drew1) | exact HB.out)⟩
            · rw [if_neg c7] at H
              exact absurd H (by simp)
          · rw [if_neg c6] at H
            have c6b0 : ((rdOf ByteArray.empty t181 x5_1).toList == a0.toList) = false := beq_eq_false_iff_ne.mpr c6
            have c6b1 : ((rdOf ByteArray.empty t181 x5_1).toList != a0.toList) = true := bne_iff_ne.mpr c6
            have H' := Aside0.mk H
            clear H
            obtain ⟨Ao10, co10, eo10⟩ := Kd.R_slice HO_3.out
            subst eo10
            have p187 : 0 ≤ (x5_1 : Int) := of_decide_eq_true (by first | (with_reducible assumption) | assumption)
            have q187 : x5_1 < (t181.length : Int) := of_decide_eq_true (by first | (with_reducible assumption) | assumption)
            obtain ⟨ad187, e187, hx187_0⟩ := Kd.at_string (Kd.R_reads' HO_3.out).2.2 x5_1 p187 q187
            cases e187
            replace p187 := eq_true p187
            replace q187 := eq_true q187
            go_wp2
            go_roundg k1
            case measure => have := HK1.out; omega
            case rel => exact ⟨(wrap64 (x5_1 + 1)), (by first | rfl | (simp; done) | (simp [*]; done)), H', ⟨by have := HK1.out; omega⟩, ⟨by (with_reducible repeat (first | apply Kd.R_alloc | apply Kd.R_drewN | apply Kd.R_drew)); exact HO_3.out⟩, ⟨by (with_reducible repeat (first | apply Kd.R_alloc | apply Kd.R_drewN | apply Kd.R_drew)); exact HO_4.out⟩, ⟨by repeat (first | (with_reducible first | exact HB.out | apply below_alloc | apply pw_below_drewN | apply below_drew1) | exact HB.out)⟩⟩
        · rw [if_neg c5] at H
          exact absurd H (by simp)
      · rw [if_neg c4] at H
        have c4b0 : decide (x5_1 < (t181.length : Int)) = false := decide_eq_false c4
        clear c4
        have HC11 := Aside0.mk H
        clear H
        obtain ⟨Ao12, co12, eo12⟩ := Kd.R_slice HO_3.out
        subst eo12
        go_upto_region 7 with (fail)
        go_cut [42] (fun v42 wc => ∃ (kq : Nat) (x42_10 : Bool), v42 = .bool x42_10 ∧ Aside0 (flongref04_Name.j1 kq a0 x42_10 = some r) ∧ Aside0 (kq ≤ k1) ∧ Aside0 (Below w.heap.size w wc))
        case first =>
          have H := HC11.out
          clear HC11
          by_cases c13 : (a0.size : Int) < 5
          · rw [if_pos c13] at H
            have c13b0 : decide ((a0.size : Int) < 5) = true := decide_eq_true c13
            have c13b1 : decide (a0.size < 5) = true := decide_eq_true (by omega)
            clear c13
            (first | rw [c13b0] | (simp only [i64_w, i32_w]; rw [c13b0]) | skip)
            have H' := Aside0.mk H
            clear H
            go_wp2
            go_meet
            case rel => exact ⟨_, (true), (by first | rfl | (simp; done) | (simp [*]; done)), H', ⟨by have := HK1.out; first | omega | exact Nat.le_refl _⟩, ⟨by repeat (first | (with_reducible first | exact HB.out | apply below_alloc | apply pw_below_drewN | apply below_drew1) | exact HB.out)⟩⟩
          · rw [if_neg c13] at H
            have c13b0 : decide ((a0.size : Int) < 5) = false := decide_eq_false c13
            have c13b1 : decide (a0.size < 5) = false := decide_eq_false (by omega)
            clear c13
            (first | rw [c13b0] | (simp only [i64_w, i32_w]; rw [c13b0]) | skip)
            by_cases c14 : (a0.size : Int) > 7
            · rw [if_pos c14] at H
              have c14b0 : decide (7 < (a0.size : Int)) = true := decide_eq_true c14
              have c14b1 : decide (7 < a0.size) = true := decide_eq_true (by omega)
              clear c14
              have H' := Aside0.mk H
              clear H
              go_wp2
              go_meet
              case rel => exact ⟨_, (true), (by first | rfl | (simp; done) | (simp [*]; done)), H', ⟨by have := HK1.out; first | omega | exact Nat.le_refl _⟩, ⟨by repeat (first | (with_reducible first | exact HB.out | apply below_alloc | apply pw_below_drewN | apply below_drew1) | exact HB.out)⟩⟩
            · rw [if_neg c14] at H
              have c14b0 : decide (7 < (a0.size : Int)) = false := decide_eq_false c14
              have c14b1 : decide (7 < a0.size) = false := decide_eq_false (by omega)
              clear c14
              by_cases c15 : 0 < (a0.size : Int)
              · rw [if_pos c15] at H
                have c15b0 : decide (0 < (a0.size : Int)) = true := decide_eq_true c15
                have c15b1 : decide (0 < a0.size) = true := decide_eq_true (by omega)
                clear c15
                have H' := Aside0.mk H
                clear H
                have p16 : 0 ≤ (0 : Int) := (by omega)
                have q16 : 0 < a0.size := (by have : (0 : Int) < (a0.size : Int) := of_decide_eq_true (by first | (with_reducible assumption) | assumption); omega)
                have hx16 : ∀ h : 0 < a0.size, ((a0[0]'h).toNat : Int) = bt a0 0 := bt_at a0 0
                clear p16
                have qi16 : (0 < (a0.size : Int)) = True := eq_true (of_decide_eq_true (by first | (with_reducible assumption) | assumption))
                replace q16 := eq_true q16
                go_wp2
                go_meet
                case rel => exact ⟨_, (((bt a0 0) != 117)), (by first | rfl | (simp; done) | (simp [*]; done)), H', ⟨by have := HK1.out; first | omega | exact Nat.le_refl _⟩, ⟨by repeat (first | (with_reducible first | exact HB.out | apply below_alloc | apply pw_below_drewN | apply below_drew1) | exact HB.out)⟩⟩
              · rw [if_neg c15] at H
                exact absurd H (by simp)
        case rest =>
          clear HC11
          try clear c1
          try clear p1
          try clear q1
          try clear hx1
          try clear qi1
          try clear c2
          try clear p2
          try clear c4
          try clear c4b0
          try clear c5
          try clear c5b0
          try clear c6
          try clear c6b0
          try clear c6b1
          try clear p6
          try clear c7
          try clear c7b0
          try clear c13
          try clear c13b0
          try clear c13b1
          try clear c14
          try clear c14b0
          try clear c14b1
          try clear c15
          try clear c15b0
          try clear c15b1
          try clear p16
          try clear q16
          try clear hx16
          try clear qi16
          try clear hx187_0
          try clear hx188_0
          try clear p16
          try clear p187
          try clear p188
          try clear p2
          try clear q16
          try clear q187
          try clear q188
          obtain ⟨kq, x42_10, rfl, HA, HJ10, HB⟩ := hcut
          cases kq with
          | zero => exact absurd HA.out (by simp [flongref04_Name.j1])
          | succ kj10 =>
            have H := HA.out
            clear HA
            simp only [flongref04_Name.j1] at H
            by_cases c17 : x42_10 = true
            · subst c17
              have H1 : (some (-1)) = some r := by rw [if_pos rfl] at H; exact H
              clear H
              have H := H1
              clear H1
              obtain rfl := Option.some.inj H
              go_wp2
              go_ret
              exact ⟨by first | rfl | (simp [errW_none, errW_some] <;> rfl) | (simp [*, errW_none, errW_some] <;> rfl), by repeat (first | (with_reducible first | exact HB.out | apply below_alloc | apply pw_below_drewN | apply below_drew1) | exact HB.out)⟩
            · replace c17 := Bool.eq_false_iff.mpr c17
              subst c17
              have H1 : (flongref04_Name.l1 kj10 a0 0 1) = some r := by rw [if_neg (show ¬ (false = true) by decide)] at H; exact H
              clear H
              have H := H1
              clear H1
              have H' := Aside0.mk H
              clear H
              go_wp2
              go_loopg [6, 7] kj10 (fun kq v6 v7 w' => ∃ (x6_3 : Int) (x7_3 : Int), v6 = .int .i64 x6_3 ∧ v7 = .int .i64 x7_3 ∧ Aside0 (flongref04_Name.l1 kq a0 x6_3 x7_3 = some r) ∧ Aside0 (kq ≤ kj10) ∧ Aside0 (Below w.heap.size w w'))
              case atStart => exact ⟨(0), (1), (by first | rfl | (simp; done) | (simp [*]; done)), (by first | rfl | (simp; done) | (simp [*]; done)), H', ⟨Nat.le_refl _⟩, ⟨by repeat (first | (with_reducible first | exact HB.out | apply below_alloc | apply pw_below_drewN | apply below_drew1) | exact HB.out)⟩⟩
              case round =>
                clear H'
                try clear c1
                try clear p1
                try clear q1
                try clear hx1
                try clear qi1
                try clear c2
                try clear p2
                try clear c4
                try clear c4b0
                try clear c5
                try clear c5b0
                try clear c6
                try clear c6b0
                try clear c6b1
                try clear p6
                try clear c7
                try clear c7b0
                try clear c13
                try clear c13b0
                try clear c13b1
                try clear c14
                try clear c14b0
                try clear c14b1
                try clear c15
                try clear c15b0
                try clear c15b1
                try clear p16
                try clear q16
                try clear hx16
                try clear qi16
                try clear c17
                try clear hx187_0
                try clear hx188_0
                try clear p1
                try clear p16
                try clear p187
                try clear p188
                try clear p2
                try clear p6
                try clear q1
                try clear q16
                try clear q187
                try clear q188
                obtain ⟨x6_3, x7_3, rfl, rfl, HA, HK3, HB⟩ := hrel
                cases gk with
                | zero => exact absurd HA.out (by simp [flongref04_Name.l1])
                | succ k3 =>
                  have H := HA.out
                  clear HA
                  simp only [flongref04_Name.l1] at H
                  by_cases c18 : x7_3 < (a0.size : Int)
                  · rw [if_pos c18] at H
                    have c18b0 : decide (x7_3 < (a0.size : Int)) = true := decide_eq_true c18
                    clear c18
                    by_cases c19 : 0 ≤ x7_3
                    · rw [if_pos c19] at H
                      have c19b0 : decide (0 ≤ x7_3) = true := decide_eq_true c19
                      clear c19
                      have HC21 := Aside0.mk H
                      clear H
                      have p20 : 0 ≤ (x7_3 : Int) := of_decide_eq_true (by first | (with_reducible assumption) | assumption)
                      have q20 : x7_3 < (a0.size : Int) := of_decide_eq_true (by first | (with_reducible assumption) | assumption)
                      have hx20 := bt_at a0 x7_3
                      replace p20 := eq_true p20
                      replace q20 := eq_true q20
                      go_upto_region 14 with (fail)
                      go_cut [58] (fun v58 wc => ∃ (kq : Nat) (x58_20 : Bool), v58 = .bool x58_20 ∧ Aside0 (flongref04_Name.j3 kq a0 x6_3 x7_3 (wrap64 (bt a0 x7_3)) x58_20 = some r) ∧ Aside0 (kq ≤ k3) ∧ Aside0 (Below w.heap.size w wc))
                      case first =>
                        have H := HC21.out
                        clear HC21
                        by_cases c22 : (wrap64 (bt a0 x7_3)) ≥ 48
                        · rw [if_pos c22] at H
                          have c22b0 : decide (48 ≤ (wrap64 (bt a0 x7_3))) = true := decide_eq_true c22
                          clear c22
                          (first | rw [c22b0] | (simp only [i64_w, i32_w]; rw [c22b0]) | skip)
                          have H' := Aside0.mk H
                          clear H
                          go_wp2
                          go_meet
                          case rel => exact ⟨_, (decide ((wrap64 (bt a0 x7_3)) ≤ 57)), (by first | rfl | (simp; done) | (simp [*]; done)), H', ⟨by have := HK1.out; have := HJ10.out; have := HK3.out; first | omega | exact Nat.le_refl _⟩, ⟨by repeat (first | (with_reducible first | exact HB.out | apply below_alloc | apply pw_below_drewN | apply below_drew1) | exact HB.out)⟩⟩
                        · rw [if_neg c22] at H
                          have c22b0 : decide (48 ≤ (wrap64 (bt a0 x7_3))) = false := decide_eq_false c22
                          clear c22
                          (first | rw [c22b0] | (simp only [i64_w, i32_w]; rw [c22b0]) | skip)
                          have H' := Aside0.mk H
                          clear H
                          go_wp2
                          go_meet
                          case rel => exact ⟨_, (false), (by first | rfl | (simp; done) | (simp [*]; done)), H', ⟨by have := HK1.out; have := HJ10.out; have := HK3.out; first | omega | exact Nat.le_refl _⟩, ⟨by repeat (first | (with_reducible first | exact HB.out | apply below_alloc | apply pw_below_drewN | apply below_drew1) | exact HB.out)⟩⟩
                      case rest =>
                        clear HC21
                        try clear c1
                        try clear p1
                        try clear q1
                        try clear hx1
                        try clear qi1
                        try clear c2
                        try clear p2
                        try clear q2
                        try clear hx2
                        try clear c4
                        try clear c4b0
                        try clear c5
                        try clear c5b0
                        try clear c6
                        try clear c6b0
                        try clear c6b1
                        try clear p6
                        try clear c7
                        try clear c7b0
                        try clear c13
                        try clear c13b0
                        try clear c13b1
                        try clear c14
                        try clear c14b0
                        try clear c14b1
                        try clear c15
                        try clear c15b0
                        try clear c15b1
                        try clear p16
                        try clear q16
                        try clear hx16
                        try clear qi16
                        try clear c17
                        try clear c18
                        try clear c18b0
                        try clear p18
                        try clear q18
                        try clear hx18
                        try clear c19
                        try clear c19b0
                        try clear p20
                        try clear q20
                        try clear hx20
                        try clear c21
                        try clear c22
                        try clear c22b0
                        try clear hx187_0
                        try clear hx188_0
                        try clear p1
                        try clear p16
                        try clear p187
                        try clear p188
                        try clear p2
                        try clear p20
                        try clear p6
                        try clear q1
                        try clear q16
                        try clear q187
                        try clear q188
                        try clear q20
                        obtain ⟨kq, x58_20, rfl, HA, HJ20, HB⟩ := hcut
                        cases kq with
                        | zero => exact absurd HA.out (by simp [flongref04_Name.j3])
                        | succ kj20 =>
                          have H := HA.out
                          clear HA
                          simp only [flongref04_Name.j3] at H
                          by_cases c23 : x58_20 = true
                          · subst c23
                            have H1 : (flongref04_Name.l1 kj20 a0 (wrap64 ((wrap64 ((wrap64 (16 * x6_3)) + (wrap64 (bt a0 x7_3)))) - 48)) (wrap64 (x7_3 + 1))) = some r := by rw [if_pos rfl] at H; exact H
                            clear H
                            have H := H1
                            clear H1
                            have H' := Aside0.mk H
                            clear H
                            go_wp2
                            go_roundg kj20
                            case measure => have := HK1.out; have := HJ10.out; have := HK3.out; have := HJ20.out; omega
                            case rel => exact ⟨(wrap64 ((wrap64 ((wrap64 (16 * x6_3)) + (wrap64 (bt a0 x7_3)))) - 48)), (wrap64 (x7_3 + 1)), (by first | rfl | (simp; done) | (simp [*]; done)), (by first | rfl | (simp; done) | (simp [*]; done)), H', ⟨by have := HK1.out; have := HJ10.out; have := HK3.out; have := HJ20.out; omega⟩, ⟨by repeat (first | (with_reducible first | exact HB.out | apply below_alloc | apply pw_below_drewN | apply below_drew1) | exact HB.out)⟩⟩
                          · replace c23 := Bool.eq_false_iff.mpr c23
                            subst c23
                            have H1 : (if (wrap64 (bt a0 x7_3)) ≥ 65 then (if (wrap64 (bt a0 x7_3)) ≤ 70 then (flongref04_Name.l1 kj20 a0 (wrap64 ((wrap64 ((wrap64 (16 * x6_3)) + (wrap64 (bt a0 x7_3)))) - 55)) (wrap64 (x7_3 + 1))) else (some (-1))) else (some (-1))) = some r := by rw [if_neg (show ¬ (false = true) by decide)] at H; exact H
                            clear H
                            have H := H1
                            clear H1
                            by_cases c24 : (wrap64 (bt a0 x7_3)) ≥ 65
                            · rw [if_pos c24] at H
                              have c24b0 : decide (65 ≤ (wrap64 (bt a0 x7_3))) = true := decide_eq_true c24
                              clear c24
                              by_cases c25 : (wrap64 (bt a0 x7_3)) ≤ 70
                              · rw [if_pos c25] at H
                                have c25b0 : decide ((wrap64 (bt a0 x7_3)) ≤ 70) = true := decide_eq_true c25
                                clear c25
                                have H' := Aside0.mk H
                                clear H
                                go_wp2
                                go_roundg kj20
                                case measure => have := HK1.out; have := HJ10.out; have := HK3.out; have := HJ20.out; omega
                                case rel => exact ⟨(wrap64 ((wrap64 ((wrap64 (16 * x6_3)) + (wrap64 (bt a0 x7_3)))) - 55)), (wrap64 (x7_3 + 1)), (by first | rfl | (simp; done) | (simp [*]; done)), (by first | rfl | (simp; done) | (simp [*]; done)), H', ⟨by have := HK1.out; have := HJ10.out; have := HK3.out; have := HJ20.out; omega⟩, ⟨by repeat (first | (with_reducible first | exact HB.out | apply below_alloc | apply pw_below_drewN | apply below_drew1) | exact HB.out)⟩⟩
                              · rw [if_neg c25] at H
                                have c25b0 : decide ((wrap64 (bt a0 x7_3)) ≤ 70) = false := decide_eq_false c25
                                clear c25
                                obtain rfl := Option.some.inj H
                                go_wp2
                                go_ret
                                exact ⟨by first | rfl | (simp [errW_none, errW_some] <;> rfl) | (simp [*, errW_none, errW_some] <;> rfl), by repeat (first | (with_reducible first | exact HB.out | apply below_alloc | apply pw_below_drewN | apply below_drew1) | exact HB.out)⟩
                            · rw [if_neg c24] at H
                              have c24b0 : decide (65 ≤ (wrap64 (bt a0 x7_3))) = false := decide_eq_false c24
                              clear c24
                              obtain rfl := Option.some.inj H
                              go_wp2
                              go_ret
                              exact ⟨by first | rfl | (simp [errW_none, errW_some] <;> rfl) | (simp [*, errW_none, errW_some] <;> rfl), by repeat (first | (with_reducible first | exact HB.out | apply below_alloc | apply pw_below_drewN | apply below_drew1) | exact HB.out)⟩
                    · rw [if_neg c19] at H
                      exact absurd H (by simp)
                  · rw [if_neg c18] at H
                    have c18b0 : decide (x7_3 < (a0.size : Int)) = false := decide_eq_false c18
                    clear c18
                    by_cases c26 : x6_3 > 1114111
                    · rw [if_pos c26] at H
                      have c26b0 : decide (1114111 < x6_3) = true := decide_eq_true c26
                      clear c26
                      obtain rfl := Option.some.inj H
                      go_wp2
                      go_ret
                      exact ⟨by first | rfl | (simp [errW_none, errW_some] <;> rfl) | (simp [*, errW_none, errW_some] <;> rfl), by repeat (first | (with_reducible first | exact HB.out | apply below_alloc | apply pw_below_drewN | apply below_drew1) | exact HB.out)⟩
                    · rw [if_neg c26] at H
                      have c26b0 : decide (1114111 < x6_3) = false := decide_eq_false c26
                      clear c26
                      replace H := Option.bind_eq_some_iff.mp H
                      obtain ⟨t189, A270, H⟩ := H
                      replace H : (if t189 = (wrap32 (x6_3)) then (some x6_3) else (some (-1))) = some r := H
                      have A27 := Aside0.mk A270
                      clear A270
                      by_cases c28 : t189 = (wrap32 (x6_3))
                      · rw [if_pos c28] at H
                        have c28b0 : (t189 == (wrap32 (x6_3))) = true := beq_iff_eq.mpr c28
                        have c28b1 : (t189 != (wrap32 (x6_3))) = false := bne_eq_false_iff_eq.mpr c28
                        clear c28
                        obtain rfl := Option.some.inj H
                        go_wp2_with (first | (go_at_call 26; (with_reducible refine (flongref02_Safe.calls (wrap32 (x6_3)) t189 _ A27.out).mono ?_); rintro e w' ⟨rfl, ⟨nd, rfl⟩⟩))
                        go_ret
                        exact ⟨by first | rfl | (simp [errW_none, errW_some] <;> rfl) | (simp [*, errW_none, errW_some] <;> rfl), by repeat (first | (with_reducible first | exact HB.out | apply below_alloc | apply pw_below_drewN | apply below_drew1) | exact HB.out)⟩
                      · rw [if_neg c28] at H
                        have c28b0 : (t189 == (wrap32 (x6_3))) = false := beq_eq_false_iff_ne.mpr c28
                        have c28b1 : (t189 != (wrap32 (x6_3))) = true := bne_iff_ne.mpr c28
                        obtain rfl := Option.some.inj H
                        go_wp2_with (first | (go_at_call 26; (with_reducible refine (flongref02_Safe.calls (wrap32 (x6_3)) t189 _ A27.out).mono ?_); rintro e w' ⟨rfl, ⟨nd, rfl⟩⟩))
                        go_ret
                        exact ⟨by first | rfl | (simp [errW_none, errW_some] <;> rfl) | (simp [*, errW_none, errW_some] <;> rfl), by repeat (first | (with_reducible first | exact HB.out | apply below_alloc | apply pw_below_drewN | apply below_drew1) | exact HB.out)⟩
end Go.Proofs.YtdogljnddalgdaaDoor.A4
end
