/- Of what the law StylesBack needs: part 10. -/
import Derived.ArgAppend
import Derived.Below
import Derived.BigQuiet
import Derived.Deep.AppendLies
import Derived.Deep.CutBlock
import Derived.Deep.DeepCutAuto
import Derived.Deep.Draws
import Derived.Deep.LoopGhost
import Derived.Deep.OwnRows
import Derived.Deep.QuietTactic
import Derived.Deep.RegionHeld3
import Derived.KernelRfl
import Derived.Laws.BitsLemmas
import Derived.Laws.BytesArg
import Derived.Laws.Cover4
import Derived.Laws.IdiomCopy
import Derived.Laws.MakeOwn
import Derived.Laws.OwnMore
import Derived.Laws.Rows
import Derived.Laws.Slices
import Derived.Laws.StructEq
import Derived.Lib.AppendStr
import Derived.Lib.ConvBytes
import Derived.Maps.AppendAt
import Derived.Maps.Own
import Derived.Maps.OwnOps
import Derived.Maps.OwnSet
import Derived.OrdersHeld
import Derived.Outline
import Derived.OwnWalk
import Derived.RowKit
import Derived.RowKit3
import Derived.StringKeys
import Derived.Tactics
import Derived.Test.YtdogljnddalgdaaDoorProg
import Derived.WalkKit
import Derived.WalkMore
import Derived.WideLaws
import Derived.Test.YtdogljnddalgdaaDoorBBack8
import Derived.Test.YtdogljnddalgdaaDoorBBack9
namespace Go.Proofs.YtdogljnddalgdaaDoorW.PrintLast
end Go.Proofs.YtdogljnddalgdaaDoorW.PrintLast
namespace Go.Proofs.YtdogljnddalgdaaDoorW.PrintMore
end Go.Proofs.YtdogljnddalgdaaDoorW.PrintMore
namespace Go.Proofs.YtdogljnddalgdaaDoorW.PrintWords
end Go.Proofs.YtdogljnddalgdaaDoorW.PrintWords
section
namespace Go.Proofs.YtdogljnddalgdaaDoor.A6
open Go.RowKit Go.Proofs.YtdogljnddalgdaaDoorW.PrintWords Go.Proofs.YtdogljnddalgdaaDoorW.PrintLast Go.Proofs.YtdogljnddalgdaaDoorW.PrintMore
attribute [local go_sem] max2_int min2_int max_two min_two max_three min_three max_four min_four   -- for this text's walks alone
set_option linter.unusedVariables false
set_option linter.unusedSimpArgs false
mutual
def escape_Name.j0 : Nat → ByteArray → Bool → Option (Int × Bool)
  | 0, _, _ => none
  | k + 1, x0, x30 => if x30 = true then (some (0, false)) else (escape_Name.l0 k x0 0 1)
def escape_Name.l0 : Nat → ByteArray → Int → Int → Option (Int × Bool)
  | 0, _, _, _ => none
  | k + 1, x0, x6, x7 => if x7 < (x0.size : Int) then (if 0 ≤ x7 then ((escape_digit.f k (bt x0 x7)).bind fun bt121 => (if bt121.2 = true then (escape_Name.l0 k x0 (Go.bits .or .i32 (wrap32 (x6 * 16)) bt121.1) (wrap64 (x7 + 1))) else (some (0, false)))) else (none)) else ((runes_Safe.f k x6).bind fun t123 => (if t123 = x6 then (some (x6, true)) else (some (0, false))))
end
def escape_Name.f (k : Nat) (a0 : ByteArray) : Option (Int × Bool) := if a0.size ≤ 9223372036854775807 then (if (look namesT a0).isSome = true then (some ((look namesT a0).getD 0, true)) else (if (a0.size : Int) < 5 then (escape_Name.j0 k a0 true) else (if (a0.size : Int) > 7 then (escape_Name.j0 k a0 true) else (if 0 < (a0.size : Int) then (escape_Name.j0 k a0 ((bt a0 0) != 117)) else (none))))) else (none)
theorem escape_Name.mono_l : ∀ k, (∀ y0 y1, LeO (escape_Name.j0 k y0 y1) (escape_Name.j0 (k + 1) y0 y1)) ∧ (∀ y0 y1 y2, LeO (escape_Name.l0 k y0 y1 y2) (escape_Name.l0 (k + 1) y0 y1 y2))
  | 0 => ⟨fun _ _ r h => by simp [escape_Name.j0] at h, fun _ _ _ r h => by simp [escape_Name.l0] at h⟩
  | k + 1 => by
    obtain ⟨ih0, ih1⟩ := escape_Name.mono_l k
    refine ⟨?_, ?_⟩
    · intro y0 y1
      unfold escape_Name.j0
      repeat' first
      | (with_reducible exact ih0 _ _)
      | (with_reducible exact ih1 _ _ _)
      | (with_reducible exact escape_digit.mono _ _)
      | (with_reducible exact runes_Safe.mono _ _)
      | (with_reducible exact LeO.refl _)
      | (with_reducible exact LeO.none _)
      | (with_reducible refine LeO.ite ?_ ?_)
      | (with_reducible refine LeO.bind ?_ (fun _ => ?_))
      | exact ih0 _ _
      | exact ih1 _ _ _
      | exact escape_digit.mono _ _
      | exact runes_Safe.mono _ _
      | exact LeO.none _
      | refine LeO.ite ?_ ?_
      | refine LeO.bind ?_ (fun _ => ?_)
    · intro y0 y1 y2
      unfold escape_Name.l0
      repeat' first
      | (with_reducible exact ih0 _ _)
      | (with_reducible exact ih1 _ _ _)
      | (with_reducible exact escape_digit.mono _ _)
      | (with_reducible exact runes_Safe.mono _ _)
      | (with_reducible exact LeO.refl _)
      | (with_reducible exact LeO.none _)
      | (with_reducible refine LeO.ite ?_ ?_)
      | (with_reducible refine LeO.bind ?_ (fun _ => ?_))
      | exact ih0 _ _
      | exact ih1 _ _ _
      | exact escape_digit.mono _ _
      | exact runes_Safe.mono _ _
      | exact LeO.none _
      | refine LeO.ite ?_ ?_
      | refine LeO.bind ?_ (fun _ => ?_)
theorem escape_Name.mono : ∀ a0 k, LeO (escape_Name.f k a0) (escape_Name.f (k + 1) a0) := by
  intro a0 k
  obtain ⟨ih0, ih1⟩ := escape_Name.mono_l k
  unfold escape_Name.f
  repeat' first
      | (with_reducible exact ih0 _ _)
      | (with_reducible exact ih1 _ _ _)
      | (with_reducible exact escape_digit.mono _ _)
      | (with_reducible exact runes_Safe.mono _ _)
      | (with_reducible exact LeO.refl _)
      | (with_reducible exact LeO.none _)
      | (with_reducible refine LeO.ite ?_ ?_)
      | (with_reducible refine LeO.bind ?_ (fun _ => ?_))
      | exact ih0 _ _
      | exact ih1 _ _ _
      | exact escape_digit.mono _ _
      | exact runes_Safe.mono _ _
      | exact LeO.none _
      | refine LeO.ite ?_ ?_
      | refine LeO.bind ?_ (fun _ => ?_)
set_option maxHeartbeats 8000000 in
set_option maxRecDepth 100000 in
theorem escape_Name.calls (k : Nat) (a0 : ByteArray) (r1 : Int) (r2 : Bool) (w : World) (hG : GL w) (h : escape_Name.f k a0 = some (r1, r2)) :
    Calls Tryd.prog 19 #[.string a0] w fun e w' => e = .returned (.tuple #[.int .i32 r1, .bool r2]) ∧ Drawn0 w w' := by
  have HG := Aside0.mk hG
  clear hG
  have H : (if a0.size ≤ 9223372036854775807 then (if (look namesT a0).isSome = true then (some ((look namesT a0).getD 0, true)) else (if (a0.size : Int) < 5 then (escape_Name.j0 k a0 true) else (if (a0.size : Int) > 7 then (escape_Name.j0 k a0 true) else (if 0 < (a0.size : Int) then (escape_Name.j0 k a0 ((bt a0 0) != 117)) else (none))))) else (none)) = some (r1, r2) := h
  clear h
  by_cases c2 : a0.size ≤ 9223372036854775807
  · rw [if_pos c2] at H
    have c2b0 := eq_true c2
    have c2b1 : decide (a0.size ≤ 9223372036854775807) = true := decide_eq_true c2
    try have c2b2 : (9223372036854775807 < a0.size) = False := eq_false (Nat.not_lt.2 c2)
    clear c2
    obtain ⟨bgl120, hcgl120, hrgl120⟩ := GL.look_namesT HG.out a0 (of_decide_eq_true (by first | (with_reducible assumption) | assumption))
    by_cases c3 : (look namesT a0).isSome = true
    · rw [if_pos c3] at H
      have c3b0 : (look namesT a0).isSome = true := c3
      clear c3
      simp only [Option.some.injEq, Prod.mk.injEq] at H
      obtain ⟨rfl, rfl⟩ := H
      go_enter Tryd.func19, Tryd.ntmps19
      go_wp2
      go_ret2
      exact ⟨by first | rfl | (simp; done) | (simp [*]; done), by repeat (first | exact Drawn0.refl _ | apply Drawn0.step)⟩
    · rw [if_neg c3] at H
      have c3b0 : (look namesT a0).isSome = false := by simpa using c3
      clear c3
      have HC4 := Aside0.mk H
      clear H
      go_enter Tryd.func19, Tryd.ntmps19
      go_upto_region 4 with (fail)
      go_cut [30] (fun v30 wc => ∃ (kq : Nat) (x30_3 : Bool), v30 = .bool x30_3 ∧ Aside0 (escape_Name.j0 kq a0 x30_3 = some (r1, r2)) ∧ Aside0 (kq ≤ k) ∧ Drawn0 w wc)
      case first =>
        have H := HC4.out
        clear HC4
        by_cases c5 : (a0.size : Int) < 5
        · rw [if_pos c5] at H
          have c5b0 : decide ((a0.size : Int) < 5) = true := decide_eq_true c5
          have c5b1 : decide (a0.size < 5) = true := decide_eq_true (by omega)
          clear c5
          (first | rw [c5b0] | (simp only [i64_w, i32_w]; rw [c5b0]) | skip)
          have H' := Aside0.mk H
          clear H
          go_wp2
          go_meet
          case rel => exact ⟨_, (true), (by first | rfl | (simp; done) | (simp [*]; done)), H', ⟨by first | omega | exact Nat.le_refl _⟩, by repeat (first | exact Drawn0.refl _ | apply Drawn0.step)⟩
        · rw [if_neg c5] at H
          have c5b0 : decide ((a0.size : Int) < 5) = false := decide_eq_false c5
          have c5b1 : decide (a0.size < 5) = false := decide_eq_false (by omega)
          clear c5
          (first | rw [c5b0] | (simp only [i64_w, i32_w]; rw [c5b0]) | skip)
          by_cases c6 : (a0.size : Int) > 7
          · rw [if_pos c6] at H
            have c6b0 : decide (7 < (a0.size : Int)) = true := decide_eq_true c6
            have c6b1 : decide (7 < a0.size) = true := decide_eq_true (by omega)
            clear c6
            have H' := Aside0.mk H
            clear H
            go_wp2
            go_meet
            case rel => exact ⟨_, (true), (by first | rfl | (simp; done) | (simp [*]; done)), H', ⟨by first | omega | exact Nat.le_refl _⟩, by repeat (first | exact Drawn0.refl _ | apply Drawn0.step)⟩
          · rw [if_neg c6] at H
            have c6b0 : decide (7 < (a0.size : Int)) = false := decide_eq_false c6
            have c6b1 : decide (7 < a0.size) = false := decide_eq_false (by omega)
            clear c6
            by_cases c7 : 0 < (a0.size : Int)
            · rw [if_pos c7] at H
              have c7b0 : decide (0 < (a0.size : Int)) = true := decide_eq_true c7
              have c7b1 : decide (0 < a0.size) = true := decide_eq_true (by omega)
              clear c7
              have H' := Aside0.mk H
              clear H
              have p8 : 0 ≤ (0 : Int) := (by omega)
              have q8 : 0 < a0.size := (by have : (0 : Int) < (a0.size : Int) := of_decide_eq_true (by first | (with_reducible assumption) | assumption); omega)
              have hx8 : ∀ h : 0 < a0.size, ((a0[0]'h).toNat : Int) = bt a0 0 := bt_at a0 0
              clear p8
              have qi8 : (0 < (a0.size : Int)) = True := eq_true (of_decide_eq_true (by first | (with_reducible assumption) | assumption))
              replace q8 := eq_true q8
              go_wp2
              go_meet
              case rel => exact ⟨_, (((bt a0 0) != 117)), (by first | rfl | (simp; done) | (simp [*]; done)), H', ⟨by first | omega | exact Nat.le_refl _⟩, by repeat (first | exact Drawn0.refl _ | apply Drawn0.step)⟩
            · rw [if_neg c7] at H
              exact absurd H (by simp)
      case rest =>
        clear HC4
        try clear c1
        try clear c2
        try clear c2b0
        try clear c2b1
        try clear c2b2
        try clear p2
        try clear c3
        try clear c3b0
        try clear c5
        try clear c5b0
        try clear c5b1
        try clear c6
        try clear c6b0
        try clear c6b1
        try clear c7
        try clear c7b0
        try clear c7b1
        try clear p8
        try clear q8
        try clear hx8
        try clear qi8
        try clear p8
        try clear q8
        obtain ⟨kq, x30_3, rfl, HA, HJ3, ⟨mc3, rfl⟩⟩ := hcut
        cases kq with
        | zero => exact absurd HA.out (by simp [escape_Name.j0])
        | succ kj3 =>
          have H := HA.out
          clear HA
          simp only [escape_Name.j0] at H
          by_cases c9 : x30_3 = true
          · subst c9
            have H1 : (some (0, false)) = some (r1, r2) := by rw [if_pos rfl] at H; exact H
            clear H
            have H := H1
            clear H1
            simp only [Option.some.injEq, Prod.mk.injEq] at H
            obtain ⟨rfl, rfl⟩ := H
            go_wp2
            go_ret2
            exact ⟨by first | rfl | (simp; done) | (simp [*]; done), by repeat (first | exact Drawn0.refl _ | apply Drawn0.step)⟩
          · replace c9 := Bool.eq_false_iff.mpr c9
            subst c9
            have H1 : (escape_Name.l0 kj3 a0 0 1) = some (r1, r2) := by rw [if_neg (show ¬ (false = true) by decide)] at H; exact H
            clear H
            have H := H1
            clear H1
            have H' := Aside0.mk H
            clear H
            go_wp2
            go_loopg [6, 7] kj3 (fun kq v6 v7 w' => ∃ (x6_2 : Int) (x7_2 : Int), v6 = .int .i32 x6_2 ∧ v7 = .int .i64 x7_2 ∧ Aside0 (escape_Name.l0 kq a0 x6_2 x7_2 = some (r1, r2)) ∧ Aside0 (kq ≤ kj3) ∧ Drawn0 w w')
            case atStart => exact ⟨(0), (1), (by first | rfl | (simp; done) | (simp [*]; done)), (by first | rfl | (simp; done) | (simp [*]; done)), H', ⟨Nat.le_refl _⟩, by repeat (first | exact Drawn0.refl _ | apply Drawn0.step)⟩
            case round =>
              clear H'
              try clear c1
              try clear c2
              try clear c2b0
              try clear c2b1
              try clear c2b2
              try clear p2
              try clear c3
              try clear c3b0
              try clear c5
              try clear c5b0
              try clear c5b1
              try clear c6
              try clear c6b0
              try clear c6b1
              try clear c7
              try clear c7b0
              try clear c7b1
              try clear p8
              try clear q8
              try clear hx8
              try clear qi8
              try clear c9
              try clear p2
              try clear p8
              try clear q8
              obtain ⟨x6_2, x7_2, rfl, rfl, HA, HK2, ⟨m2, rfl⟩⟩ := hrel
              cases gk with
              | zero => exact absurd HA.out (by simp [escape_Name.l0])
              | succ k2 =>
                have H := HA.out
                clear HA
                simp only [escape_Name.l0] at H
                by_cases c10 : x7_2 < (a0.size : Int)
                · rw [if_pos c10] at H
                  have c10b0 : decide (x7_2 < (a0.size : Int)) = true := decide_eq_true c10
                  clear c10
                  by_cases c11 : 0 ≤ x7_2
                  · rw [if_pos c11] at H
                    have c11b0 : decide (0 ≤ x7_2) = true := decide_eq_true c11
                    clear c11
                    replace H := Option.bind_eq_some_iff.mp H
                    obtain ⟨⟨t121, t122⟩, A130, H⟩ := H
                    replace H : (if t122 = true then (escape_Name.l0 k2 a0 (Go.bits .or .i32 (wrap32 (x6_2 * 16)) t121) (wrap64 (x7_2 + 1))) else (some (0, false))) = some (r1, r2) := H
                    have A13 := Aside0.mk A130
                    clear A130
                    by_cases c14 : t122 = true
                    · subst c14
                      have H1 : (escape_Name.l0 k2 a0 (Go.bits .or .i32 (wrap32 (x6_2 * 16)) t121) (wrap64 (x7_2 + 1))) = some (r1, r2) := by rw [if_pos rfl] at H; exact H
                      clear H
                      have H := H1
                      clear H1
                      have H' := Aside0.mk H
                      clear H
                      have p12 : 0 ≤ (x7_2 : Int) := of_decide_eq_true (by first | (with_reducible assumption) | assumption)
                      have q12 : x7_2 < (a0.size : Int) := of_decide_eq_true (by first | (with_reducible assumption) | assumption)
                      have hx12 := bt_at a0 x7_2
                      replace p12 := eq_true p12
                      replace q12 := eq_true q12
                      go_wp2_with (first | ((with_reducible refine gate_callee (f := 47) rfl ?_); refine goesL_ (some 41) rfl rfl Tryd.func47 (by kernel_rfl) rfl #[.int .u8 (bt a0 x7_2)] rfl (by (try simp only [List.map_toArray, List.map_cons, List.map_nil]); first | done | rfl | (simp only [List.length_drop, List.length_take]; rfl)) ?_; (with_reducible refine (escape_digit.calls k2 (bt a0 x7_2) t121 true _ A13.out).mono ?_); rintro e w' ⟨rfl, ⟨nd, rfl⟩⟩; refine ⟨_, rfl, ?_⟩))
                      go_roundg k2
                      case measure => have := HJ3.out; have := HK2.out; omega
                      case rel => exact ⟨(Go.bits .or .i32 (wrap32 (x6_2 * 16)) t121), (wrap64 (x7_2 + 1)), (by first | rfl | (simp; done) | (simp [*]; done)), (by first | rfl | (simp; done) | (simp [*]; done)), H', ⟨by have := HJ3.out; have := HK2.out; omega⟩, by repeat (first | exact Drawn0.refl _ | apply Drawn0.step)⟩
                    · replace c14 := Bool.eq_false_iff.mpr c14
                      subst c14
                      have H1 : (some (0, false)) = some (r1, r2) := by rw [if_neg (show ¬ (false = true) by decide)] at H; exact H
                      clear H
                      have H := H1
                      clear H1
                      simp only [Option.some.injEq, Prod.mk.injEq] at H
                      obtain ⟨rfl, rfl⟩ := H
                      have p12 : 0 ≤ (x7_2 : Int) := of_decide_eq_true (by first | (with_reducible assumption) | assumption)
                      have q12 : x7_2 < (a0.size : Int) := of_decide_eq_true (by first | (with_reducible assumption) | assumption)
                      have hx12 := bt_at a0 x7_2
                      replace p12 := eq_true p12
                      replace q12 := eq_true q12
                      go_wp2_with (first | ((with_reducible refine gate_callee (f := 47) rfl ?_); refine goesL_ (some 41) rfl rfl Tryd.func47 (by kernel_rfl) rfl #[.int .u8 (bt a0 x7_2)] rfl (by (try simp only [List.map_toArray, List.map_cons, List.map_nil]); first | done | rfl | (simp only [List.length_drop, List.length_take]; rfl)) ?_; (with_reducible refine (escape_digit.calls k2 (bt a0 x7_2) t121 false _ A13.out).mono ?_); rintro e w' ⟨rfl, ⟨nd, rfl⟩⟩; refine ⟨_, rfl, ?_⟩))
                      go_ret2
                      exact ⟨by first | rfl | (simp; done) | (simp [*]; done), by repeat (first | exact Drawn0.refl _ | apply Drawn0.step)⟩
                  · rw [if_neg c11] at H
                    exact absurd H (by simp)
                · rw [if_neg c10] at H
                  have c10b0 : decide (x7_2 < (a0.size : Int)) = false := decide_eq_false c10
                  clear c10
                  replace H := Option.bind_eq_some_iff.mp H
                  obtain ⟨t123, A150, H⟩ := H
                  replace H : (if t123 = x6_2 then (some (x6_2, true)) else (some (0, false))) = some (r1, r2) := H
                  have A15 := Aside0.mk A150
                  clear A150
                  by_cases c16 : t123 = x6_2
                  · rw [if_pos c16] at H
                    have c16b0 : (t123 == x6_2) = true := beq_iff_eq.mpr c16
                    have c16b1 : (t123 != x6_2) = false := bne_eq_false_iff_eq.mpr c16
                    clear c16
                    simp only [Option.some.injEq, Prod.mk.injEq] at H
                    obtain ⟨rfl, rfl⟩ := H
                    go_wp2_with (first | ((with_reducible refine gate_callee (f := 48) rfl ?_); refine goesL_ (some 51) rfl rfl Tryd.func48 (by kernel_rfl) rfl #[.int .i32 x6_2] rfl (by (try simp only [List.map_toArray, List.map_cons, List.map_nil]); first | done | rfl | (simp only [List.length_drop, List.length_take]; rfl)) ?_; (with_reducible refine (runes_Safe.calls k2 x6_2 t123 _ A15.out).mono ?_); rintro e w' ⟨rfl, ⟨nd, rfl⟩⟩; refine ⟨_, rfl, ?_⟩))
                    go_ret2
                    exact ⟨by first | rfl | (simp; done) | (simp [*]; done), by repeat (first | exact Drawn0.refl _ | apply Drawn0.step)⟩
                  · rw [if_neg c16] at H
                    have c16b0 : (t123 == x6_2) = false := beq_eq_false_iff_ne.mpr c16
                    have c16b1 : (t123 != x6_2) = true := bne_iff_ne.mpr c16
                    simp only [Option.some.injEq, Prod.mk.injEq] at H
                    obtain ⟨rfl, rfl⟩ := H
                    go_wp2_with (first | ((with_reducible refine gate_callee (f := 48) rfl ?_); refine goesL_ (some 51) rfl rfl Tryd.func48 (by kernel_rfl) rfl #[.int .i32 x6_2] rfl (by (try simp only [List.map_toArray, List.map_cons, List.map_nil]); first | done | rfl | (simp only [List.length_drop, List.length_take]; rfl)) ?_; (with_reducible refine (runes_Safe.calls k2 x6_2 t123 _ A15.out).mono ?_); rintro e w' ⟨rfl, ⟨nd, rfl⟩⟩; refine ⟨_, rfl, ?_⟩))
                    go_ret2
                    exact ⟨by first | rfl | (simp; done) | (simp [*]; done), by repeat (first | exact Drawn0.refl _ | apply Drawn0.step)⟩
  · rw [if_neg c2] at H
    exact absurd H (by simp)
def escape_Font.f (a0 : ByteArray) : Option (Int × Bool) := if a0.size ≤ 9223372036854775807 then (some ((look fontsT a0).getD 0, (look fontsT a0).isSome)) else (none)
set_option maxHeartbeats 8000000 in
set_option maxRecDepth 100000 in
theorem escape_Font.calls (a0 : ByteArray) (r1 : Int) (r2 : Bool) (w : World) (hG : GL w) (h : escape_Font.f a0 = some (r1, r2)) :
    Calls Tryd.prog 20 #[.string a0] w fun e w' => e = .returned (.tuple #[.int .i32 r1, .bool r2]) ∧ Drawn0 w w' := by
  have HG := Aside0.mk hG
  clear hG
  have H : (if a0.size ≤ 9223372036854775807 then (some ((look fontsT a0).getD 0, (look fontsT a0).isSome)) else (none)) = some (r1, r2) := h
  clear h
  by_cases c2 : a0.size ≤ 9223372036854775807
  · rw [if_pos c2] at H
    have c2b0 := eq_true c2
    have c2b1 : decide (a0.size ≤ 9223372036854775807) = true := decide_eq_true c2
    try have c2b2 : (9223372036854775807 < a0.size) = False := eq_false (Nat.not_lt.2 c2)
    clear c2
    obtain ⟨bgl124, hcgl124, hrgl124⟩ := GL.look_fontsT HG.out a0 (of_decide_eq_true (by first | (with_reducible assumption) | assumption))
    simp only [Option.some.injEq, Prod.mk.injEq] at H
    obtain ⟨rfl, rfl⟩ := H
    go_enter Tryd.func20, Tryd.ntmps20
    go_wp2
    go_ret2
    exact ⟨by first | rfl | (simp; done) | (simp [*]; done), by repeat (first | exact Drawn0.refl _ | apply Drawn0.step)⟩
  · rw [if_neg c2] at H
    exact absurd H (by simp)
end Go.Proofs.YtdogljnddalgdaaDoor.A6
end
section
namespace Go.Proofs.YtdogljnddalgdaaDoor.A6
open Go.RowKit Go.Proofs.YtdogljnddalgdaaDoorW.PrintWords Go.Proofs.YtdogljnddalgdaaDoorW.PrintLast Go.Proofs.YtdogljnddalgdaaDoorW.PrintMore
attribute [local go_sem] max2_int min2_int max_two min_two max_three min_three max_four min_four   -- for this text's walks alone
set_option linter.unusedVariables false
set_option linter.unusedSimpArgs false
def slices_Index_rune_rune.l0 : Nat → List Int → Int → Int → Int → Option (Int)
  | 0, _, _, _, _ => none
  | k + 1, x0, x1, x7, x8 => if x8 < x7 then (if 0 ≤ x8 then (if x8 < (x0.length : Int) then (if x1 = (rd x0 x8) then (some x8) else (slices_Index_rune_rune.l0 k x0 x1 x7 (wrap64 (x8 + 1)))) else (none)) else (none)) else (some (-1))
def slices_Index_rune_rune.f (k : Nat) (l0 : List Int) (a1 : Int) : Option (Int) := slices_Index_rune_rune.l0 k l0 a1 (l0.length : Int) 0
theorem slices_Index_rune_rune.mono_l : ∀ k, (∀ y0 y1 y2 y3, LeO (slices_Index_rune_rune.l0 k y0 y1 y2 y3) (slices_Index_rune_rune.l0 (k + 1) y0 y1 y2 y3))
  | 0 => fun _ _ _ _ r h => by simp [slices_Index_rune_rune.l0] at h
  | k + 1 => by
    have ih0 := slices_Index_rune_rune.mono_l k
    · intro y0 y1 y2 y3
      unfold slices_Index_rune_rune.l0
      repeat' first
      | (with_reducible exact ih0 _ _ _ _)
      | (with_reducible exact LeO.refl _)
      | (with_reducible exact LeO.none _)
      | (with_reducible refine LeO.ite ?_ ?_)
      | (with_reducible refine LeO.bind ?_ (fun _ => ?_))
      | exact ih0 _ _ _ _
      | exact LeO.none _
      | refine LeO.ite ?_ ?_
      | refine LeO.bind ?_ (fun _ => ?_)
theorem slices_Index_rune_rune.mono : ∀ a0 a1 k, LeO (slices_Index_rune_rune.f k a0 a1) (slices_Index_rune_rune.f (k + 1) a0 a1) := by
  intro a0 a1 k
  have ih0 := slices_Index_rune_rune.mono_l k
  unfold slices_Index_rune_rune.f
  repeat' first
      | (with_reducible exact ih0 _ _ _ _)
      | (with_reducible exact LeO.refl _)
      | (with_reducible exact LeO.none _)
      | (with_reducible refine LeO.ite ?_ ?_)
      | (with_reducible refine LeO.bind ?_ (fun _ => ?_))
      | exact ih0 _ _ _ _
      | exact LeO.none _
      | refine LeO.ite ?_ ?_
      | refine LeO.bind ?_ (fun _ => ?_)
set_option maxHeartbeats 8000000 in
set_option maxRecDepth 100000 in
theorem slices_Index_rune_rune.calls (k : Nat) (A0 : Option Addr) (c0 : Nat) (l0 : List Int) (a1 : Int) (r : Int) (w : World) (hr0 : Kd.C (Kd.int .i32) w A0 l0.length l0) (hc0 : l0.length ≤ c0) (h : slices_Index_rune_rune.f k l0 a1 = some r) :
    Calls Tryd.prog 70 #[.slice A0 l0.length c0, .int .i32 a1] w fun e w' => e = .returned (.int .i64 r) ∧ Drawn0 w w' := by
  have HR0 := Aside0.mk hr0
  have HC0 := Aside0.mk hc0
  clear hr0 hc0
  have H : (slices_Index_rune_rune.l0 k l0 a1 (l0.length : Int) 0) = some r := h
  clear h
  have H' := Aside0.mk H
  clear H
  go_enter Tryd.func70, Tryd.ntmps70
  go_wp2
  go_loopg [8] k (fun kq v8 w' => ∃ (x8_1 : Int), v8 = .int .i64 x8_1 ∧ Aside0 (slices_Index_rune_rune.l0 kq l0 a1 (l0.length : Int) x8_1 = some r) ∧ Aside0 (kq ≤ k) ∧ Drawn0 w w')
  case atStart => exact ⟨(0), (by first | rfl | (simp; done) | (simp [*]; done)), H', ⟨Nat.le_refl _⟩, by repeat (first | exact Drawn0.refl _ | apply Drawn0.step)⟩
  case round =>
    clear H'
    try clear p2
    obtain ⟨x8_1, rfl, HA, HK1, ⟨m1, rfl⟩⟩ := hrel
    cases gk with
    | zero => exact absurd HA.out (by simp [slices_Index_rune_rune.l0])
    | succ k1 =>
      have H := HA.out
      clear HA
      simp only [slices_Index_rune_rune.l0] at H
      by_cases c3 : x8_1 < (l0.length : Int)
      · rw [if_pos c3] at H
        have c3b0 : decide (x8_1 < (l0.length : Int)) = true := decide_eq_true c3
        clear c3
        by_cases c4 : 0 ≤ x8_1
        · rw [if_pos c4] at H
          have c4b0 : decide (0 ≤ x8_1) = true := decide_eq_true c4
          clear c4
          by_cases c5 : x8_1 < (l0.length : Int)
          · rw [if_pos c5] at H
            have c5b0 : decide (x8_1 < (l0.length : Int)) = true := decide_eq_true c5
            clear c5
            by_cases c6 : a1 = (rd l0 x8_1)
            · rw [if_pos c6] at H
              have c6b0 : (a1 == (rd l0 x8_1)) = true := beq_iff_eq.mpr c6
              have c6b1 : (a1 != (rd l0 x8_1)) = false := bne_eq_false_iff_eq.mpr c6
              clear c6
              obtain rfl := Option.some.inj H
              have p125 : 0 ≤ (x8_1 : Int) := of_decide_eq_true (by first | (with_reducible assumption) | assumption)
              have q125 : x8_1 < (l0.length : Int) := of_decide_eq_true (by first | (with_reducible assumption) | assumption)
              obtain ⟨ad125, e125, hx125_0⟩ := Kd.at_int HR0.out x8_1 p125 q125
              cases e125
              replace p125 := eq_true p125
              replace q125 := eq_true q125
              go_wp2
              go_ret
              exact ⟨by first | rfl | (simp; done) | (simp [*]; done), by repeat (first | exact Drawn0.refl _ | apply Drawn0.step)⟩
            · rw [if_neg c6] at H
              have c6b0 : (a1 == (rd l0 x8_1)) = false := beq_eq_false_iff_ne.mpr c6
              have c6b1 : (a1 != (rd l0 x8_1)) = true := bne_iff_ne.mpr c6
              have H' := Aside0.mk H
              clear H
              have p125 : 0 ≤ (x8_1 : Int) := of_decide_eq_true (by first | (with_reducible assumption) | assumption)
              have q125 : x8_1 < (l0.length : Int) := of_decide_eq_true (by first | (with_reducible assumption) | assumption)
              obtain ⟨ad125, e125, hx125_0⟩ := Kd.at_int HR0.out x8_1 p125 q125
              cases e125
              replace p125 := eq_true p125
              replace q125 := eq_true q125
              go_wp2
              go_roundg k1
              case measure => have := HK1.out; omega
              case rel => exact ⟨(wrap64 (x8_1 + 1)), (by first | rfl | (simp; done) | (simp [*]; done)), H', ⟨by have := HK1.out; omega⟩, by repeat (first | exact Drawn0.refl _ | apply Drawn0.step)⟩
          · rw [if_neg c5] at H
            exact absurd H (by simp)
        · rw [if_neg c4] at H
          exact absurd H (by simp)
      · rw [if_neg c3] at H
        have c3b0 : decide (x8_1 < (l0.length : Int)) = false := decide_eq_false c3
        clear c3
        obtain rfl := Option.some.inj H
        go_wp2
        go_ret
        exact ⟨by first | rfl | (simp; done) | (simp [*]; done), by repeat (first | exact Drawn0.refl _ | apply Drawn0.step)⟩
end Go.Proofs.YtdogljnddalgdaaDoor.A6
end
section
namespace Go.Proofs.YtdogljnddalgdaaDoor.A6
open Go.RowKit Go.Proofs.YtdogljnddalgdaaDoorW.PrintWords Go.Proofs.YtdogljnddalgdaaDoorW.PrintLast Go.Proofs.YtdogljnddalgdaaDoorW.PrintMore
attribute [local go_sem] max2_int min2_int max_two min_two max_three min_three max_four min_four   -- for this text's walks alone
set_option linter.unusedVariables false
set_option linter.unusedSimpArgs false
theorem runes_conv {w : World} {A : Option Addr} {xs : List Int} {c : Nat} (h : Kd.C (Kd.int .i32) w A xs.length xs) :
    (convert 34 9 (.slice A xs.length c)).run Tryd.prog w = .ok (.string (runesBytes xs)) w := by
  have h' := Kd.reads_of_C (d := (0 : Int)) h
  rcases xs with _ | ⟨x, xs⟩
  · cases A with
    | none => exact run_convert_runes_nil w _ _ 21 _ _ Tryd.underlying34 Tryd.underlying21 Tryd.underlying9
    | some a =>
      have := run_convert_runes (P := Tryd.prog) w 34 9 21 a 0 c [] (by simp) Tryd.underlying34 Tryd.underlying21 Tryd.underlying9 (by simp)
      simpa using this
  · obtain ⟨a, e, hc⟩ := h'.2.2 (by simp)
    subst e
    have := run_convert_runes (P := Tryd.prog) w 34 9 21 a (x :: xs).length c (x :: xs) (Nat.le_refl _) Tryd.underlying34 Tryd.underlying21 Tryd.underlying9 (fun j hj => hc j hj)
    simpa using this
def rd_name (k : Nat) (l : List Int) (p : Int) (one : Bool) : Option (ByteArray × Bool × Int) :=
  if (l.length : Int) ≤ p then some (⟨#[]⟩, false, p)
  else if rd l p = 91 then (slices_Index_rune_rune.f k (l.drop p.toNat) 93).bind fun e => if e < 0 then some (⟨#[]⟩, false, p) else if 1 ≤ e ∧ e < (l.drop p.toNat).length then some (runesBytes (((l.drop p.toNat).take e.toNat).drop 1), true, p + (e + 1)) else none
  else if rd l p = 40 then (if p + 1 + 2 > l.length then some (⟨#[]⟩, false, p + 1) else some (runesBytes ((l.take (p + 1 + 2).toNat).drop (p + 1).toNat), true, p + 1 + 2))
  else if one then some (runesBytes ((l.take (p + 1).toNat).drop p.toNat), true, p + 1) else some (⟨#[]⟩, false, p)
section
variable {w : World} {base g : Nat} {vl : Value} {l : List Int} {p : Int} {vo : Value} {xs : List S38} {vb : Value} {ys : List S41}
theorem RD.set_at (h : RD w base g vl l p vo xs vb ys) (q : Int) : RD (w.setCell ⟨g, 1, none⟩ (.int .i64 q)) base g vl l q vo xs vb ys :=
  ⟨blk_put (cs := #[vl, .int .i64 p, vo, vb]) h.blk 1 _ rfl, h.ge, Kd.R_set h.l h.blk (by decide) 1 _, Kd.R_set h.o h.blk (by decide) 1 _, Kd.R_set h.b h.blk (by decide) 1 _⟩
theorem RD.drewN (h : RD w base g vl l p vo xs vb ys) (n : Nat) : RD (w.drewN n) base g vl l p vo xs vb ys := ⟨h.blk, h.ge, Kd.R_drewN h.l n, Kd.R_drewN h.o n, Kd.R_drewN h.b n⟩
theorem RD.drew (h : RD w base g vl l p vo xs vb ys) : RD w.drew base g vl l p vo xs vb ys := ⟨h.blk, h.ge, Kd.R_drew h.l, Kd.R_drew h.o, Kd.R_drew h.b⟩
end
set_option maxHeartbeats 8000000 in
set_option maxRecDepth 100000 in
theorem name_empty {w0 w : World} {base g : Nat} {vl : Value} {l : List Int} {p : Int} {vo : Value} {xs : List S38} {vb : Value} {ys : List S41} (one : Bool)
    (hB : Below base w0 w) (h : RD w base g vl l p vo xs vb ys) (hp0 : 0 ≤ p) (hp1 : p ≤ l.length) (hp : (l.length : Int) ≤ p) :
    Calls Tryd.prog 67 #[.pointer (some ⟨g, 0, none⟩), .bool one] w fun e w' => e = .returned (.tuple #[.string ⟨#[]⟩, .bool false]) ∧
      RD w' base g vl l p vo xs vb ys ∧ Below base w0 w' ∧ w.heap.size ≤ w'.heap.size := by
  obtain ⟨Al, cl, el, hcl, hrl⟩ := Kd.R_reads h.l
  subst el
  have HR := Aside0.mk h
  have HB := Aside0.mk hB
  have hcz0 : w.cell? ⟨g, 0, none⟩ = some (.slice Al l.length cl) := (blk_cell h.blk 0).trans rfl
  have hcz1 : w.cell? ⟨g, 1, none⟩ = some (.int .i64 p) := (blk_cell h.blk 1).trans rfl
  have hfz1 := blk_frozen h.blk 1
  obtain ⟨i0, hi0, _, hsz, _⟩ := info_parts info21
  obtain ⟨A', hcut, hA, hC⟩ := print_drop_of (P := Tryd.prog) (Value.int .i32) 0 34 21 .i64 Tryd.underlying34 hi0 hsz Al cl l p hp0 hp1 hcl
  have e0 : l.drop p.toNat = [] := List.drop_eq_nil_of_le (by omega)
  rw [e0] at hcut
  clear h hB hA hC hi0 hsz hrl e0 hcl hp0 hp1 hp
  have hu65 := Tryd.underlying65
  go_enter Tryd.func67, Tryd.ntmps67
  go_wp2
  go_quiet (fail)
  go_wp2
  go_ret2
  exact ⟨rfl, by repeat (first | exact HR.out | apply RD.drew | apply RD.drewN | apply RD.set_at), by repeat (first | exact HB.out | apply below_drew | apply pw_below_drewN | refine Below.setCell ?_ HR.out.ge _), by simp [World.setCell]⟩
set_option maxHeartbeats 8000000 in
set_option maxRecDepth 100000 in
theorem name_none {w0 w : World} {base g : Nat} {vl : Value} {l : List Int} {p : Int} {vo : Value} {xs : List S38} {vb : Value} {ys : List S41} (one : Bool)
    (hB : Below base w0 w) (h : RD w base g vl l p vo xs vb ys) (hp0 : 0 ≤ p) (hp1 : p < l.length) (h91 : rd l p ≠ 91) (h40 : rd l p ≠ 40) :
    Calls Tryd.prog 67 #[.pointer (some ⟨g, 0, none⟩), .bool false] w fun e w' => e = .returned (.tuple #[.string ⟨#[]⟩, .bool false]) ∧
      RD w' base g vl l p vo xs vb ys ∧ Below base w0 w' ∧ w.heap.size ≤ w'.heap.size := by
  obtain ⟨Al, cl, el, hcl, hrl⟩ := Kd.R_reads h.l
  subst el
  have HR := Aside0.mk h
  have HB := Aside0.mk hB
  have hcz0 : w.cell? ⟨g, 0, none⟩ = some (.slice Al l.length cl) := (blk_cell h.blk 0).trans rfl
  have hcz1 : w.cell? ⟨g, 1, none⟩ = some (.int .i64 p) := (blk_cell h.blk 1).trans rfl
  have hfz1 := blk_frozen h.blk 1
  obtain ⟨i0, hi0, _, hsz, _⟩ := info_parts info21
  obtain ⟨A', hcut, hA, hC⟩ := print_drop_of (P := Tryd.prog) (Value.int .i32) 0 34 21 .i64 Tryd.underlying34 hi0 hsz Al cl l p hp0 (Int.le_of_lt hp1) hcl
  have hrd : Kd.C (Kd.int .i32) w A' (l.drop p.toNat).length (l.drop p.toNat) := Kd.C_of_reads (h1 := fun _ => rfl) (hA w (Kd.reads_of_C (d := (0 : Int)) hrl))
  have hm0 : rd (l.drop p.toNat) 0 = rd l p := by simp [rd, List.getD]
  have hml : 0 < (l.drop p.toNat).length := by simp; omega
  obtain ⟨m, hm⟩ : ∃ m, m = l.drop p.toNat := ⟨_, rfl⟩
  rw [← hm] at hcut hrd hm0 hml hC
  obtain ⟨ad, ead, hx0⟩ := Kd.at_int hrd 0 (by omega) (by omega)
  subst ead
  rw [show ((0 : Int)).toNat = 0 from rfl, Addr.add_zero', hm0] at hx0
  have hlt : (0 < m.length) = True := eq_true hml
  have hz : ((m.length : Int) == 0) = false := beq_eq_false_iff_ne.mpr (by omega)
  have hlt2 : decide (0 < m.length) = true := decide_eq_true hml
  have b91 : (rd l p == 91) = false := by simpa using h91
  have b40 : (rd l p == 40) = false := by simpa using h40
  have HM := Aside0.mk hm
  clear h hB hA hC hi0 hsz hrl hrd hcl hp0 hp1 h91 h40 hm hm0 hml
  have hu65 := Tryd.underlying65
  go_enter Tryd.func67, Tryd.ntmps67
  go_wp2
  go_quiet (fail)
  go_wp2
  go_quiet (fail)
  go_wp2
  go_ret2
  exact ⟨rfl, by repeat (first | exact HR.out | apply RD.drew | apply RD.drewN | apply RD.set_at), by repeat (first | exact HB.out | apply below_drew | apply pw_below_drewN | refine Below.setCell ?_ HR.out.ge _), by simp [World.setCell]⟩
set_option maxHeartbeats 8000000 in
set_option maxRecDepth 100000 in
theorem name_one {w0 w : World} {base g : Nat} {vl : Value} {l : List Int} {p : Int} {vo : Value} {xs : List S38} {vb : Value} {ys : List S41} (one : Bool)
    (hB : Below base w0 w) (h : RD w base g vl l p vo xs vb ys) (hp0 : 0 ≤ p) (hp1 : p < l.length) (h91 : rd l p ≠ 91) (h40 : rd l p ≠ 40) (hll : l.length ≤ 9223372036854775806) :
    Calls Tryd.prog 67 #[.pointer (some ⟨g, 0, none⟩), .bool true] w fun e w' => e = .returned (.tuple #[.string (runesBytes ((l.take (p + 1).toNat).drop p.toNat)), .bool true]) ∧
      RD w' base g vl l (p + 1) vo xs vb ys ∧ Below base w0 w' ∧ w.heap.size ≤ w'.heap.size := by
  obtain ⟨Al, cl, el, hcl, hrl⟩ := Kd.R_reads h.l
  subst el
  have HR := Aside0.mk h
  have HB := Aside0.mk hB
  have hcz0 : w.cell? ⟨g, 0, none⟩ = some (.slice Al l.length cl) := (blk_cell h.blk 0).trans rfl
  have hcz1 : w.cell? ⟨g, 1, none⟩ = some (.int .i64 p) := (blk_cell h.blk 1).trans rfl
  have hfz1 := blk_frozen h.blk 1
  obtain ⟨i0, hi0, _, hsz, _⟩ := info_parts info21
  obtain ⟨A', hcut, hA, hC⟩ := print_drop_of (P := Tryd.prog) (Value.int .i32) 0 34 21 .i64 Tryd.underlying34 hi0 hsz Al cl l p hp0 (Int.le_of_lt hp1) hcl
  have hrd : Kd.C (Kd.int .i32) w A' (l.drop p.toNat).length (l.drop p.toNat) := Kd.C_of_reads (h1 := fun _ => rfl) (hA w (Kd.reads_of_C (d := (0 : Int)) hrl))
  have hm0 : rd (l.drop p.toNat) 0 = rd l p := by simp [rd, List.getD]
  have hml : 0 < (l.drop p.toNat).length := by simp; omega
  obtain ⟨m, hm⟩ : ∃ m, m = l.drop p.toNat := ⟨_, rfl⟩
  rw [← hm] at hcut hrd hm0 hml hC
  obtain ⟨ad, ead, hx0⟩ := Kd.at_int hrd 0 (by omega) (by omega)
  subst ead
  rw [show ((0 : Int)).toNat = 0 from rfl, Addr.add_zero', hm0] at hx0
  have hlt : (0 < m.length) = True := eq_true hml
  have hz : ((m.length : Int) == 0) = false := beq_eq_false_iff_ne.mpr (by omega)
  have hlt2 : decide (0 < m.length) = true := decide_eq_true hml
  obtain ⟨i1, hi1, _, hsz1, _⟩ := info_parts info21
  obtain ⟨A2, hcut2, hA2, hC2⟩ := print_mid_of (P := Tryd.prog) (Value.int .i32) 0 34 21 .i64 .i64 Tryd.underlying34 hi1 hsz1 Al cl l p (p + 1) hp0 (by omega) (by omega) hcl
  have hrd2 : ∀ n, Kd.C (Kd.int .i32) (w.drewN n) A2 ((l.take (p + 1).toNat).drop p.toNat).length ((l.take (p + 1).toNat).drop p.toNat) := fun n => Kd.C_drewN (Kd.C_of_reads (h1 := fun _ => rfl) (hA2 w (Kd.reads_of_C (d := (0 : Int)) hrl))) n
  obtain ⟨m2, hm2⟩ : ∃ m2, m2 = (l.take (p + 1).toNat).drop p.toNat := ⟨_, rfl⟩
  rw [← hm2] at hcut2 hrd2
  have hcv := fun n => runes_conv (c := cl - p.toNat) (hrd2 n)
  have hw1 : wrap64 (p + 1) = p + 1 := by unfold wrap64; omega
  have hgt : decide ((l.length : Int) < p + 1) = false := decide_eq_false (by omega)
  have HM2 := Aside0.mk hm2
  have hp00 : 0 ≤ p := hp0
  have hpl : p + 1 ≤ 9223372036854775807 := by omega
  have b91 : (rd l p == 91) = false := by simpa using h91
  have b40 : (rd l p == 40) = false := by simpa using h40
  have HM := Aside0.mk hm
  clear h hB hA hC hi0 hsz hrl hrd hrd2 hA2 hC2 hi1 hsz1 hll hcl hp0 hp1 h91 h40 hm hm0 hml hm2
  have hu65 := Tryd.underlying65
  go_enter Tryd.func67, Tryd.ntmps67
  go_wp2
  go_quiet (fail)
  go_wp2
  go_quiet (fail)
  go_wp2
  go_quiet (fail)
  go_wp2
  go_ret2
  rw [← HM2.out]
  exact ⟨rfl, by repeat (first | exact HR.out | apply RD.drew | apply RD.drewN | apply RD.set_at), by repeat (first | exact HB.out | apply below_drew | apply pw_below_drewN | refine Below.setCell ?_ HR.out.ge _), by simp [World.setCell]⟩
set_option maxHeartbeats 8000000 in
set_option maxRecDepth 100000 in
theorem name_two {w0 w : World} {base g : Nat} {vl : Value} {l : List Int} {p : Int} {vo : Value} {xs : List S38} {vb : Value} {ys : List S41} (one : Bool)
    (hB : Below base w0 w) (h : RD w base g vl l p vo xs vb ys) (hp0 : 0 ≤ p) (hp1 : p < l.length) (h40 : rd l p = 40) (h3 : p + 1 + 2 ≤ l.length) (hll : l.length ≤ 9223372036854775806) :
    Calls Tryd.prog 67 #[.pointer (some ⟨g, 0, none⟩), .bool one] w fun e w' => e = .returned (.tuple #[.string (runesBytes ((l.take (p + 1 + 2).toNat).drop (p + 1).toNat)), .bool true]) ∧
      RD w' base g vl l (p + 1 + 2) vo xs vb ys ∧ Below base w0 w' ∧ w.heap.size ≤ w'.heap.size := by
  obtain ⟨Al, cl, el, hcl, hrl⟩ := Kd.R_reads h.l
  subst el
  have HR := Aside0.mk h
  have HB := Aside0.mk hB
  have hcz0 : w.cell? ⟨g, 0, none⟩ = some (.slice Al l.length cl) := (blk_cell h.blk 0).trans rfl
  have hcz1 : w.cell? ⟨g, 1, none⟩ = some (.int .i64 p) := (blk_cell h.blk 1).trans rfl
  have hfz1 := blk_frozen h.blk 1
  obtain ⟨i0, hi0, _, hsz, _⟩ := info_parts info21
  obtain ⟨A', hcut, hA, hC⟩ := print_drop_of (P := Tryd.prog) (Value.int .i32) 0 34 21 .i64 Tryd.underlying34 hi0 hsz Al cl l p hp0 (Int.le_of_lt hp1) hcl
  have hrd : Kd.C (Kd.int .i32) w A' (l.drop p.toNat).length (l.drop p.toNat) := Kd.C_of_reads (h1 := fun _ => rfl) (hA w (Kd.reads_of_C (d := (0 : Int)) hrl))
  have hm0 : rd (l.drop p.toNat) 0 = rd l p := by simp [rd, List.getD]
  have hml : 0 < (l.drop p.toNat).length := by simp; omega
  obtain ⟨m, hm⟩ : ∃ m, m = l.drop p.toNat := ⟨_, rfl⟩
  rw [← hm] at hcut hrd hm0 hml hC
  obtain ⟨ad, ead, hx0⟩ := Kd.at_int hrd 0 (by omega) (by omega)
  subst ead
  rw [show ((0 : Int)).toNat = 0 from rfl, Addr.add_zero', hm0] at hx0
  have hlt : (0 < m.length) = True := eq_true hml
  have hz : ((m.length : Int) == 0) = false := beq_eq_false_iff_ne.mpr (by omega)
  have hlt2 : decide (0 < m.length) = true := decide_eq_true hml
  obtain ⟨i1, hi1, _, hsz1, _⟩ := info_parts info21
  obtain ⟨A2, hcut2, hA2, hC2⟩ := print_mid_of (P := Tryd.prog) (Value.int .i32) 0 34 21 .i64 .i64 Tryd.underlying34 hi1 hsz1 Al cl l (p + 1) (p + 1 + 2) (by omega) (by omega) (by omega) hcl
  have hrd2 : ∀ n n2, Kd.C (Kd.int .i32) (((w.drewN n).setCell ⟨g, 1, none⟩ (.int .i64 (p + 1))).drewN n2) A2 ((l.take (p + 1 + 2).toNat).drop (p + 1).toNat).length ((l.take (p + 1 + 2).toNat).drop (p + 1).toNat) := fun n n2 => Kd.C_of_reads (h1 := fun _ => rfl) (hA2 _ (Kd.reads_of_C (d := (0 : Int)) (Kd.R_reads' (((HR.out.drewN n).set_at (p + 1)).drewN n2).l).2.2))
  obtain ⟨m2, hm2⟩ : ∃ m2, m2 = (l.take (p + 1 + 2).toNat).drop (p + 1).toNat := ⟨_, rfl⟩
  rw [← hm2] at hcut2 hrd2
  have hcv := fun n n2 => runes_conv (c := cl - (p + 1).toNat) (hrd2 n n2)
  have hw1 : wrap64 (p + 1) = p + 1 := by unfold wrap64; omega
  have hw2 : wrap64 (p + 1 + 2) = p + 1 + 2 := by unfold wrap64; omega
  have hgt : decide ((l.length : Int) < p + 1 + 2) = false := decide_eq_false (by omega)
  have HM2 := Aside0.mk hm2
  have hp00 : 0 ≤ p := hp0
  have hpl : p + 1 + 2 ≤ 9223372036854775807 := by omega
  have b91 : (rd l p == 91) = false := by simp [h40]
  have b40 : (rd l p == 40) = true := by simpa using h40
  have HM := Aside0.mk hm
  clear h hB hA hC hi0 hsz hrl hrd hrd2 hA2 hC2 hi1 hsz1 hll hcl hp0 hp1 h40 hm hm0 hml hm2 h3
  have hu65 := Tryd.underlying65
  cases one
  all_goals
    go_enter Tryd.func67, Tryd.ntmps67
    go_wp2
    go_quiet (fail)
    go_wp2
    go_quiet (fail)
    go_wp2
    go_quiet (fail)
    go_wp2
    go_ret2
    rw [← HM2.out]
    exact ⟨rfl, by repeat (first | exact HR.out | apply RD.drew | apply RD.drewN | apply RD.set_at), by repeat (first | exact HB.out | apply below_drew | apply pw_below_drewN | refine Below.setCell ?_ HR.out.ge _), by simp [World.setCell]⟩
set_option maxHeartbeats 8000000 in
set_option maxRecDepth 100000 in
theorem name_two_ends {w0 w : World} {base g : Nat} {vl : Value} {l : List Int} {p : Int} {vo : Value} {xs : List S38} {vb : Value} {ys : List S41} (one : Bool)
    (hB : Below base w0 w) (h : RD w base g vl l p vo xs vb ys) (hp0 : 0 ≤ p) (hp1 : p < l.length) (h40 : rd l p = 40) (h3 : l.length < p + 1 + 2) (hll : l.length ≤ 9223372036854775800) :
    Calls Tryd.prog 67 #[.pointer (some ⟨g, 0, none⟩), .bool one] w fun e w' => e = .returned (.tuple #[.string ⟨#[]⟩, .bool false]) ∧
      RD w' base g vl l (p + 1) vo xs vb ys ∧ Below base w0 w' ∧ w.heap.size ≤ w'.heap.size := by
  obtain ⟨Al, cl, el, hcl, hrl⟩ := Kd.R_reads h.l
  subst el
  have HR := Aside0.mk h
  have HB := Aside0.mk hB
  have hcz0 : w.cell? ⟨g, 0, none⟩ = some (.slice Al l.length cl) := (blk_cell h.blk 0).trans rfl
  have hcz1 : w.cell? ⟨g, 1, none⟩ = some (.int .i64 p) := (blk_cell h.blk 1).trans rfl
  have hfz1 := blk_frozen h.blk 1
  obtain ⟨i0, hi0, _, hsz, _⟩ := info_parts info21
  obtain ⟨A', hcut, hA, hC⟩ := print_drop_of (P := Tryd.prog) (Value.int .i32) 0 34 21 .i64 Tryd.underlying34 hi0 hsz Al cl l p hp0 (Int.le_of_lt hp1) hcl
  have hrd : Kd.C (Kd.int .i32) w A' (l.drop p.toNat).length (l.drop p.toNat) := Kd.C_of_reads (h1 := fun _ => rfl) (hA w (Kd.reads_of_C (d := (0 : Int)) hrl))
  have hm0 : rd (l.drop p.toNat) 0 = rd l p := by simp [rd, List.getD]
  have hml : 0 < (l.drop p.toNat).length := by simp; omega
  obtain ⟨m, hm⟩ : ∃ m, m = l.drop p.toNat := ⟨_, rfl⟩
  rw [← hm] at hcut hrd hm0 hml hC
  obtain ⟨ad, ead, hx0⟩ := Kd.at_int hrd 0 (by omega) (by omega)
  subst ead
  rw [show ((0 : Int)).toNat = 0 from rfl, Addr.add_zero', hm0] at hx0
  have hlt : (0 < m.length) = True := eq_true hml
  have hz : ((m.length : Int) == 0) = false := beq_eq_false_iff_ne.mpr (by omega)
  have hlt2 : decide (0 < m.length) = true := decide_eq_true hml
  have hw1 : wrap64 (p + 1) = p + 1 := by unfold wrap64; omega
  have hgt : decide ((l.length : Int) < p + 1 + 2) = true := decide_eq_true (by omega)
  have hp00 : 0 ≤ p := hp0
  have hpl : p + 1 + 2 ≤ 9223372036854775807 := by omega
  have b91 : (rd l p == 91) = false := by simp [h40]
  have b40 : (rd l p == 40) = true := by simpa using h40
  have HM := Aside0.mk hm
  clear h hB hA hC hi0 hsz hrl hrd hll hcl hp0 hp1 h40 hm hm0 hml h3
  have hu65 := Tryd.underlying65
  cases one
  all_goals
    go_enter Tryd.func67, Tryd.ntmps67
    go_wp2
    go_quiet (fail)
    go_wp2
    go_quiet (fail)
    go_wp2
    go_ret2
    exact ⟨rfl, by repeat (first | exact HR.out | apply RD.drew | apply RD.drewN | apply RD.set_at), by repeat (first | exact HB.out | apply below_drew | apply pw_below_drewN | refine Below.setCell ?_ HR.out.ge _), by simp [World.setCell]⟩
set_option maxHeartbeats 8000000 in
set_option maxRecDepth 100000 in
theorem name_open {w0 w : World} {base g : Nat} {vl : Value} {l : List Int} {p : Int} {vo : Value} {xs : List S38} {vb : Value} {ys : List S41} (k : Nat) (one : Bool)
    (hB : Below base w0 w) (h : RD w base g vl l p vo xs vb ys) (hp0 : 0 ≤ p) (hp1 : p < l.length) (h91 : rd l p = 91) (j : Int) (hi : slices_Index_rune_rune.f k (l.drop p.toNat) 93 = some j) (he : j < 0) (hll : l.length ≤ 9223372036854775806) :
    Calls Tryd.prog 67 #[.pointer (some ⟨g, 0, none⟩), .bool one] w fun e w' => e = .returned (.tuple #[.string ⟨#[]⟩, .bool false]) ∧
      RD w' base g vl l p vo xs vb ys ∧ Below base w0 w' ∧ w.heap.size ≤ w'.heap.size := by
  obtain ⟨Al, cl, el, hcl, hrl⟩ := Kd.R_reads h.l
  subst el
  have HR := Aside0.mk h
  have HB := Aside0.mk hB
  have hcz0 : w.cell? ⟨g, 0, none⟩ = some (.slice Al l.length cl) := (blk_cell h.blk 0).trans rfl
  have hcz1 : w.cell? ⟨g, 1, none⟩ = some (.int .i64 p) := (blk_cell h.blk 1).trans rfl
  have hfz1 := blk_frozen h.blk 1
  obtain ⟨i0, hi0, _, hsz, _⟩ := info_parts info21
  obtain ⟨A', hcut, hA, hC⟩ := print_drop_of (P := Tryd.prog) (Value.int .i32) 0 34 21 .i64 Tryd.underlying34 hi0 hsz Al cl l p hp0 (Int.le_of_lt hp1) hcl
  have hrd : Kd.C (Kd.int .i32) w A' (l.drop p.toNat).length (l.drop p.toNat) := Kd.C_of_reads (h1 := fun _ => rfl) (hA w (Kd.reads_of_C (d := (0 : Int)) hrl))
  have hm0 : rd (l.drop p.toNat) 0 = rd l p := by simp [rd, List.getD]
  have hml : 0 < (l.drop p.toNat).length := by simp; omega
  obtain ⟨m, hm⟩ : ∃ m, m = l.drop p.toNat := ⟨_, rfl⟩
  rw [← hm] at hcut hrd hm0 hml hC hi
  obtain ⟨ad, ead, hx0⟩ := Kd.at_int hrd 0 (by omega) (by omega)
  subst ead
  rw [show ((0 : Int)).toNat = 0 from rfl, Addr.add_zero', hm0] at hx0
  have hlt : (0 < m.length) = True := eq_true hml
  have hz : ((m.length : Int) == 0) = false := beq_eq_false_iff_ne.mpr (by omega)
  have hlt2 : decide (0 < m.length) = true := decide_eq_true hml
  have HI := Aside0.mk hi
  have HRD := Aside0.mk hrd
  have HC := Aside0.mk hC
  have b91 : (rd l p == 91) = true := by simpa using h91
  have he0 : decide (j < 0) = true := decide_eq_true (by omega)
  have HM := Aside0.mk hm
  clear h hB hA hC hi0 hsz hrl hrd hll hcl hp0 hp1 h91 hm hm0 hml hi he
  have hu65 := Tryd.underlying65
  go_enter Tryd.func67, Tryd.ntmps67
  go_wp2
  go_quiet (fail)
  go_wp2_with (go_at_call 70; (with_reducible refine (slices_Index_rune_rune.calls k _ _ m 93 j _ ?side1 ?side2 HI.out).mono ?_); (case side1 => repeat (first | exact HRD.out | (with_reducible refine Kd.C_drewN ?_ _) | (with_reducible refine Kd.C_drew ?_))); (case side2 => exact HC.out); rintro e w' ⟨rfl, ⟨nd, rfl⟩⟩)
  go_ret2
  exact ⟨rfl, by repeat (first | exact HR.out | apply RD.drew | apply RD.drewN | apply RD.set_at), by repeat (first | exact HB.out | apply below_drew | apply pw_below_drewN | refine Below.setCell ?_ HR.out.ge _), by simp [World.setCell]⟩
set_option maxHeartbeats 8000000 in
set_option maxRecDepth 100000 in
theorem name_in {w0 w : World} {base g : Nat} {vl : Value} {l : List Int} {p : Int} {vo : Value} {xs : List S38} {vb : Value} {ys : List S41} (k : Nat) (one : Bool)
    (hB : Below base w0 w) (h : RD w base g vl l p vo xs vb ys) (hp0 : 0 ≤ p) (hp1 : p < l.length) (h91 : rd l p = 91) (j : Int) (hi : slices_Index_rune_rune.f k (l.drop p.toNat) 93 = some j) (he : 1 ≤ j) (he2 : j < (l.drop p.toNat).length) (hll : l.length ≤ 9223372036854775806) :
    Calls Tryd.prog 67 #[.pointer (some ⟨g, 0, none⟩), .bool one] w fun e w' => e = .returned (.tuple #[.string (runesBytes (((l.drop p.toNat).take j.toNat).drop 1)), .bool true]) ∧
      RD w' base g vl l (p + (j + 1)) vo xs vb ys ∧ Below base w0 w' ∧ w.heap.size ≤ w'.heap.size := by
  obtain ⟨Al, cl, el, hcl, hrl⟩ := Kd.R_reads h.l
  subst el
  have HR := Aside0.mk h
  have HB := Aside0.mk hB
  have hcz0 : w.cell? ⟨g, 0, none⟩ = some (.slice Al l.length cl) := (blk_cell h.blk 0).trans rfl
  have hcz1 : w.cell? ⟨g, 1, none⟩ = some (.int .i64 p) := (blk_cell h.blk 1).trans rfl
  have hfz1 := blk_frozen h.blk 1
  obtain ⟨i0, hi0, _, hsz, _⟩ := info_parts info21
  obtain ⟨A', hcut, hA, hC⟩ := print_drop_of (P := Tryd.prog) (Value.int .i32) 0 34 21 .i64 Tryd.underlying34 hi0 hsz Al cl l p hp0 (Int.le_of_lt hp1) hcl
  have hrd : Kd.C (Kd.int .i32) w A' (l.drop p.toNat).length (l.drop p.toNat) := Kd.C_of_reads (h1 := fun _ => rfl) (hA w (Kd.reads_of_C (d := (0 : Int)) hrl))
  have hm0 : rd (l.drop p.toNat) 0 = rd l p := by simp [rd, List.getD]
  have hml : 0 < (l.drop p.toNat).length := by simp; omega
  obtain ⟨m, hm⟩ : ∃ m, m = l.drop p.toNat := ⟨_, rfl⟩
  rw [← hm] at hcut hrd hm0 hml hC hi he2
  obtain ⟨ad, ead, hx0⟩ := Kd.at_int hrd 0 (by omega) (by omega)
  subst ead
  rw [show ((0 : Int)).toNat = 0 from rfl, Addr.add_zero', hm0] at hx0
  have hlt : (0 < m.length) = True := eq_true hml
  have hz : ((m.length : Int) == 0) = false := beq_eq_false_iff_ne.mpr (by omega)
  have hlt2 : decide (0 < m.length) = true := decide_eq_true hml
  have hml2 : (m.length : Int) ≤ l.length - p := by rw [hm]; simp; omega
  obtain ⟨i1, hi1, _, hsz1, _⟩ := info_parts info21
  obtain ⟨A2, hcut2, hA2, hC2⟩ := print_mid_of (P := Tryd.prog) (Value.int .i32) 0 34 21 .i64 .i64 Tryd.underlying34 hi1 hsz1 (some ad) (cl - p.toNat) m 1 j (by omega) he (by omega) hC
  have hrd2 : ∀ n, Kd.C (Kd.int .i32) ((w.drewN n).setCell ⟨g, 1, none⟩ (.int .i64 (p + (j + 1)))) A2 ((m.take j.toNat).drop (1 : Int).toNat).length ((m.take j.toNat).drop (1 : Int).toNat) := fun n => Kd.C_of_reads (h1 := fun _ => rfl) (hA2 _ (Kd.reads_of_C (d := (0 : Int)) (by rw [hm]; exact Kd.C_of_reads (h1 := fun _ => rfl) (hA _ (Kd.reads_of_C (d := (0 : Int)) (Kd.R_reads' ((HR.out.drewN n).set_at (p + (j + 1))).l).2.2)))))
  obtain ⟨m2, hm2⟩ : ∃ m2, m2 = (m.take j.toNat).drop (1 : Int).toNat := ⟨_, rfl⟩
  rw [← hm2] at hcut2 hrd2
  have hcv := fun n => runes_conv (c := cl - p.toNat - 1) (hrd2 n)
  rw [show (m.take j.toNat).drop (1 : Int).toNat = (m.take j.toNat).drop 1 from rfl] at hm2
  have HM2 := Aside0.mk hm2
  have hp00 : 0 ≤ p := hp0
  have he00 : 0 ≤ j := by omega
  have hpl : p + (j + 1) ≤ 9223372036854775807 := by omega
  have HI := Aside0.mk hi
  have HRD := Aside0.mk hrd
  have HC := Aside0.mk hC
  have b91 : (rd l p == 91) = true := by simpa using h91
  have he0 : decide (j < 0) = false := decide_eq_false (by omega)
  have HM := Aside0.mk hm
  clear h hB hA hC hi0 hsz hrl hrd hll hcl hp0 hp1 h91 hm hm0 hml hi hrd2 hA2 hC2 hi1 hsz1 hm2 he he2 hml2
  have hu65 := Tryd.underlying65
  go_enter Tryd.func67, Tryd.ntmps67
  go_wp2
  go_quiet (fail)
  go_wp2_with (go_at_call 70; (with_reducible refine (slices_Index_rune_rune.calls k _ _ m 93 j _ ?side1 ?side2 HI.out).mono ?_); (case side1 => repeat (first | exact HRD.out | (with_reducible refine Kd.C_drewN ?_ _) | (with_reducible refine Kd.C_drew ?_))); (case side2 => exact HC.out); rintro e w' ⟨rfl, ⟨nd, rfl⟩⟩)
  trace_state
  go_ret2
  rw [← HM.out, ← HM2.out]
  exact ⟨rfl, by repeat (first | exact HR.out | apply RD.drew | apply RD.drewN | apply RD.set_at), by repeat (first | exact HB.out | apply below_drew | apply pw_below_drewN | refine Below.setCell ?_ HR.out.ge _), by simp [World.setCell]⟩
theorem name_calls {w0 w : World} {base g : Nat} {vl : Value} {l : List Int} {p : Int} {vo : Value} {xs : List S38} {vb : Value} {ys : List S41} (k : Nat) (one : Bool) (s : ByteArray) (ok : Bool) (q : Int)
    (hB : Below base w0 w) (h : RD w base g vl l p vo xs vb ys) (hp0 : 0 ≤ p) (hp1 : p ≤ l.length) (hll : l.length ≤ 9223372036854775800) (hf : rd_name k l p one = some (s, ok, q)) :
    Calls Tryd.prog 67 #[.pointer (some ⟨g, 0, none⟩), .bool one] w fun e w' => e = .returned (.tuple #[.string s, .bool ok]) ∧
      RD w' base g vl l q vo xs vb ys ∧ Below base w0 w' ∧ w.heap.size ≤ w'.heap.size := by
  unfold rd_name at hf
  by_cases h0 : (l.length : Int) ≤ p
  · rw [if_pos h0] at hf
    simp only [Option.some.injEq, Prod.mk.injEq] at hf
    obtain ⟨rfl, rfl, rfl⟩ := hf
    exact name_empty one hB h hp0 hp1 h0
  rw [if_neg h0] at hf
  have hp2 : p < l.length := by omega
  by_cases h91 : rd l p = 91
  · rw [if_pos h91] at hf
    obtain ⟨j, hj, hf⟩ := Option.bind_eq_some_iff.mp hf
    by_cases hj0 : j < 0
    · rw [if_pos hj0] at hf
      simp only [Option.some.injEq, Prod.mk.injEq] at hf
      obtain ⟨rfl, rfl, rfl⟩ := hf
      exact name_open k one hB h hp0 hp2 h91 j hj hj0 (by omega)
    · rw [if_neg hj0] at hf
      by_cases hj1 : 1 ≤ j ∧ j < (l.drop p.toNat).length
      · rw [if_pos hj1] at hf
        simp only [Option.some.injEq, Prod.mk.injEq] at hf
        obtain ⟨rfl, rfl, rfl⟩ := hf
        exact name_in k one hB h hp0 hp2 h91 j hj hj1.1 hj1.2 (by omega)
      · rw [if_neg hj1] at hf
        exact absurd hf (by simp)
  rw [if_neg h91] at hf
  by_cases h40 : rd l p = 40
  · rw [if_pos h40] at hf
    by_cases h3 : p + 1 + 2 > l.length
    · rw [if_pos h3] at hf
      simp only [Option.some.injEq, Prod.mk.injEq] at hf
      obtain ⟨rfl, rfl, rfl⟩ := hf
      exact name_two_ends one hB h hp0 hp2 h40 h3 hll
    · rw [if_neg h3] at hf
      simp only [Option.some.injEq, Prod.mk.injEq] at hf
      obtain ⟨rfl, rfl, rfl⟩ := hf
      exact name_two one hB h hp0 hp2 h40 (by omega) (by omega)
  rw [if_neg h40] at hf
  cases one
  · simp only [Bool.false_eq_true, if_false, Option.some.injEq, Prod.mk.injEq] at hf
    obtain ⟨rfl, rfl, rfl⟩ := hf
    exact name_none false hB h hp0 hp2 h91 h40
  · simp only [if_true, Option.some.injEq, Prod.mk.injEq] at hf
    obtain ⟨rfl, rfl, rfl⟩ := hf
    exact name_one true hB h hp0 hp2 h91 h40 (by omega)
end Go.Proofs.YtdogljnddalgdaaDoor.A6
end
