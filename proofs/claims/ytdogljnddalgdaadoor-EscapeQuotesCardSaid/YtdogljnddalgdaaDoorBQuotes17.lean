/- Of what the law EscapeQuotes needs: part 17. -/
import Derived.ArgAppend
import Derived.Below
import Derived.BigQuiet
import Derived.Deep.AppendLies
import Derived.Deep.CutBlock
import Derived.Deep.DeepCutAuto
import Derived.Deep.Draws
import Derived.Deep.LoopGhost
import Derived.Deep.OwnRows
import Derived.Deep.QuietTactic
import Derived.Deep.RegionHeld3
import Derived.KernelRfl
import Derived.Laws.BitsLemmas
import Derived.Laws.BytesArg
import Derived.Laws.Cover4
import Derived.Laws.IdiomCopy
import Derived.Laws.MakeOwn
import Derived.Laws.OwnMore
import Derived.Laws.Rows
import Derived.Laws.Slices
import Derived.Laws.StructEq
import Derived.Lib.AppendStr
import Derived.Lib.ConvBytes
import Derived.Maps.AppendAt
import Derived.Maps.Own
import Derived.Maps.OwnOps
import Derived.Maps.OwnSet
import Derived.OrdersHeld
import Derived.OwnWalk
import Derived.RowKit
import Derived.RowKit3
import Derived.StringKeys
import Derived.Tactics
import Derived.Test.YtdogljnddalgdaaDoorProg
import Derived.WalkKit
import Derived.WalkMore
import Derived.WideLaws
import Derived.Test.YtdogljnddalgdaaDoorBQuotes8
import Derived.Test.YtdogljnddalgdaaDoorBQuotes9
import Derived.Test.YtdogljnddalgdaaDoorBQuotes11
import Derived.Test.YtdogljnddalgdaaDoorBQuotes15
import Derived.Test.YtdogljnddalgdaaDoorBQuotes16
namespace Go.Proofs.YtdogljnddalgdaaDoor
end Go.Proofs.YtdogljnddalgdaaDoor
namespace Go.Proofs.YtdogljnddalgdaaDoorW.PrintLast
end Go.Proofs.YtdogljnddalgdaaDoorW.PrintLast
namespace Go.Proofs.YtdogljnddalgdaaDoorW.PrintMore
end Go.Proofs.YtdogljnddalgdaaDoorW.PrintMore
namespace Go.Proofs.YtdogljnddalgdaaDoorW.PrintWords
end Go.Proofs.YtdogljnddalgdaaDoorW.PrintWords
section
namespace Go.Proofs.YtdogljnddalgdaaDoor.A4
open Go.RowKit Go.Proofs.YtdogljnddalgdaaDoorW.PrintWords Go.Proofs.YtdogljnddalgdaaDoorW.PrintLast Go.Proofs.YtdogljnddalgdaaDoorW.PrintMore
attribute [local go_sem] max2_int min2_int max_two min_two max_three min_three max_four min_four   -- for this text's walks alone
set_option linter.unusedVariables false
set_option linter.unusedSimpArgs false
def flongref04_Quote.l0 : Nat → ByteArray → ByteArray → Int → Option (ByteArray)
  | 0, _, _, _ => none
  | k + 1, x0, x3, x4 => if x4 < (x0.size : Int) then (if 0 ≤ x4 then (if x4 ≤ (wrap64 (x4 + 1)) then (if (wrap64 (x4 + 1)) ≤ (x0.size : Int) then (if x3.size + (x0.extract (x4 : Int).toNat ((wrap64 (x4 + 1)) : Int).toNat).size ≤ 9223372036854775807 then (if (bt x0 x4) = 92 then (if (x3 ++ (x0.extract (x4 : Int).toNat ((wrap64 (x4 + 1)) : Int).toNat)).size + 1 ≤ 9223372036854775807 then (flongref04_Quote.l0 k x0 ((x3 ++ (x0.extract (x4 : Int).toNat ((wrap64 (x4 + 1)) : Int).toNat)) ++ (⟨#[101]⟩ : ByteArray)) (wrap64 (x4 + 1))) else (none)) else (flongref04_Quote.l0 k x0 (x3 ++ (x0.extract (x4 : Int).toNat ((wrap64 (x4 + 1)) : Int).toNat)) (wrap64 (x4 + 1)))) else (none)) else (none)) else (none)) else (none)) else (some x3)
def flongref04_Quote.f (k : Nat) (a0 : ByteArray) : Option (ByteArray) := flongref04_Quote.l0 k a0 (⟨#[]⟩ : ByteArray) 0
theorem flongref04_Quote.mono_l : ∀ k, (∀ y0 y1 y2, LeO (flongref04_Quote.l0 k y0 y1 y2) (flongref04_Quote.l0 (k + 1) y0 y1 y2))
  | 0 => fun _ _ _ r h => by simp [flongref04_Quote.l0] at h
  | k + 1 => by
    have ih0 := flongref04_Quote.mono_l k
    · intro y0 y1 y2
      unfold flongref04_Quote.l0
      repeat' first
      | (with_reducible exact ih0 _ _ _)
      | (with_reducible exact LeO.refl _)
      | (with_reducible exact LeO.none _)
      | (with_reducible refine LeO.ite ?_ ?_)
      | (with_reducible refine LeO.bind ?_ (fun _ => ?_))
      | exact ih0 _ _ _
      | exact LeO.none _
      | refine LeO.ite ?_ ?_
      | refine LeO.bind ?_ (fun _ => ?_)
theorem flongref04_Quote.mono : ∀ a0 k, LeO (flongref04_Quote.f k a0) (flongref04_Quote.f (k + 1) a0) := by
  intro a0 k
  have ih0 := flongref04_Quote.mono_l k
  unfold flongref04_Quote.f
  repeat' first
      | (with_reducible exact ih0 _ _ _)
      | (with_reducible exact LeO.refl _)
      | (with_reducible exact LeO.none _)
      | (with_reducible refine LeO.ite ?_ ?_)
      | (with_reducible refine LeO.bind ?_ (fun _ => ?_))
      | exact ih0 _ _ _
      | exact LeO.none _
      | refine LeO.ite ?_ ?_
      | refine LeO.bind ?_ (fun _ => ?_)
set_option maxHeartbeats 8000000 in
set_option maxRecDepth 100000 in
theorem flongref04_Quote.calls (k : Nat) (a0 : ByteArray) (r : ByteArray) (w : World) (h : flongref04_Quote.f k a0 = some r) :
    Calls Tryd.prog 24 #[.string a0] w fun e w' => e = .returned (.string r) ∧ Drawn0 w w' := by
  have H : (flongref04_Quote.l0 k a0 (⟨#[]⟩ : ByteArray) 0) = some r := h
  clear h
  have H' := Aside0.mk H
  clear H
  go_enter Tryd.func24, Tryd.ntmps24
  go_wp2
  go_loopg [3, 4] k (fun kq v3 v4 w' => ∃ (x3_1 : ByteArray) (x4_1 : Int), v3 = .string x3_1 ∧ v4 = .int .i64 x4_1 ∧ Aside0 (flongref04_Quote.l0 kq a0 x3_1 x4_1 = some r) ∧ Aside0 (kq ≤ k) ∧ Drawn0 w w')
  case atStart => exact ⟨((⟨#[]⟩ : ByteArray)), (0), (by first | rfl | (simp; done) | (simp [*]; done)), (by first | rfl | (simp; done) | (simp [*]; done)), H', ⟨Nat.le_refl _⟩, by repeat (first | exact Drawn0.refl _ | apply Drawn0.step)⟩
  case round =>
    clear H'
    obtain ⟨x3_1, x4_1, rfl, rfl, HA, HK1, ⟨m1, rfl⟩⟩ := hrel
    cases gk with
    | zero => exact absurd HA.out (by simp [flongref04_Quote.l0])
    | succ k1 =>
      have H := HA.out
      clear HA
      simp only [flongref04_Quote.l0] at H
      by_cases c2 : x4_1 < (a0.size : Int)
      · rw [if_pos c2] at H
        have c2b0 : decide (x4_1 < (a0.size : Int)) = true := decide_eq_true c2
        clear c2
        by_cases c3 : 0 ≤ x4_1
        · rw [if_pos c3] at H
          have c3b0 := eq_true c3
          have c3b1 : decide (0 ≤ x4_1) = true := decide_eq_true c3
          clear c3
          by_cases c4 : x4_1 ≤ (wrap64 (x4_1 + 1))
          · rw [if_pos c4] at H
            have c4b0 := eq_true c4
            have c4b1 : decide (x4_1 ≤ (wrap64 (x4_1 + 1))) = true := decide_eq_true c4
            by_cases c5 : (wrap64 (x4_1 + 1)) ≤ (a0.size : Int)
            · rw [if_pos c5] at H
              have c5b0 := eq_true c5
              have c5b1 : decide ((wrap64 (x4_1 + 1)) ≤ (a0.size : Int)) = true := decide_eq_true c5
              by_cases c6 : x3_1.size + (a0.extract (x4_1 : Int).toNat ((wrap64 (x4_1 + 1)) : Int).toNat).size ≤ 9223372036854775807
              · rw [if_pos c6] at H
                have c6b0 := eq_true c6
                have c6b1 : decide (x3_1.size + (a0.extract (x4_1 : Int).toNat ((wrap64 (x4_1 + 1)) : Int).toNat).size ≤ 9223372036854775807) = true := decide_eq_true c6
                try have c6b2 : (9223372036854775807 < x3_1.size + (a0.extract (x4_1 : Int).toNat ((wrap64 (x4_1 + 1)) : Int).toNat).size) = False := eq_false (Nat.not_lt.2 c6)
                by_cases c8 : (bt a0 x4_1) = 92
                · rw [if_pos c8] at H
                  have c8b0 : ((bt a0 x4_1) == 92) = true := beq_iff_eq.mpr c8
                  have c8b1 : ((bt a0 x4_1) != 92) = false := bne_eq_false_iff_eq.mpr c8
                  clear c8
                  by_cases c9 : (x3_1 ++ (a0.extract (x4_1 : Int).toNat ((wrap64 (x4_1 + 1)) : Int).toNat)).size + 1 ≤ 9223372036854775807
                  · rw [if_pos c9] at H
                    have c9b0 := eq_true c9
                    have c9b1 : decide ((x3_1 ++ (a0.extract (x4_1 : Int).toNat ((wrap64 (x4_1 + 1)) : Int).toNat)).size + 1 ≤ 9223372036854775807) = true := decide_eq_true c9
                    try have c9b2 : (9223372036854775807 < (x3_1 ++ (a0.extract (x4_1 : Int).toNat ((wrap64 (x4_1 + 1)) : Int).toNat)).size + 1) = False := eq_false (Nat.not_lt.2 c9)
                    try have c9b3 := by have h_ := c9b2; simp only [ByteArray.size_append] at h_; exact h_
                    try have c9n := by have h_ := c9; simp only [ByteArray.size_append, ByteArray.size_extract] at h_; exact h_
                    try have c9m := by have h_ := c9; simp at h_; exact h_
                    have H' := Aside0.mk H
                    clear H
                    have p7 : 0 ≤ (x4_1 : Int) := of_decide_eq_true (by first | (with_reducible assumption) | assumption)
                    have q7 : x4_1 < (a0.size : Int) := of_decide_eq_true (by first | (with_reducible assumption) | assumption)
                    have hx7 := bt_at a0 x4_1
                    replace p7 := eq_true p7
                    replace q7 := eq_true q7
                    go_wp2
                    go_roundg k1
                    case measure => have := HK1.out; omega
                    case rel => exact ⟨((x3_1 ++ (a0.extract (x4_1 : Int).toNat ((wrap64 (x4_1 + 1)) : Int).toNat)) ++ (⟨#[101]⟩ : ByteArray)), (wrap64 (x4_1 + 1)), (by first | rfl | (simp; done) | (simp [*]; done)), (by first | rfl | (simp; done) | (simp [*]; done)), H', ⟨by have := HK1.out; omega⟩, by repeat (first | exact Drawn0.refl _ | apply Drawn0.step)⟩
                  · rw [if_neg c9] at H
                    exact absurd H (by simp)
                · rw [if_neg c8] at H
                  have c8b0 : ((bt a0 x4_1) == 92) = false := beq_eq_false_iff_ne.mpr c8
                  have c8b1 : ((bt a0 x4_1) != 92) = true := bne_iff_ne.mpr c8
                  have H' := Aside0.mk H
                  clear H
                  have p7 : 0 ≤ (x4_1 : Int) := of_decide_eq_true (by first | (with_reducible assumption) | assumption)
                  have q7 : x4_1 < (a0.size : Int) := of_decide_eq_true (by first | (with_reducible assumption) | assumption)
                  have hx7 := bt_at a0 x4_1
                  replace p7 := eq_true p7
                  replace q7 := eq_true q7
                  go_wp2
                  go_roundg k1
                  case measure => have := HK1.out; omega
                  case rel => exact ⟨(x3_1 ++ (a0.extract (x4_1 : Int).toNat ((wrap64 (x4_1 + 1)) : Int).toNat)), (wrap64 (x4_1 + 1)), (by first | rfl | (simp; done) | (simp [*]; done)), (by first | rfl | (simp; done) | (simp [*]; done)), H', ⟨by have := HK1.out; omega⟩, by repeat (first | exact Drawn0.refl _ | apply Drawn0.step)⟩
              · rw [if_neg c6] at H
                exact absurd H (by simp)
            · rw [if_neg c5] at H
              exact absurd H (by simp)
          · rw [if_neg c4] at H
            exact absurd H (by simp)
        · rw [if_neg c3] at H
          exact absurd H (by simp)
      · rw [if_neg c2] at H
        have c2b0 : decide (x4_1 < (a0.size : Int)) = false := decide_eq_false c2
        clear c2
        obtain rfl := Option.some.inj H
        go_wp2
        go_ret
        exact ⟨by first | rfl | (simp; done) | (simp [*]; done), by repeat (first | exact Drawn0.refl _ | apply Drawn0.step)⟩
def flonglaw04_EscapeNames.f (k : Nat) (a0 : ByteArray) : Option (Bool) := if (a0.size : Int) > 300 then ((flonglaw04_known.f k).bind fun t357 => (some t357)) else ((escape_Name.f k a0).bind fun bt358 => ((escape_Font.f a0).bind fun bt360 => ((flongref04_Name.f k a0).bind fun t362 => ((flongref04_Font.f k a0).bind fun t363 => (if (wrap64 (bt358.1)) = (mx t362 0) then (if (bt358.2 == (decide (t362 ≥ 0))) = true then (if (wrap64 (bt360.1)) = (mx t363 0) then (if (bt360.2 == (decide (t363 ≥ 0))) = true then ((escape_Quote.f k a0).bind fun t364 => ((flongref04_Quote.f k a0).bind fun t365 => (if t364.toList = t365.toList then ((flonglaw04_known.f k).bind fun t366 => (some t366)) else (some false)))) else (some false)) else (some false)) else (some false)) else (some false))))))
theorem flonglaw04_EscapeNames.mono : ∀ a0 k, LeO (flonglaw04_EscapeNames.f k a0) (flonglaw04_EscapeNames.f (k + 1) a0) := by
  intro a0 k
  unfold flonglaw04_EscapeNames.f
  repeat' first
      | (with_reducible exact escape_Name.mono _ _)
      | (with_reducible exact escape_Quote.mono _ _)
      | (with_reducible exact flonglaw04_known.mono _)
      | (with_reducible exact flongref04_Font.mono _ _)
      | (with_reducible exact flongref04_Name.mono _ _)
      | (with_reducible exact flongref04_Quote.mono _ _)
      | (with_reducible exact LeO.refl _)
      | (with_reducible exact LeO.none _)
      | (with_reducible refine LeO.ite ?_ ?_)
      | (with_reducible refine LeO.bind ?_ (fun _ => ?_))
      | exact escape_Name.mono _ _
      | exact escape_Quote.mono _ _
      | exact flonglaw04_known.mono _
      | exact flongref04_Font.mono _ _
      | exact flongref04_Name.mono _ _
      | exact flongref04_Quote.mono _ _
      | exact LeO.none _
      | refine LeO.ite ?_ ?_
      | refine LeO.bind ?_ (fun _ => ?_)
set_option maxHeartbeats 8000000 in
set_option maxRecDepth 100000 in
theorem flonglaw04_EscapeNames.calls (k : Nat) (a0 : ByteArray) (r : Bool) (w : World) (hG : GL w) (h : flonglaw04_EscapeNames.f k a0 = some r) :
    Calls Tryd.prog 4 #[.string a0] w fun e w' => e = .returned (.bool r) ∧ Below w.heap.size w w' := by
  have HG := Aside0.mk hG
  clear hG
  have HB := Aside0.mk (Below.refl w.heap.size w)
  have H : (if (a0.size : Int) > 300 then ((flonglaw04_known.f k).bind fun t357 => (some t357)) else ((escape_Name.f k a0).bind fun bt358 => ((escape_Font.f a0).bind fun bt360 => ((flongref04_Name.f k a0).bind fun t362 => ((flongref04_Font.f k a0).bind fun t363 => (if (wrap64 (bt358.1)) = (mx t362 0) then (if (bt358.2 == (decide (t362 ≥ 0))) = true then (if (wrap64 (bt360.1)) = (mx t363 0) then (if (bt360.2 == (decide (t363 ≥ 0))) = true then ((escape_Quote.f k a0).bind fun t364 => ((flongref04_Quote.f k a0).bind fun t365 => (if t364.toList = t365.toList then ((flonglaw04_known.f k).bind fun t366 => (some t366)) else (some false)))) else (some false)) else (some false)) else (some false)) else (some false))))))) = some r := h
  clear h
  by_cases c2 : (a0.size : Int) > 300
  · rw [if_pos c2] at H
    have c2b0 : decide (300 < (a0.size : Int)) = true := decide_eq_true c2
    have c2b1 : decide (300 < a0.size) = true := decide_eq_true (by omega)
    clear c2
    replace H := Option.bind_eq_some_iff.mp H
    obtain ⟨t357, A30, H⟩ := H
    replace H : (some t357) = some r := H
    have A3 := Aside0.mk A30
    clear A30
    obtain rfl := Option.some.inj H
    go_enter Tryd.func4, Tryd.ntmps4
    go_wp2_with (first | ((with_reducible refine gate_callee (f := 14) rfl ?_); refine goesL_ (some 12) rfl rfl Tryd.func14 (by kernel_rfl) rfl #[] rfl (by (try simp only [List.map_toArray, List.map_cons, List.map_nil]); first | done | rfl | (simp only [List.length_drop, List.length_take]; rfl)) ?_; (with_reducible refine (flonglaw04_known.calls k  t357 _ ?side1 A3.out).mono ?_); (case side1 => exact GL.below HG.out (by repeat (first | (with_reducible first | exact HB.out | apply below_alloc | apply pw_below_drewN | apply below_drew1) | exact HB.out))); rintro e w4 ⟨rfl, hb⟩; refine ⟨_, rfl, ?_⟩; have n0_ := Aside0.mk (below_step (by repeat (first | (with_reducible first | exact HB.out | apply below_alloc | apply pw_below_drewN | apply below_drew1) | exact HB.out)) hb); clear HB; have HB := n0_; clear n0_; (try clear hb); (try clear hb2); (try clear hk); (try clear hi)))
    go_ret
    exact ⟨by first | rfl | (simp [errW_none, errW_some] <;> rfl) | (simp [*, errW_none, errW_some] <;> rfl), by repeat (first | (with_reducible first | exact HB.out | apply below_alloc | apply pw_below_drewN | apply below_drew1) | exact HB.out)⟩
  · rw [if_neg c2] at H
    have c2b0 : decide (300 < (a0.size : Int)) = false := decide_eq_false c2
    have c2b1 : decide (300 < a0.size) = false := decide_eq_false (by omega)
    clear c2
    replace H := Option.bind_eq_some_iff.mp H
    obtain ⟨⟨t358, t359⟩, A50, H⟩ := H
    replace H : ((escape_Font.f a0).bind fun bt360 => ((flongref04_Name.f k a0).bind fun t362 => ((flongref04_Font.f k a0).bind fun t363 => (if (wrap64 (t358)) = (mx t362 0) then (if (t359 == (decide (t362 ≥ 0))) = true then (if (wrap64 (bt360.1)) = (mx t363 0) then (if (bt360.2 == (decide (t363 ≥ 0))) = true then ((escape_Quote.f k a0).bind fun t364 => ((flongref04_Quote.f k a0).bind fun t365 => (if t364.toList = t365.toList then ((flonglaw04_known.f k).bind fun t366 => (some t366)) else (some false)))) else (some false)) else (some false)) else (some false)) else (some false))))) = some r := H
    have A5 := Aside0.mk A50
    clear A50
    replace H := Option.bind_eq_some_iff.mp H
    obtain ⟨⟨t360, t361⟩, A60, H⟩ := H
    replace H : ((flongref04_Name.f k a0).bind fun t362 => ((flongref04_Font.f k a0).bind fun t363 => (if (wrap64 (t358)) = (mx t362 0) then (if (t359 == (decide (t362 ≥ 0))) = true then (if (wrap64 (t360)) = (mx t363 0) then (if (t361 == (decide (t363 ≥ 0))) = true then ((escape_Quote.f k a0).bind fun t364 => ((flongref04_Quote.f k a0).bind fun t365 => (if t364.toList = t365.toList then ((flonglaw04_known.f k).bind fun t366 => (some t366)) else (some false)))) else (some false)) else (some false)) else (some false)) else (some false)))) = some r := H
    have A6 := Aside0.mk A60
    clear A60
    replace H := Option.bind_eq_some_iff.mp H
    obtain ⟨t362, A70, H⟩ := H
    replace H : ((flongref04_Font.f k a0).bind fun t363 => (if (wrap64 (t358)) = (mx t362 0) then (if (t359 == (decide (t362 ≥ 0))) = true then (if (wrap64 (t360)) = (mx t363 0) then (if (t361 == (decide (t363 ≥ 0))) = true then ((escape_Quote.f k a0).bind fun t364 => ((flongref04_Quote.f k a0).bind fun t365 => (if t364.toList = t365.toList then ((flonglaw04_known.f k).bind fun t366 => (some t366)) else (some false)))) else (some false)) else (some false)) else (some false)) else (some false))) = some r := H
    have A7 := Aside0.mk A70
    clear A70
    replace H := Option.bind_eq_some_iff.mp H
    obtain ⟨t363, A80, H⟩ := H
    replace H : (if (wrap64 (t358)) = (mx t362 0) then (if (t359 == (decide (t362 ≥ 0))) = true then (if (wrap64 (t360)) = (mx t363 0) then (if (t361 == (decide (t363 ≥ 0))) = true then ((escape_Quote.f k a0).bind fun t364 => ((flongref04_Quote.f k a0).bind fun t365 => (if t364.toList = t365.toList then ((flonglaw04_known.f k).bind fun t366 => (some t366)) else (some false)))) else (some false)) else (some false)) else (some false)) else (some false)) = some r := H
    have A8 := Aside0.mk A80
    clear A80
    obtain ⟨ji9, hji9⟩ : ∃ j_ : Int, (mx t362 0) = j_ := ⟨_, rfl⟩
    replace H : (if (wrap64 (t358)) = (ji9) then (if (t359 == (decide (t362 ≥ 0))) = true then (if (wrap64 (t360)) = (mx t363 0) then (if (t361 == (decide (t363 ≥ 0))) = true then ((escape_Quote.f k a0).bind fun t364 => ((flongref04_Quote.f k a0).bind fun t365 => (if t364.toList = t365.toList then ((flonglaw04_known.f k).bind fun t366 => (some t366)) else (some false)))) else (some false)) else (some false)) else (some false)) else (some false)) = some r := by first | (rw [hji9] at H; exact H) | (simp only [hji9] at H ⊢; exact H)
    (try rw [hji9] at A5)
    (try rw [hji9] at A6)
    (try rw [hji9] at A7)
    (try rw [hji9] at A8)
    (try (have hji9l : 0 ≤ ji9 := by (rw [← hji9]; unfold mx; (repeat' split) <;> omega)))
    (try (have hji9m : 0 ≤ ji9 := by omega))
    have hji9_ : (if t362 < 0 then 0 else t362) = ji9 := hji9
    by_cases c10 : (wrap64 (t358)) = (ji9)
    · rw [if_pos c10] at H
      have c10b0 : ((wrap64 (t358)) == (ji9)) = true := beq_iff_eq.mpr c10
      have c10b1 : ((wrap64 (t358)) != (ji9)) = false := bne_eq_false_iff_eq.mpr c10
      clear c10
      by_cases c11 : (t359 == (decide (t362 ≥ 0))) = true
      · rw [if_pos c11] at H
        have c11b0 : (t359 == (decide (t362 ≥ 0))) = true := c11
        (try (have c11b1 : decide (t359 = (decide (t362 ≥ 0))) = true := by simpa using c11))
        (try (have c11b2 : (t359 == (decide (t362 ≥ 0))) = true := by simpa using c11))
        clear c11
        obtain ⟨ji12, hji12⟩ : ∃ j_ : Int, (mx t363 0) = j_ := ⟨_, rfl⟩
        replace H : (if (wrap64 (t360)) = (ji12) then (if (t361 == (decide (t363 ≥ 0))) = true then ((escape_Quote.f k a0).bind fun t364 => ((flongref04_Quote.f k a0).bind fun t365 => (if t364.toList = t365.toList then ((flonglaw04_known.f k).bind fun t366 => (some t366)) else (some false)))) else (some false)) else (some false)) = some r := by first | (rw [hji12] at H; exact H) | (simp only [hji12] at H ⊢; exact H)
        (try rw [hji12] at A5)
        (try rw [hji12] at A6)
        (try rw [hji12] at A7)
        (try rw [hji12] at A8)
        (try (have hji12l : 0 ≤ ji12 := by (rw [← hji12]; unfold mx; (repeat' split) <;> omega)))
        (try (have hji12m : 0 ≤ ji12 := by omega))
        have hji12_ : (if t363 < 0 then 0 else t363) = ji12 := hji12
        by_cases c13 : (wrap64 (t360)) = (ji12)
        · rw [if_pos c13] at H
          have c13b0 : ((wrap64 (t360)) == (ji12)) = true := beq_iff_eq.mpr c13
          have c13b1 : ((wrap64 (t360)) != (ji12)) = false := bne_eq_false_iff_eq.mpr c13
          clear c13
          by_cases c14 : (t361 == (decide (t363 ≥ 0))) = true
          · rw [if_pos c14] at H
            have c14b0 : (t361 == (decide (t363 ≥ 0))) = true := c14
            (try (have c14b1 : decide (t361 = (decide (t363 ≥ 0))) = true := by simpa using c14))
            (try (have c14b2 : (t361 == (decide (t363 ≥ 0))) = true := by simpa using c14))
            clear c14
            replace H := Option.bind_eq_some_iff.mp H
            obtain ⟨t364, A150, H⟩ := H
            replace H : ((flongref04_Quote.f k a0).bind fun t365 => (if t364.toList = t365.toList then ((flonglaw04_known.f k).bind fun t366 => (some t366)) else (some false))) = some r := H
            have A15 := Aside0.mk A150
            clear A150
            replace H := Option.bind_eq_some_iff.mp H
            obtain ⟨t365, A160, H⟩ := H
            replace H : (if t364.toList = t365.toList then ((flonglaw04_known.f k).bind fun t366 => (some t366)) else (some false)) = some r := H
            have A16 := Aside0.mk A160
            clear A160
            by_cases c17 : t364.toList = t365.toList
            · rw [if_pos c17] at H
              have c17b0 : (t364.toList == t365.toList) = true := beq_iff_eq.mpr c17
              have c17b1 : (t364.toList != t365.toList) = false := bne_eq_false_iff_eq.mpr c17
              clear c17
              replace H := Option.bind_eq_some_iff.mp H
              obtain ⟨t366, A180, H⟩ := H
              replace H : (some t366) = some r := H
              have A18 := Aside0.mk A180
              clear A180
              obtain rfl := Option.some.inj H
              go_enter Tryd.func4, Tryd.ntmps4
              go_wp2_with (first | ((with_reducible refine gate_callee (f := 19) rfl ?_); refine goesL_ (some 15) rfl rfl Tryd.func19 (by kernel_rfl) rfl #[.string a0] rfl (by (try simp only [List.map_toArray, List.map_cons, List.map_nil]); first | done | rfl | (simp only [List.length_drop, List.length_take]; rfl)) ?_; (with_reducible refine (escape_Name.calls k a0 t358 t359 _ ?side1 A5.out).mono ?_); (case side1 => exact GL.below HG.out (by repeat (first | (with_reducible first | exact HB.out | apply below_alloc | apply pw_below_drewN | apply below_drew1) | exact HB.out))); rintro e w' ⟨rfl, ⟨nd, rfl⟩⟩; refine ⟨_, rfl, ?_⟩) | ((with_reducible refine gate_callee (f := 20) rfl ?_); refine goesL_ (some 20) rfl rfl Tryd.func20 (by kernel_rfl) rfl #[.string a0] rfl (by (try simp only [List.map_toArray, List.map_cons, List.map_nil]); first | done | rfl | (simp only [List.length_drop, List.length_take]; rfl)) ?_; (with_reducible refine (escape_Font.calls a0 t360 t361 _ ?side1 A6.out).mono ?_); (case side1 => exact GL.below HG.out (by repeat (first | (with_reducible first | exact HB.out | apply below_alloc | apply pw_below_drewN | apply below_drew1) | exact HB.out))); rintro e w' ⟨rfl, ⟨nd, rfl⟩⟩; refine ⟨_, rfl, ?_⟩) | ((with_reducible refine gate_callee (f := 21) rfl ?_); refine goesL_ (some 24) rfl rfl Tryd.func21 (by kernel_rfl) rfl #[.string a0] rfl (by (try simp only [List.map_toArray, List.map_cons, List.map_nil]); first | done | rfl | (simp only [List.length_drop, List.length_take]; rfl)) ?_; (with_reducible refine (flongref04_Name.calls k a0 t362 _ A7.out).mono ?_); rintro e w19 ⟨rfl, hb⟩; refine ⟨_, rfl, ?_⟩; have n0_ := Aside0.mk (below_step (by repeat (first | (with_reducible first | exact HB.out | apply below_alloc | apply pw_below_drewN | apply below_drew1) | exact HB.out)) hb); clear HB; have HB := n0_; clear n0_; (try clear hb); (try clear hb2); (try clear hk); (try clear hi)) | ((with_reducible refine gate_callee (f := 22) rfl ?_); refine goesL_ (some 26) rfl rfl Tryd.func22 (by kernel_rfl) rfl #[.string a0] rfl (by (try simp only [List.map_toArray, List.map_cons, List.map_nil]); first | done | rfl | (simp only [List.length_drop, List.length_take]; rfl)) ?_; (with_reducible refine (flongref04_Font.calls k a0 t363 _ A8.out).mono ?_); rintro e w20 ⟨rfl, hb⟩; refine ⟨_, rfl, ?_⟩; have n0_ := Aside0.mk (below_step (by repeat (first | (with_reducible first | exact HB.out | apply below_alloc | apply pw_below_drewN | apply below_drew1) | exact HB.out)) hb); clear HB; have HB := n0_; clear n0_; (try clear hb); (try clear hb2); (try clear hk); (try clear hi)) | (go_at_call 23; (with_reducible refine (escape_Quote.calls k a0 t364 _ A15.out).mono ?_); rintro e w21 ⟨rfl, hb⟩; have n0_ := Aside0.mk (below_step (by repeat (first | (with_reducible first | exact HB.out | apply below_alloc | apply pw_below_drewN | apply below_drew1) | exact HB.out)) hb); clear HB; have HB := n0_; clear n0_; (try clear hb); (try clear hb2); (try clear hk); (try clear hi)) | (go_at_call 24; (with_reducible refine (flongref04_Quote.calls k a0 t365 _ A16.out).mono ?_); rintro e w' ⟨rfl, ⟨nd, rfl⟩⟩) | (go_at_call 14; (with_reducible refine (flonglaw04_known.calls k  t366 _ ?side1 A18.out).mono ?_); (case side1 => exact GL.below HG.out (by repeat (first | (with_reducible first | exact HB.out | apply below_alloc | apply pw_below_drewN | apply below_drew1) | exact HB.out))); rintro e w22 ⟨rfl, hb⟩; have n0_ := Aside0.mk (below_step (by repeat (first | (with_reducible first | exact HB.out | apply below_alloc | apply pw_below_drewN | apply below_drew1) | exact HB.out)) hb); clear HB; have HB := n0_; clear n0_; (try clear hb); (try clear hb2); (try clear hk); (try clear hi)))
              go_ret
              exact ⟨by first | rfl | (simp [errW_none, errW_some] <;> rfl) | (simp only [← hji9, ← hji12]; first | rfl | (simp [errW_none, errW_some] <;> rfl)) | (simp [*, errW_none, errW_some] <;> rfl), by repeat (first | (with_reducible first | exact HB.out | apply below_alloc | apply pw_below_drewN | apply below_drew1) | exact HB.out)⟩
            · rw [if_neg c17] at H
              have c17b0 : (t364.toList == t365.toList) = false := beq_eq_false_iff_ne.mpr c17
              have c17b1 : (t364.toList != t365.toList) = true := bne_iff_ne.mpr c17
              obtain rfl := Option.some.inj H
              go_enter Tryd.func4, Tryd.ntmps4
              go_wp2_with (first | ((with_reducible refine gate_callee (f := 19) rfl ?_); refine goesL_ (some 15) rfl rfl Tryd.func19 (by kernel_rfl) rfl #[.string a0] rfl (by (try simp only [List.map_toArray, List.map_cons, List.map_nil]); first | done | rfl | (simp only [List.length_drop, List.length_take]; rfl)) ?_; (with_reducible refine (escape_Name.calls k a0 t358 t359 _ ?side1 A5.out).mono ?_); (case side1 => exact GL.below HG.out (by repeat (first | (with_reducible first | exact HB.out | apply below_alloc | apply pw_below_drewN | apply below_drew1) | exact HB.out))); rintro e w' ⟨rfl, ⟨nd, rfl⟩⟩; refine ⟨_, rfl, ?_⟩) | ((with_reducible refine gate_callee (f := 20) rfl ?_); refine goesL_ (some 20) rfl rfl Tryd.func20 (by kernel_rfl) rfl #[.string a0] rfl (by (try simp only [List.map_toArray, List.map_cons, List.map_nil]); first | done | rfl | (simp only [List.length_drop, List.length_take]; rfl)) ?_; (with_reducible refine (escape_Font.calls a0 t360 t361 _ ?side1 A6.out).mono ?_); (case side1 => exact GL.below HG.out (by repeat (first | (with_reducible first | exact HB.out | apply below_alloc | apply pw_below_drewN | apply below_drew1) | exact HB.out))); rintro e w' ⟨rfl, ⟨nd, rfl⟩⟩; refine ⟨_, rfl, ?_⟩) | ((with_reducible refine gate_callee (f := 21) rfl ?_); refine goesL_ (some 24) rfl rfl Tryd.func21 (by kernel_rfl) rfl #[.string a0] rfl (by (try simp only [List.map_toArray, List.map_cons, List.map_nil]); first | done | rfl | (simp only [List.length_drop, List.length_take]; rfl)) ?_; (with_reducible refine (flongref04_Name.calls k a0 t362 _ A7.out).mono ?_); rintro e w23 ⟨rfl, hb⟩; refine ⟨_, rfl, ?_⟩; have n0_ := Aside0.mk (below_step (by repeat (first | (with_reducible first | exact HB.out | apply below_alloc | apply pw_below_drewN | apply below_drew1) | exact HB.out)) hb); clear HB; have HB := n0_; clear n0_; (try clear hb); (try clear hb2); (try clear hk); (try clear hi)) | ((with_reducible refine gate_callee (f := 22) rfl ?_); refine goesL_ (some 26) rfl rfl Tryd.func22 (by kernel_rfl) rfl #[.string a0] rfl (by (try simp only [List.map_toArray, List.map_cons, List.map_nil]); first | done | rfl | (simp only [List.length_drop, List.length_take]; rfl)) ?_; (with_reducible refine (flongref04_Font.calls k a0 t363 _ A8.out).mono ?_); rintro e w24 ⟨rfl, hb⟩; refine ⟨_, rfl, ?_⟩; have n0_ := Aside0.mk (below_step (by repeat (first | (with_reducible first | exact HB.out | apply below_alloc | apply pw_below_drewN | apply below_drew1) | exact HB.out)) hb); clear HB; have HB := n0_; clear n0_; (try clear hb); (try clear hb2); (try clear hk); (try clear hi)) | (go_at_call 23; (with_reducible refine (escape_Quote.calls k a0 t364 _ A15.out).mono ?_); rintro e w25 ⟨rfl, hb⟩; have n0_ := Aside0.mk (below_step (by repeat (first | (with_reducible first | exact HB.out | apply below_alloc | apply pw_below_drewN | apply below_drew1) | exact HB.out)) hb); clear HB; have HB := n0_; clear n0_; (try clear hb); (try clear hb2); (try clear hk); (try clear hi)) | (go_at_call 24; (with_reducible refine (flongref04_Quote.calls k a0 t365 _ A16.out).mono ?_); rintro e w' ⟨rfl, ⟨nd, rfl⟩⟩))
              go_ret
              exact ⟨by first | rfl | (simp [errW_none, errW_some] <;> rfl) | (simp only [← hji9, ← hji12]; first | rfl | (simp [errW_none, errW_some] <;> rfl)) | (simp [*, errW_none, errW_some] <;> rfl), by repeat (first | (with_reducible first | exact HB.out | apply below_alloc | apply pw_below_drewN | apply below_drew1) | exact HB.out)⟩
          · rw [if_neg c14] at H
            have c14b0 : (t361 == (decide (t363 ≥ 0))) = false := by simpa using c14
            (try (have c14b1 : decide (t361 = (decide (t363 ≥ 0))) = false := by simpa using c14))
            (try (have c14b2 : (t361 == (decide (t363 ≥ 0))) = false := by simpa using c14))
            (try (have c14b3 : ¬ (t361 = (decide (t363 ≥ 0))) := by simpa using c14))
            clear c14
            obtain rfl := Option.some.inj H
            go_enter Tryd.func4, Tryd.ntmps4
            go_wp2_with (first | ((with_reducible refine gate_callee (f := 19) rfl ?_); refine goesL_ (some 15) rfl rfl Tryd.func19 (by kernel_rfl) rfl #[.string a0] rfl (by (try simp only [List.map_toArray, List.map_cons, List.map_nil]); first | done | rfl | (simp only [List.length_drop, List.length_take]; rfl)) ?_; (with_reducible refine (escape_Name.calls k a0 t358 t359 _ ?side1 A5.out).mono ?_); (case side1 => exact GL.below HG.out (by repeat (first | (with_reducible first | exact HB.out | apply below_alloc | apply pw_below_drewN | apply below_drew1) | exact HB.out))); rintro e w' ⟨rfl, ⟨nd, rfl⟩⟩; refine ⟨_, rfl, ?_⟩) | ((with_reducible refine gate_callee (f := 20) rfl ?_); refine goesL_ (some 20) rfl rfl Tryd.func20 (by kernel_rfl) rfl #[.string a0] rfl (by (try simp only [List.map_toArray, List.map_cons, List.map_nil]); first | done | rfl | (simp only [List.length_drop, List.length_take]; rfl)) ?_; (with_reducible refine (escape_Font.calls a0 t360 t361 _ ?side1 A6.out).mono ?_); (case side1 => exact GL.below HG.out (by repeat (first | (with_reducible first | exact HB.out | apply below_alloc | apply pw_below_drewN | apply below_drew1) | exact HB.out))); rintro e w' ⟨rfl, ⟨nd, rfl⟩⟩; refine ⟨_, rfl, ?_⟩) | ((with_reducible refine gate_callee (f := 21) rfl ?_); refine goesL_ (some 24) rfl rfl Tryd.func21 (by kernel_rfl) rfl #[.string a0] rfl (by (try simp only [List.map_toArray, List.map_cons, List.map_nil]); first | done | rfl | (simp only [List.length_drop, List.length_take]; rfl)) ?_; (with_reducible refine (flongref04_Name.calls k a0 t362 _ A7.out).mono ?_); rintro e w26 ⟨rfl, hb⟩; refine ⟨_, rfl, ?_⟩; have n0_ := Aside0.mk (below_step (by repeat (first | (with_reducible first | exact HB.out | apply below_alloc | apply pw_below_drewN | apply below_drew1) | exact HB.out)) hb); clear HB; have HB := n0_; clear n0_; (try clear hb); (try clear hb2); (try clear hk); (try clear hi)) | ((with_reducible refine gate_callee (f := 22) rfl ?_); refine goesL_ (some 26) rfl rfl Tryd.func22 (by kernel_rfl) rfl #[.string a0] rfl (by (try simp only [List.map_toArray, List.map_cons, List.map_nil]); first | done | rfl | (simp only [List.length_drop, List.length_take]; rfl)) ?_; (with_reducible refine (flongref04_Font.calls k a0 t363 _ A8.out).mono ?_); rintro e w27 ⟨rfl, hb⟩; refine ⟨_, rfl, ?_⟩; have n0_ := Aside0.mk (below_step (by repeat (first | (with_reducible first | exact HB.out | apply below_alloc | apply pw_below_drewN | apply below_drew1) | exact HB.out)) hb); clear HB; have HB := n0_; clear n0_; (try clear hb); (try clear hb2); (try clear hk); (try clear hi)))
            go_ret
            exact ⟨by first | rfl | (simp [errW_none, errW_some] <;> rfl) | (simp only [← hji9, ← hji12]; first | rfl | (simp [errW_none, errW_some] <;> rfl)) | (simp [*, errW_none, errW_some] <;> rfl), by repeat (first | (with_reducible first | exact HB.out | apply below_alloc | apply pw_below_drewN | apply below_drew1) | exact HB.out)⟩
        · rw [if_neg c13] at H
          have c13b0 : ((wrap64 (t360)) == (ji12)) = false := beq_eq_false_iff_ne.mpr c13
          have c13b1 : ((wrap64 (t360)) != (ji12)) = true := bne_iff_ne.mpr c13
          obtain rfl := Option.some.inj H
          go_enter Tryd.func4, Tryd.ntmps4
          go_wp2_with (first | ((with_reducible refine gate_callee (f := 19) rfl ?_); refine goesL_ (some 15) rfl rfl Tryd.func19 (by kernel_rfl) rfl #[.string a0] rfl (by (try simp only [List.map_toArray, List.map_cons, List.map_nil]); first | done | rfl | (simp only [List.length_drop, List.length_take]; rfl)) ?_; (with_reducible refine (escape_Name.calls k a0 t358 t359 _ ?side1 A5.out).mono ?_); (case side1 => exact GL.below HG.out (by repeat (first | (with_reducible first | exact HB.out | apply below_alloc | apply pw_below_drewN | apply below_drew1) | exact HB.out))); rintro e w' ⟨rfl, ⟨nd, rfl⟩⟩; refine ⟨_, rfl, ?_⟩) | ((with_reducible refine gate_callee (f := 20) rfl ?_); refine goesL_ (some 20) rfl rfl Tryd.func20 (by kernel_rfl) rfl #[.string a0] rfl (by (try simp only [List.map_toArray, List.map_cons, List.map_nil]); first | done | rfl | (simp only [List.length_drop, List.length_take]; rfl)) ?_; (with_reducible refine (escape_Font.calls a0 t360 t361 _ ?side1 A6.out).mono ?_); (case side1 => exact GL.below HG.out (by repeat (first | (with_reducible first | exact HB.out | apply below_alloc | apply pw_below_drewN | apply below_drew1) | exact HB.out))); rintro e w' ⟨rfl, ⟨nd, rfl⟩⟩; refine ⟨_, rfl, ?_⟩) | ((with_reducible refine gate_callee (f := 21) rfl ?_); refine goesL_ (some 24) rfl rfl Tryd.func21 (by kernel_rfl) rfl #[.string a0] rfl (by (try simp only [List.map_toArray, List.map_cons, List.map_nil]); first | done | rfl | (simp only [List.length_drop, List.length_take]; rfl)) ?_; (with_reducible refine (flongref04_Name.calls k a0 t362 _ A7.out).mono ?_); rintro e w28 ⟨rfl, hb⟩; refine ⟨_, rfl, ?_⟩; have n0_ := Aside0.mk (below_step (by repeat (first | (with_reducible first | exact HB.out | apply below_alloc | apply pw_below_drewN | apply below_drew1) | exact HB.out)) hb); clear HB; have HB := n0_; clear n0_; (try clear hb); (try clear hb2); (try clear hk); (try clear hi)) | ((with_reducible refine gate_callee (f := 22) rfl ?_); refine goesL_ (some 26) rfl rfl Tryd.func22 (by kernel_rfl) rfl #[.string a0] rfl (by (try simp only [List.map_toArray, List.map_cons, List.map_nil]); first | done | rfl | (simp only [List.length_drop, List.length_take]; rfl)) ?_; (with_reducible refine (flongref04_Font.calls k a0 t363 _ A8.out).mono ?_); rintro e w29 ⟨rfl, hb⟩; refine ⟨_, rfl, ?_⟩; have n0_ := Aside0.mk (below_step (by repeat (first | (with_reducible first | exact HB.out | apply below_alloc | apply pw_below_drewN | apply below_drew1) | exact HB.out)) hb); clear HB; have HB := n0_; clear n0_; (try clear hb); (try clear hb2); (try clear hk); (try clear hi)))
          go_ret
          exact ⟨by first | rfl | (simp [errW_none, errW_some] <;> rfl) | (simp only [← hji9, ← hji12]; first | rfl | (simp [errW_none, errW_some] <;> rfl)) | (simp [*, errW_none, errW_some] <;> rfl), by repeat (first | (with_reducible first | exact HB.out | apply below_alloc | apply pw_below_drewN | apply below_drew1) | exact HB.out)⟩
      · rw [if_neg c11] at H
        have c11b0 : (t359 == (decide (t362 ≥ 0))) = false := by simpa using c11
        (try (have c11b1 : decide (t359 = (decide (t362 ≥ 0))) = false := by simpa using c11))
        (try (have c11b2 : (t359 == (decide (t362 ≥ 0))) = false := by simpa using c11))
        (try (have c11b3 : ¬ (t359 = (decide (t362 ≥ 0))) := by simpa using c11))
        clear c11
        obtain rfl := Option.some.inj H
        go_enter Tryd.func4, Tryd.ntmps4
        go_wp2_with (first | ((with_reducible refine gate_callee (f := 19) rfl ?_); refine goesL_ (some 15) rfl rfl Tryd.func19 (by kernel_rfl) rfl #[.string a0] rfl (by (try simp only [List.map_toArray, List.map_cons, List.map_nil]); first | done | rfl | (simp only [List.length_drop, List.length_take]; rfl)) ?_; (with_reducible refine (escape_Name.calls k a0 t358 t359 _ ?side1 A5.out).mono ?_); (case side1 => exact GL.below HG.out (by repeat (first | (with_reducible first | exact HB.out | apply below_alloc | apply pw_below_drewN | apply below_drew1) | exact HB.out))); rintro e w' ⟨rfl, ⟨nd, rfl⟩⟩; refine ⟨_, rfl, ?_⟩) | ((with_reducible refine gate_callee (f := 20) rfl ?_); refine goesL_ (some 20) rfl rfl Tryd.func20 (by kernel_rfl) rfl #[.string a0] rfl (by (try simp only [List.map_toArray, List.map_cons, List.map_nil]); first | done | rfl | (simp only [List.length_drop, List.length_take]; rfl)) ?_; (with_reducible refine (escape_Font.calls a0 t360 t361 _ ?side1 A6.out).mono ?_); (case side1 => exact GL.below HG.out (by repeat (first | (with_reducible first | exact HB.out | apply below_alloc | apply pw_below_drewN | apply below_drew1) | exact HB.out))); rintro e w' ⟨rfl, ⟨nd, rfl⟩⟩; refine ⟨_, rfl, ?_⟩) | ((with_reducible refine gate_callee (f := 21) rfl ?_); refine goesL_ (some 24) rfl rfl Tryd.func21 (by kernel_rfl) rfl #[.string a0] rfl (by (try simp only [List.map_toArray, List.map_cons, List.map_nil]); first | done | rfl | (simp only [List.length_drop, List.length_take]; rfl)) ?_; (with_reducible refine (flongref04_Name.calls k a0 t362 _ A7.out).mono ?_); rintro e w30 ⟨rfl, hb⟩; refine ⟨_, rfl, ?_⟩; have n0_ := Aside0.mk (below_step (by repeat (first | (with_reducible first | exact HB.out | apply below_alloc | apply pw_below_drewN | apply below_drew1) | exact HB.out)) hb); clear HB; have HB := n0_; clear n0_; (try clear hb); (try clear hb2); (try clear hk); (try clear hi)) | ((with_reducible refine gate_callee (f := 22) rfl ?_); refine goesL_ (some 26) rfl rfl Tryd.func22 (by kernel_rfl) rfl #[.string a0] rfl (by (try simp only [List.map_toArray, List.map_cons, List.map_nil]); first | done | rfl | (simp only [List.length_drop, List.length_take]; rfl)) ?_; (with_reducible refine (flongref04_Font.calls k a0 t363 _ A8.out).mono ?_); rintro e w31 ⟨rfl, hb⟩; refine ⟨_, rfl, ?_⟩; have n0_ := Aside0.mk (below_step (by repeat (first | (with_reducible first | exact HB.out | apply below_alloc | apply pw_below_drewN | apply below_drew1) | exact HB.out)) hb); clear HB; have HB := n0_; clear n0_; (try clear hb); (try clear hb2); (try clear hk); (try clear hi)))
        go_ret
        exact ⟨by first | rfl | (simp [errW_none, errW_some] <;> rfl) | (simp only [← hji9]; first | rfl | (simp [errW_none, errW_some] <;> rfl)) | (simp [*, errW_none, errW_some] <;> rfl), by repeat (first | (with_reducible first | exact HB.out | apply below_alloc | apply pw_below_drewN | apply below_drew1) | exact HB.out)⟩
    · rw [if_neg c10] at H
      have c10b0 : ((wrap64 (t358)) == (ji9)) = false := beq_eq_false_iff_ne.mpr c10
      have c10b1 : ((wrap64 (t358)) != (ji9)) = true := bne_iff_ne.mpr c10
      obtain rfl := Option.some.inj H
      go_enter Tryd.func4, Tryd.ntmps4
      go_wp2_with (first | ((with_reducible refine gate_callee (f := 19) rfl ?_); refine goesL_ (some 15) rfl rfl Tryd.func19 (by kernel_rfl) rfl #[.string a0] rfl (by (try simp only [List.map_toArray, List.map_cons, List.map_nil]); first | done | rfl | (simp only [List.length_drop, List.length_take]; rfl)) ?_; (with_reducible refine (escape_Name.calls k a0 t358 t359 _ ?side1 A5.out).mono ?_); (case side1 => exact GL.below HG.out (by repeat (first | (with_reducible first | exact HB.out | apply below_alloc | apply pw_below_drewN | apply below_drew1) | exact HB.out))); rintro e w' ⟨rfl, ⟨nd, rfl⟩⟩; refine ⟨_, rfl, ?_⟩) | ((with_reducible refine gate_callee (f := 20) rfl ?_); refine goesL_ (some 20) rfl rfl Tryd.func20 (by kernel_rfl) rfl #[.string a0] rfl (by (try simp only [List.map_toArray, List.map_cons, List.map_nil]); first | done | rfl | (simp only [List.length_drop, List.length_take]; rfl)) ?_; (with_reducible refine (escape_Font.calls a0 t360 t361 _ ?side1 A6.out).mono ?_); (case side1 => exact GL.below HG.out (by repeat (first | (with_reducible first | exact HB.out | apply below_alloc | apply pw_below_drewN | apply below_drew1) | exact HB.out))); rintro e w' ⟨rfl, ⟨nd, rfl⟩⟩; refine ⟨_, rfl, ?_⟩) | ((with_reducible refine gate_callee (f := 21) rfl ?_); refine goesL_ (some 24) rfl rfl Tryd.func21 (by kernel_rfl) rfl #[.string a0] rfl (by (try simp only [List.map_toArray, List.map_cons, List.map_nil]); first | done | rfl | (simp only [List.length_drop, List.length_take]; rfl)) ?_; (with_reducible refine (flongref04_Name.calls k a0 t362 _ A7.out).mono ?_); rintro e w32 ⟨rfl, hb⟩; refine ⟨_, rfl, ?_⟩; have n0_ := Aside0.mk (below_step (by repeat (first | (with_reducible first | exact HB.out | apply below_alloc | apply pw_below_drewN | apply below_drew1) | exact HB.out)) hb); clear HB; have HB := n0_; clear n0_; (try clear hb); (try clear hb2); (try clear hk); (try clear hi)) | ((with_reducible refine gate_callee (f := 22) rfl ?_); refine goesL_ (some 26) rfl rfl Tryd.func22 (by kernel_rfl) rfl #[.string a0] rfl (by (try simp only [List.map_toArray, List.map_cons, List.map_nil]); first | done | rfl | (simp only [List.length_drop, List.length_take]; rfl)) ?_; (with_reducible refine (flongref04_Font.calls k a0 t363 _ A8.out).mono ?_); rintro e w33 ⟨rfl, hb⟩; refine ⟨_, rfl, ?_⟩; have n0_ := Aside0.mk (below_step (by repeat (first | (with_reducible first | exact HB.out | apply below_alloc | apply pw_below_drewN | apply below_drew1) | exact HB.out)) hb); clear HB; have HB := n0_; clear n0_; (try clear hb); (try clear hb2); (try clear hk); (try clear hi)))
      go_ret
      exact ⟨by first | rfl | (simp [errW_none, errW_some] <;> rfl) | (simp only [← hji9]; first | rfl | (simp [errW_none, errW_some] <;> rfl)) | (simp [*, errW_none, errW_some] <;> rfl), by repeat (first | (with_reducible first | exact HB.out | apply below_alloc | apply pw_below_drewN | apply below_drew1) | exact HB.out)⟩
def flonglaw04_EscapeNames.Pure : Prop := ∀ (a0 : ByteArray), a0.size ≤ 140737488351232 → ∃ k, flonglaw04_EscapeNames.f k a0 = some true
theorem flonglaw04_EscapeNames.walk (P : flonglaw04_EscapeNames.Pure) (a0 : ByteArray) (w : World) (hG : GL w) (w0 : a0.size ≤ 140737488351232) :
    Calls Tryd.prog 4 #[.string a0] w fun e w' => e = .returned (.bool true) ∧ Below w.heap.size w w' := by
  obtain ⟨k, h⟩ := P a0 w0
  refine (flonglaw04_EscapeNames.calls k a0 true w hG h).mono ?_
  rintro e w' ⟨rfl, hd⟩
  exact ⟨rfl, hd⟩
end Go.Proofs.YtdogljnddalgdaaDoor.A4
end
section
namespace Go.Proofs.YtdogljnddalgdaaDoor.A4
open Go Go.RowKit Go.Proofs.YtdogljnddalgdaaDoor Go.Proofs.YtdogljnddalgdaaDoorW.PrintWords Go.Proofs.YtdogljnddalgdaaDoorW.PrintLast Go.Proofs.YtdogljnddalgdaaDoorW.PrintMore
def hexfrom (s : ByteArray) : Nat → Int → Int → Option Int
  | 0, _, x => some x
  | n + 1, i, x => (hexd (bt s i)).bind fun d => hexfrom s n (i + 1) (16 * x + d)
def hexName (s : ByteArray) : Int :=
  if (s.size : Int) < 5 ∨ (s.size : Int) > 7 ∨ bt s 0 ≠ 117 then -1 else match hexfrom s (s.size - 1) 1 0 with
    | none => -1
    | some x => if safe x = x then x else -1
def nameSpec (s : ByteArray) : Int := match look namesT s with
  | some r => r
  | none => hexName s
theorem hexd_range {c d : Int} (h : hexd c = some d) : 0 ≤ d ∧ d ≤ 15 := by
  unfold hexd at h
  split at h
  · cases h; omega
  · split at h
    · cases h; omega
    · cases h
theorem or16 {x d : Int} (h0 : 0 ≤ x) (h1 : x < 16777216) (d0 : 0 ≤ d) (d1 : d ≤ 15) : Go.bits .or .i32 (wrap32 (x * 16)) d = 16 * x + d := by
  rw [w32 (by omega) (by omega)]
  have := bits_join .i32 31 (by decide) wraps_i32 4 (x * 16) d (by omega) (by omega) (by omega) d0 (by omega) (by omega)
  rw [this]; omega
def hb : Nat → Int
  | 0 => 16777216
  | n + 1 => hb n / 16
theorem hb_le : ∀ n, 0 ≤ hb n ∧ hb n ≤ 16777216
  | 0 => by simp [hb]
  | n + 1 => by have := hb_le n; simp only [hb]; omega
theorem Ev_Name_l0 (s : ByteArray) (hs : s.size ≤ 7) : ∀ (n : Nat) (i x : Int), 0 ≤ i → i + n = s.size → 0 ≤ x → x < hb n →
    Ev (fun k => escape_Name.l0 k s x i) (match hexfrom s n i x with | none => (0, false) | some v => if safe v = v then (v, true) else (0, false))
  | 0, i, x, hi, he, h0, h1 => by
    refine Ev.succ ?_
    simp only [escape_Name.l0]
    refine Ev.neg (by omega) (Ev.bind (Ev_Safe x) ?_)
    simp only [hexfrom]
    by_cases h : safe x = x <;> simp only [h, reduceIte] <;> exact Ev.now _
  | n + 1, i, x, hi, he, h0, h1 => by
    have hl := hb_le n
    simp only [hb] at h1
    refine Ev.succ ?_
    simp only [escape_Name.l0]
    have hr := bt_range s i
    refine Ev.pos (by omega) (Ev.pos hi (Ev.bind (Ev_digit _ hr.1 hr.2) ?_))
    simp only [hexfrom]
    cases hd : hexd (bt s i) with
    | none => exact Ev.neg (by simp) (Ev.now _)
    | some d =>
      have hdr := hexd_range hd
      refine Ev.pos rfl ?_
      simp only [Option.bind_some]
      rw [or16 h0 (by omega) hdr.1 hdr.2, w64 (by omega) (by omega)]
      exact Ev_Name_l0 s hs n (i + 1) (16 * x + d) (by omega) (by omega) (by omega) (by omega)
theorem Ev_Name (s : ByteArray) (hs : s.size ≤ 9223372036854775807) : Ev (fun k => escape_Name.f k s) (if 0 ≤ nameSpec s then (nameSpec s, true) else (0, false)) := by
  unfold escape_Name.f
  refine Ev.pos hs ?_
  cases hk : look namesT s with
  | some r =>
    refine Ev.pos rfl (Ev.val ?_)
    have h0 : 0 ≤ r := by
      unfold look at hk
      obtain ⟨p, hp, rfl⟩ := Option.map_eq_some_iff.mp hk
      have hm := List.mem_of_find?_eq_some hp
      exact (show ∀ q ∈ namesT, 0 ≤ q.2 by decide) p hm
    have e : nameSpec s = r := by unfold nameSpec; rw [hk]
    rw [e, if_pos h0]
    rfl
  | none =>
    refine Ev.neg (by simp) ?_
    have e : nameSpec s = hexName s := by unfold nameSpec; rw [hk]
    rw [e]
    have j0 : Ev (fun k => escape_Name.j0 k s true) (0, false) := by
      refine Ev.succ ?_
      simp only [escape_Name.j0, reduceIte]
      exact Ev.now _
    have bad : (s.size : Int) < 5 ∨ (s.size : Int) > 7 ∨ bt s 0 ≠ 117 → (if 0 ≤ hexName s then (hexName s, true) else ((0 : Int), false)) = (0, false) := by
      intro h
      have : hexName s = -1 := if_pos h
      rw [this]; rfl
    by_cases h5 : (s.size : Int) < 5
    · rw [bad (.inl h5)]
      exact Ev.pos h5 j0
    refine Ev.neg h5 ?_
    by_cases h7 : (s.size : Int) > 7
    · rw [bad (.inr (.inl h7))]
      exact Ev.pos h7 j0
    refine Ev.neg h7 (Ev.pos (by omega) ?_)
    by_cases hu : bt s 0 = 117
    · have en : ¬ ((s.size : Int) < 5 ∨ (s.size : Int) > 7 ∨ bt s 0 ≠ 117) := by rintro (h | h | h) <;> first | omega | exact h hu
      have eh : hexName s = match hexfrom s (s.size - 1) 1 0 with
        | none => -1
        | some x => if safe x = x then x else -1 := if_neg en
      rw [eh, show (bt s 0 != 117) = false by simp [hu]]
      refine Ev.succ ?_
      simp only [escape_Name.j0, Bool.false_eq_true, reduceIte]
      refine Ev_eq (Ev_Name_l0 s (by omega) (s.size - 1) 1 0 (by omega) (by omega) (by omega) ?_) ?_
      · have : s.size - 1 = 4 ∨ s.size - 1 = 5 ∨ s.size - 1 = 6 := by omega
        rcases this with e | e | e <;> rw [e] <;> decide
      · cases hf : hexfrom s (s.size - 1) 1 0 with
        | none => rfl
        | some v =>
          by_cases hv : safe v = v
          · have h0 : 0 ≤ v := by
              unfold safe at hv
              split at hv
              · rename_i hc
                have := hc.1
                unfold val at this
                simp at this
                exact this.1
              · omega
            simp only [if_pos hv, if_pos h0]
          · simp only [if_neg hv]
            rfl
    · rw [bad (.inr (.inr hu)), show (bt s 0 != 117) = true by simpa using hu]
      exact j0
end Go.Proofs.YtdogljnddalgdaaDoor.A4
end
section
namespace Go.Proofs.YtdogljnddalgdaaDoor.A4
open Go Go.RowKit Go.Proofs.YtdogljnddalgdaaDoor Go.Proofs.YtdogljnddalgdaaDoorW.PrintWords Go.Proofs.YtdogljnddalgdaaDoorW.PrintLast Go.Proofs.YtdogljnddalgdaaDoorW.PrintMore
def fontSpec (s : ByteArray) : Int := (look fontsT s).getD (-1)
theorem fonts_nonneg (s : ByteArray) {r : Int} (hk : look fontsT s = some r) : 0 ≤ r := by
  unfold look at hk
  obtain ⟨p, hp, rfl⟩ := Option.map_eq_some_iff.mp hk
  have hm := List.mem_of_find?_eq_some hp
  exact (show ∀ q ∈ fontsT, 0 ≤ q.2 by decide) p hm
theorem Font_is (s : ByteArray) (hs : s.size ≤ 9223372036854775807) : escape_Font.f s = some (if 0 ≤ fontSpec s then (fontSpec s, true) else (0, false)) := by
  unfold escape_Font.f
  rw [if_pos hs]
  cases hk : look fontsT s with
  | none =>
    have e : fontSpec s = -1 := by unfold fontSpec; rw [hk]; rfl
    rw [e]; rfl
  | some r =>
    have h0 := fonts_nonneg s hk
    have e : fontSpec s = r := by unfold fontSpec; rw [hk]; rfl
    rw [e, if_pos h0]; rfl
def quoted (l : List UInt8) : List UInt8 := l.flatMap fun b => if b = 92 then [92, 101] else [b]
def quotedI (xs : List Int) : List Int := xs.flatMap fun b => if b = 92 then [92, 101] else [b]
theorem bt_drop (s : ByteArray) (i : Nat) (h : i < s.size) : (s.data.toList.drop i) = s.data.toList[i]'(by rw [Array.length_toList]; exact h) :: s.data.toList.drop (i + 1) :=
  List.drop_eq_getElem_cons (by rw [Array.length_toList]; exact h)
theorem byte_bt (s : ByteArray) (i : Nat) (h : i < s.size) : UInt8.ofNat (bt s (i : Int)).toNat = s.data.toList[i]'(by rw [Array.length_toList]; exact h) := by
  rw [bt_get s i (by rw [Array.length_toList]; exact h)]
  simp
theorem bt_92 (s : ByteArray) (i : Nat) (h : i < s.size) : bt s (i : Int) = 92 ↔ s.data.toList[i]'(by rw [Array.length_toList]; exact h) = 92 := by
  rw [bt_get s i (by rw [Array.length_toList]; exact h)]
  generalize s.data.toList[i]'(by rw [Array.length_toList]; exact h) = x
  constructor
  · intro h
    have : x.toNat = 92 := by omega
    exact UInt8.toNat_inj.mp this
  · intro h; rw [h]; rfl
theorem Ev_Quote_l0 (s : ByteArray) (hs : s.size ≤ 140737488351232 / 4) : ∀ (n i : Nat) (xs : List Int), i + n = s.size → xs.length ≤ 2 * i →
    Ev (fun k => escape_Quote.l0 k s xs (s.size : Int) (i : Int)) (⟨((xs.map fun n => UInt8.ofNat n.toNat) ++ quoted (s.data.toList.drop i)).toArray⟩)
  | 0, i, xs, h, hx => by
    refine Ev.succ ?_
    simp only [escape_Quote.l0]
    refine Ev.neg (by omega) (Ev.val ?_)
    rw [List.drop_eq_nil_of_le (by rw [Array.length_toList]; show s.size ≤ i; omega)]
    simp [quoted, strOfNums]
  | n + 1, i, xs, h, hx => by
    refine Ev.succ ?_
    simp only [escape_Quote.l0]
    refine Ev.pos (by omega) (Ev.pos (by omega) (Ev.pos (by omega) (Ev.pos (by omega) (Ev.some_bind ?_))))
    have hi : i < s.size := by omega
    have hb := byte_bt s i hi
    rw [bt_drop s i hi]
    rw [w64 (by omega) (by omega), show (i : Int) + 1 = ((i + 1 : Nat) : Int) by omega]
    by_cases hc : bt s i = 92
    · refine Ev.pos hc (Ev.pos (by simp; omega) ?_)
      refine Ev_eq (Ev_Quote_l0 s hs n (i + 1) _ (by omega) (by simp; omega)) ?_
      have hc2 := (bt_92 s i hi).mp hc
      simp only [List.map_append, List.map_cons, List.map_nil, hb, quoted, List.flatMap_cons, hc2, reduceIte, List.append_assoc]
      rfl
    · refine Ev.neg hc ?_
      refine Ev_eq (Ev_Quote_l0 s hs n (i + 1) _ (by omega) (by simp; omega)) ?_
      have hc2 : ¬ _ := fun e => hc ((bt_92 s i hi).mpr e)
      simp only [List.map_append, List.map_cons, List.map_nil, hb, quoted, List.flatMap_cons, hc2, reduceIte, List.append_assoc]
theorem Ev_Quote (s : ByteArray) (hs : s.size ≤ 140737488351232 / 4) : Ev (fun k => escape_Quote.f k s) ⟨(quoted s.data.toList).toArray⟩ := by
  unfold escape_Quote.f
  refine Ev_eq (Ev_Quote_l0 s hs s.size 0 [] (by omega) (by simp)) ?_
  simp
theorem known_is : flonglaw04_known.f 40 = some true := by decide +kernel
theorem Ev_known : Ev (fun k => flonglaw04_known.f k) true := Ev.of flonglaw04_known.mono known_is
theorem Ev_kn : Ev (fun k => (flonglaw04_known.f k).bind fun t => some t) true := Ev.bind Ev_known (Ev.now _)
end Go.Proofs.YtdogljnddalgdaaDoor.A4
end
