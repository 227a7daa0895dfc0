/- Of what the law StylesSets needs: part 10. -/
import Derived.Test.YtdogljnddalgdaaDoorBSets9
namespace Go.Proofs.YtdogljnddalgdaaDoor
end Go.Proofs.YtdogljnddalgdaaDoor
namespace Go.Proofs.YtdogljnddalgdaaDoorW.PrintLast
end Go.Proofs.YtdogljnddalgdaaDoorW.PrintLast
namespace Go.Proofs.YtdogljnddalgdaaDoorW.PrintMore
end Go.Proofs.YtdogljnddalgdaaDoorW.PrintMore
namespace Go.Proofs.YtdogljnddalgdaaDoorW.PrintWords
end Go.Proofs.YtdogljnddalgdaaDoorW.PrintWords
namespace Go.Proofs.YtdogljnddalgdaaDoorW.PrintWords.Aside0
end Go.Proofs.YtdogljnddalgdaaDoorW.PrintWords.Aside0
namespace Go.Proofs.YtdogljnddalgdaaDoorW.PrintWords.Kd
end Go.Proofs.YtdogljnddalgdaaDoorW.PrintWords.Kd
section
namespace Go.Proofs.YtdogljnddalgdaaDoor.A6
open Go.RowKit Go.Proofs.YtdogljnddalgdaaDoorW.PrintWords Go.Proofs.YtdogljnddalgdaaDoorW.PrintLast Go.Proofs.YtdogljnddalgdaaDoorW.PrintMore
attribute [local go_sem] max2_int min2_int max_two min_two max_three min_three max_four min_four   -- for this text's walks alone
set_option linter.unusedVariables false
set_option linter.unusedSimpArgs false
theorem eqA41 (d : Nat) (w : World) (x0 y0 : Int) (x1 y1 : Int) (x2 y2 : Int) :
    (Op.equalIn (d + 2) 41 (.agg #[.int .i64 x0, .int .i64 x1, .int .i64 x2]) (.agg #[.int .i64 y0, .int .i64 y1, .int .i64 y2])).run Tryd.prog w = .ok (x0 == y0 && (x1 == y1 && (x2 == y2))) w := by
  refine eqA_of Tryd.underlying41 (by kernel_rfl) ?_
  refine eqf_cons (by rfl) (by go_simp; rfl) (by go_simp; rfl) (by go_simp) ?_
  refine eqf_cons (by rfl) (by go_simp; rfl) (by go_simp; rfl) (by go_simp) ?_
  exact eqf_last (by rfl) (by go_simp; rfl) (by go_simp; rfl) (by go_simp)
end Go.Proofs.YtdogljnddalgdaaDoor.A6
end
section
namespace Go.Proofs.YtdogljnddalgdaaDoor.A6
open Go.RowKit Go.Proofs.YtdogljnddalgdaaDoorW.PrintWords Go.Proofs.YtdogljnddalgdaaDoorW.PrintLast Go.Proofs.YtdogljnddalgdaaDoorW.PrintMore
open Go.Proofs.YtdogljnddalgdaaDoorW.PrintWords.Aside0 renaming mk → qA
open Go.Proofs.YtdogljnddalgdaaDoorW.PrintWords renaming pw_below_drewN → qB, below_set → qC, blk_alloc → qD, blk_drewN → qE, below_drew1 → qF, below_alloc → qG, blk_drew → qH, blk_frozen → qL, blk_cell → qQ, below_step → qR, below_size → qS, blk_below → qX, blk_put → qY
attribute [local go_sem] max2_int min2_int max_two min_two max_three min_three max_four min_four   -- for this text's walks alone
set_option linter.unusedVariables false
set_option linter.unusedSimpArgs false
attribute [local go_sem high] eqA41
def flongref01_Same.l0 : Nat → List (S41) → List (S41) → Int → Option (Bool)
  | 0, _, _, _ => none
  | k + 1, x0, x1, x5 => if x5 < (x0.length : Int) then (if 0 ≤ x5 then (if x5 < (x1.length : Int) then (if (!(((rd_T41 x0 x5).f0) == ((rd_T41 x1 x5).f0)) || (!(((rd_T41 x0 x5).f1) == ((rd_T41 x1 x5).f1)) || (!(((rd_T41 x0 x5).f2) == ((rd_T41 x1 x5).f2))))) = true then (some false) else (flongref01_Same.l0 k x0 x1 (wrap64 (x5 + 1)))) else (none)) else (none)) else (some true)
def flongref01_Same.f (k : Nat) (l0 : List (S41)) (l1 : List (S41)) : Option (Bool) := if (l0.length : Int) = (l1.length : Int) then (flongref01_Same.l0 k l0 l1 0) else (some false)
set_option maxHeartbeats 8000000 in
set_option maxRecDepth 100000 in
theorem flongref01_Same.calls (k : Nat) (A0 : Option Addr) (c0 : Nat) (l0 : List (S41)) (A1 : Option Addr) (c1 : Nat) (l1 : List (S41)) (r : Bool) (w : World) (hr0 : Kd.C k41 w A0 l0.length l0) (hc0 : l0.length ≤ c0) (hr1 : Kd.C k41 w A1 l1.length l1) (hc1 : l1.length ≤ c1) (h : flongref01_Same.f k l0 l1 = some r) :
    Calls Tryd.prog 18 #[.slice A0 l0.length c0, .slice A1 l1.length c1] w fun e w' => e = .returned (.bool r) ∧ Drawn0 w w' := by
  have hu41 := Tryd.underlying41
  have HR0 := qA hr0
  have HC0 := qA hc0
  clear hr0 hc0
  have HR1 := qA hr1
  have HC1 := qA hc1
  clear hr1 hc1
  have H : (if (l0.length : Int) = (l1.length : Int) then (flongref01_Same.l0 k l0 l1 0) else (some false)) = some r := h
  clear h
  by_cases c3 : (l0.length : Int) = (l1.length : Int)
  · rw [if_pos c3] at H
    have c3b0 : ((l0.length : Int) == (l1.length : Int)) = true := beq_iff_eq.mpr c3
    have c3b1 : ((l0.length : Int) != (l1.length : Int)) = false := bne_eq_false_iff_eq.mpr c3
    have c3b2 : (l0.length == l1.length) = true := by first | simpa using c3 | (simp at c3 ⊢; omega)
    clear c3
    have H' := qA H
    clear H
    go_enter Tryd.func18, Tryd.ntmps18
    go_wp2
    repeat (go_quiet (fail); try go_wp2)
    go_loopg [5] k (fun kq v5 w' => ∃ (x5_1 : Int), v5 = .int .i64 x5_1 ∧ Aside0 (flongref01_Same.l0 kq l0 l1 x5_1 = some r) ∧ Aside0 (kq ≤ k) ∧ Drawn0 w w')
    case atStart => exact ⟨(0), (by first | rfl | (simp; done) | (simp [*]; done)), H', ⟨Nat.le_refl _⟩, by repeat (first | exact Drawn0.refl _ | apply Drawn0.step)⟩
    case round =>
      clear H'
      try clear c1
      try clear p2
      try clear c3
      try clear c3b0
      try clear c3b1
      try clear c3b2
      obtain ⟨x5_1, rfl, HA, HK1, ⟨m1, rfl⟩⟩ := hrel
      cases gk with
      | zero => exact absurd HA.out (by simp [flongref01_Same.l0])
      | succ k1 =>
        have H := HA.out
        clear HA
        simp only [flongref01_Same.l0] at H
        by_cases c4 : x5_1 < (l0.length : Int)
        · rw [if_pos c4] at H
          have c4b0 : decide (x5_1 < (l0.length : Int)) = true := decide_eq_true c4
          clear c4
          by_cases c5 : 0 ≤ x5_1
          · rw [if_pos c5] at H
            have c5b0 : decide (0 ≤ x5_1) = true := decide_eq_true c5
            clear c5
            by_cases c6 : x5_1 < (l1.length : Int)
            · rw [if_pos c6] at H
              have c6b0 : decide (x5_1 < (l1.length : Int)) = true := decide_eq_true c6
              clear c6
              by_cases c7 : (!(((rd_T41 l0 x5_1).f0) == ((rd_T41 l1 x5_1).f0)) || (!(((rd_T41 l0 x5_1).f1) == ((rd_T41 l1 x5_1).f1)) || (!(((rd_T41 l0 x5_1).f2) == ((rd_T41 l1 x5_1).f2))))) = true
              · rw [if_pos c7] at H
                have c7b0 : (!(((rd_T41 l0 x5_1).f0) == ((rd_T41 l1 x5_1).f0)) || (!(((rd_T41 l0 x5_1).f1) == ((rd_T41 l1 x5_1).f1)) || (!(((rd_T41 l0 x5_1).f2) == ((rd_T41 l1 x5_1).f2))))) = true := c7
                clear c7
                obtain rfl := Option.some.inj H
                have p179 : 0 ≤ (x5_1 : Int) := of_decide_eq_true (by first | (with_reducible assumption) | assumption)
                have q179 : x5_1 < (l0.length : Int) := of_decide_eq_true (by first | (with_reducible assumption) | assumption)
                obtain ⟨ad179, e179, hx179_0, hx179_1, hx179_2⟩ := at_T41 HR0.out x5_1 p179 q179
                cases e179
                replace p179 := eq_true p179
                replace q179 := eq_true q179
                have p180 : 0 ≤ (x5_1 : Int) := of_decide_eq_true (by first | (with_reducible assumption) | assumption)
                have q180 : x5_1 < (l1.length : Int) := of_decide_eq_true (by first | (with_reducible assumption) | assumption)
                obtain ⟨ad180, e180, hx180_0, hx180_1, hx180_2⟩ := at_T41 HR1.out x5_1 p180 q180
                cases e180
                replace p180 := eq_true p180
                replace q180 := eq_true q180
                go_wp2
                repeat (go_quiet (fail); try go_wp2)
                go_ret
                exact ⟨by first | rfl | (simp; done) | (simp [*]; done), by repeat (first | exact Drawn0.refl _ | apply Drawn0.step)⟩
              · rw [if_neg c7] at H
                have c7b0 : (!(((rd_T41 l0 x5_1).f0) == ((rd_T41 l1 x5_1).f0)) || (!(((rd_T41 l0 x5_1).f1) == ((rd_T41 l1 x5_1).f1)) || (!(((rd_T41 l0 x5_1).f2) == ((rd_T41 l1 x5_1).f2))))) = false := by simpa using c7
                clear c7
                have H' := qA H
                clear H
                have p179 : 0 ≤ (x5_1 : Int) := of_decide_eq_true (by first | (with_reducible assumption) | assumption)
                have q179 : x5_1 < (l0.length : Int) := of_decide_eq_true (by first | (with_reducible assumption) | assumption)
                obtain ⟨ad179, e179, hx179_0, hx179_1, hx179_2⟩ := at_T41 HR0.out x5_1 p179 q179
                cases e179
                replace p179 := eq_true p179
                replace q179 := eq_true q179
                have p180 : 0 ≤ (x5_1 : Int) := of_decide_eq_true (by first | (with_reducible assumption) | assumption)
                have q180 : x5_1 < (l1.length : Int) := of_decide_eq_true (by first | (with_reducible assumption) | assumption)
                obtain ⟨ad180, e180, hx180_0, hx180_1, hx180_2⟩ := at_T41 HR1.out x5_1 p180 q180
                cases e180
                replace p180 := eq_true p180
                replace q180 := eq_true q180
                go_wp2
                repeat (go_quiet (fail); try go_wp2)
                go_roundg k1
                case measure => have := HK1.out; omega
                case rel => exact ⟨(wrap64 (x5_1 + 1)), (by first | rfl | (simp; done) | (simp [*]; done)), H', ⟨by have := HK1.out; omega⟩, by repeat (first | exact Drawn0.refl _ | apply Drawn0.step)⟩
            · rw [if_neg c6] at H
              exact absurd H (by simp)
          · rw [if_neg c5] at H
            exact absurd H (by simp)
        · rw [if_neg c4] at H
          have c4b0 : decide (x5_1 < (l0.length : Int)) = false := decide_eq_false c4
          clear c4
          obtain rfl := Option.some.inj H
          go_wp2
          repeat (go_quiet (fail); try go_wp2)
          go_ret
          exact ⟨by first | rfl | (simp; done) | (simp [*]; done), by repeat (first | exact Drawn0.refl _ | apply Drawn0.step)⟩
  · rw [if_neg c3] at H
    have c3b0 : ((l0.length : Int) == (l1.length : Int)) = false := beq_eq_false_iff_ne.mpr c3
    have c3b1 : ((l0.length : Int) != (l1.length : Int)) = true := bne_iff_ne.mpr c3
    have c3b2 : (l0.length == l1.length) = false := by first | simpa using c3 | (simp at c3 ⊢; omega)
    obtain rfl := Option.some.inj H
    go_enter Tryd.func18, Tryd.ntmps18
    go_wp2
    repeat (go_quiet (fail); try go_wp2)
    go_ret
    exact ⟨by first | rfl | (simp; done) | (simp [*]; done), by repeat (first | exact Drawn0.refl _ | apply Drawn0.step)⟩
def flongref06_Turn.f (a0_0 : Int) (a0_1 : Int) (a1 : Int) : Option (Int × Int) := if a1 = 4 then (some (a0_1, a0_0)) else (if a1 < 0 then (some (a0_0, a0_1)) else (if a1 > 4 then (some (a0_0, a0_1)) else (some ((a1) % 256, a0_0))))
set_option maxHeartbeats 8000000 in
set_option maxRecDepth 100000 in
theorem flongref06_Turn.calls (a0_0 : Int) (a0_1 : Int) (a1 : Int) (r1 : Int) (r2 : Int) (w : World) (h : flongref06_Turn.f a0_0 a0_1 a1 = some (r1, r2)) :
    Calls Tryd.prog 37 #[.agg #[.int .u8 a0_0, .int .u8 a0_1], .int .i32 a1] w fun e w' => e = .returned (.agg #[.int .u8 r1, .int .u8 r2]) ∧ Below w.heap.size w w' := by
  have hu47 := Tryd.underlying47
  have HB := qA (Below.refl w.heap.size w)
  have H : (if a1 = 4 then (some (a0_1, a0_0)) else (if a1 < 0 then (some (a0_0, a0_1)) else (if a1 > 4 then (some (a0_0, a0_1)) else (some ((a1) % 256, a0_0))))) = some (r1, r2) := h
  clear h
  by_cases c3 : a1 = 4
  · rw [if_pos c3] at H
    have c3b0 : (a1 == 4) = true := beq_iff_eq.mpr c3
    have c3b1 : (a1 != 4) = false := bne_eq_false_iff_eq.mpr c3
    clear c3
    simp only [Option.some.injEq, Prod.mk.injEq] at H
    obtain ⟨rfl, rfl⟩ := H
    go_enter Tryd.func37, Tryd.ntmps37
    go_wp2_with (first | ((with_reducible refine gate_dst (N := 2) rfl ?_); refine box_event ?hg (N := 2) ?hd (cs := #[.int .u8 a0_0, .int .u8 a0_1]) (t := 47) ?hr ?_; (case hd => rfl); (case hg => rfl); (case hr => first | (go_simp; done) | (go_simp; rfl)); intro gb181 hg w4 hbox hb; have n0_ := qA (qR (by repeat (first | (with_reducible first | exact HB.out | apply qG | apply qB | apply qF) | exact HB.out)) hb); have n1_ := qA (hbox); have n2_ := qA ((by rw [hg]; exact (qS (by repeat (first | (with_reducible first | exact HB.out | apply qG | apply qB | apply qF) | exact HB.out))) : w.heap.size ≤ gb181)); have n3_ := qA ((by rw [hg]; exact (qS (by repeat (first | (with_reducible first | exact HB.out | apply qG | apply qB | apply qF) | exact HB.out))) : w.heap.size ≤ gb181)); clear HB; have HB := n0_; have BK181 := n1_; have GW181 := n2_; have GE181 := n3_; clear n0_ n1_ n2_ n3_; clear hb hbox hg) | ((with_reducible refine gate_dst (N := 4) rfl ?_); refine box_event ?hg (N := 4) ?hd (cs := #[.int .u8 0, .int .u8 0]) (t := 47) ?hr ?_; (case hd => rfl); (case hg => rfl); (case hr => first | (go_simp; done) | (go_simp; rfl)); intro gb182 hg w5 hbox hb; have n0_ := qA (qX (g := gb181) (o := .cells #[.int .u8 a0_0, .int .u8 a0_1] 47 (0, 0)) (by (with_reducible repeat (first | refine qE ?_ _ | refine qH ?_ | refine qD ?_ _)); exact BK181.out) hb); have n1_ := qA (qR (by repeat (first | (with_reducible first | exact HB.out | apply qG | apply qB | apply qF | refine qC ?_ GE181.out) | exact HB.out)) hb); have n2_ := qA (hbox); have n3_ := qA ((by rw [hg]; exact (qS (by repeat (first | (with_reducible first | exact HB.out | apply qG | apply qB | apply qF | refine qC ?_ GE181.out) | exact HB.out))) : w.heap.size ≤ gb182)); have n4_ := qA ((by rw [hg]; exact (qS (by repeat (first | (with_reducible first | exact HB.out | apply qG | apply qB | apply qF | refine qC ?_ GE181.out) | exact HB.out))) : w.heap.size ≤ gb182)); have n5_ := qA ((by rw [hg]; exact Nat.ne_of_lt (blk_lt (g := gb181) (o := .cells #[.int .u8 a0_0, .int .u8 a0_1] 47 (0, 0)) (by (with_reducible repeat (first | refine qE ?_ _ | refine qH ?_ | refine qD ?_ _)); exact BK181.out)) : gb181 ≠ gb182)); have n6_ := qA ((by rw [hg]; exact Nat.ne_of_gt (blk_lt (g := gb181) (o := .cells #[.int .u8 a0_0, .int .u8 a0_1] 47 (0, 0)) (by (with_reducible repeat (first | refine qE ?_ _ | refine qH ?_ | refine qD ?_ _)); exact BK181.out)) : gb182 ≠ gb181)); clear BK181; clear HB; have BK181 := n0_; have HB := n1_; have BK182 := n2_; have GW182 := n3_; have GE182 := n4_; have NB181_182 := n5_; have NB182_181 := n6_; clear n0_ n1_ n2_ n3_ n4_ n5_ n6_; clear hb hbox hg; have hnb6 := NB181_182.out; have hnc6 := NB182_181.out; have hcz7_0 : w5.cell? ⟨gb181, 0, none⟩ = some (.int .u8 a0_0) := (qQ BK181.out 0).trans rfl; have hcz7_1 : w5.cell? ⟨gb181, 1, none⟩ = some (.int .u8 a0_1) := (qQ BK181.out 1).trans rfl; have hfz7_0 := qL BK181.out 0; have hfz7_1 := qL BK181.out 1; have hcz8_0 : w5.cell? ⟨gb182, 0, none⟩ = some (.int .u8 0) := (qQ BK182.out 0).trans rfl; have hcz8_1 : w5.cell? ⟨gb182, 1, none⟩ = some (.int .u8 0) := (qQ BK182.out 1).trans rfl; have hfz8_0 := qL BK182.out 0; have hfz8_1 := qL BK182.out 1))
    refine bodyPost_ret (results_cell_row rfl _ _ gb182 47 #[.int .u8 a0_1, .int .u8 a0_0] (0, 0) _ rfl (by (with_reducible repeat (first | refine qE ?_ _ | refine qH ?_ | refine qD ?_ _)); refine qY (cs := #[.int .u8 a0_1, .int .u8 0]) ?_ 1 _ rfl; (with_reducible repeat (first | refine qE ?_ _ | refine qH ?_ | refine qD ?_ _)); refine qY (cs := #[.int .u8 0, .int .u8 0]) ?_ 0 _ rfl; (with_reducible repeat (first | refine qE ?_ _ | refine qH ?_ | refine qD ?_ _)); exact BK182.out) Tryd.underlying47 rfl (by kernel_rfl)) rfl ?_
    exact ⟨by first | rfl | (simp [errW_none, errW_some] <;> rfl) | (simp [*, errW_none, errW_some] <;> rfl), by repeat (first | (with_reducible first | exact HB.out | apply qG | apply qB | apply qF | refine qC ?_ GE181.out | refine qC ?_ GE182.out) | exact HB.out)⟩
  · rw [if_neg c3] at H
    have c3b0 : (a1 == 4) = false := beq_eq_false_iff_ne.mpr c3
    have c3b1 : (a1 != 4) = true := bne_iff_ne.mpr c3
    by_cases c9 : a1 < 0
    · rw [if_pos c9] at H
      have c9b0 : decide (a1 < 0) = true := decide_eq_true c9
      clear c9
      simp only [Option.some.injEq, Prod.mk.injEq] at H
      obtain ⟨rfl, rfl⟩ := H
      go_enter Tryd.func37, Tryd.ntmps37
      go_wp2_with (first | ((with_reducible refine gate_dst (N := 2) rfl ?_); refine box_event ?hg (N := 2) ?hd (cs := #[.int .u8 a0_0, .int .u8 a0_1]) (t := 47) ?hr ?_; (case hd => rfl); (case hg => rfl); (case hr => first | (go_simp; done) | (go_simp; rfl)); intro gb181 hg w10 hbox hb; have n0_ := qA (qR (by repeat (first | (with_reducible first | exact HB.out | apply qG | apply qB | apply qF) | exact HB.out)) hb); have n1_ := qA (hbox); have n2_ := qA ((by rw [hg]; exact (qS (by repeat (first | (with_reducible first | exact HB.out | apply qG | apply qB | apply qF) | exact HB.out))) : w.heap.size ≤ gb181)); have n3_ := qA ((by rw [hg]; exact (qS (by repeat (first | (with_reducible first | exact HB.out | apply qG | apply qB | apply qF) | exact HB.out))) : w.heap.size ≤ gb181)); clear HB; have HB := n0_; have BK181 := n1_; have GW181 := n2_; have GE181 := n3_; clear n0_ n1_ n2_ n3_; clear hb hbox hg) | ((with_reducible refine gate_dst (N := 4) rfl ?_); refine box_event ?hg (N := 4) ?hd (cs := #[.int .u8 0, .int .u8 0]) (t := 47) ?hr ?_; (case hd => rfl); (case hg => rfl); (case hr => first | (go_simp; done) | (go_simp; rfl)); intro gb182 hg w11 hbox hb; have n0_ := qA (qX (g := gb181) (o := .cells #[.int .u8 a0_0, .int .u8 a0_1] 47 (0, 0)) (by (with_reducible repeat (first | refine qE ?_ _ | refine qH ?_ | refine qD ?_ _)); exact BK181.out) hb); have n1_ := qA (qR (by repeat (first | (with_reducible first | exact HB.out | apply qG | apply qB | apply qF | refine qC ?_ GE181.out) | exact HB.out)) hb); have n2_ := qA (hbox); have n3_ := qA ((by rw [hg]; exact (qS (by repeat (first | (with_reducible first | exact HB.out | apply qG | apply qB | apply qF | refine qC ?_ GE181.out) | exact HB.out))) : w.heap.size ≤ gb182)); have n4_ := qA ((by rw [hg]; exact (qS (by repeat (first | (with_reducible first | exact HB.out | apply qG | apply qB | apply qF | refine qC ?_ GE181.out) | exact HB.out))) : w.heap.size ≤ gb182)); have n5_ := qA ((by rw [hg]; exact Nat.ne_of_lt (blk_lt (g := gb181) (o := .cells #[.int .u8 a0_0, .int .u8 a0_1] 47 (0, 0)) (by (with_reducible repeat (first | refine qE ?_ _ | refine qH ?_ | refine qD ?_ _)); exact BK181.out)) : gb181 ≠ gb182)); have n6_ := qA ((by rw [hg]; exact Nat.ne_of_gt (blk_lt (g := gb181) (o := .cells #[.int .u8 a0_0, .int .u8 a0_1] 47 (0, 0)) (by (with_reducible repeat (first | refine qE ?_ _ | refine qH ?_ | refine qD ?_ _)); exact BK181.out)) : gb182 ≠ gb181)); clear BK181; clear HB; have BK181 := n0_; have HB := n1_; have BK182 := n2_; have GW182 := n3_; have GE182 := n4_; have NB181_182 := n5_; have NB182_181 := n6_; clear n0_ n1_ n2_ n3_ n4_ n5_ n6_; clear hb hbox hg; have hnb12 := NB181_182.out; have hnc12 := NB182_181.out; have hcz13_0 : w11.cell? ⟨gb181, 0, none⟩ = some (.int .u8 a0_0) := (qQ BK181.out 0).trans rfl; have hcz13_1 : w11.cell? ⟨gb181, 1, none⟩ = some (.int .u8 a0_1) := (qQ BK181.out 1).trans rfl; have hfz13_0 := qL BK181.out 0; have hfz13_1 := qL BK181.out 1; have hcz14_0 : w11.cell? ⟨gb182, 0, none⟩ = some (.int .u8 0) := (qQ BK182.out 0).trans rfl; have hcz14_1 : w11.cell? ⟨gb182, 1, none⟩ = some (.int .u8 0) := (qQ BK182.out 1).trans rfl; have hfz14_0 := qL BK182.out 0; have hfz14_1 := qL BK182.out 1))
      refine bodyPost_ret (results_cell_row rfl _ _ gb182 47 #[.int .u8 a0_0, .int .u8 a0_1] (0, 0) _ rfl (by (with_reducible repeat (first | refine qE ?_ _ | refine qH ?_ | refine qD ?_ _)); refine qY (cs := #[.int .u8 a0_0, .int .u8 0]) ?_ 1 _ rfl; (with_reducible repeat (first | refine qE ?_ _ | refine qH ?_ | refine qD ?_ _)); refine qY (cs := #[.int .u8 0, .int .u8 0]) ?_ 0 _ rfl; (with_reducible repeat (first | refine qE ?_ _ | refine qH ?_ | refine qD ?_ _)); exact BK182.out) Tryd.underlying47 rfl (by kernel_rfl)) rfl ?_
      exact ⟨by first | rfl | (simp [errW_none, errW_some] <;> rfl) | (simp [*, errW_none, errW_some] <;> rfl), by repeat (first | (with_reducible first | exact HB.out | apply qG | apply qB | apply qF | refine qC ?_ GE181.out | refine qC ?_ GE182.out) | exact HB.out)⟩
    · rw [if_neg c9] at H
      have c9b0 : decide (a1 < 0) = false := decide_eq_false c9
      clear c9
      by_cases c15 : a1 > 4
      · rw [if_pos c15] at H
        have c15b0 : decide (4 < a1) = true := decide_eq_true c15
        clear c15
        simp only [Option.some.injEq, Prod.mk.injEq] at H
        obtain ⟨rfl, rfl⟩ := H
        go_enter Tryd.func37, Tryd.ntmps37
        go_wp2_with (first | ((with_reducible refine gate_dst (N := 2) rfl ?_); refine box_event ?hg (N := 2) ?hd (cs := #[.int .u8 a0_0, .int .u8 a0_1]) (t := 47) ?hr ?_; (case hd => rfl); (case hg => rfl); (case hr => first | (go_simp; done) | (go_simp; rfl)); intro gb181 hg w16 hbox hb; have n0_ := qA (qR (by repeat (first | (with_reducible first | exact HB.out | apply qG | apply qB | apply qF) | exact HB.out)) hb); have n1_ := qA (hbox); have n2_ := qA ((by rw [hg]; exact (qS (by repeat (first | (with_reducible first | exact HB.out | apply qG | apply qB | apply qF) | exact HB.out))) : w.heap.size ≤ gb181)); have n3_ := qA ((by rw [hg]; exact (qS (by repeat (first | (with_reducible first | exact HB.out | apply qG | apply qB | apply qF) | exact HB.out))) : w.heap.size ≤ gb181)); clear HB; have HB := n0_; have BK181 := n1_; have GW181 := n2_; have GE181 := n3_; clear n0_ n1_ n2_ n3_; clear hb hbox hg) | ((with_reducible refine gate_dst (N := 4) rfl ?_); refine box_event ?hg (N := 4) ?hd (cs := #[.int .u8 0, .int .u8 0]) (t := 47) ?hr ?_; (case hd => rfl); (case hg => rfl); (case hr => first | (go_simp; done) | (go_simp; rfl)); intro gb182 hg w17 hbox hb; have n0_ := qA (qX (g := gb181) (o := .cells #[.int .u8 a0_0, .int .u8 a0_1] 47 (0, 0)) (by (with_reducible repeat (first | refine qE ?_ _ | refine qH ?_ | refine qD ?_ _)); exact BK181.out) hb); have n1_ := qA (qR (by repeat (first | (with_reducible first | exact HB.out | apply qG | apply qB | apply qF | refine qC ?_ GE181.out) | exact HB.out)) hb); have n2_ := qA (hbox); have n3_ := qA ((by rw [hg]; exact (qS (by repeat (first | (with_reducible first | exact HB.out | apply qG | apply qB | apply qF | refine qC ?_ GE181.out) | exact HB.out))) : w.heap.size ≤ gb182)); have n4_ := qA ((by rw [hg]; exact (qS (by repeat (first | (with_reducible first | exact HB.out | apply qG | apply qB | apply qF | refine qC ?_ GE181.out) | exact HB.out))) : w.heap.size ≤ gb182)); have n5_ := qA ((by rw [hg]; exact Nat.ne_of_lt (blk_lt (g := gb181) (o := .cells #[.int .u8 a0_0, .int .u8 a0_1] 47 (0, 0)) (by (with_reducible repeat (first | refine qE ?_ _ | refine qH ?_ | refine qD ?_ _)); exact BK181.out)) : gb181 ≠ gb182)); have n6_ := qA ((by rw [hg]; exact Nat.ne_of_gt (blk_lt (g := gb181) (o := .cells #[.int .u8 a0_0, .int .u8 a0_1] 47 (0, 0)) (by (with_reducible repeat (first | refine qE ?_ _ | refine qH ?_ | refine qD ?_ _)); exact BK181.out)) : gb182 ≠ gb181)); clear BK181; clear HB; have BK181 := n0_; have HB := n1_; have BK182 := n2_; have GW182 := n3_; have GE182 := n4_; have NB181_182 := n5_; have NB182_181 := n6_; clear n0_ n1_ n2_ n3_ n4_ n5_ n6_; clear hb hbox hg; have hnb18 := NB181_182.out; have hnc18 := NB182_181.out; have hcz19_0 : w17.cell? ⟨gb181, 0, none⟩ = some (.int .u8 a0_0) := (qQ BK181.out 0).trans rfl; have hcz19_1 : w17.cell? ⟨gb181, 1, none⟩ = some (.int .u8 a0_1) := (qQ BK181.out 1).trans rfl; have hfz19_0 := qL BK181.out 0; have hfz19_1 := qL BK181.out 1; have hcz20_0 : w17.cell? ⟨gb182, 0, none⟩ = some (.int .u8 0) := (qQ BK182.out 0).trans rfl; have hcz20_1 : w17.cell? ⟨gb182, 1, none⟩ = some (.int .u8 0) := (qQ BK182.out 1).trans rfl; have hfz20_0 := qL BK182.out 0; have hfz20_1 := qL BK182.out 1))
        refine bodyPost_ret (results_cell_row rfl _ _ gb182 47 #[.int .u8 a0_0, .int .u8 a0_1] (0, 0) _ rfl (by (with_reducible repeat (first | refine qE ?_ _ | refine qH ?_ | refine qD ?_ _)); refine qY (cs := #[.int .u8 a0_0, .int .u8 0]) ?_ 1 _ rfl; (with_reducible repeat (first | refine qE ?_ _ | refine qH ?_ | refine qD ?_ _)); refine qY (cs := #[.int .u8 0, .int .u8 0]) ?_ 0 _ rfl; (with_reducible repeat (first | refine qE ?_ _ | refine qH ?_ | refine qD ?_ _)); exact BK182.out) Tryd.underlying47 rfl (by kernel_rfl)) rfl ?_
        exact ⟨by first | rfl | (simp [errW_none, errW_some] <;> rfl) | (simp [*, errW_none, errW_some] <;> rfl), by repeat (first | (with_reducible first | exact HB.out | apply qG | apply qB | apply qF | refine qC ?_ GE181.out | refine qC ?_ GE182.out) | exact HB.out)⟩
      · rw [if_neg c15] at H
        have c15b0 : decide (4 < a1) = false := decide_eq_false c15
        clear c15
        simp only [Option.some.injEq, Prod.mk.injEq] at H
        obtain ⟨rfl, rfl⟩ := H
        go_enter Tryd.func37, Tryd.ntmps37
        go_wp2_with (first | ((with_reducible refine gate_dst (N := 2) rfl ?_); refine box_event ?hg (N := 2) ?hd (cs := #[.int .u8 a0_0, .int .u8 a0_1]) (t := 47) ?hr ?_; (case hd => rfl); (case hg => rfl); (case hr => first | (go_simp; done) | (go_simp; rfl)); intro gb181 hg w21 hbox hb; have n0_ := qA (qR (by repeat (first | (with_reducible first | exact HB.out | apply qG | apply qB | apply qF) | exact HB.out)) hb); have n1_ := qA (hbox); have n2_ := qA ((by rw [hg]; exact (qS (by repeat (first | (with_reducible first | exact HB.out | apply qG | apply qB | apply qF) | exact HB.out))) : w.heap.size ≤ gb181)); have n3_ := qA ((by rw [hg]; exact (qS (by repeat (first | (with_reducible first | exact HB.out | apply qG | apply qB | apply qF) | exact HB.out))) : w.heap.size ≤ gb181)); clear HB; have HB := n0_; have BK181 := n1_; have GW181 := n2_; have GE181 := n3_; clear n0_ n1_ n2_ n3_; clear hb hbox hg) | ((with_reducible refine gate_dst (N := 4) rfl ?_); refine box_event ?hg (N := 4) ?hd (cs := #[.int .u8 0, .int .u8 0]) (t := 47) ?hr ?_; (case hd => rfl); (case hg => rfl); (case hr => first | (go_simp; done) | (go_simp; rfl)); intro gb182 hg w22 hbox hb; have n0_ := qA (qX (g := gb181) (o := .cells #[.int .u8 a0_0, .int .u8 a0_1] 47 (0, 0)) (by (with_reducible repeat (first | refine qE ?_ _ | refine qH ?_ | refine qD ?_ _)); exact BK181.out) hb); have n1_ := qA (qR (by repeat (first | (with_reducible first | exact HB.out | apply qG | apply qB | apply qF | refine qC ?_ GE181.out) | exact HB.out)) hb); have n2_ := qA (hbox); have n3_ := qA ((by rw [hg]; exact (qS (by repeat (first | (with_reducible first | exact HB.out | apply qG | apply qB | apply qF | refine qC ?_ GE181.out) | exact HB.out))) : w.heap.size ≤ gb182)); have n4_ := qA ((by rw [hg]; exact (qS (by repeat (first | (with_reducible first | exact HB.out | apply qG | apply qB | apply qF | refine qC ?_ GE181.out) | exact HB.out))) : w.heap.size ≤ gb182)); have n5_ := qA ((by rw [hg]; exact Nat.ne_of_lt (blk_lt (g := gb181) (o := .cells #[.int .u8 a0_0, .int .u8 a0_1] 47 (0, 0)) (by (with_reducible repeat (first | refine qE ?_ _ | refine qH ?_ | refine qD ?_ _)); exact BK181.out)) : gb181 ≠ gb182)); have n6_ := qA ((by rw [hg]; exact Nat.ne_of_gt (blk_lt (g := gb181) (o := .cells #[.int .u8 a0_0, .int .u8 a0_1] 47 (0, 0)) (by (with_reducible repeat (first | refine qE ?_ _ | refine qH ?_ | refine qD ?_ _)); exact BK181.out)) : gb182 ≠ gb181)); clear BK181; clear HB; have BK181 := n0_; have HB := n1_; have BK182 := n2_; have GW182 := n3_; have GE182 := n4_; have NB181_182 := n5_; have NB182_181 := n6_; clear n0_ n1_ n2_ n3_ n4_ n5_ n6_; clear hb hbox hg; have hnb23 := NB181_182.out; have hnc23 := NB182_181.out; have hcz24_0 : w22.cell? ⟨gb181, 0, none⟩ = some (.int .u8 a0_0) := (qQ BK181.out 0).trans rfl; have hcz24_1 : w22.cell? ⟨gb181, 1, none⟩ = some (.int .u8 a0_1) := (qQ BK181.out 1).trans rfl; have hfz24_0 := qL BK181.out 0; have hfz24_1 := qL BK181.out 1; have hcz25_0 : w22.cell? ⟨gb182, 0, none⟩ = some (.int .u8 0) := (qQ BK182.out 0).trans rfl; have hcz25_1 : w22.cell? ⟨gb182, 1, none⟩ = some (.int .u8 0) := (qQ BK182.out 1).trans rfl; have hfz25_0 := qL BK182.out 0; have hfz25_1 := qL BK182.out 1))
        refine bodyPost_ret (results_cell_row rfl _ _ gb182 47 #[.int .u8 ((a1) % 256), .int .u8 a0_0] (0, 0) _ rfl (by (with_reducible repeat (first | refine qE ?_ _ | refine qH ?_ | refine qD ?_ _)); refine qY (cs := #[.int .u8 ((a1) % 256), .int .u8 0]) ?_ 1 _ rfl; (with_reducible repeat (first | refine qE ?_ _ | refine qH ?_ | refine qD ?_ _)); refine qY (cs := #[.int .u8 0, .int .u8 0]) ?_ 0 _ rfl; (with_reducible repeat (first | refine qE ?_ _ | refine qH ?_ | refine qD ?_ _)); exact BK182.out) Tryd.underlying47 rfl (by kernel_rfl)) rfl ?_
        exact ⟨by first | rfl | (simp [errW_none, errW_some] <;> rfl) | (simp [*, errW_none, errW_some] <;> rfl), by repeat (first | (with_reducible first | exact HB.out | apply qG | apply qB | apply qF | refine qC ?_ GE181.out | refine qC ?_ GE182.out) | exact HB.out)⟩
end Go.Proofs.YtdogljnddalgdaaDoor.A6
end
section
namespace Go.Proofs.YtdogljnddalgdaaDoor.A6
open Go.RowKit Go.Proofs.YtdogljnddalgdaaDoorW.PrintWords Go.Proofs.YtdogljnddalgdaaDoorW.PrintLast Go.Proofs.YtdogljnddalgdaaDoorW.PrintMore
attribute [local go_sem] max2_int min2_int max_two min_two max_three min_three max_four min_four   -- for this text's walks alone
set_option linter.unusedVariables false
set_option linter.unusedSimpArgs false
theorem eqA47 (d : Nat) (w : World) (x0 y0 : Int) (x1 y1 : Int) :
    (Op.equalIn (d + 2) 47 (.agg #[.int .u8 x0, .int .u8 x1]) (.agg #[.int .u8 y0, .int .u8 y1])).run Tryd.prog w = .ok (x0 == y0 && (x1 == y1)) w := by
  refine eqA_of Tryd.underlying47 (by kernel_rfl) ?_
  refine eqf_cons (by rfl) (by go_simp; rfl) (by go_simp; rfl) (by go_simp) ?_
  exact eqf_last (by rfl) (by go_simp; rfl) (by go_simp; rfl) (by go_simp)
end Go.Proofs.YtdogljnddalgdaaDoor.A6
end
section
namespace Go.Proofs.YtdogljnddalgdaaDoor.A6
open Go.RowKit Go.Proofs.YtdogljnddalgdaaDoorW.PrintWords Go.Proofs.YtdogljnddalgdaaDoorW.PrintLast Go.Proofs.YtdogljnddalgdaaDoorW.PrintMore
open Go.Proofs.YtdogljnddalgdaaDoorW.PrintWords.Aside0 renaming mk → qA
open Go.Proofs.YtdogljnddalgdaaDoorW.PrintWords renaming pw_below_drewN → qB, below_set → qC, blk_alloc → qD, blk_drewN → qE, below_drew1 → qF, below_alloc → qG, blk_drew → qH, blk_frozen → qL, blk_cell → qQ, below_step → qR, below_size → qS, blk_put → qY
attribute [local go_sem] max2_int min2_int max_two min_two max_three min_three max_four min_four   -- for this text's walks alone
set_option linter.unusedVariables false
set_option linter.unusedSimpArgs false
def styles_Turn.j0 : Nat → Int → Int → Bool → Int → Int → Option (Int × Int)
  | 0, _, _, _, _, _ => none
  | k + 1, x1, x5, x8, x127000, x127001 => if x8 = true then (some ((x1) % 256, x127000)) else (if x5 = 2 then (some ((x1) % 256, x127000)) else (if x5 = 3 then (some ((x1) % 256, x127000)) else (some (x127000, x127001))))
def styles_Turn.f (k : Nat) (a0_0 : Int) (a0_1 : Int) (a1 : Int) : Option (Int × Int) := if a1 = 4 then (some (a0_1, a0_0)) else (if a1 = 0 then (styles_Turn.j0 k a1 a1 (a1 == 0) a0_0 a0_1) else (styles_Turn.j0 k a1 a1 (a1 == 1) a0_0 a0_1))
theorem styles_Turn.mono_l : ∀ k, (∀ y0 y1 y2 y3 y4, LeO (styles_Turn.j0 k y0 y1 y2 y3 y4) (styles_Turn.j0 (k + 1) y0 y1 y2 y3 y4))
  | 0 => fun _ _ _ _ _ r h => by simp [styles_Turn.j0] at h
  | k + 1 => by
    have ih0 := styles_Turn.mono_l k
    · intro y0 y1 y2 y3 y4
      unfold styles_Turn.j0
      repeat' first
      | (with_reducible exact ih0 _ _ _ _ _)
      | (with_reducible exact LeO.refl _)
      | (with_reducible exact LeO.none _)
      | (with_reducible refine LeO.ite ?_ ?_)
      | (with_reducible refine LeO.bind ?_ (fun _ => ?_))
      | exact ih0 _ _ _ _ _
      | exact LeO.none _
      | refine LeO.ite ?_ ?_
      | refine LeO.bind ?_ (fun _ => ?_)
theorem styles_Turn.mono : ∀ a0 a1 a2 k, LeO (styles_Turn.f k a0 a1 a2) (styles_Turn.f (k + 1) a0 a1 a2) := by
  intro a0 a1 a2 k
  have ih0 := styles_Turn.mono_l k
  unfold styles_Turn.f
  repeat' first
      | (with_reducible exact ih0 _ _ _ _ _)
      | (with_reducible exact LeO.refl _)
      | (with_reducible exact LeO.none _)
      | (with_reducible refine LeO.ite ?_ ?_)
      | (with_reducible refine LeO.bind ?_ (fun _ => ?_))
      | exact ih0 _ _ _ _ _
      | exact LeO.none _
      | refine LeO.ite ?_ ?_
      | refine LeO.bind ?_ (fun _ => ?_)
set_option maxHeartbeats 8000000 in
set_option maxRecDepth 100000 in
theorem styles_Turn.calls (k : Nat) (a0_0 : Int) (a0_1 : Int) (a1 : Int) (r1 : Int) (r2 : Int) (w : World) (h : styles_Turn.f k a0_0 a0_1 a1 = some (r1, r2)) :
    Calls Tryd.prog 35 #[.agg #[.int .u8 a0_0, .int .u8 a0_1], .int .i32 a1] w fun e w' => e = .returned (.agg #[.int .u8 r1, .int .u8 r2]) ∧ Below w.heap.size w w' := by
  have hu47 := Tryd.underlying47
  have HB := qA (Below.refl w.heap.size w)
  have H : (if a1 = 4 then (some (a0_1, a0_0)) else (if a1 = 0 then (styles_Turn.j0 k a1 a1 (a1 == 0) a0_0 a0_1) else (styles_Turn.j0 k a1 a1 (a1 == 1) a0_0 a0_1))) = some (r1, r2) := h
  clear h
  by_cases c3 : a1 = 4
  · rw [if_pos c3] at H
    have c3b0 : (a1 == 4) = true := beq_iff_eq.mpr c3
    have c3b1 : (a1 != 4) = false := bne_eq_false_iff_eq.mpr c3
    clear c3
    simp only [Option.some.injEq, Prod.mk.injEq] at H
    obtain ⟨rfl, rfl⟩ := H
    go_enter Tryd.func35, Tryd.ntmps35
    go_wp2_with (first | ((with_reducible refine gate_dst (N := 2) rfl ?_); refine box_event ?hg (N := 2) ?hd (cs := #[.int .u8 a0_0, .int .u8 a0_1]) (t := 47) ?hr ?_; (case hd => rfl); (case hg => rfl); (case hr => first | (go_simp; done) | (go_simp; rfl)); intro gb126 hg w4 hbox hb; have n0_ := qA (qR (by repeat (first | (with_reducible first | exact HB.out | apply qG | apply qB | apply qF) | exact HB.out)) hb); have n1_ := qA (hbox); have n2_ := qA ((by rw [hg]; exact (qS (by repeat (first | (with_reducible first | exact HB.out | apply qG | apply qB | apply qF) | exact HB.out))) : w.heap.size ≤ gb126)); have n3_ := qA ((by rw [hg]; exact (qS (by repeat (first | (with_reducible first | exact HB.out | apply qG | apply qB | apply qF) | exact HB.out))) : w.heap.size ≤ gb126)); clear HB; have HB := n0_; have BK126 := n1_; have GW126 := n2_; have GE126 := n3_; clear n0_ n1_ n2_ n3_; clear hb hbox hg) | ((with_reducible refine gate_dst (N := 4) rfl ?_); refine box_event ?hg (N := 4) ?hd (cs := #[.int .u8 0, .int .u8 0]) (t := 47) ?hr ?_; (case hd => rfl); (case hg => rfl); (case hr => first | (go_simp; done) | (go_simp; rfl)); intro gb127 hg w5 hbox hb; have n0_ := qA (blk_below (g := gb126) (o := .cells #[.int .u8 a0_0, .int .u8 a0_1] 47 (0, 0)) (by (with_reducible repeat (first | refine qE ?_ _ | refine qH ?_ | refine qD ?_ _)); exact BK126.out) hb); have n1_ := qA (qR (by repeat (first | (with_reducible first | exact HB.out | apply qG | apply qB | apply qF | refine qC ?_ GE126.out) | exact HB.out)) hb); have n2_ := qA (hbox); have n3_ := qA ((by rw [hg]; exact (qS (by repeat (first | (with_reducible first | exact HB.out | apply qG | apply qB | apply qF | refine qC ?_ GE126.out) | exact HB.out))) : w.heap.size ≤ gb127)); have n4_ := qA ((by rw [hg]; exact (qS (by repeat (first | (with_reducible first | exact HB.out | apply qG | apply qB | apply qF | refine qC ?_ GE126.out) | exact HB.out))) : w.heap.size ≤ gb127)); have n5_ := qA ((by rw [hg]; exact Nat.ne_of_lt (blk_lt (g := gb126) (o := .cells #[.int .u8 a0_0, .int .u8 a0_1] 47 (0, 0)) (by (with_reducible repeat (first | refine qE ?_ _ | refine qH ?_ | refine qD ?_ _)); exact BK126.out)) : gb126 ≠ gb127)); have n6_ := qA ((by rw [hg]; exact Nat.ne_of_gt (blk_lt (g := gb126) (o := .cells #[.int .u8 a0_0, .int .u8 a0_1] 47 (0, 0)) (by (with_reducible repeat (first | refine qE ?_ _ | refine qH ?_ | refine qD ?_ _)); exact BK126.out)) : gb127 ≠ gb126)); clear BK126; clear HB; have BK126 := n0_; have HB := n1_; have BK127 := n2_; have GW127 := n3_; have GE127 := n4_; have NB126_127 := n5_; have NB127_126 := n6_; clear n0_ n1_ n2_ n3_ n4_ n5_ n6_; clear hb hbox hg; have hnb6 := NB126_127.out; have hnc6 := NB127_126.out; have hcz7_0 : w5.cell? ⟨gb126, 0, none⟩ = some (.int .u8 a0_0) := (qQ BK126.out 0).trans rfl; have hcz7_1 : w5.cell? ⟨gb126, 1, none⟩ = some (.int .u8 a0_1) := (qQ BK126.out 1).trans rfl; have hfz7_0 := qL BK126.out 0; have hfz7_1 := qL BK126.out 1; have hcz8_0 : w5.cell? ⟨gb127, 0, none⟩ = some (.int .u8 0) := (qQ BK127.out 0).trans rfl; have hcz8_1 : w5.cell? ⟨gb127, 1, none⟩ = some (.int .u8 0) := (qQ BK127.out 1).trans rfl; have hfz8_0 := qL BK127.out 0; have hfz8_1 := qL BK127.out 1))
    refine bodyPost_ret (results_cell_row rfl _ _ gb127 47 #[.int .u8 a0_1, .int .u8 a0_0] (0, 0) _ rfl (by (with_reducible repeat (first | refine qE ?_ _ | refine qH ?_ | refine qD ?_ _)); refine qY (cs := #[.int .u8 a0_1, .int .u8 0]) ?_ 1 _ rfl; (with_reducible repeat (first | refine qE ?_ _ | refine qH ?_ | refine qD ?_ _)); refine qY (cs := #[.int .u8 0, .int .u8 0]) ?_ 0 _ rfl; (with_reducible repeat (first | refine qE ?_ _ | refine qH ?_ | refine qD ?_ _)); exact BK127.out) Tryd.underlying47 rfl (by kernel_rfl)) rfl ?_
    exact ⟨by first | rfl | (simp [errW_none, errW_some] <;> rfl) | (simp [*, errW_none, errW_some] <;> rfl), by repeat (first | (with_reducible first | exact HB.out | apply qG | apply qB | apply qF | refine qC ?_ GE126.out | refine qC ?_ GE127.out) | exact HB.out)⟩
  · rw [if_neg c3] at H
    have c3b0 : (a1 == 4) = false := beq_eq_false_iff_ne.mpr c3
    have c3b1 : (a1 != 4) = true := bne_iff_ne.mpr c3
    have HC9 := qA H
    clear H
    go_enter Tryd.func35, Tryd.ntmps35
    go_upto_if 8 with (first | ((with_reducible refine gate_dst (N := 2) rfl ?_); refine box_event ?hg (N := 2) ?hd (cs := #[.int .u8 a0_0, .int .u8 a0_1]) (t := 47) ?hr ?_; (case hd => rfl); (case hg => rfl); (case hr => first | (go_simp; done) | (go_simp; rfl)); intro gb126 hg w10 hbox hb; have n0_ := qA (qR (by repeat (first | (with_reducible first | exact HB.out | apply qG | apply qB | apply qF) | exact HB.out)) hb); have n1_ := qA (hbox); have n2_ := qA ((by rw [hg]; exact (qS (by repeat (first | (with_reducible first | exact HB.out | apply qG | apply qB | apply qF) | exact HB.out))) : w.heap.size ≤ gb126)); have n3_ := qA ((by rw [hg]; exact (qS (by repeat (first | (with_reducible first | exact HB.out | apply qG | apply qB | apply qF) | exact HB.out))) : w.heap.size ≤ gb126)); clear HB; have HB := n0_; have BK126 := n1_; have GW126 := n2_; have GE126 := n3_; clear n0_ n1_ n2_ n3_; clear hb hbox hg) | ((with_reducible refine gate_dst (N := 4) rfl ?_); refine box_event ?hg (N := 4) ?hd (cs := #[.int .u8 0, .int .u8 0]) (t := 47) ?hr ?_; (case hd => rfl); (case hg => rfl); (case hr => first | (go_simp; done) | (go_simp; rfl)); intro gb127 hg w11 hbox hb; have n0_ := qA (blk_below (g := gb126) (o := .cells #[.int .u8 a0_0, .int .u8 a0_1] 47 (0, 0)) (by (with_reducible repeat (first | refine qE ?_ _ | refine qH ?_ | refine qD ?_ _)); exact BK126.out) hb); have n1_ := qA (qR (by repeat (first | (with_reducible first | exact HB.out | apply qG | apply qB | apply qF | refine qC ?_ GE126.out) | exact HB.out)) hb); have n2_ := qA (hbox); have n3_ := qA ((by rw [hg]; exact (qS (by repeat (first | (with_reducible first | exact HB.out | apply qG | apply qB | apply qF | refine qC ?_ GE126.out) | exact HB.out))) : w.heap.size ≤ gb127)); have n4_ := qA ((by rw [hg]; exact (qS (by repeat (first | (with_reducible first | exact HB.out | apply qG | apply qB | apply qF | refine qC ?_ GE126.out) | exact HB.out))) : w.heap.size ≤ gb127)); have n5_ := qA ((by rw [hg]; exact Nat.ne_of_lt (blk_lt (g := gb126) (o := .cells #[.int .u8 a0_0, .int .u8 a0_1] 47 (0, 0)) (by (with_reducible repeat (first | refine qE ?_ _ | refine qH ?_ | refine qD ?_ _)); exact BK126.out)) : gb126 ≠ gb127)); have n6_ := qA ((by rw [hg]; exact Nat.ne_of_gt (blk_lt (g := gb126) (o := .cells #[.int .u8 a0_0, .int .u8 a0_1] 47 (0, 0)) (by (with_reducible repeat (first | refine qE ?_ _ | refine qH ?_ | refine qD ?_ _)); exact BK126.out)) : gb127 ≠ gb126)); clear BK126; clear HB; have BK126 := n0_; have HB := n1_; have BK127 := n2_; have GW127 := n3_; have GE127 := n4_; have NB126_127 := n5_; have NB127_126 := n6_; clear n0_ n1_ n2_ n3_ n4_ n5_ n6_; clear hb hbox hg))
    (try simp only [Act.put, List.setIfInBounds_toArray, List.set_cons_zero, List.set_cons_succ])
    go_cut [8] (fun v8 wc => ∃ (kq : Nat) (x8_8 : Bool), v8 = .bool x8_8 ∧ Aside0 (styles_Turn.j0 kq a1 a1 x8_8 a0_0 a0_1 = some (r1, r2)) ∧ Aside0 (kq ≤ k) ∧ Aside0 (wc.heap[gb126]? = some (.cells #[.int .u8 a0_0, .int .u8 a0_1] 47 (0, 0))) ∧ Aside0 (wc.heap[gb127]? = some (.cells #[.int .u8 0, .int .u8 0] 47 (0, 0))) ∧ Aside0 (Below w.heap.size w wc))
    case first =>
      have H := HC9.out
      clear HC9
      by_cases c12 : a1 = 0
      · rw [if_pos c12] at H
        have c12b0 : (a1 == 0) = true := beq_iff_eq.mpr c12
        have c12b1 : (a1 != 0) = false := bne_eq_false_iff_eq.mpr c12
        clear c12
        (first | rw [c12b0] | (simp only [i64_w, i32_w]; rw [c12b0]) | skip)
        have H' := qA H
        clear H
        go_wp2
        go_meet
        case rel => exact ⟨_, ((a1 == 0)), (by first | rfl | (simp; done) | (simp [*]; done)), H', ⟨by first | omega | exact Nat.le_refl _⟩, ⟨by (with_reducible repeat (first | refine qE ?_ _ | refine qH ?_ | refine qD ?_ _)); exact BK126.out⟩, ⟨by (with_reducible repeat (first | refine qE ?_ _ | refine qH ?_ | refine qD ?_ _)); exact BK127.out⟩, ⟨by repeat (first | (with_reducible first | exact HB.out | apply qG | apply qB | apply qF | refine qC ?_ GE126.out | refine qC ?_ GE127.out) | exact HB.out)⟩⟩
      · rw [if_neg c12] at H
        have c12b0 : (a1 == 0) = false := beq_eq_false_iff_ne.mpr c12
        have c12b1 : (a1 != 0) = true := bne_iff_ne.mpr c12
        (first | rw [c12b0] | (simp only [i64_w, i32_w]; rw [c12b0]) | skip)
        have H' := qA H
        clear H
        go_wp2
        go_meet
        case rel => exact ⟨_, ((a1 == 1)), (by first | rfl | (simp; done) | (simp [*]; done)), H', ⟨by first | omega | exact Nat.le_refl _⟩, ⟨by (with_reducible repeat (first | refine qE ?_ _ | refine qH ?_ | refine qD ?_ _)); exact BK126.out⟩, ⟨by (with_reducible repeat (first | refine qE ?_ _ | refine qH ?_ | refine qD ?_ _)); exact BK127.out⟩, ⟨by repeat (first | (with_reducible first | exact HB.out | apply qG | apply qB | apply qF | refine qC ?_ GE126.out | refine qC ?_ GE127.out) | exact HB.out)⟩⟩
    case rest =>
      clear HC9
      try clear c1
      try clear p2
      try clear c3
      try clear c3b0
      try clear c3b1
      try clear c6
      try clear c12
      try clear c12b0
      try clear c12b1
      try clear hcz7_0
      try clear hcz7_1
      try clear hcz8_0
      try clear hcz8_1
      try clear hfz7_0
      try clear hfz7_1
      try clear hfz8_0
      try clear hfz8_1
      obtain ⟨kq, x8_8, rfl, HA, HJ8, BK126, BK127, HB⟩ := hcut
      cases kq with
      | zero => exact absurd HA.out (by simp [styles_Turn.j0])
      | succ kj8 =>
        have H := HA.out
        clear HA
        simp only [styles_Turn.j0] at H
        by_cases c13 : x8_8 = true
        · subst c13
          have H1 : (some ((a1) % 256, a0_0)) = some (r1, r2) := by rw [if_pos rfl] at H; exact H
          clear H
          have H := H1
          clear H1
          simp only [Option.some.injEq, Prod.mk.injEq] at H
          obtain ⟨rfl, rfl⟩ := H
          have hnb14 := NB126_127.out
          have hnc14 := NB127_126.out
          have hcz15_0 : wc.cell? ⟨gb126, 0, none⟩ = some (.int .u8 a0_0) := (qQ BK126.out 0).trans rfl
          have hcz15_1 : wc.cell? ⟨gb126, 1, none⟩ = some (.int .u8 a0_1) := (qQ BK126.out 1).trans rfl
          have hfz15_0 := qL BK126.out 0
          have hfz15_1 := qL BK126.out 1
          have hcz16_0 : wc.cell? ⟨gb127, 0, none⟩ = some (.int .u8 0) := (qQ BK127.out 0).trans rfl
          have hcz16_1 : wc.cell? ⟨gb127, 1, none⟩ = some (.int .u8 0) := (qQ BK127.out 1).trans rfl
          have hfz16_0 := qL BK127.out 0
          have hfz16_1 := qL BK127.out 1
          go_wp2
          refine bodyPost_ret (results_cell_row rfl _ _ gb127 47 #[.int .u8 ((a1) % 256), .int .u8 a0_0] (0, 0) _ rfl (by (with_reducible repeat (first | refine qE ?_ _ | refine qH ?_ | refine qD ?_ _)); refine qY (cs := #[.int .u8 ((a1) % 256), .int .u8 0]) ?_ 1 _ rfl; (with_reducible repeat (first | refine qE ?_ _ | refine qH ?_ | refine qD ?_ _)); refine qY (cs := #[.int .u8 0, .int .u8 0]) ?_ 0 _ rfl; (with_reducible repeat (first | refine qE ?_ _ | refine qH ?_ | refine qD ?_ _)); exact BK127.out) Tryd.underlying47 rfl (by kernel_rfl)) rfl ?_
          exact ⟨by first | rfl | (simp [errW_none, errW_some] <;> rfl) | (simp [*, errW_none, errW_some] <;> rfl), by repeat (first | (with_reducible first | exact HB.out | apply qG | apply qB | apply qF | refine qC ?_ GE126.out | refine qC ?_ GE127.out) | exact HB.out)⟩
        · replace c13 := Bool.eq_false_iff.mpr c13
          subst c13
          have H1 : (if a1 = 2 then (some ((a1) % 256, a0_0)) else (if a1 = 3 then (some ((a1) % 256, a0_0)) else (some (a0_0, a0_1)))) = some (r1, r2) := by rw [if_neg (show ¬ (false = true) by decide)] at H; exact H
          clear H
          have H := H1
          clear H1
          by_cases c17 : a1 = 2
          · rw [if_pos c17] at H
            have c17b0 : (a1 == 2) = true := beq_iff_eq.mpr c17
            have c17b1 : (a1 != 2) = false := bne_eq_false_iff_eq.mpr c17
            clear c17
            simp only [Option.some.injEq, Prod.mk.injEq] at H
            obtain ⟨rfl, rfl⟩ := H
            have hnb18 := NB126_127.out
            have hnc18 := NB127_126.out
            have hcz19_0 : wc.cell? ⟨gb126, 0, none⟩ = some (.int .u8 a0_0) := (qQ BK126.out 0).trans rfl
            have hcz19_1 : wc.cell? ⟨gb126, 1, none⟩ = some (.int .u8 a0_1) := (qQ BK126.out 1).trans rfl
            have hfz19_0 := qL BK126.out 0
            have hfz19_1 := qL BK126.out 1
            have hcz20_0 : wc.cell? ⟨gb127, 0, none⟩ = some (.int .u8 0) := (qQ BK127.out 0).trans rfl
            have hcz20_1 : wc.cell? ⟨gb127, 1, none⟩ = some (.int .u8 0) := (qQ BK127.out 1).trans rfl
            have hfz20_0 := qL BK127.out 0
            have hfz20_1 := qL BK127.out 1
            go_wp2
            refine bodyPost_ret (results_cell_row rfl _ _ gb127 47 #[.int .u8 ((a1) % 256), .int .u8 a0_0] (0, 0) _ rfl (by (with_reducible repeat (first | refine qE ?_ _ | refine qH ?_ | refine qD ?_ _)); refine qY (cs := #[.int .u8 ((a1) % 256), .int .u8 0]) ?_ 1 _ rfl; (with_reducible repeat (first | refine qE ?_ _ | refine qH ?_ | refine qD ?_ _)); refine qY (cs := #[.int .u8 0, .int .u8 0]) ?_ 0 _ rfl; (with_reducible repeat (first | refine qE ?_ _ | refine qH ?_ | refine qD ?_ _)); exact BK127.out) Tryd.underlying47 rfl (by kernel_rfl)) rfl ?_
            exact ⟨by first | rfl | (simp [errW_none, errW_some] <;> rfl) | (simp [*, errW_none, errW_some] <;> rfl), by repeat (first | (with_reducible first | exact HB.out | apply qG | apply qB | apply qF | refine qC ?_ GE126.out | refine qC ?_ GE127.out) | exact HB.out)⟩
          · rw [if_neg c17] at H
            have c17b0 : (a1 == 2) = false := beq_eq_false_iff_ne.mpr c17
            have c17b1 : (a1 != 2) = true := bne_iff_ne.mpr c17
            by_cases c21 : a1 = 3
            · rw [if_pos c21] at H
              have c21b0 : (a1 == 3) = true := beq_iff_eq.mpr c21
              have c21b1 : (a1 != 3) = false := bne_eq_false_iff_eq.mpr c21
              clear c21
              simp only [Option.some.injEq, Prod.mk.injEq] at H
              obtain ⟨rfl, rfl⟩ := H
              have hnb22 := NB126_127.out
              have hnc22 := NB127_126.out
              have hcz23_0 : wc.cell? ⟨gb126, 0, none⟩ = some (.int .u8 a0_0) := (qQ BK126.out 0).trans rfl
              have hcz23_1 : wc.cell? ⟨gb126, 1, none⟩ = some (.int .u8 a0_1) := (qQ BK126.out 1).trans rfl
              have hfz23_0 := qL BK126.out 0
              have hfz23_1 := qL BK126.out 1
              have hcz24_0 : wc.cell? ⟨gb127, 0, none⟩ = some (.int .u8 0) := (qQ BK127.out 0).trans rfl
              have hcz24_1 : wc.cell? ⟨gb127, 1, none⟩ = some (.int .u8 0) := (qQ BK127.out 1).trans rfl
              have hfz24_0 := qL BK127.out 0
              have hfz24_1 := qL BK127.out 1
              go_wp2
              refine bodyPost_ret (results_cell_row rfl _ _ gb127 47 #[.int .u8 ((a1) % 256), .int .u8 a0_0] (0, 0) _ rfl (by (with_reducible repeat (first | refine qE ?_ _ | refine qH ?_ | refine qD ?_ _)); refine qY (cs := #[.int .u8 ((a1) % 256), .int .u8 0]) ?_ 1 _ rfl; (with_reducible repeat (first | refine qE ?_ _ | refine qH ?_ | refine qD ?_ _)); refine qY (cs := #[.int .u8 0, .int .u8 0]) ?_ 0 _ rfl; (with_reducible repeat (first | refine qE ?_ _ | refine qH ?_ | refine qD ?_ _)); exact BK127.out) Tryd.underlying47 rfl (by kernel_rfl)) rfl ?_
              exact ⟨by first | rfl | (simp [errW_none, errW_some] <;> rfl) | (simp [*, errW_none, errW_some] <;> rfl), by repeat (first | (with_reducible first | exact HB.out | apply qG | apply qB | apply qF | refine qC ?_ GE126.out | refine qC ?_ GE127.out) | exact HB.out)⟩
            · rw [if_neg c21] at H
              have c21b0 : (a1 == 3) = false := beq_eq_false_iff_ne.mpr c21
              have c21b1 : (a1 != 3) = true := bne_iff_ne.mpr c21
              simp only [Option.some.injEq, Prod.mk.injEq] at H
              obtain ⟨rfl, rfl⟩ := H
              have hnb25 := NB126_127.out
              have hnc25 := NB127_126.out
              have hcz26_0 : wc.cell? ⟨gb126, 0, none⟩ = some (.int .u8 a0_0) := (qQ BK126.out 0).trans rfl
              have hcz26_1 : wc.cell? ⟨gb126, 1, none⟩ = some (.int .u8 a0_1) := (qQ BK126.out 1).trans rfl
              have hfz26_0 := qL BK126.out 0
              have hfz26_1 := qL BK126.out 1
              have hcz27_0 : wc.cell? ⟨gb127, 0, none⟩ = some (.int .u8 0) := (qQ BK127.out 0).trans rfl
              have hcz27_1 : wc.cell? ⟨gb127, 1, none⟩ = some (.int .u8 0) := (qQ BK127.out 1).trans rfl
              have hfz27_0 := qL BK127.out 0
              have hfz27_1 := qL BK127.out 1
              go_wp2
              refine bodyPost_ret (results_cell_row rfl _ _ gb127 47 #[.int .u8 a0_0, .int .u8 a0_1] (0, 0) _ rfl (by (with_reducible repeat (first | refine qE ?_ _ | refine qH ?_ | refine qD ?_ _)); refine qY (cs := #[.int .u8 a0_0, .int .u8 0]) ?_ 1 _ rfl; (with_reducible repeat (first | refine qE ?_ _ | refine qH ?_ | refine qD ?_ _)); refine qY (cs := #[.int .u8 0, .int .u8 0]) ?_ 0 _ rfl; (with_reducible repeat (first | refine qE ?_ _ | refine qH ?_ | refine qD ?_ _)); exact BK127.out) Tryd.underlying47 rfl (by kernel_rfl)) rfl ?_
              exact ⟨by first | rfl | (simp [errW_none, errW_some] <;> rfl) | (simp [*, errW_none, errW_some] <;> rfl), by repeat (first | (with_reducible first | exact HB.out | apply qG | apply qB | apply qF | refine qC ?_ GE126.out | refine qC ?_ GE127.out) | exact HB.out)⟩
end Go.Proofs.YtdogljnddalgdaaDoor.A6
end
section
namespace Go.Proofs.YtdogljnddalgdaaDoor.A6
open Go.RowKit Go.Proofs.YtdogljnddalgdaaDoorW.PrintWords Go.Proofs.YtdogljnddalgdaaDoorW.PrintLast Go.Proofs.YtdogljnddalgdaaDoorW.PrintMore
open Go.Proofs.YtdogljnddalgdaaDoorW.PrintWords.Aside0 renaming mk → qA
open Go.Proofs.YtdogljnddalgdaaDoorW.PrintWords renaming pw_below_drewN → qB, below_set → qC, blk_alloc → qD, blk_drewN → qE, below_drew1 → qF, below_alloc → qG, blk_drew → qH, blk_frozen → qL, blk_cell → qQ, below_step → qR, below_size → qS, blk_below → qX, blk_put → qY
open Go.Proofs.YtdogljnddalgdaaDoorW.PrintWords.Kd renaming R_drewN → qI, R_alloc → qJ, R_drew → qK, R_far → qP, R_below → qT, R_mono → qU, R_types → qV, R_lower → qW
open List renaming setIfInBounds_toArray → qM, set_cons_succ → qN, set_cons_zero → qO
attribute [local go_sem] max2_int min2_int max_two min_two max_three min_three max_four min_four   -- for this text's walks alone
set_option linter.unusedVariables false
set_option linter.unusedSimpArgs false
def styles_Set.l0 : Nat → List (S60) → List (S38) → Int → Int → Int → Int → Option ((List (S60)) × Int × Int)
  | 0, _, _, _, _, _, _ => none
  | k + 1, x6, x9, x10, x11, x129000, x129001 => if x11 < x10 then (if 0 ≤ x11 then (if x11 < (x9.length : Int) then (if ((rd_T38 x9 x11).f0) = 1 then (if x6.length < 17592186044416 then (styles_Set.l0 k (x6 ++ [(⟨(rd_T38 x9 x11).f1, x129000⟩ : S60)]) x9 x10 (wrap64 (x11 + 1)) x129000 x129001) else (none)) else (if ((rd_T38 x9 x11).f0) = 2 then (if x6.length < 17592186044416 then (styles_Set.l0 k (x6 ++ [(⟨32, 0⟩ : S60)]) x9 x10 (wrap64 (x11 + 1)) x129000 x129001) else (none)) else (if ((rd_T38 x9 x11).f0) = 3 then ((styles_Turn.f k x129000 x129001 ((rd_T38 x9 x11).f1)).bind fun bt139 => (styles_Set.l0 k x6 x9 x10 (wrap64 (x11 + 1)) bt139.1 bt139.2)) else (styles_Set.l0 k x6 x9 x10 (wrap64 (x11 + 1)) x129000 x129001)))) else (none)) else (none)) else (some (x6, x129000, x129001))
def styles_Set.f (k : Nat) (a0_0 : Int) (a0_1 : Int) (l1 : List (S38)) : Option ((List (S60)) × Int × Int) := styles_Set.l0 k ([] : List (S60)) l1 (l1.length : Int) 0 a0_0 a0_1
theorem styles_Set.mono_l : ∀ k, (∀ y0 y1 y2 y3 y4 y5, LeO (styles_Set.l0 k y0 y1 y2 y3 y4 y5) (styles_Set.l0 (k + 1) y0 y1 y2 y3 y4 y5))
  | 0 => fun _ _ _ _ _ _ r h => by simp [styles_Set.l0] at h
  | k + 1 => by
    have ih0 := styles_Set.mono_l k
    · intro y0 y1 y2 y3 y4 y5
      unfold styles_Set.l0
      repeat' first
      | (with_reducible exact ih0 _ _ _ _ _ _)
      | (with_reducible exact styles_Turn.mono _ _ _ _)
      | (with_reducible exact LeO.refl _)
      | (with_reducible exact LeO.none _)
      | (with_reducible refine LeO.ite ?_ ?_)
      | (with_reducible refine LeO.bind ?_ (fun _ => ?_))
      | exact ih0 _ _ _ _ _ _
      | exact styles_Turn.mono _ _ _ _
      | exact LeO.none _
      | refine LeO.ite ?_ ?_
      | refine LeO.bind ?_ (fun _ => ?_)
theorem styles_Set.mono : ∀ a0 a1 a2 k, LeO (styles_Set.f k a0 a1 a2) (styles_Set.f (k + 1) a0 a1 a2) := by
  intro a0 a1 a2 k
  have ih0 := styles_Set.mono_l k
  unfold styles_Set.f
  repeat' first
      | (with_reducible exact ih0 _ _ _ _ _ _)
      | (with_reducible exact styles_Turn.mono _ _ _ _)
      | (with_reducible exact LeO.refl _)
      | (with_reducible exact LeO.none _)
      | (with_reducible refine LeO.ite ?_ ?_)
      | (with_reducible refine LeO.bind ?_ (fun _ => ?_))
      | exact ih0 _ _ _ _ _ _
      | exact styles_Turn.mono _ _ _ _
      | exact LeO.none _
      | refine LeO.ite ?_ ?_
      | refine LeO.bind ?_ (fun _ => ?_)
set_option maxHeartbeats 8000000 in
set_option maxRecDepth 100000 in
theorem styles_Set.calls (k : Nat) (a0_0 : Int) (a0_1 : Int) (A1 : Option Addr) (c1 : Nat) (l1 : List (S38)) (r1 : List (S60)) (r2 : Int) (r3 : Int) (w : World) (hG : GL w) (hr1 : Kd.C k38 w A1 l1.length l1) (hc1 : l1.length ≤ c1) (h : styles_Set.f k a0_0 a0_1 l1 = some (r1, r2, r3)) :
    Calls Tryd.prog 30 #[.agg #[.int .u8 a0_0, .int .u8 a0_1], .slice A1 l1.length c1] w fun e w' => ∃ v0_ : Value, e = .returned (.tuple #[v0_, .agg #[.int .u8 r2, .int .u8 r3]]) ∧ Kd.R k60 60 w' w.heap.size (fun _ => True) v0_ r1 ∧ Below w.heap.size w w' := by
  have hu47 := Tryd.underlying47
  have hu38 := Tryd.underlying38
  have hu60 := Tryd.underlying60
  have HR1 := qA hr1
  have HC1 := qA hc1
  clear hr1 hc1
  have HG := qA hG
  clear hG
  have HB := qA (Below.refl w.heap.size w)
  have H : (styles_Set.l0 k ([] : List (S60)) l1 (l1.length : Int) 0 a0_0 a0_1) = some (r1, r2, r3) := h
  clear h
  have H' := qA H
  clear H
  go_enter Tryd.func30, Tryd.ntmps30
  go_wp2_with (first | ((with_reducible refine gate_dst (N := 2) rfl ?_); refine box_event ?hg (N := 2) ?hd (cs := #[.int .u8 a0_0, .int .u8 a0_1]) (t := 47) ?hr ?_; (case hd => rfl); (case hg => rfl); (case hr => first | (go_simp; done) | (go_simp; rfl)); intro gb128 hg w3 hbox hb; have n0_ := qA (qR (by repeat (first | (with_reducible first | exact HB.out | apply qG | apply qB | apply qF) | exact HB.out)) hb); have n1_ := qA (hbox); have n2_ := qA ((by rw [hg]; exact (qS (by repeat (first | (with_reducible first | exact HB.out | apply qG | apply qB | apply qF) | exact HB.out))) : w.heap.size ≤ gb128)); have n3_ := qA ((by rw [hg]; exact (qS (by repeat (first | (with_reducible first | exact HB.out | apply qG | apply qB | apply qF) | exact HB.out))) : w.heap.size ≤ gb128)); clear HB; have HB := n0_; have BK128 := n1_; have GW128 := n2_; have GE128 := n3_; clear n0_ n1_ n2_ n3_; clear hb hbox hg) | ((with_reducible refine gate_dst (N := 5) rfl ?_); refine box_event ?hg (N := 5) ?hd (cs := #[.int .u8 0, .int .u8 0]) (t := 47) ?hr ?_; (case hd => rfl); (case hg => rfl); (case hr => first | (go_simp; done) | (go_simp; rfl)); intro gb129 hg w4 hbox hb; have n0_ := qA (qX (g := gb128) (o := .cells #[.int .u8 a0_0, .int .u8 a0_1] 47 (0, 0)) (by (with_reducible repeat (first | refine qE ?_ _ | refine qH ?_ | refine qD ?_ _)); exact BK128.out) hb); have n1_ := qA (qR (by repeat (first | (with_reducible first | exact HB.out | apply qG | apply qB | apply qF | refine qC ?_ GE128.out) | exact HB.out)) hb); have n2_ := qA (hbox); have n3_ := qA ((by rw [hg]; exact (qS (by repeat (first | (with_reducible first | exact HB.out | apply qG | apply qB | apply qF | refine qC ?_ GE128.out) | exact HB.out))) : w.heap.size ≤ gb129)); have n4_ := qA ((by rw [hg]; exact (qS (by repeat (first | (with_reducible first | exact HB.out | apply qG | apply qB | apply qF | refine qC ?_ GE128.out) | exact HB.out))) : w.heap.size ≤ gb129)); have n5_ := qA ((by rw [hg]; exact Nat.ne_of_lt (blk_lt (g := gb128) (o := .cells #[.int .u8 a0_0, .int .u8 a0_1] 47 (0, 0)) (by (with_reducible repeat (first | refine qE ?_ _ | refine qH ?_ | refine qD ?_ _)); exact BK128.out)) : gb128 ≠ gb129)); have n6_ := qA ((by rw [hg]; exact Nat.ne_of_gt (blk_lt (g := gb128) (o := .cells #[.int .u8 a0_0, .int .u8 a0_1] 47 (0, 0)) (by (with_reducible repeat (first | refine qE ?_ _ | refine qH ?_ | refine qD ?_ _)); exact BK128.out)) : gb129 ≠ gb128)); clear BK128; clear HB; have BK128 := n0_; have HB := n1_; have BK129 := n2_; have GW129 := n3_; have GE129 := n4_; have NB128_129 := n5_; have NB129_128 := n6_; clear n0_ n1_ n2_ n3_ n4_ n5_ n6_; clear hb hbox hg))
  (repeat (go_step3; try go_wp2))
  go_loopg [6, 11] k (fun kq v6 v11 w' => ∃ (x6_1 : List (S60)) (x11_1 : Int) (x129000_1 : Int) (x129001_1 : Int), v11 = .int .i64 x11_1 ∧ Aside0 (styles_Set.l0 kq x6_1 l1 (l1.length : Int) x11_1 x129000_1 x129001_1 = some (r1, r2, r3)) ∧ Aside0 (kq ≤ k) ∧ Aside0 (Kd.R k60 60 w' w.heap.size (fun _ => True) v6 x6_1) ∧ Aside0 (w'.heap[gb128]? = some (.cells #[.int .u8 x129000_1, .int .u8 x129001_1] 47 (0, 0))) ∧ Aside0 (w'.heap[gb129]? = some (.cells #[.int .u8 0, .int .u8 0] 47 (0, 0))) ∧ Aside0 (Below w.heap.size w w'))
  case atStart => exact ⟨(([] : List (S60))), (0), (a0_0), (a0_1), (by first | rfl | (simp; done) | (simp [*]; done)), H', ⟨Nat.le_refl _⟩, ⟨by first | exact Kd.R_nil _ _ _ _ _ | exact Kd.N_nil _ _ _ _ _ | exact Kd.V_nil _ _ _ _ _ | exact Kd.Q_nil _ _ _ _ _ | exact Kd.S_nil _ _ _ _ _⟩, ⟨by (with_reducible repeat (first | refine qE ?_ _ | refine qH ?_ | refine qD ?_ _)); exact BK128.out⟩, ⟨by (with_reducible repeat (first | refine qE ?_ _ | refine qH ?_ | refine qD ?_ _)); exact BK129.out⟩, ⟨by repeat (first | (with_reducible first | exact HB.out | apply qG | apply qB | apply qF | refine qC ?_ GE128.out | refine qC ?_ GE129.out) | exact HB.out)⟩⟩
  case round =>
    clear H'
    try clear c1
    try clear p2
    try clear c3
    obtain ⟨x6_1, x11_1, x129000_1, x129001_1, rfl, HA, HK1, HO_6, BK128, BK129, HB⟩ := hrel
    cases gk with
    | zero => exact absurd HA.out (by simp [styles_Set.l0])
    | succ k1 =>
      have H := HA.out
      clear HA
      simp only [styles_Set.l0] at H
      by_cases c5 : x11_1 < (l1.length : Int)
      · rw [if_pos c5] at H
        have c5b0 : decide (x11_1 < (l1.length : Int)) = true := decide_eq_true c5
        clear c5
        by_cases c6 : 0 ≤ x11_1
        · rw [if_pos c6] at H
          have c6b0 : decide (0 ≤ x11_1) = true := decide_eq_true c6
          clear c6
          by_cases c7 : x11_1 < (l1.length : Int)
          · rw [if_pos c7] at H
            have c7b0 : decide (x11_1 < (l1.length : Int)) = true := decide_eq_true c7
            clear c7
            by_cases c8 : ((rd_T38 l1 x11_1).f0) = 1
            · rw [if_pos c8] at H
              have c8b0 : (((rd_T38 l1 x11_1).f0) == 1) = true := beq_iff_eq.mpr c8
              have c8b1 : (((rd_T38 l1 x11_1).f0) != 1) = false := bne_eq_false_iff_eq.mpr c8
              clear c8
              by_cases c9 : x6_1.length < 17592186044416
              · rw [if_pos c9] at H
                have LMc9 := qA c9
                clear c9
                obtain ⟨y132, hy132⟩ : ∃ y_ : List (S60), y_ = (x6_1 ++ [(⟨(rd_T38 l1 x11_1).f1, x129000_1⟩ : S60)]) := ⟨_, rfl⟩
                replace H : (styles_Set.l0 k1 y132 l1 (l1.length : Int) (wrap64 (x11_1 + 1)) x129000_1 x129001_1) = some (r1, r2, r3) := by first | (rw [hy132]; with_reducible exact H) | (have H2_ := (Option.bind_some _ _).symm.trans H; rw [hy132]; with_reducible exact H2_) | (have H2_ := (Option.bind_some _ _).symm.trans H; with_reducible exact H2_) | with_reducible exact H | (rw [hy132]; exact H) | exact H
                have Ny132 := qA hy132
                clear hy132
                have H' := qA H
                clear H
                have p130 : 0 ≤ (x11_1 : Int) := of_decide_eq_true (by first | (with_reducible assumption) | assumption)
                have q130 : x11_1 < (l1.length : Int) := of_decide_eq_true (by first | (with_reducible assumption) | assumption)
                obtain ⟨ad130, e130, hx130_0, hx130_1⟩ := at_T38 HR1.out x11_1 p130 q130
                cases e130
                replace hx130_0 := (HB.out.cell (World.block_lt_of_cell? w _ hx130_0)).trans hx130_0
                replace hx130_1 := (HB.out.cell (World.block_lt_of_cell? w _ hx130_1)).trans hx130_1
                replace p130 := eq_true p130
                replace q130 := eq_true q130
                go_wp2_with (first | ((with_reducible refine gate_dst (N := 8) rfl ?_); refine box_event ?hg (N := 8) ?hd (cs := #[.int .i64 0, .int .i32 0]) (t := 38) ?hr ?_; (case hd => rfl); (case hg => rfl); (case hr => first | (go_simp; done) | (go_simp; rfl)); intro gb131 hg w10 hbox hb; have n0_ := qA (qT (by (with_reducible repeat (first | apply qJ | apply qI | apply qK)); exact HO_6.out) hb); have n1_ := qA (qX (g := gb128) (o := .cells #[.int .u8 x129000_1, .int .u8 x129001_1] 47 (0, 0)) (by (with_reducible repeat (first | refine qE ?_ _ | refine qH ?_ | refine qD ?_ _)); exact BK128.out) hb); have n2_ := qA (qX (g := gb129) (o := .cells #[.int .u8 0, .int .u8 0] 47 (0, 0)) (by (with_reducible repeat (first | refine qE ?_ _ | refine qH ?_ | refine qD ?_ _)); exact BK129.out) hb); have n3_ := qA (qR (by repeat (first | (with_reducible first | exact HB.out | apply qG | apply qB | apply qF | refine qC ?_ GE128.out | refine qC ?_ GE129.out) | exact HB.out)) hb); have n4_ := qA (hbox); have n5_ := qA ((by rw [hg]; exact (qS (by repeat (first | (with_reducible first | exact HB.out | apply qG | apply qB | apply qF | refine qC ?_ GE128.out | refine qC ?_ GE129.out) | exact HB.out))) : w.heap.size ≤ gb131)); have n6_ := qA ((by rw [hg]; exact (qS (by repeat (first | (with_reducible first | exact HB.out | apply qG | apply qB | apply qF | refine qC ?_ GE128.out | refine qC ?_ GE129.out) | exact HB.out))) : w.heap.size ≤ gb131)); have n7_ := qA ((by rw [hg]; exact Nat.ne_of_lt (blk_lt (g := gb128) (o := .cells #[.int .u8 x129000_1, .int .u8 x129001_1] 47 (0, 0)) (by (with_reducible repeat (first | refine qE ?_ _ | refine qH ?_ | refine qD ?_ _)); exact BK128.out)) : gb128 ≠ gb131)); have n8_ := qA ((by rw [hg]; exact Nat.ne_of_gt (blk_lt (g := gb128) (o := .cells #[.int .u8 x129000_1, .int .u8 x129001_1] 47 (0, 0)) (by (with_reducible repeat (first | refine qE ?_ _ | refine qH ?_ | refine qD ?_ _)); exact BK128.out)) : gb131 ≠ gb128)); have n9_ := qA ((by rw [hg]; exact Nat.ne_of_lt (blk_lt (g := gb129) (o := .cells #[.int .u8 0, .int .u8 0] 47 (0, 0)) (by (with_reducible repeat (first | refine qE ?_ _ | refine qH ?_ | refine qD ?_ _)); exact BK129.out)) : gb129 ≠ gb131)); have n10_ := qA ((by rw [hg]; exact Nat.ne_of_gt (blk_lt (g := gb129) (o := .cells #[.int .u8 0, .int .u8 0] 47 (0, 0)) (by (with_reducible repeat (first | refine qE ?_ _ | refine qH ?_ | refine qD ?_ _)); exact BK129.out)) : gb131 ≠ gb129)); clear HO_6; clear BK128; clear BK129; clear HB; have HO_6 := n0_; have BK128 := n1_; have BK129 := n2_; have HB := n3_; have BK131 := n4_; have GW131 := n5_; have GE131 := n6_; have NB128_131 := n7_; have NB131_128 := n8_; have NB129_131 := n9_; have NB131_129 := n10_; clear n0_ n1_ n2_ n3_ n4_ n5_ n6_ n7_ n8_ n9_ n10_; clear hb hbox hg; have hnb11 := NB131_128.out; have hnc11 := NB128_131.out; have hnb12 := NB131_129.out; have hnc12 := NB129_131.out; have hcz13_0 : w10.cell? ⟨gb131, 0, none⟩ = some (.int .i64 0) := (qQ BK131.out 0).trans rfl; have hcz13_1 : w10.cell? ⟨gb131, 1, none⟩ = some (.int .i32 0) := (qQ BK131.out 1).trans rfl; have hfz13_0 := qL BK131.out 0; have hfz13_1 := qL BK131.out 1; have hnb14 := NB128_129.out; have hnc14 := NB129_128.out; have hcz15_0 : w10.cell? ⟨gb128, 0, none⟩ = some (.int .u8 x129000_1) := (qQ BK128.out 0).trans rfl; have hcz15_1 : w10.cell? ⟨gb128, 1, none⟩ = some (.int .u8 x129001_1) := (qQ BK128.out 1).trans rfl; have hfz15_0 := qL BK128.out 0; have hfz15_1 := qL BK128.out 1) | ((with_reducible refine gate_builtin (b := .append) (xs := #[.tmp 19, .tmp 25]) rfl ?_); at_builtin; refine Kd.R_append k60 (w0 := w) w.heap.size rfl (.tmp 19) (.tmp 25) 48 60 (.agg #[(.int .i32 0), (.int .u8 0)]) 8 rfl Tryd.underlying48 info60 rfl (by decide) (by omega) u6 x6_1 (⟨(rd_T38 l1 x11_1).f1, x129000_1⟩ : S60) [.int .i32 ((rd_T38 l1 x11_1).f1), .int .u8 x129000_1] (fun _ => True) (fun _ => False) rfl (by first | (go_simp; done) | (go_simp; rfl)) ?aP (fun _ hk => hk.elim) ?aF ?aO ?aB ?aS ?aL ?_; (case aP => exact k60_mkM _ _ _ (⟨(rd_T38 l1 x11_1).f1, x129000_1⟩ : S60)); (case aB => exact (by repeat (first | (with_reducible first | exact HB.out | apply qG | apply qB | apply qF | refine qC ?_ GE128.out | refine qC ?_ GE129.out | refine qC ?_ GE131.out) | exact HB.out))); (case aF => exact (fun _ _ => trivial)); (case aO => exact (by (with_reducible repeat (first | apply qJ | apply qI | apply qK)); exact qU (qP (p := ⟨gb131, 1, none⟩) (qP (p := ⟨gb131, 0, none⟩) (qV HO_6.out BK131.out (by decide)) (fun _ hk => hk.2) (.int .i64 ((rd_T38 l1 x11_1).f0))) (fun _ hk => hk.2) (.int .i32 ((rd_T38 l1 x11_1).f1))) (fun _ hk => trivial))); (case aS => exact (qS (by repeat (first | (with_reducible first | exact HB.out | apply qG | apply qB | apply qF | refine qC ?_ GE128.out | refine qC ?_ GE129.out | refine qC ?_ GE131.out) | exact HB.out)))); (case aL => have := LMc9.out; omega); intro v133 w16 ho hb hg hat; rw [← Ny132.out] at ho; have n0_ := qA (blk_grown (g := gb128) (o := .cells #[.int .u8 x129000_1, .int .u8 x129001_1] 47 (0, 0)) (by (with_reducible repeat (first | refine qE ?_ _ | refine qH ?_ | refine qD ?_ _)); refine blk_far ?_ NB128_131.out _; (with_reducible repeat (first | refine qE ?_ _ | refine qH ?_ | refine qD ?_ _)); refine blk_far ?_ NB128_131.out _; (with_reducible repeat (first | refine qE ?_ _ | refine qH ?_ | refine qD ?_ _)); exact BK128.out) hg (Kd.R_ne HO_6.out BK128.out (by decide))); have n1_ := qA (blk_grown (g := gb129) (o := .cells #[.int .u8 0, .int .u8 0] 47 (0, 0)) (by (with_reducible repeat (first | refine qE ?_ _ | refine qH ?_ | refine qD ?_ _)); refine blk_far ?_ NB129_131.out _; (with_reducible repeat (first | refine qE ?_ _ | refine qH ?_ | refine qD ?_ _)); refine blk_far ?_ NB129_131.out _; (with_reducible repeat (first | refine qE ?_ _ | refine qH ?_ | refine qD ?_ _)); exact BK129.out) hg (Kd.R_ne HO_6.out BK129.out (by decide))); have n2_ := qA (blk_grown (g := gb131) (o := .cells #[.int .i64 ((rd_T38 l1 x11_1).f0), .int .i32 ((rd_T38 l1 x11_1).f1)] 38 (0, 0)) (by (with_reducible repeat (first | refine qE ?_ _ | refine qH ?_ | refine qD ?_ _)); refine qY (cs := #[.int .i64 ((rd_T38 l1 x11_1).f0), .int .i32 0]) ?_ 1 _ rfl; (with_reducible repeat (first | refine qE ?_ _ | refine qH ?_ | refine qD ?_ _)); refine qY (cs := #[.int .i64 0, .int .i32 0]) ?_ 0 _ rfl; (with_reducible repeat (first | refine qE ?_ _ | refine qH ?_ | refine qD ?_ _)); exact BK131.out) hg (Kd.R_ne HO_6.out BK131.out (by decide))); have n3_ := qA (hb); have n4_ := qA (ho); clear BK128; clear BK129; clear BK131; clear HB; clear HO_6; have BK128 := n0_; have BK129 := n1_; have BK131 := n2_; have HB := n3_; have HO134 := n4_; clear n0_ n1_ n2_ n3_ n4_; clear ho hb hg hat))
                go_roundg k1
                case measure => have := HK1.out; omega
                case rel => exact ⟨(y132), (wrap64 (x11_1 + 1)), (x129000_1), (x129001_1), (by first | rfl | (simp; done) | (simp [*]; done)), H', ⟨by have := HK1.out; omega⟩, ⟨by (with_reducible repeat (first | apply qJ | apply qI | apply qK)); exact HO134.out⟩, ⟨by (with_reducible repeat (first | refine qE ?_ _ | refine qH ?_ | refine qD ?_ _)); exact BK128.out⟩, ⟨by (with_reducible repeat (first | refine qE ?_ _ | refine qH ?_ | refine qD ?_ _)); exact BK129.out⟩, ⟨by repeat (first | (with_reducible first | exact HB.out | apply qG | apply qB | apply qF | refine qC ?_ GE128.out | refine qC ?_ GE129.out | refine qC ?_ GE131.out) | exact HB.out)⟩⟩
              · rw [if_neg c9] at H
                exact absurd H (by simp)
            · rw [if_neg c8] at H
              have c8b0 : (((rd_T38 l1 x11_1).f0) == 1) = false := beq_eq_false_iff_ne.mpr c8
              have c8b1 : (((rd_T38 l1 x11_1).f0) != 1) = true := bne_iff_ne.mpr c8
              by_cases c17 : ((rd_T38 l1 x11_1).f0) = 2
              · rw [if_pos c17] at H
                have c17b0 : (((rd_T38 l1 x11_1).f0) == 2) = true := beq_iff_eq.mpr c17
                have c17b1 : (((rd_T38 l1 x11_1).f0) != 2) = false := bne_eq_false_iff_eq.mpr c17
                clear c17
                by_cases c18 : x6_1.length < 17592186044416
                · rw [if_pos c18] at H
                  have LMc18 := qA c18
                  clear c18
                  obtain ⟨y136, hy136⟩ : ∃ y_ : List (S60), y_ = (x6_1 ++ [(⟨32, 0⟩ : S60)]) := ⟨_, rfl⟩
                  replace H : (styles_Set.l0 k1 y136 l1 (l1.length : Int) (wrap64 (x11_1 + 1)) x129000_1 x129001_1) = some (r1, r2, r3) := by first | (rw [hy136]; with_reducible exact H) | (have H2_ := (Option.bind_some _ _).symm.trans H; rw [hy136]; with_reducible exact H2_) | (have H2_ := (Option.bind_some _ _).symm.trans H; with_reducible exact H2_) | with_reducible exact H | (rw [hy136]; exact H) | exact H
                  have Ny136 := qA hy136
                  clear hy136
                  have H' := qA H
                  clear H
                  have p130 : 0 ≤ (x11_1 : Int) := of_decide_eq_true (by first | (with_reducible assumption) | assumption)
                  have q130 : x11_1 < (l1.length : Int) := of_decide_eq_true (by first | (with_reducible assumption) | assumption)
                  obtain ⟨ad130, e130, hx130_0, hx130_1⟩ := at_T38 HR1.out x11_1 p130 q130
                  cases e130
                  replace hx130_0 := (HB.out.cell (World.block_lt_of_cell? w _ hx130_0)).trans hx130_0
                  replace hx130_1 := (HB.out.cell (World.block_lt_of_cell? w _ hx130_1)).trans hx130_1
                  replace p130 := eq_true p130
                  replace q130 := eq_true q130
                  go_wp2_with (first | ((with_reducible refine gate_dst (N := 30) rfl ?_); refine gap_step (by rfl) rfl HG.out (by repeat (first | (with_reducible first | exact HB.out | apply qG | apply qB | apply qF | refine qC ?_ GE128.out | refine qC ?_ GE129.out | refine qC ?_ GE131.out) | exact HB.out)) ?_) | ((with_reducible refine gate_dst (N := 8) rfl ?_); refine box_event ?hg (N := 8) ?hd (cs := #[.int .i64 0, .int .i32 0]) (t := 38) ?hr ?_; (case hd => rfl); (case hg => rfl); (case hr => first | (go_simp; done) | (go_simp; rfl)); intro gb131 hg w19 hbox hb; have n0_ := qA (qT (by (with_reducible repeat (first | apply qJ | apply qI | apply qK)); exact HO_6.out) hb); have n1_ := qA (qX (g := gb128) (o := .cells #[.int .u8 x129000_1, .int .u8 x129001_1] 47 (0, 0)) (by (with_reducible repeat (first | refine qE ?_ _ | refine qH ?_ | refine qD ?_ _)); exact BK128.out) hb); have n2_ := qA (qX (g := gb129) (o := .cells #[.int .u8 0, .int .u8 0] 47 (0, 0)) (by (with_reducible repeat (first | refine qE ?_ _ | refine qH ?_ | refine qD ?_ _)); exact BK129.out) hb); have n3_ := qA (qR (by repeat (first | (with_reducible first | exact HB.out | apply qG | apply qB | apply qF | refine qC ?_ GE128.out | refine qC ?_ GE129.out) | exact HB.out)) hb); have n4_ := qA (hbox); have n5_ := qA ((by rw [hg]; exact (qS (by repeat (first | (with_reducible first | exact HB.out | apply qG | apply qB | apply qF | refine qC ?_ GE128.out | refine qC ?_ GE129.out) | exact HB.out))) : w.heap.size ≤ gb131)); have n6_ := qA ((by rw [hg]; exact (qS (by repeat (first | (with_reducible first | exact HB.out | apply qG | apply qB | apply qF | refine qC ?_ GE128.out | refine qC ?_ GE129.out) | exact HB.out))) : w.heap.size ≤ gb131)); have n7_ := qA ((by rw [hg]; exact Nat.ne_of_lt (blk_lt (g := gb128) (o := .cells #[.int .u8 x129000_1, .int .u8 x129001_1] 47 (0, 0)) (by (with_reducible repeat (first | refine qE ?_ _ | refine qH ?_ | refine qD ?_ _)); exact BK128.out)) : gb128 ≠ gb131)); have n8_ := qA ((by rw [hg]; exact Nat.ne_of_gt (blk_lt (g := gb128) (o := .cells #[.int .u8 x129000_1, .int .u8 x129001_1] 47 (0, 0)) (by (with_reducible repeat (first | refine qE ?_ _ | refine qH ?_ | refine qD ?_ _)); exact BK128.out)) : gb131 ≠ gb128)); have n9_ := qA ((by rw [hg]; exact Nat.ne_of_lt (blk_lt (g := gb129) (o := .cells #[.int .u8 0, .int .u8 0] 47 (0, 0)) (by (with_reducible repeat (first | refine qE ?_ _ | refine qH ?_ | refine qD ?_ _)); exact BK129.out)) : gb129 ≠ gb131)); have n10_ := qA ((by rw [hg]; exact Nat.ne_of_gt (blk_lt (g := gb129) (o := .cells #[.int .u8 0, .int .u8 0] 47 (0, 0)) (by (with_reducible repeat (first | refine qE ?_ _ | refine qH ?_ | refine qD ?_ _)); exact BK129.out)) : gb131 ≠ gb129)); clear HO_6; clear BK128; clear BK129; clear HB; have HO_6 := n0_; have BK128 := n1_; have BK129 := n2_; have HB := n3_; have BK131 := n4_; have GW131 := n5_; have GE131 := n6_; have NB128_131 := n7_; have NB131_128 := n8_; have NB129_131 := n9_; have NB131_129 := n10_; clear n0_ n1_ n2_ n3_ n4_ n5_ n6_ n7_ n8_ n9_ n10_; clear hb hbox hg; have hnb20 := NB131_128.out; have hnc20 := NB128_131.out; have hnb21 := NB131_129.out; have hnc21 := NB129_131.out; have hcz22_0 : w19.cell? ⟨gb131, 0, none⟩ = some (.int .i64 0) := (qQ BK131.out 0).trans rfl; have hcz22_1 : w19.cell? ⟨gb131, 1, none⟩ = some (.int .i32 0) := (qQ BK131.out 1).trans rfl; have hfz22_0 := qL BK131.out 0; have hfz22_1 := qL BK131.out 1) | ((with_reducible refine gate_builtin (b := .append) (xs := #[.tmp 29, .tmp 31]) rfl ?_); at_builtin; refine Kd.R_append k60 (w0 := w) w.heap.size rfl (.tmp 29) (.tmp 31) 48 60 (.agg #[(.int .i32 0), (.int .u8 0)]) 8 rfl Tryd.underlying48 info60 rfl (by decide) (by omega) u6 x6_1 (⟨32, 0⟩ : S60) [.int .i32 32, .int .u8 0] (fun _ => True) (fun _ => False) rfl (by first | (go_simp; done) | (go_simp; rfl)) ?aP (fun _ hk => hk.elim) ?aF ?aO ?aB ?aS ?aL ?_; (case aP => exact k60_mkM _ _ _ (⟨32, 0⟩ : S60)); (case aB => exact (by repeat (first | (with_reducible first | exact HB.out | apply qG | apply qB | apply qF | refine qC ?_ GE128.out | refine qC ?_ GE129.out | refine qC ?_ GE131.out) | exact HB.out))); (case aF => exact (fun _ _ => trivial)); (case aO => exact (by (with_reducible repeat (first | apply qJ | apply qI | apply qK)); exact qU (qP (p := ⟨gb131, 1, none⟩) (qP (p := ⟨gb131, 0, none⟩) (qV HO_6.out BK131.out (by decide)) (fun _ hk => hk.2) (.int .i64 ((rd_T38 l1 x11_1).f0))) (fun _ hk => hk.2) (.int .i32 ((rd_T38 l1 x11_1).f1))) (fun _ hk => trivial))); (case aS => exact (qS (by repeat (first | (with_reducible first | exact HB.out | apply qG | apply qB | apply qF | refine qC ?_ GE128.out | refine qC ?_ GE129.out | refine qC ?_ GE131.out) | exact HB.out)))); (case aL => have := LMc18.out; omega); intro v137 w23 ho hb hg hat; rw [← Ny136.out] at ho; have n0_ := qA (blk_grown (g := gb128) (o := .cells #[.int .u8 x129000_1, .int .u8 x129001_1] 47 (0, 0)) (by (with_reducible repeat (first | refine qE ?_ _ | refine qH ?_ | refine qD ?_ _)); refine blk_far ?_ NB128_131.out _; (with_reducible repeat (first | refine qE ?_ _ | refine qH ?_ | refine qD ?_ _)); refine blk_far ?_ NB128_131.out _; (with_reducible repeat (first | refine qE ?_ _ | refine qH ?_ | refine qD ?_ _)); exact BK128.out) hg (Kd.R_ne HO_6.out BK128.out (by decide))); have n1_ := qA (blk_grown (g := gb129) (o := .cells #[.int .u8 0, .int .u8 0] 47 (0, 0)) (by (with_reducible repeat (first | refine qE ?_ _ | refine qH ?_ | refine qD ?_ _)); refine blk_far ?_ NB129_131.out _; (with_reducible repeat (first | refine qE ?_ _ | refine qH ?_ | refine qD ?_ _)); refine blk_far ?_ NB129_131.out _; (with_reducible repeat (first | refine qE ?_ _ | refine qH ?_ | refine qD ?_ _)); exact BK129.out) hg (Kd.R_ne HO_6.out BK129.out (by decide))); have n2_ := qA (blk_grown (g := gb131) (o := .cells #[.int .i64 ((rd_T38 l1 x11_1).f0), .int .i32 ((rd_T38 l1 x11_1).f1)] 38 (0, 0)) (by (with_reducible repeat (first | refine qE ?_ _ | refine qH ?_ | refine qD ?_ _)); refine qY (cs := #[.int .i64 ((rd_T38 l1 x11_1).f0), .int .i32 0]) ?_ 1 _ rfl; (with_reducible repeat (first | refine qE ?_ _ | refine qH ?_ | refine qD ?_ _)); refine qY (cs := #[.int .i64 0, .int .i32 0]) ?_ 0 _ rfl; (with_reducible repeat (first | refine qE ?_ _ | refine qH ?_ | refine qD ?_ _)); exact BK131.out) hg (Kd.R_ne HO_6.out BK131.out (by decide))); have n3_ := qA (hb); have n4_ := qA (ho); clear BK128; clear BK129; clear BK131; clear HB; clear HO_6; have BK128 := n0_; have BK129 := n1_; have BK131 := n2_; have HB := n3_; have HO138 := n4_; clear n0_ n1_ n2_ n3_ n4_; clear ho hb hg hat))
                  go_roundg k1
                  case measure => have := HK1.out; omega
                  case rel => exact ⟨(y136), (wrap64 (x11_1 + 1)), (x129000_1), (x129001_1), (by first | rfl | (simp; done) | (simp [*]; done)), H', ⟨by have := HK1.out; omega⟩, ⟨by (with_reducible repeat (first | apply qJ | apply qI | apply qK)); exact HO138.out⟩, ⟨by (with_reducible repeat (first | refine qE ?_ _ | refine qH ?_ | refine qD ?_ _)); exact BK128.out⟩, ⟨by (with_reducible repeat (first | refine qE ?_ _ | refine qH ?_ | refine qD ?_ _)); exact BK129.out⟩, ⟨by repeat (first | (with_reducible first | exact HB.out | apply qG | apply qB | apply qF | refine qC ?_ GE128.out | refine qC ?_ GE129.out | refine qC ?_ GE131.out) | exact HB.out)⟩⟩
                · rw [if_neg c18] at H
                  exact absurd H (by simp)
              · rw [if_neg c17] at H
                have c17b0 : (((rd_T38 l1 x11_1).f0) == 2) = false := beq_eq_false_iff_ne.mpr c17
                have c17b1 : (((rd_T38 l1 x11_1).f0) != 2) = true := bne_iff_ne.mpr c17
                by_cases c24 : ((rd_T38 l1 x11_1).f0) = 3
                · rw [if_pos c24] at H
                  have c24b0 : (((rd_T38 l1 x11_1).f0) == 3) = true := beq_iff_eq.mpr c24
                  have c24b1 : (((rd_T38 l1 x11_1).f0) != 3) = false := bne_eq_false_iff_eq.mpr c24
                  clear c24
                  replace H := Option.bind_eq_some_iff.mp H
                  obtain ⟨⟨t139, t140⟩, A250, H⟩ := H
                  replace H : (styles_Set.l0 k1 x6_1 l1 (l1.length : Int) (wrap64 (x11_1 + 1)) t139 t140) = some (r1, r2, r3) := H
                  have A25 := qA A250
                  clear A250
                  have H' := qA H
                  clear H
                  have p130 : 0 ≤ (x11_1 : Int) := of_decide_eq_true (by first | (with_reducible assumption) | assumption)
                  have q130 : x11_1 < (l1.length : Int) := of_decide_eq_true (by first | (with_reducible assumption) | assumption)
                  obtain ⟨ad130, e130, hx130_0, hx130_1⟩ := at_T38 HR1.out x11_1 p130 q130
                  cases e130
                  replace hx130_0 := (HB.out.cell (World.block_lt_of_cell? w _ hx130_0)).trans hx130_0
                  replace hx130_1 := (HB.out.cell (World.block_lt_of_cell? w _ hx130_1)).trans hx130_1
                  replace p130 := eq_true p130
                  replace q130 := eq_true q130
                  go_wp2_with (first | ((with_reducible refine gate_dst (N := 8) rfl ?_); refine box_event ?hg (N := 8) ?hd (cs := #[.int .i64 0, .int .i32 0]) (t := 38) ?hr ?_; (case hd => rfl); (case hg => rfl); (case hr => first | (go_simp; done) | (go_simp; rfl)); intro gb131 hg w26 hbox hb; have n0_ := qA (qT (by (with_reducible repeat (first | apply qJ | apply qI | apply qK)); exact HO_6.out) hb); have n1_ := qA (qX (g := gb128) (o := .cells #[.int .u8 x129000_1, .int .u8 x129001_1] 47 (0, 0)) (by (with_reducible repeat (first | refine qE ?_ _ | refine qH ?_ | refine qD ?_ _)); exact BK128.out) hb); have n2_ := qA (qX (g := gb129) (o := .cells #[.int .u8 0, .int .u8 0] 47 (0, 0)) (by (with_reducible repeat (first | refine qE ?_ _ | refine qH ?_ | refine qD ?_ _)); exact BK129.out) hb); have n3_ := qA (qR (by repeat (first | (with_reducible first | exact HB.out | apply qG | apply qB | apply qF | refine qC ?_ GE128.out | refine qC ?_ GE129.out) | exact HB.out)) hb); have n4_ := qA (hbox); have n5_ := qA ((by rw [hg]; exact (qS (by repeat (first | (with_reducible first | exact HB.out | apply qG | apply qB | apply qF | refine qC ?_ GE128.out | refine qC ?_ GE129.out) | exact HB.out))) : w.heap.size ≤ gb131)); have n6_ := qA ((by rw [hg]; exact (qS (by repeat (first | (with_reducible first | exact HB.out | apply qG | apply qB | apply qF | refine qC ?_ GE128.out | refine qC ?_ GE129.out) | exact HB.out))) : w.heap.size ≤ gb131)); have n7_ := qA ((by rw [hg]; exact Nat.ne_of_lt (blk_lt (g := gb128) (o := .cells #[.int .u8 x129000_1, .int .u8 x129001_1] 47 (0, 0)) (by (with_reducible repeat (first | refine qE ?_ _ | refine qH ?_ | refine qD ?_ _)); exact BK128.out)) : gb128 ≠ gb131)); have n8_ := qA ((by rw [hg]; exact Nat.ne_of_gt (blk_lt (g := gb128) (o := .cells #[.int .u8 x129000_1, .int .u8 x129001_1] 47 (0, 0)) (by (with_reducible repeat (first | refine qE ?_ _ | refine qH ?_ | refine qD ?_ _)); exact BK128.out)) : gb131 ≠ gb128)); have n9_ := qA ((by rw [hg]; exact Nat.ne_of_lt (blk_lt (g := gb129) (o := .cells #[.int .u8 0, .int .u8 0] 47 (0, 0)) (by (with_reducible repeat (first | refine qE ?_ _ | refine qH ?_ | refine qD ?_ _)); exact BK129.out)) : gb129 ≠ gb131)); have n10_ := qA ((by rw [hg]; exact Nat.ne_of_gt (blk_lt (g := gb129) (o := .cells #[.int .u8 0, .int .u8 0] 47 (0, 0)) (by (with_reducible repeat (first | refine qE ?_ _ | refine qH ?_ | refine qD ?_ _)); exact BK129.out)) : gb131 ≠ gb129)); clear HO_6; clear BK128; clear BK129; clear HB; have HO_6 := n0_; have BK128 := n1_; have BK129 := n2_; have HB := n3_; have BK131 := n4_; have GW131 := n5_; have GE131 := n6_; have NB128_131 := n7_; have NB131_128 := n8_; have NB129_131 := n9_; have NB131_129 := n10_; clear n0_ n1_ n2_ n3_ n4_ n5_ n6_ n7_ n8_ n9_ n10_; clear hb hbox hg; have hnb27 := NB131_128.out; have hnc27 := NB128_131.out; have hnb28 := NB131_129.out; have hnc28 := NB129_131.out; have hcz29_0 : w26.cell? ⟨gb131, 0, none⟩ = some (.int .i64 0) := (qQ BK131.out 0).trans rfl; have hcz29_1 : w26.cell? ⟨gb131, 1, none⟩ = some (.int .i32 0) := (qQ BK131.out 1).trans rfl; have hfz29_0 := qL BK131.out 0; have hfz29_1 := qL BK131.out 1; have hnb30 := NB128_129.out; have hnc30 := NB129_128.out; have hcz31_0 : w26.cell? ⟨gb128, 0, none⟩ = some (.int .u8 x129000_1) := (qQ BK128.out 0).trans rfl; have hcz31_1 : w26.cell? ⟨gb128, 1, none⟩ = some (.int .u8 x129001_1) := (qQ BK128.out 1).trans rfl; have hfz31_0 := qL BK128.out 0; have hfz31_1 := qL BK128.out 1) | ((with_reducible refine gate_callee (f := 35) rfl ?_); refine goesL_ (some 38) rfl rfl Tryd.func35 (by kernel_rfl) rfl #[.agg #[.int .u8 x129000_1, .int .u8 x129001_1], .int .i32 ((rd_T38 l1 x11_1).f1)] rfl (by (try simp only [List.map_toArray, List.map_cons, List.map_nil]); first | done | rfl | (simp only [List.length_drop, List.length_take]; rfl)) ?_; (with_reducible refine (styles_Turn.calls k1 x129000_1 x129001_1 ((rd_T38 l1 x11_1).f1) t139 t140 _ A25.out).mono ?_); rintro e w32 ⟨rfl, hb⟩; refine ⟨_, rfl, ?_⟩; have n0_ := qA (qT (by (with_reducible repeat (first | apply qJ | apply qI | apply qK)); exact (qU (qP (p := ⟨gb131, 1, none⟩) (qP (p := ⟨gb131, 0, none⟩) (qV HO_6.out BK131.out (by decide)) (fun _ hk => hk.2) (.int .i64 ((rd_T38 l1 x11_1).f0))) (fun _ hk => hk.2) (.int .i32 ((rd_T38 l1 x11_1).f1))) (fun _ h_ => h_.1))) hb); have n1_ := qA (qX (g := gb128) (o := .cells #[.int .u8 x129000_1, .int .u8 x129001_1] 47 (0, 0)) (by (with_reducible repeat (first | refine qE ?_ _ | refine qH ?_ | refine qD ?_ _)); refine blk_far ?_ NB128_131.out _; (with_reducible repeat (first | refine qE ?_ _ | refine qH ?_ | refine qD ?_ _)); refine blk_far ?_ NB128_131.out _; (with_reducible repeat (first | refine qE ?_ _ | refine qH ?_ | refine qD ?_ _)); exact BK128.out) hb); have n2_ := qA (qX (g := gb129) (o := .cells #[.int .u8 0, .int .u8 0] 47 (0, 0)) (by (with_reducible repeat (first | refine qE ?_ _ | refine qH ?_ | refine qD ?_ _)); refine blk_far ?_ NB129_131.out _; (with_reducible repeat (first | refine qE ?_ _ | refine qH ?_ | refine qD ?_ _)); refine blk_far ?_ NB129_131.out _; (with_reducible repeat (first | refine qE ?_ _ | refine qH ?_ | refine qD ?_ _)); exact BK129.out) hb); have n3_ := qA (qX (g := gb131) (o := .cells #[.int .i64 ((rd_T38 l1 x11_1).f0), .int .i32 ((rd_T38 l1 x11_1).f1)] 38 (0, 0)) (by (with_reducible repeat (first | refine qE ?_ _ | refine qH ?_ | refine qD ?_ _)); refine qY (cs := #[.int .i64 ((rd_T38 l1 x11_1).f0), .int .i32 0]) ?_ 1 _ rfl; (with_reducible repeat (first | refine qE ?_ _ | refine qH ?_ | refine qD ?_ _)); refine qY (cs := #[.int .i64 0, .int .i32 0]) ?_ 0 _ rfl; (with_reducible repeat (first | refine qE ?_ _ | refine qH ?_ | refine qD ?_ _)); exact BK131.out) hb); have n4_ := qA (qR (by repeat (first | (with_reducible first | exact HB.out | apply qG | apply qB | apply qF | refine qC ?_ GE128.out | refine qC ?_ GE129.out | refine qC ?_ GE131.out) | exact HB.out)) hb); clear HO_6; clear BK128; clear BK129; clear BK131; clear HB; have HO_6 := n0_; have BK128 := n1_; have BK129 := n2_; have BK131 := n3_; have HB := n4_; clear n0_ n1_ n2_ n3_ n4_; (try clear hb); (try clear hb2); (try clear hk); (try clear hi); have hcz33_0 : w32.cell? ⟨gb128, 0, none⟩ = some (.int .u8 x129000_1) := (qQ BK128.out 0).trans rfl; have hcz33_1 : w32.cell? ⟨gb128, 1, none⟩ = some (.int .u8 x129001_1) := (qQ BK128.out 1).trans rfl; have hfz33_0 := qL BK128.out 0; have hfz33_1 := qL BK128.out 1))
                  go_roundg k1
                  case measure => have := HK1.out; omega
                  case rel => exact ⟨(x6_1), (wrap64 (x11_1 + 1)), (t139), (t140), (by first | rfl | (simp; done) | (simp [*]; done)), H', ⟨by have := HK1.out; omega⟩, ⟨by (with_reducible repeat (first | apply qJ | apply qI | apply qK)); exact qU (qP (p := ⟨gb128, 1, none⟩) (qP (p := ⟨gb128, 0, none⟩) (qV HO_6.out BK128.out (by decide)) (fun _ hk => hk.2) (.int .u8 t139)) (fun _ hk => hk.2) (.int .u8 t140)) (fun _ hk => trivial)⟩, ⟨by (with_reducible repeat (first | refine qE ?_ _ | refine qH ?_ | refine qD ?_ _)); refine qY (cs := #[.int .u8 t139, .int .u8 x129001_1]) ?_ 1 _ rfl; (with_reducible repeat (first | refine qE ?_ _ | refine qH ?_ | refine qD ?_ _)); refine qY (cs := #[.int .u8 x129000_1, .int .u8 x129001_1]) ?_ 0 _ rfl; (with_reducible repeat (first | refine qE ?_ _ | refine qH ?_ | refine qD ?_ _)); exact BK128.out⟩, ⟨by (with_reducible repeat (first | refine qE ?_ _ | refine qH ?_ | refine qD ?_ _)); refine blk_far ?_ NB129_128.out _; (with_reducible repeat (first | refine qE ?_ _ | refine qH ?_ | refine qD ?_ _)); refine blk_far ?_ NB129_128.out _; (with_reducible repeat (first | refine qE ?_ _ | refine qH ?_ | refine qD ?_ _)); exact BK129.out⟩, ⟨by repeat (first | (with_reducible first | exact HB.out | apply qG | apply qB | apply qF | refine qC ?_ GE128.out | refine qC ?_ GE129.out | refine qC ?_ GE131.out) | exact HB.out)⟩⟩
                · rw [if_neg c24] at H
                  have c24b0 : (((rd_T38 l1 x11_1).f0) == 3) = false := beq_eq_false_iff_ne.mpr c24
                  have c24b1 : (((rd_T38 l1 x11_1).f0) != 3) = true := bne_iff_ne.mpr c24
                  have H' := qA H
                  clear H
                  have p130 : 0 ≤ (x11_1 : Int) := of_decide_eq_true (by first | (with_reducible assumption) | assumption)
                  have q130 : x11_1 < (l1.length : Int) := of_decide_eq_true (by first | (with_reducible assumption) | assumption)
                  obtain ⟨ad130, e130, hx130_0, hx130_1⟩ := at_T38 HR1.out x11_1 p130 q130
                  cases e130
                  replace hx130_0 := (HB.out.cell (World.block_lt_of_cell? w _ hx130_0)).trans hx130_0
                  replace hx130_1 := (HB.out.cell (World.block_lt_of_cell? w _ hx130_1)).trans hx130_1
                  replace p130 := eq_true p130
                  replace q130 := eq_true q130
                  go_wp2_with (first | ((with_reducible refine gate_dst (N := 8) rfl ?_); refine box_event ?hg (N := 8) ?hd (cs := #[.int .i64 0, .int .i32 0]) (t := 38) ?hr ?_; (case hd => rfl); (case hg => rfl); (case hr => first | (go_simp; done) | (go_simp; rfl)); intro gb131 hg w34 hbox hb; have n0_ := qA (qT (by (with_reducible repeat (first | apply qJ | apply qI | apply qK)); exact HO_6.out) hb); have n1_ := qA (qX (g := gb128) (o := .cells #[.int .u8 x129000_1, .int .u8 x129001_1] 47 (0, 0)) (by (with_reducible repeat (first | refine qE ?_ _ | refine qH ?_ | refine qD ?_ _)); exact BK128.out) hb); have n2_ := qA (qX (g := gb129) (o := .cells #[.int .u8 0, .int .u8 0] 47 (0, 0)) (by (with_reducible repeat (first | refine qE ?_ _ | refine qH ?_ | refine qD ?_ _)); exact BK129.out) hb); have n3_ := qA (qR (by repeat (first | (with_reducible first | exact HB.out | apply qG | apply qB | apply qF | refine qC ?_ GE128.out | refine qC ?_ GE129.out) | exact HB.out)) hb); have n4_ := qA (hbox); have n5_ := qA ((by rw [hg]; exact (qS (by repeat (first | (with_reducible first | exact HB.out | apply qG | apply qB | apply qF | refine qC ?_ GE128.out | refine qC ?_ GE129.out) | exact HB.out))) : w.heap.size ≤ gb131)); have n6_ := qA ((by rw [hg]; exact (qS (by repeat (first | (with_reducible first | exact HB.out | apply qG | apply qB | apply qF | refine qC ?_ GE128.out | refine qC ?_ GE129.out) | exact HB.out))) : w.heap.size ≤ gb131)); have n7_ := qA ((by rw [hg]; exact Nat.ne_of_lt (blk_lt (g := gb128) (o := .cells #[.int .u8 x129000_1, .int .u8 x129001_1] 47 (0, 0)) (by (with_reducible repeat (first | refine qE ?_ _ | refine qH ?_ | refine qD ?_ _)); exact BK128.out)) : gb128 ≠ gb131)); have n8_ := qA ((by rw [hg]; exact Nat.ne_of_gt (blk_lt (g := gb128) (o := .cells #[.int .u8 x129000_1, .int .u8 x129001_1] 47 (0, 0)) (by (with_reducible repeat (first | refine qE ?_ _ | refine qH ?_ | refine qD ?_ _)); exact BK128.out)) : gb131 ≠ gb128)); have n9_ := qA ((by rw [hg]; exact Nat.ne_of_lt (blk_lt (g := gb129) (o := .cells #[.int .u8 0, .int .u8 0] 47 (0, 0)) (by (with_reducible repeat (first | refine qE ?_ _ | refine qH ?_ | refine qD ?_ _)); exact BK129.out)) : gb129 ≠ gb131)); have n10_ := qA ((by rw [hg]; exact Nat.ne_of_gt (blk_lt (g := gb129) (o := .cells #[.int .u8 0, .int .u8 0] 47 (0, 0)) (by (with_reducible repeat (first | refine qE ?_ _ | refine qH ?_ | refine qD ?_ _)); exact BK129.out)) : gb131 ≠ gb129)); clear HO_6; clear BK128; clear BK129; clear HB; have HO_6 := n0_; have BK128 := n1_; have BK129 := n2_; have HB := n3_; have BK131 := n4_; have GW131 := n5_; have GE131 := n6_; have NB128_131 := n7_; have NB131_128 := n8_; have NB129_131 := n9_; have NB131_129 := n10_; clear n0_ n1_ n2_ n3_ n4_ n5_ n6_ n7_ n8_ n9_ n10_; clear hb hbox hg; have hnb35 := NB131_128.out; have hnc35 := NB128_131.out; have hnb36 := NB131_129.out; have hnc36 := NB129_131.out; have hcz37_0 : w34.cell? ⟨gb131, 0, none⟩ = some (.int .i64 0) := (qQ BK131.out 0).trans rfl; have hcz37_1 : w34.cell? ⟨gb131, 1, none⟩ = some (.int .i32 0) := (qQ BK131.out 1).trans rfl; have hfz37_0 := qL BK131.out 0; have hfz37_1 := qL BK131.out 1))
                  go_roundg k1
                  case measure => have := HK1.out; omega
                  case rel => exact ⟨(x6_1), (wrap64 (x11_1 + 1)), (x129000_1), (x129001_1), (by first | rfl | (simp; done) | (simp [*]; done)), H', ⟨by have := HK1.out; omega⟩, ⟨by (with_reducible repeat (first | apply qJ | apply qI | apply qK)); exact qU (qP (p := ⟨gb131, 1, none⟩) (qP (p := ⟨gb131, 0, none⟩) (qV HO_6.out BK131.out (by decide)) (fun _ hk => hk.2) (.int .i64 ((rd_T38 l1 x11_1).f0))) (fun _ hk => hk.2) (.int .i32 ((rd_T38 l1 x11_1).f1))) (fun _ hk => trivial)⟩, ⟨by (with_reducible repeat (first | refine qE ?_ _ | refine qH ?_ | refine qD ?_ _)); refine blk_far ?_ NB128_131.out _; (with_reducible repeat (first | refine qE ?_ _ | refine qH ?_ | refine qD ?_ _)); refine blk_far ?_ NB128_131.out _; (with_reducible repeat (first | refine qE ?_ _ | refine qH ?_ | refine qD ?_ _)); exact BK128.out⟩, ⟨by (with_reducible repeat (first | refine qE ?_ _ | refine qH ?_ | refine qD ?_ _)); refine blk_far ?_ NB129_131.out _; (with_reducible repeat (first | refine qE ?_ _ | refine qH ?_ | refine qD ?_ _)); refine blk_far ?_ NB129_131.out _; (with_reducible repeat (first | refine qE ?_ _ | refine qH ?_ | refine qD ?_ _)); exact BK129.out⟩, ⟨by repeat (first | (with_reducible first | exact HB.out | apply qG | apply qB | apply qF | refine qC ?_ GE128.out | refine qC ?_ GE129.out | refine qC ?_ GE131.out) | exact HB.out)⟩⟩
          · rw [if_neg c7] at H
            exact absurd H (by simp)
        · rw [if_neg c6] at H
          exact absurd H (by simp)
      · rw [if_neg c5] at H
        have c5b0 : decide (x11_1 < (l1.length : Int)) = false := decide_eq_false c5
        clear c5
        simp only [Option.some.injEq, Prod.mk.injEq] at H
        obtain ⟨rfl, rfl, rfl⟩ := H
        try go_wp2
        have n0_ := qA (qK HO_6.out)
        have n1_ := qA (qH BK128.out)
        have n2_ := qA (qH BK129.out)
        have n3_ := qA (qF HB.out)
        clear HO_6
        clear BK128
        clear BK129
        clear HB
        have HO_6 := n0_
        have BK128 := n1_
        have BK129 := n2_
        have HB := n3_
        clear n0_ n1_ n2_ n3_
        refine start_ (n := 4) (S := fun w' => w'.cell? ⟨gb128, 0, none⟩ = some (.int .u8 x129000_1) ∧ w'.cell? ⟨gb128, 1, none⟩ = some (.int .u8 x129001_1)) (ds := []) #[false, false, false, false] (by kernel_rfl) rfl rfl ⟨(qQ BK128.out 0).trans rfl, (qQ BK128.out 1).trans rfl⟩ (fun hHeld => ?_)
        generalize wr.drew = w38 at HO_6 BK128 BK129 HB hHeld ⊢
        refine pure_ (i := 0) (N := some 40) (v := ?_) (a' := ?_) #[true, false, false, false] rfl rfl (by kernel_rfl) (fun _ _ _ h => h) (Or.inl ⟨by rfl, ?_⟩) ?_ ?_
        rotate_left
        · intro w'
          go_simp
          with_reducible rfl
        rotate_left
        · simp only [Act.put, qM, qO, qN, i64_w, i32_w]
          rfl
        refine pure_ (i := 2) (N := some 4) (v := ?_) (a' := ?_) #[true, false, true, false] rfl rfl (by kernel_rfl) (fun _ _ _ h => h) (Or.inl ⟨by rfl, ?_⟩) ?_ ?_
        rotate_left
        · intro w'
          go_simp
          with_reducible rfl
        rotate_left
        · simp only [Act.put, qM, qO, qN, i64_w, i32_w]
          rfl
        refine take_ (i := 1) (N := some 41) (v := ?_) (a' := ?_) #[true, true, true, false] rfl rfl (by kernel_rfl) (fun _ _ _ h => h) (Or.inl ⟨by rfl, ?_⟩) hHeld ?_ ?_
        rotate_left
        · rintro w' ⟨s0, s1⟩
          go_simp
          with_reducible rfl
        rotate_left
        · simp only [Act.put, qM, qO, qN, i64_w, i32_w]
          rfl
        refine one_ (i := 3) (N := none) #[true, true, true, true] rfl rfl (by kernel_rfl) (by decide) (fun K hK => ?_)
        have hs39 : w38.cell? ⟨gb129, 0, none⟩ = some (.int .u8 0) := (qQ BK129.out 0).trans rfl
        have hfs39 := qL BK129.out 0
        have hns39_0 := NB128_129.out
        have hms39_0 := NB129_128.out
        have hs40 : w38.cell? ⟨gb129, 1, none⟩ = some (.int .u8 0) := (qQ BK129.out 1).trans rfl
        have hfs40 := qL BK129.out 1
        have hns40_0 := NB128_129.out
        have hms40_0 := NB129_128.out
        refine skip_ (w1 := ?_) (by rfl) rfl ?_ ?_
        rotate_left
        · go_simp
          rfl
        refine hK.out _ _ ⟨((cell_far (p := ⟨gb129, _, none⟩) NB128_129.out _).trans (((cell_far (p := ⟨gb129, _, none⟩) NB128_129.out _).trans (hHeld.1)))), ((cell_far (p := ⟨gb129, _, none⟩) NB128_129.out _).trans (((cell_far (p := ⟨gb129, _, none⟩) NB128_129.out _).trans (hHeld.2))))⟩ (fun hHeld => ?_)
        clear hK K
        refine done_ (by kernel_rfl) ?_
        try go_wp2
        (try rw [Exit.noGoto_ret])
        refine bodyPost_ret (results_tc rfl _ _ gb129 47 #[.int .u8 x129000_1, .int .u8 x129001_1] (0, 0) _ rfl (by (with_reducible repeat (first | refine qE ?_ _ | refine qH ?_ | refine qD ?_ _)); refine qY (cs := #[.int .u8 x129000_1, .int .u8 0]) ?_ 1 _ rfl; (with_reducible repeat (first | refine qE ?_ _ | refine qH ?_ | refine qD ?_ _)); refine qY (cs := #[.int .u8 0, .int .u8 0]) ?_ 0 _ rfl; (with_reducible repeat (first | refine qE ?_ _ | refine qH ?_ | refine qD ?_ _)); exact BK129.out) Tryd.underlying47 rfl (by kernel_rfl)) rfl ?_
        exact ⟨_, by first | rfl | (simp [errW_none, errW_some] <;> rfl) | (simp [*, errW_none, errW_some] <;> rfl), by (with_reducible repeat (first | apply qJ | apply qI | apply qK)); exact qU (qP (p := ⟨gb129, 1, none⟩) (qP (p := ⟨gb129, 0, none⟩) (qV HO_6.out BK129.out (by decide)) (fun _ hk => hk.2) (.int .u8 x129000_1)) (fun _ hk => hk.2) (.int .u8 x129001_1)) (fun _ hk => trivial), by repeat (first | (with_reducible first | exact HB.out | apply qG | apply qB | apply qF | refine qC ?_ GE128.out | refine qC ?_ GE129.out) | exact HB.out)⟩
def styles_Line.f (k : Nat) (a0_0 : Int) (a0_1 : Int) (a1 : ByteArray) : Option ((List (S60)) × Int × Int × (List (S41))) := (escape_Scan.f k a1).bind fun bt143 => ((styles_Set.f k a0_0 a0_1 bt143.1).bind fun bt149 => (some (bt149.1, bt149.2.1, bt149.2.2, bt143.2)))
theorem styles_Line.mono : ∀ a0 a1 a2 k, LeO (styles_Line.f k a0 a1 a2) (styles_Line.f (k + 1) a0 a1 a2) := by
  intro a0 a1 a2 k
  unfold styles_Line.f
  repeat' first
      | (with_reducible exact escape_Scan.mono _ _)
      | (with_reducible exact styles_Set.mono _ _ _ _)
      | (with_reducible exact LeO.refl _)
      | (with_reducible exact LeO.none _)
      | (with_reducible refine LeO.ite ?_ ?_)
      | (with_reducible refine LeO.bind ?_ (fun _ => ?_))
      | exact escape_Scan.mono _ _
      | exact styles_Set.mono _ _ _ _
      | exact LeO.none _
      | refine LeO.ite ?_ ?_
      | refine LeO.bind ?_ (fun _ => ?_)
set_option maxHeartbeats 8000000 in
set_option maxRecDepth 100000 in
theorem styles_Line.calls (k : Nat) (a0_0 : Int) (a0_1 : Int) (a1 : ByteArray) (r1 : List (S60)) (r2 : Int) (r3 : Int) (r4 : List (S41)) (w : World) (hG : GL w) (h : styles_Line.f k a0_0 a0_1 a1 = some (r1, r2, r3, r4)) :
    Calls Tryd.prog 32 #[.agg #[.int .u8 a0_0, .int .u8 a0_1], .string a1] w fun e w' => ∃ v0_ v3_ : Value, e = .returned (.tuple #[v0_, .agg #[.int .u8 r2, .int .u8 r3], v3_]) ∧ Kd.R k60 60 w' w.heap.size (fun _ => True) v0_ r1 ∧ Kd.R k41 41 w' w.heap.size (fun _ => True) v3_ r4 ∧ Below w.heap.size w w' := by
  have hu47 := Tryd.underlying47
  have HG := qA hG
  clear hG
  have HB := qA (Below.refl w.heap.size w)
  have H : ((escape_Scan.f k a1).bind fun bt143 => ((styles_Set.f k a0_0 a0_1 bt143.1).bind fun bt149 => (some (bt149.1, bt149.2.1, bt149.2.2, bt143.2)))) = some (r1, r2, r3, r4) := h
  clear h
  replace H := Option.bind_eq_some_iff.mp H
  obtain ⟨⟨t143, t144⟩, A30, H⟩ := H
  replace H : ((styles_Set.f k a0_0 a0_1 t143).bind fun bt149 => (some (bt149.1, bt149.2.1, bt149.2.2, t144))) = some (r1, r2, r3, r4) := H
  have A3 := qA A30
  clear A30
  replace H := Option.bind_eq_some_iff.mp H
  obtain ⟨⟨t149, t152, t153⟩, A40, H⟩ := H
  replace H : (some (t149, t152, t153, t144)) = some (r1, r2, r3, r4) := H
  have A4 := qA A40
  clear A40
  simp only [Option.some.injEq, Prod.mk.injEq] at H
  obtain ⟨rfl, rfl, rfl, rfl⟩ := H
  go_enter Tryd.func32, Tryd.ntmps32
  try go_wp2_with (first | ((with_reducible refine gate_dst (N := 2) rfl ?_); refine box_event ?hg (N := 2) ?hd (cs := #[.int .u8 a0_0, .int .u8 a0_1]) (t := 47) ?hr ?_; (case hd => rfl); (case hg => rfl); (case hr => first | (go_simp; done) | (go_simp; rfl)); intro gb141 hg w5 hbox hb; have n0_ := qA (qR (by repeat (first | (with_reducible first | exact HB.out | apply qG | apply qB | apply qF) | exact HB.out)) hb); have n1_ := qA (hbox); have n2_ := qA ((by rw [hg]; exact (qS (by repeat (first | (with_reducible first | exact HB.out | apply qG | apply qB | apply qF) | exact HB.out))) : w.heap.size ≤ gb141)); have n3_ := qA ((by rw [hg]; exact (qS (by repeat (first | (with_reducible first | exact HB.out | apply qG | apply qB | apply qF) | exact HB.out))) : w.heap.size ≤ gb141)); clear HB; have HB := n0_; have BK141 := n1_; have GW141 := n2_; have GE141 := n3_; clear n0_ n1_ n2_ n3_; clear hb hbox hg) | ((with_reducible refine gate_dst (N := 5) rfl ?_); refine box_event ?hg (N := 5) ?hd (cs := #[.int .u8 0, .int .u8 0]) (t := 47) ?hr ?_; (case hd => rfl); (case hg => rfl); (case hr => first | (go_simp; done) | (go_simp; rfl)); intro gb142 hg w6 hbox hb; have n0_ := qA (qX (g := gb141) (o := .cells #[.int .u8 a0_0, .int .u8 a0_1] 47 (0, 0)) (by (with_reducible repeat (first | refine qE ?_ _ | refine qH ?_ | refine qD ?_ _)); exact BK141.out) hb); have n1_ := qA (qR (by repeat (first | (with_reducible first | exact HB.out | apply qG | apply qB | apply qF | refine qC ?_ GE141.out) | exact HB.out)) hb); have n2_ := qA (hbox); have n3_ := qA ((by rw [hg]; exact (qS (by repeat (first | (with_reducible first | exact HB.out | apply qG | apply qB | apply qF | refine qC ?_ GE141.out) | exact HB.out))) : w.heap.size ≤ gb142)); have n4_ := qA ((by rw [hg]; exact (qS (by repeat (first | (with_reducible first | exact HB.out | apply qG | apply qB | apply qF | refine qC ?_ GE141.out) | exact HB.out))) : w.heap.size ≤ gb142)); have n5_ := qA ((by rw [hg]; exact Nat.ne_of_lt (blk_lt (g := gb141) (o := .cells #[.int .u8 a0_0, .int .u8 a0_1] 47 (0, 0)) (by (with_reducible repeat (first | refine qE ?_ _ | refine qH ?_ | refine qD ?_ _)); exact BK141.out)) : gb141 ≠ gb142)); have n6_ := qA ((by rw [hg]; exact Nat.ne_of_gt (blk_lt (g := gb141) (o := .cells #[.int .u8 a0_0, .int .u8 a0_1] 47 (0, 0)) (by (with_reducible repeat (first | refine qE ?_ _ | refine qH ?_ | refine qD ?_ _)); exact BK141.out)) : gb142 ≠ gb141)); clear BK141; clear HB; have BK141 := n0_; have HB := n1_; have BK142 := n2_; have GW142 := n3_; have GE142 := n4_; have NB141_142 := n5_; have NB142_141 := n6_; clear n0_ n1_ n2_ n3_ n4_ n5_ n6_; clear hb hbox hg) | ((with_reducible refine gate_callee (f := 15) rfl ?_); refine goesL_ (some 12) rfl rfl Tryd.func15 (by kernel_rfl) rfl #[.string a1] rfl (by (try simp only [List.map_toArray, List.map_cons, List.map_nil]); first | done | rfl | (simp only [List.length_drop, List.length_take]; rfl)) ?_; (with_reducible refine (escape_Scan.calls k a1 t143 t144 _ ?side1 A3.out).mono ?_); (case side1 => exact GL.below HG.out (by repeat (first | (with_reducible first | exact HB.out | apply qG | apply qB | apply qF | refine qC ?_ GE141.out | refine qC ?_ GE142.out) | exact HB.out))); rintro e w7 ⟨v145, v147, rfl, ho0, ho1, hb⟩; refine ⟨_, rfl, ?_⟩; have n0_ := qA (qW ho0 (qS (by repeat (first | (with_reducible first | exact HB.out | apply qG | apply qB | apply qF | refine qC ?_ GE141.out | refine qC ?_ GE142.out) | exact HB.out)))); have n1_ := qA (qW ho1 (qS (by repeat (first | (with_reducible first | exact HB.out | apply qG | apply qB | apply qF | refine qC ?_ GE141.out | refine qC ?_ GE142.out) | exact HB.out)))); have n2_ := qA (qX (g := gb141) (o := .cells #[.int .u8 a0_0, .int .u8 a0_1] 47 (0, 0)) (by (with_reducible repeat (first | refine qE ?_ _ | refine qH ?_ | refine qD ?_ _)); exact BK141.out) hb); have n3_ := qA (qX (g := gb142) (o := .cells #[.int .u8 0, .int .u8 0] 47 (0, 0)) (by (with_reducible repeat (first | refine qE ?_ _ | refine qH ?_ | refine qD ?_ _)); exact BK142.out) hb); have n4_ := qA (qR (by repeat (first | (with_reducible first | exact HB.out | apply qG | apply qB | apply qF | refine qC ?_ GE141.out | refine qC ?_ GE142.out) | exact HB.out)) hb); clear BK141; clear BK142; clear HB; have HO146 := n0_; have HO148 := n1_; have BK141 := n2_; have BK142 := n3_; have HB := n4_; clear n0_ n1_ n2_ n3_ n4_; (try clear hb); (try clear hb2); (try clear hk); (try clear hi); (try clear ho0); (try clear ho1); have hnb8 := NB141_142.out; have hnc8 := NB142_141.out; have hcz9_0 : w7.cell? ⟨gb141, 0, none⟩ = some (.int .u8 a0_0) := (qQ BK141.out 0).trans rfl; have hcz9_1 : w7.cell? ⟨gb141, 1, none⟩ = some (.int .u8 a0_1) := (qQ BK141.out 1).trans rfl; have hfz9_0 := qL BK141.out 0; have hfz9_1 := qL BK141.out 1; obtain ⟨Ao10, co10, eo10⟩ := Kd.R_slice HO146.out; subst eo10) | ((with_reducible refine gate_callee (f := 30) rfl ?_); refine goesL_ (some 18) rfl rfl Tryd.func30 (by kernel_rfl) rfl #[.agg #[.int .u8 a0_0, .int .u8 a0_1], .slice Ao10 t143.length co10] rfl (by (try simp only [List.map_toArray, List.map_cons, List.map_nil]); first | done | rfl | (simp only [List.length_drop, List.length_take]; rfl)) ?_; (with_reducible refine (styles_Set.calls k a0_0 a0_1 _ _ t143 t149 t152 t153 _ ?side1 ?side2 ?side3 A4.out).mono ?_); (case side1 => exact GL.below HG.out (by repeat (first | (with_reducible first | exact HB.out | apply qG | apply qB | apply qF | refine qC ?_ GE141.out | refine qC ?_ GE142.out) | exact HB.out))); (case side2 => repeat (first | exact (Kd.R_reads' HO146.out).2.2 | (with_reducible refine Kd.C_alloc ?_ _) | (with_reducible refine Kd.C_drewN ?_ _) | (with_reducible refine Kd.C_drew ?_))); (case side3 => exact (Kd.R_reads' HO146.out).2.1); rintro e w11 ⟨v150, rfl, ho0, hb⟩; refine ⟨_, rfl, ?_⟩; have n0_ := qA (qT (by (with_reducible repeat (first | apply qJ | apply qI | apply qK)); exact HO146.out) hb); have n1_ := qA (qT (by (with_reducible repeat (first | apply qJ | apply qI | apply qK)); exact HO148.out) hb); have n2_ := qA (qW ho0 (qS (by repeat (first | (with_reducible first | exact HB.out | apply qG | apply qB | apply qF | refine qC ?_ GE141.out | refine qC ?_ GE142.out) | exact HB.out)))); have n3_ := qA (qX (g := gb141) (o := .cells #[.int .u8 a0_0, .int .u8 a0_1] 47 (0, 0)) (by (with_reducible repeat (first | refine qE ?_ _ | refine qH ?_ | refine qD ?_ _)); exact BK141.out) hb); have n4_ := qA (qX (g := gb142) (o := .cells #[.int .u8 0, .int .u8 0] 47 (0, 0)) (by (with_reducible repeat (first | refine qE ?_ _ | refine qH ?_ | refine qD ?_ _)); exact BK142.out) hb); have n5_ := qA (qR (by repeat (first | (with_reducible first | exact HB.out | apply qG | apply qB | apply qF | refine qC ?_ GE141.out | refine qC ?_ GE142.out) | exact HB.out)) hb); clear HO146; clear HO148; clear BK141; clear BK142; clear HB; have HO146 := n0_; have HO148 := n1_; have HO151 := n2_; have BK141 := n3_; have BK142 := n4_; have HB := n5_; clear n0_ n1_ n2_ n3_ n4_ n5_; (try clear hb); (try clear hb2); (try clear hk); (try clear hi); (try clear ho0); have hcz12_0 : w11.cell? ⟨gb141, 0, none⟩ = some (.int .u8 a0_0) := (qQ BK141.out 0).trans rfl; have hcz12_1 : w11.cell? ⟨gb141, 1, none⟩ = some (.int .u8 a0_1) := (qQ BK141.out 1).trans rfl; have hfz12_0 := qL BK141.out 0; have hfz12_1 := qL BK141.out 1))
  have n0_ : Aside0 (Kd.R k38 38 ((w11.setCell ⟨gb141, 0, none⟩ (.int .u8 t152)).setCell ⟨gb141, 1, none⟩ (.int .u8 t153)) w.heap.size (fun _ => True) (.slice Ao10 t143.length co10) t143) := ⟨by (with_reducible repeat (first | apply qJ | apply qI | apply qK)); exact qU (qP (p := ⟨gb141, 1, none⟩) (qP (p := ⟨gb141, 0, none⟩) (qV HO146.out BK141.out (by decide)) (fun _ hk => hk.2) (.int .u8 t152)) (fun _ hk => hk.2) (.int .u8 t153)) (fun _ hk => trivial)⟩
  have n1_ : Aside0 (Kd.R k41 41 ((w11.setCell ⟨gb141, 0, none⟩ (.int .u8 t152)).setCell ⟨gb141, 1, none⟩ (.int .u8 t153)) w.heap.size (fun _ => True) v147 t144) := ⟨by (with_reducible repeat (first | apply qJ | apply qI | apply qK)); exact qU (qP (p := ⟨gb141, 1, none⟩) (qP (p := ⟨gb141, 0, none⟩) (qV HO148.out BK141.out (by decide)) (fun _ hk => hk.2) (.int .u8 t152)) (fun _ hk => hk.2) (.int .u8 t153)) (fun _ hk => trivial)⟩
  have n2_ : Aside0 (Kd.R k60 60 ((w11.setCell ⟨gb141, 0, none⟩ (.int .u8 t152)).setCell ⟨gb141, 1, none⟩ (.int .u8 t153)) w.heap.size (fun _ => True) v150 t149) := ⟨by (with_reducible repeat (first | apply qJ | apply qI | apply qK)); exact qU (qP (p := ⟨gb141, 1, none⟩) (qP (p := ⟨gb141, 0, none⟩) (qV HO151.out BK141.out (by decide)) (fun _ hk => hk.2) (.int .u8 t152)) (fun _ hk => hk.2) (.int .u8 t153)) (fun _ hk => trivial)⟩
  have n3_ : Aside0 (((w11.setCell ⟨gb141, 0, none⟩ (.int .u8 t152)).setCell ⟨gb141, 1, none⟩ (.int .u8 t153)).heap[gb141]? = some (.cells #[.int .u8 t152, .int .u8 t153] 47 (0, 0))) := ⟨by (with_reducible repeat (first | refine qE ?_ _ | refine qH ?_ | refine qD ?_ _)); refine qY (cs := #[.int .u8 t152, .int .u8 a0_1]) ?_ 1 _ rfl; (with_reducible repeat (first | refine qE ?_ _ | refine qH ?_ | refine qD ?_ _)); refine qY (cs := #[.int .u8 a0_0, .int .u8 a0_1]) ?_ 0 _ rfl; (with_reducible repeat (first | refine qE ?_ _ | refine qH ?_ | refine qD ?_ _)); exact BK141.out⟩
  have n4_ : Aside0 (((w11.setCell ⟨gb141, 0, none⟩ (.int .u8 t152)).setCell ⟨gb141, 1, none⟩ (.int .u8 t153)).heap[gb142]? = some (.cells #[.int .u8 0, .int .u8 0] 47 (0, 0))) := ⟨by (with_reducible repeat (first | refine qE ?_ _ | refine qH ?_ | refine qD ?_ _)); refine blk_far ?_ NB142_141.out _; (with_reducible repeat (first | refine qE ?_ _ | refine qH ?_ | refine qD ?_ _)); refine blk_far ?_ NB142_141.out _; (with_reducible repeat (first | refine qE ?_ _ | refine qH ?_ | refine qD ?_ _)); exact BK142.out⟩
  have n5_ : Aside0 (Below w.heap.size w ((w11.setCell ⟨gb141, 0, none⟩ (.int .u8 t152)).setCell ⟨gb141, 1, none⟩ (.int .u8 t153))) := ⟨by repeat (first | (with_reducible first | exact HB.out | apply qG | apply qB | apply qF | refine qC ?_ GE141.out | refine qC ?_ GE142.out) | exact HB.out)⟩
  (try clear HO146)
  (try clear HO148)
  (try clear HO151)
  (try clear BK141)
  (try clear BK142)
  (try clear HB)
  generalize ((w11.setCell ⟨gb141, 0, none⟩ (.int .u8 t152)).setCell ⟨gb141, 1, none⟩ (.int .u8 t153)) = w13 at n0_ n1_ n2_ n3_ n4_ n5_ ⊢
  have HO146 := n0_
  have HO148 := n1_
  have HO151 := n2_
  have BK141 := n3_
  have BK142 := n4_
  have HB := n5_
  clear n0_ n1_ n2_ n3_ n4_ n5_
  have n0_ := qA (qK HO146.out)
  have n1_ := qA (qK HO148.out)
  have n2_ := qA (qK HO151.out)
  have n3_ := qA (qH BK141.out)
  have n4_ := qA (qH BK142.out)
  have n5_ := qA (qF HB.out)
  clear HO146
  clear HO148
  clear HO151
  clear BK141
  clear BK142
  clear HB
  have HO146 := n0_
  have HO148 := n1_
  have HO151 := n2_
  have BK141 := n3_
  have BK142 := n4_
  have HB := n5_
  clear n0_ n1_ n2_ n3_ n4_ n5_
  refine start_ (n := 6) (S := fun w' => w'.cell? ⟨gb141, 0, none⟩ = some (.int .u8 t152) ∧ w'.cell? ⟨gb141, 1, none⟩ = some (.int .u8 t153)) (ds := []) #[false, false, false, false, false, false] (by kernel_rfl) rfl rfl ⟨(qQ BK141.out 0).trans rfl, (qQ BK141.out 1).trans rfl⟩ (fun hHeld => ?_)
  generalize w13.drew = w14 at HO146 HO148 HO151 BK141 BK142 HB hHeld ⊢
  refine pure_ (i := 0) (N := some 21) (v := ?_) (a' := ?_) #[true, false, false, false, false, false] rfl rfl (by kernel_rfl) (fun _ _ _ h => h) (Or.inl ⟨by rfl, ?_⟩) ?_ ?_
  rotate_left
  · intro w'
    go_simp
    with_reducible rfl
  rotate_left
  · simp only [Act.put, qM, qO, qN, i64_w, i32_w]
    rfl
  refine pure_ (i := 2) (N := some 23) (v := ?_) (a' := ?_) #[true, false, true, false, false, false] rfl rfl (by kernel_rfl) (fun _ _ _ h => h) (Or.inl ⟨by rfl, ?_⟩) ?_ ?_
  rotate_left
  · intro w'
    go_simp
    with_reducible rfl
  rotate_left
  · simp only [Act.put, qM, qO, qN, i64_w, i32_w]
    rfl
  refine pure_ (i := 3) (N := some 4) (v := ?_) (a' := ?_) #[true, false, true, true, false, false] rfl rfl (by kernel_rfl) (fun _ _ _ h => h) (Or.inl ⟨by rfl, ?_⟩) ?_ ?_
  rotate_left
  · intro w'
    go_simp
    with_reducible rfl
  rotate_left
  · simp only [Act.put, qM, qO, qN, i64_w, i32_w]
    rfl
  refine take_ (i := 1) (N := some 22) (v := ?_) (a' := ?_) #[true, true, true, true, false, false] rfl rfl (by kernel_rfl) (fun _ _ _ h => h) (Or.inl ⟨by rfl, ?_⟩) hHeld ?_ ?_
  rotate_left
  · rintro w' ⟨s0, s1⟩
    go_simp
    with_reducible rfl
  rotate_left
  · simp only [Act.put, qM, qO, qN, i64_w, i32_w]
    rfl
  refine one_ (i := 4) (N := none) #[true, true, true, true, true, false] rfl rfl (by kernel_rfl) (by decide) (fun K hK => ?_)
  have hs15 : w14.cell? ⟨gb142, 0, none⟩ = some (.int .u8 0) := (qQ BK142.out 0).trans rfl
  have hfs15 := qL BK142.out 0
  have hns15_0 := NB141_142.out
  have hms15_0 := NB142_141.out
  have hs16 : w14.cell? ⟨gb142, 1, none⟩ = some (.int .u8 0) := (qQ BK142.out 1).trans rfl
  have hfs16 := qL BK142.out 1
  have hns16_0 := NB141_142.out
  have hms16_0 := NB142_141.out
  refine skip_ (w1 := ?_) (by rfl) rfl ?_ ?_
  rotate_left
  · go_simp
    rfl
  refine hK.out _ _ ⟨((cell_far (p := ⟨gb142, _, none⟩) NB141_142.out _).trans (((cell_far (p := ⟨gb142, _, none⟩) NB141_142.out _).trans (hHeld.1)))), ((cell_far (p := ⟨gb142, _, none⟩) NB141_142.out _).trans (((cell_far (p := ⟨gb142, _, none⟩) NB141_142.out _).trans (hHeld.2))))⟩ (fun hHeld => ?_)
  clear hK K
  refine pure_ (i := 5) (N := some 6) (v := ?_) (a' := ?_) #[true, true, true, true, true, true] rfl rfl (by kernel_rfl) (fun _ _ _ h => h) (Or.inl ⟨by rfl, ?_⟩) ?_ ?_
  rotate_left
  · intro w'
    go_simp
    with_reducible rfl
  rotate_left
  · simp only [Act.put, qM, qO, qN, i64_w, i32_w]
    rfl
  refine done_ (by kernel_rfl) ?_
  try go_wp2
  refine bodyPost_ret (results_list (rs := [.tmp 4, .cell 5 47, .tmp 6]) rfl (by simp) (.tmp (.cell gb142 47 #[.int .u8 t152, .int .u8 t153] (0, 0) _ rfl (by (with_reducible repeat (first | refine qE ?_ _ | refine qH ?_ | refine qD ?_ _)); refine qY (cs := #[.int .u8 t152, .int .u8 0]) ?_ 1 _ rfl; (with_reducible repeat (first | refine qE ?_ _ | refine qH ?_ | refine qD ?_ _)); refine qY (cs := #[.int .u8 0, .int .u8 0]) ?_ 0 _ rfl; (with_reducible repeat (first | refine qE ?_ _ | refine qH ?_ | refine qD ?_ _)); exact BK142.out) Tryd.underlying47 rfl (by kernel_rfl) (.tmp .nil)))) rfl ?_
  exact ⟨_, _, by first | rfl | (simp [errW_none, errW_some] <;> rfl) | (simp [*, errW_none, errW_some] <;> rfl), by (with_reducible repeat (first | apply qJ | apply qI | apply qK)); exact qU (qP (p := ⟨gb142, 1, none⟩) (qP (p := ⟨gb142, 0, none⟩) (qV HO151.out BK142.out (by decide)) (fun _ hk => hk.2) (.int .u8 t152)) (fun _ hk => hk.2) (.int .u8 t153)) (fun _ hk => trivial), by (with_reducible repeat (first | apply qJ | apply qI | apply qK)); exact qU (qP (p := ⟨gb142, 1, none⟩) (qP (p := ⟨gb142, 0, none⟩) (qV HO148.out BK142.out (by decide)) (fun _ hk => hk.2) (.int .u8 t152)) (fun _ hk => hk.2) (.int .u8 t153)) (fun _ hk => trivial), by repeat (first | (with_reducible first | exact HB.out | apply qG | apply qB | apply qF | refine qC ?_ GE141.out | refine qC ?_ GE142.out) | exact HB.out)⟩
end Go.Proofs.YtdogljnddalgdaaDoor.A6
end
section
namespace Go.Proofs.YtdogljnddalgdaaDoor.A6
open Go.RowKit Go.Proofs.YtdogljnddalgdaaDoorW.PrintWords Go.Proofs.YtdogljnddalgdaaDoorW.PrintLast Go.Proofs.YtdogljnddalgdaaDoorW.PrintMore
open Go.Proofs.YtdogljnddalgdaaDoorW.PrintWords.Aside0 renaming mk → qA
open Go.Proofs.YtdogljnddalgdaaDoorW.PrintWords renaming pw_below_drewN → qB, below_set → qC, below_drew1 → qF, below_alloc → qG, blk_frozen → qL, blk_cell → qQ, below_step → qR, below_size → qS
open Go.Proofs.YtdogljnddalgdaaDoorW.PrintWords.Kd renaming R_drewN → qI, R_alloc → qJ, R_drew → qK, R_far → qP, R_below → qT, R_mono → qU, R_types → qV, R_lower → qW
attribute [local go_sem] max2_int min2_int max_two min_two max_three min_three max_four min_four   -- for this text's walks alone
set_option linter.unusedVariables false
set_option linter.unusedSimpArgs false
def turn_at (a b i : Int) : Int := if i % 2 = 0 then a else b
set_option maxHeartbeats 8000000 in
set_option maxRecDepth 100000 in
theorem turns1_calls (a b i : Int) (g : Nat) (w : World) (hb : w.heap[g]? = some (.cells #[.int .u8 a, .int .u8 b] 92 (0, 0))) (hi : 0 ≤ i) :
    Calls Tryd.prog 63 #[.int .i64 i, .pointer (some ⟨g, 0, none⟩)] w fun e w' => e = .returned (.int .u8 (turn_at a b i)) ∧ w' = w := by
  have hu92 := Tryd.underlying92
  have hc0 : w.cell? ⟨g, 0, none⟩ = some (.int .u8 a) := (qQ hb 0).trans rfl
  have hc1 : w.cell? ⟨g, 1, none⟩ = some (.int .u8 b) := (qQ hb 1).trans rfl
  have HI := qA hi
  clear hi hb
  by_cases hm : Int.tmod i 2 = 0
  · have e : turn_at a b i = a := by unfold turn_at; rw [Int.tmod_eq_emod_of_nonneg HI.out] at hm; rw [if_pos hm]
    rw [e]
    go_enter Tryd.func63, Tryd.ntmps63
    go_wp2
    go_ret
    exact ⟨rfl, rfl⟩
  · have h1 : Int.tmod i 2 = 1 := by rw [Int.tmod_eq_emod_of_nonneg HI.out] at hm ⊢; omega
    have e : turn_at a b i = b := by unfold turn_at; rw [Int.tmod_eq_emod_of_nonneg HI.out] at hm; rw [if_neg hm]
    rw [e]
    clear hm
    go_enter Tryd.func63, Tryd.ntmps63
    go_wp2
    go_ret
    exact ⟨rfl, rfl⟩
set_option maxHeartbeats 8000000 in
set_option maxRecDepth 100000 in
theorem turns2_calls {w0 w : World} {base b2 : Nat} {x y : Value} {xs ys : List S60} {oky : Nat → Prop} (hB : Below base w0 w) (hbase : base ≤ w.heap.size) (hx : Kd.R k60 60 w base (fun k => some k ≠ y.ownBlock) x xs) (hy : Kd.R k60 60 w b2 oky y ys)
    (hl : (xs.length + ys.length) * 8 ≤ 140737488355328) :
    Calls Tryd.prog 64 #[x, y] w fun e w' => ∃ v, e = .returned v ∧ Kd.R k60 60 w' base (fun k => some k ≠ y.ownBlock) v (xs ++ ys) ∧ Below base w0 w' ∧ w.grownBy w' x.ownBlock := by
  have hu48 := Tryd.underlying48
  obtain ⟨Ay, cy, ey⟩ := Kd.R_slice hy
  subst ey
  have HB := qA hB
  have HS := qA hbase
  have HX := qA hx
  have HY := qA hy
  have HL := qA hl
  clear hB hbase hx hy hl
  go_enter Tryd.func64, Tryd.ntmps64
  go_wp2_with (((with_reducible refine gate_builtin (b := .append) (xs := #[.tmp 5, .tmp 6]) rfl ?_); at_builtin; refine Kd.R_append_rows k60 (w0 := w0) base rfl (.tmp 5) (.tmp 6) 48 60 (.agg #[(.int .i32 0), (.int .u8 0)]) 8 rfl Tryd.underlying48 info60 rfl (by decide) (by omega) x xs ys _ _ _ (fun k_ => some k_ ≠ (.slice Ay ys.length cy : Value).ownBlock) (fun _ => False) rfl rfl ?aO ?aR (fun _ _ h => h) (fun _ h => h.elim) ?aF ?aB ?aS ?aL ?_; (case aR => exact (Kd.R_reads' HY.out).2.2); (case aB => exact HB.out); (case aF => exact (fun k_ hk => Kd.fresh' (Kd.R_lt HY.out) k_ hk)); (case aO => exact HX.out); (case aS => exact HS.out); (case aL => exact HL.out); intro v4 w4 ho hb hg hat; have HO := qA ho; have HB4 := qA hb; have HGR := qA hg; clear ho hb hg hat))
  go_ret
  exact ⟨_, rfl, HO.out, HB4.out, HGR.out⟩
def turns_l0 : Nat → List ByteArray → Int → Int → Int → List S60 → List S41 → Option (List S60 × List S41)
  | 0, _, _, _, _, _, _ => none
  | k + 1, l, a, b, i, xs, ys => if i < (l.length : Int) then (if 0 ≤ i then (styles_Line.f k (turn_at a b i) (turn_at a b i) (rdOf ByteArray.empty l i)).bind fun t =>
      if xs.length + t.1.length < 17592186044416 ∧ ys.length + t.2.2.2.length < 5864062014805 then turns_l0 k l a b (i + 1) (xs ++ t.1) (ys ++ t.2.2.2) else none else none) else some (xs, ys)
set_option maxHeartbeats 8000000 in
set_option maxRecDepth 100000 in
theorem each_calls (k : Nat) (a b : Int) (l : List ByteArray) (A0 : Option Addr) (c0 g : Nat) (r1 : List S60) (r2 : List S41) (w : World) (hG : GL w) (hp : w.heap[g]? = some (.cells #[.int .u8 a, .int .u8 b] 92 (0, 0))) (hr : Kd.string.C w A0 l.length l) (hc : l.length ≤ c0)
    (hll : l.length ≤ 1000000) (h : turns_l0 k l a b 0 [] [] = some (r1, r2)) :
    Calls Tryd.prog 62 #[.slice A0 l.length c0, .func (.func 63) #[] #[.pointer (some ⟨g, 0, none⟩)], .func (.func 64) #[] #[]] w fun e w' => ∃ v0 v1 : Value, e = .returned (.tuple #[v0, v1]) ∧ Kd.R k60 60 w' w.heap.size (fun _ => True) v0 r1 ∧ Kd.R k41 41 w' w.heap.size (fun _ => True) v1 r2 ∧ Below w.heap.size w w' := by
  have hu48 := Tryd.underlying48
  have hu47 := Tryd.underlying47
  have hu24 := Tryd.underlying24
  have hu43 := Tryd.underlying43
  have HG := qA hG
  have HP := qA hp
  have HR := qA hr
  have HC := qA hc
  have H := qA h
  have HLL := qA hll
  clear hG hp hr hc h hll
  go_enter Tryd.func62, Tryd.ntmps62
  go_wp2
  go_loopg [8, 9, 18] k (fun kq v8 v9 v18 w' => ∃ (i : Int) (xs : List S60) (ys : List S41), v18 = .int .i64 i ∧ Aside0 (turns_l0 kq l a b i xs ys = some (r1, r2)) ∧ Aside0 (kq ≤ k) ∧ Aside0 (0 ≤ i) ∧ Aside0 (Kd.R k60 60 w' w.heap.size (fun _ => True) v8 xs) ∧ Aside0 (Kd.R k41 41 w' w.heap.size (fun _ => True) v9 ys) ∧ Aside0 (Below w.heap.size w w'))
  case atStart => exact ⟨0, [], [], rfl, H, ⟨Nat.le_refl _⟩, ⟨Int.le_refl _⟩, ⟨Kd.R_nil _ _ _ _ _⟩, ⟨Kd.R_nil _ _ _ _ _⟩, ⟨Below.refl _ _⟩⟩
  case round =>
    clear H
    obtain ⟨i, xs, ys, rfl, H, HK, HI, HX, HY, HB⟩ := hrel
    cases gk with
    | zero => exact absurd H.out (by simp [turns_l0])
    | succ k1 =>
      have h := H.out
      clear H
      simp only [turns_l0] at h
      by_cases d0 : i < (l.length : Int)
      · rw [if_pos d0, if_pos HI.out] at h
        obtain ⟨⟨t1, t2, t3, t4⟩, ht, h⟩ := Option.bind_eq_some_iff.mp h
        by_cases d1 : xs.length + t1.length < 17592186044416 ∧ ys.length + t4.length < 5864062014805
        · rw [if_pos d1] at h
          have H' := qA h
          have HT := qA ht
          have D1 := qA d1
          have D0 := qA d0
          have hq2 : decide (i < (l.length : Int)) = true := decide_eq_true d0
          obtain ⟨ad, ead, hx0⟩ := Kd.at_string HR.out i HI.out d0
          subst ead
          replace hx0 := (HB.out.cell (World.block_lt_of_cell? w _ hx0)).trans hx0
          have hi0 := HI.out
          have hi1 : i + 1 ≤ 9223372036854775807 := by have := HLL.out; omega
          clear h ht d1
          go_wp2_with (first
            | (go_at_call 63; refine (turns1_calls a b i g _ (blk_below HP.out HB.out) HI.out).mono ?_; rintro e w2 ⟨rfl, hw2⟩; subst hw2)
            | (go_at_call 32; refine (styles_Line.calls k1 _ _ _ t1 t2 t3 t4 _ (GL.below HG.out HB.out) HT.out).mono ?_; rintro e w3 ⟨v0, v3, rfl, ho0, ho3, hb⟩; obtain ⟨A3, c3, e3⟩ := Kd.R_slice ho3; subst e3; have HX3 := qA (qT (qU (Kd.R_bound HX.out) (fun k hk => (fun he => by have := ((Kd.R_bound ho0).1 k he.symm).2.1; have := hk.2.2.1; omega : some k ≠ v0.ownBlock))) hb); have HY3 := qA (qT (qU (Kd.R_bound HY.out) (fun k hk => (fun he => by have := ((Kd.R_bound ho3).1 k he.symm).2.1; have := hk.2.2.1; omega : some k ≠ (.slice A3 t4.length c3 : Value).ownBlock))) hb); have HN3 := qA ho0; have HD3 := qA ho3; have HB3 := qA (qR HB.out hb); clear ho0 ho3 hb hx0)
            | ((with_reducible refine gate_dst (N := 14) rfl ?_); refine box_event ?hg (N := 14) ?hd (cs := #[.int .u8 0, .int .u8 0]) (t := 47) ?hr ?_; (case hd => rfl); (case hg => rfl); (case hr => first | (go_simp; done) | (go_simp; rfl)); intro gb hg w4 hbox hb; have GE4 := qA (show w.heap.size ≤ gb by rw [hg]; exact qS HB3.out); have HX4 := qA (qV (qT HX3.out hb) hbox (by decide)); have HY4 := qA (qV (qT HY3.out hb) hbox (by decide)); have HN4 := qA (qV (qT HN3.out hb) hbox (by decide)); have HD4 := qA (qV (qT HD3.out hb) hbox (by decide)); have HB4 := qA (qR HB3.out hb); have hcz0 : w4.cell? ⟨gb, 0, none⟩ = some (.int .u8 0) := (qQ hbox 0).trans rfl; have hcz1 : w4.cell? ⟨gb, 1, none⟩ = some (.int .u8 0) := (qQ hbox 1).trans rfl; have hfz0 := qL hbox 0; have hfz1 := qL hbox 1; clear hbox hb hg)
            | (go_at_call 64; have HX8 := qA (qU (qP (p := ⟨gb, 1, none⟩) (qP (p := ⟨gb, 0, none⟩) HX4.out (fun _ hk => hk.2) (.int .u8 t2)) (fun _ hk => hk.2) (.int .u8 t3)) (fun _ hk => hk.1)); have HY8 := qA (qU (qP (p := ⟨gb, 1, none⟩) (qP (p := ⟨gb, 0, none⟩) HY4.out (fun _ hk => hk.2) (.int .u8 t2)) (fun _ hk => hk.2) (.int .u8 t3)) (fun _ hk => hk.1)); have HN8 := qA (qU (qP (p := ⟨gb, 1, none⟩) (qP (p := ⟨gb, 0, none⟩) HN4.out (fun _ hk => hk.2) (.int .u8 t2)) (fun _ hk => hk.2) (.int .u8 t3)) (fun _ hk => hk.1)); have HD8 := qA (qU (qP (p := ⟨gb, 1, none⟩) (qP (p := ⟨gb, 0, none⟩) HD4.out (fun _ hk => hk.2) (.int .u8 t2)) (fun _ hk => hk.2) (.int .u8 t3)) (fun _ hk => hk.1)); refine (turns2_calls (w0 := w) (base := w.heap.size) (xs := xs) (ys := t1) (qC (qC HB4.out GE4.out) GE4.out) (qS (qC (qC HB4.out GE4.out) GE4.out)) HX8.out HN8.out (by have := D1.out; omega)).mono ?_; rintro e w5 ⟨v5, rfl, ho5, hb5, hg5⟩; have HY5 := qA (Kd.R_over' HY8.out (Kd.R_typed HX8.out) (by decide) hg5); have HD5 := qA (Kd.R_over' HD8.out (Kd.R_typed HX8.out) (by decide) hg5); have HX5 := qA ho5; have HB5 := qA hb5; clear ho5 hb5 hg5)
            | ((with_reducible refine gate_builtin (b := .append) (xs := #[.tmp 39, .tmp 40]) rfl ?_); (try (refine gate_guard (by rfl) ?_; dsimp only)); at_builtin; refine Kd.R_append_rows k41 (w0 := w) w.heap.size rfl (.tmp 39) (.tmp 40) 24 41 (.agg #[(.int .i64 0), (.int .i64 0), (.int .i64 0)]) 24 rfl Tryd.underlying24 info41 rfl (by decide) (by omega) _ ys t4 _ _ _ (fun k_ => some k_ ≠ (.slice A3 t4.length c3 : Value).ownBlock) (fun _ => False) rfl rfl ?aO ?aR (fun _ _ h => h) (fun _ h => h.elim) ?aF ?aB ?aS ?aL ?_; (case aR => exact (Kd.R_reads' HD5.out).2.2); (case aB => exact HB5.out); (case aF => exact (fun k_ hk => Kd.fresh' (Kd.R_lt HD5.out) k_ hk)); (case aO => exact HY5.out); (case aS => exact qS HB5.out); (case aL => have := D1.out; omega); intro v6 w6 ho hb hg hat; have HX6 := qA (Kd.R_over' HX5.out (Kd.R_typed HY5.out) (by decide) hg); have HY6 := qA ho; have HB6 := qA hb; clear ho hb hg hat))
          go_roundg k1
          case measure => have := HK.out; omega
          case rel => exact ⟨_, _, _, rfl, H', ⟨by have := HK.out; omega⟩, ⟨by have := HI.out; omega⟩, ⟨qU HX6.out (fun _ _ => trivial)⟩, ⟨qU HY6.out (fun _ _ => trivial)⟩, HB6⟩
        · rw [if_neg d1] at h
          cases h
      · rw [if_neg d0] at h
        simp only [Option.some.injEq, Prod.mk.injEq] at h
        obtain ⟨rfl, rfl⟩ := h
        have hq2 : decide (i < (l.length : Int)) = false := decide_eq_false d0
        clear d0
        go_wp2
        go_ret2
        exact ⟨_, _, rfl, HX.out, HY.out, HB.out⟩
def styles_Turns.f (k : Nat) (a b : Int) (l : List ByteArray) : Option (List S60 × List S41) := if l.length ≤ 1000000 then turns_l0 k l a b 0 [] [] else none
set_option maxHeartbeats 8000000 in
set_option maxRecDepth 100000 in
theorem styles_Turns.calls (k : Nat) (a b : Int) (A0 : Option Addr) (c0 : Nat) (l : List ByteArray) (r1 : List S60) (r2 : List S41) (w : World) (hG : GL w) (hr : Kd.string.C w A0 l.length l) (hc : l.length ≤ c0)
    (h : styles_Turns.f k a b l = some (r1, r2)) :
    Calls Tryd.prog 54 #[.int .u8 a, .int .u8 b, .slice A0 l.length c0] w fun e w' => ∃ v0 v1 : Value, e = .returned (.tuple #[v0, v1]) ∧ Kd.R k60 60 w' w.heap.size (fun _ => True) v0 r1 ∧ Kd.R k41 41 w' w.heap.size (fun _ => True) v1 r2 ∧ Below w.heap.size w w' := by
  unfold styles_Turns.f at h
  by_cases hll : l.length ≤ 1000000
  · rw [if_pos hll] at h
    have hu92 := Tryd.underlying92
    have HG := qA hG
    have HR := qA hr
    have HC := qA hc
    have H := qA h
    have HLL := qA hll
    clear hG hr hc h hll
    go_enter Tryd.func54, Tryd.ntmps54
    go_wp2_with (first
      | ((with_reducible refine gate_dst (N := 8) rfl ?_); refine box_event ?hg (N := 8) ?hd (cs := #[.int .u8 0, .int .u8 0]) (t := 92) ?hr ?_; (case hd => rfl); (case hg => rfl); (case hr => first | (go_simp; done) | (go_simp; rfl)); intro gb hg w4 hbox hb; have GE4 := qA (show w.heap.size ≤ gb by rw [hg]; exact Nat.le_refl _); have HB4 := qA hb; have HBX := qA hbox; have hcz0 : w4.cell? ⟨gb, 0, none⟩ = some (.int .u8 0) := (qQ hbox 0).trans rfl; have hcz1 : w4.cell? ⟨gb, 1, none⟩ = some (.int .u8 0) := (qQ hbox 1).trans rfl; have hfz0 := qL hbox 0; have hfz1 := qL hbox 1; clear hbox hb hg)
      | (go_at_call 62; have HB8 := qA (qC (j := 1) (v := .int .u8 b) (qC (j := 0) (v := .int .u8 a) HB4.out GE4.out) GE4.out); refine (each_calls k a b l A0 c0 gb r1 r2 _ (GL.below HG.out HB8.out) (blk_put (cs := #[.int .u8 a, .int .u8 0]) (blk_put (cs := #[.int .u8 0, .int .u8 0]) HBX.out 0 _ rfl) 1 _ rfl) (Kd.C_below HR.out HB8.out) HC.out HLL.out H.out).mono ?_; rintro e w5 ⟨v0, v1, rfl, ho0, ho1, hb⟩; have HO := qA (qW ho0 (qS HB8.out)); have HD := qA (qW ho1 (qS HB8.out)); have HB5 := qA (qR HB8.out hb); clear ho0 ho1 hb))
    go_ret2
    exact ⟨_, _, rfl, HO.out, HD.out, HB5.out⟩
  · rw [if_neg hll] at h
    cases h
theorem turns_l0_mono (l : List ByteArray) (a b : Int) : ∀ (k : Nat) (i : Int) (xs : List S60) (ys : List S41), LeO (turns_l0 k l a b i xs ys) (turns_l0 (k + 1) l a b i xs ys)
  | 0, _, _, _ => LeO.none _
  | k + 1, i, xs, ys => by
    simp only [turns_l0]
    refine LeO.ite (LeO.ite (LeO.bind (styles_Line.mono _ _ _ _) fun t => LeO.ite (turns_l0_mono l a b k _ _ _) (LeO.none _)) (LeO.none _)) (LeO.refl _)
theorem styles_Turns.mono (k : Nat) (a b : Int) (l : List ByteArray) : LeO (styles_Turns.f k a b l) (styles_Turns.f (k + 1) a b l) := by
  unfold styles_Turns.f
  exact LeO.ite (turns_l0_mono l a b k _ _ _) (LeO.none _)
def flonglaw06_known.f (k : Nat)  : Option (Bool) := (styles_Turns.f k 1 0 (([(⟨#[97]⟩ : ByteArray), (⟨#[98]⟩ : ByteArray)] : List ByteArray))).bind fun bt157 => ((flongref03_Same.f k bt157.1 (([(⟨97, 1⟩ : S60), (⟨98, 0⟩ : S60)] : List (S60)))).bind fun t166 => (if t166 = true then (some ((bt157.2.length : Int) == 0)) else (some false)))
theorem flonglaw06_known.mono : ∀ k, LeO (flonglaw06_known.f k ) (flonglaw06_known.f (k + 1) ) := by
  intro  k
  unfold flonglaw06_known.f
  repeat' first
      | (with_reducible exact flongref03_Same.mono _ _ _)
      | (with_reducible exact styles_Turns.mono _ _ _ _)
      | (with_reducible exact LeO.refl _)
      | (with_reducible exact LeO.none _)
      | (with_reducible refine LeO.ite ?_ ?_)
      | (with_reducible refine LeO.bind ?_ (fun _ => ?_))
      | exact flongref03_Same.mono _ _ _
      | exact styles_Turns.mono _ _ _ _
      | exact LeO.none _
      | refine LeO.ite ?_ ?_
      | refine LeO.bind ?_ (fun _ => ?_)
set_option maxHeartbeats 8000000 in
set_option maxRecDepth 100000 in
theorem flonglaw06_known.calls (k : Nat)  (r : Bool) (w : World) (hG : GL w) (h : flonglaw06_known.f k  = some r) :
    Calls Tryd.prog 29 #[] w fun e w' => e = .returned (.bool r) ∧ Below w.heap.size w w' := by
  have hu60 := Tryd.underlying60
  have HG := qA hG
  clear hG
  have HB := qA (Below.refl w.heap.size w)
  have H : ((styles_Turns.f k 1 0 (([(⟨#[97]⟩ : ByteArray), (⟨#[98]⟩ : ByteArray)] : List ByteArray))).bind fun bt157 => ((flongref03_Same.f k bt157.1 (([(⟨97, 1⟩ : S60), (⟨98, 0⟩ : S60)] : List (S60)))).bind fun t166 => (if t166 = true then (some ((bt157.2.length : Int) == 0)) else (some false)))) = some r := h
  clear h
  obtain ⟨y154, hy154⟩ : ∃ y_ : List ByteArray, y_ = (([(⟨#[97]⟩ : ByteArray), (⟨#[98]⟩ : ByteArray)] : List ByteArray)) := ⟨_, rfl⟩
  replace H : ((styles_Turns.f k 1 0 y154).bind fun bt157 => ((flongref03_Same.f k bt157.1 (([(⟨97, 1⟩ : S60), (⟨98, 0⟩ : S60)] : List (S60)))).bind fun t166 => (if t166 = true then (some ((bt157.2.length : Int) == 0)) else (some false)))) = some r := by first | (rw [hy154]; with_reducible exact H) | (have H2_ := (Option.bind_some _ _).symm.trans H; rw [hy154]; with_reducible exact H2_) | (have H2_ := (Option.bind_some _ _).symm.trans H; with_reducible exact H2_) | with_reducible exact H | (rw [hy154]; exact H) | exact H
  have Ny154 := qA hy154
  clear hy154
  replace H := Option.bind_eq_some_iff.mp H
  obtain ⟨⟨t157, t158⟩, A10, H⟩ := H
  replace H : ((flongref03_Same.f k t157 (([(⟨97, 1⟩ : S60), (⟨98, 0⟩ : S60)] : List (S60)))).bind fun t166 => (if t166 = true then (some ((t158.length : Int) == 0)) else (some false))) = some r := H
  have A1 := qA A10
  clear A10
  obtain ⟨y163, hy163⟩ : ∃ y_ : List (S60), y_ = (([(⟨97, 1⟩ : S60), (⟨98, 0⟩ : S60)] : List (S60))) := ⟨_, rfl⟩
  replace H : ((flongref03_Same.f k t157 y163).bind fun t166 => (if t166 = true then (some ((t158.length : Int) == 0)) else (some false))) = some r := by first | (rw [hy163]; with_reducible exact H) | (have H2_ := (Option.bind_some _ _).symm.trans H; rw [hy163]; with_reducible exact H2_) | (have H2_ := (Option.bind_some _ _).symm.trans H; with_reducible exact H2_) | with_reducible exact H | (rw [hy163]; exact H) | exact H
  have Ny163 := qA hy163
  clear hy163
  replace H := Option.bind_eq_some_iff.mp H
  obtain ⟨t166, A20, H⟩ := H
  replace H : (if t166 = true then (some ((t158.length : Int) == 0)) else (some false)) = some r := H
  have A2 := qA A20
  clear A20
  by_cases c3 : t166 = true
  · subst c3
    have H1 : (some ((t158.length : Int) == 0)) = some r := by rw [if_pos rfl] at H; exact H
    clear H
    have H := H1
    clear H1
    obtain rfl := Option.some.inj H
    go_enter Tryd.func29, Tryd.ntmps29
    go_wp2_with (first | ((with_reducible refine gate_dst (N := 4) rfl ?_); (try (refine gate_guard (by rfl) ?_; dsimp only)); refine Kd.R_lit Kd.string _ 9 ?hg (N := 4) ?hd (xs := ([(⟨#[97]⟩ : ByteArray), (⟨#[98]⟩ : ByteArray)] : List ByteArray)) (inner := [.string (⟨#[97]⟩ : ByteArray), .string (⟨#[98]⟩ : ByteArray)]) (ok := fun _ => True) (okp := fun _ => True) ?hr ?hp (fun _ hk => hk) trivial (Below.refl _ _) (Nat.le_refl _) (by simp) ?_; (case hd => rfl); (case hg => rfl); (case hr => first | (go_simp; done) | (go_simp; rfl)); (case hp => exact (Reps.one (show Kd.M Kd.string _ _ _ (⟨#[97]⟩ : ByteArray) [.string (⟨#[97]⟩ : ByteArray)] from rfl) (Reps.one (show Kd.M Kd.string _ _ _ (⟨#[98]⟩ : ByteArray) [.string (⟨#[98]⟩ : ByteArray)] from rfl) (Reps.none _ _)))); intro v155 w4 ho5 hb hg_ hnew_; clear hg_ hnew_; (first | rw [← Ny154.out] at ho5 | (simp only [Int.reduceToNat] at ho5; rw [← Ny154.out] at ho5)); have n0_ := qA (qW ho5 (qS (by repeat (first | (with_reducible first | exact HB.out | apply qG | apply qB | apply qF) | exact HB.out)))); have n1_ := qA (qR (by repeat (first | (with_reducible first | exact HB.out | apply qG | apply qB | apply qF) | exact HB.out)) hb); clear HB; have HO156 := n0_; have HB := n1_; clear n0_ n1_; clear hb ho5; obtain ⟨Ao6, co6, eo6⟩ := Kd.R_slice HO156.out; subst eo6) | ((with_reducible refine gate_callee (f := 54) rfl ?_); refine goesL_ (some 5) rfl rfl Tryd.func54 (by kernel_rfl) rfl #[.int .u8 1, .int .u8 0, .slice Ao6 y154.length co6] rfl (by (try simp only [List.map_toArray, List.map_cons, List.map_nil]); first | done | rfl | (simp only [List.length_drop, List.length_take]; rfl)) ?_; (with_reducible refine (styles_Turns.calls k 1 0 _ _ y154 t157 t158 _ ?side1 ?side2 ?side3 A1.out).mono ?_); (case side1 => exact GL.below HG.out (by repeat (first | (with_reducible first | exact HB.out | apply qG | apply qB | apply qF) | exact HB.out))); (case side2 => repeat (first | exact (Kd.R_reads' HO156.out).2.2 | (with_reducible refine Kd.C_alloc ?_ _) | (with_reducible refine Kd.C_drewN ?_ _) | (with_reducible refine Kd.C_drew ?_))); (case side3 => exact (Kd.R_reads' HO156.out).2.1); rintro e w7 ⟨v159, v161, rfl, ho0, ho1, hb⟩; refine ⟨_, rfl, ?_⟩; have n0_ := qA (qT (by (with_reducible repeat (first | apply qJ | apply qI | apply qK)); exact HO156.out) hb); have n1_ := qA (qW ho0 (qS (by repeat (first | (with_reducible first | exact HB.out | apply qG | apply qB | apply qF) | exact HB.out)))); have n2_ := qA (qW ho1 (qS (by repeat (first | (with_reducible first | exact HB.out | apply qG | apply qB | apply qF) | exact HB.out)))); have n3_ := qA (qR (by repeat (first | (with_reducible first | exact HB.out | apply qG | apply qB | apply qF) | exact HB.out)) hb); clear HO156; clear HB; have HO156 := n0_; have HO160 := n1_; have HO162 := n2_; have HB := n3_; clear n0_ n1_ n2_ n3_; (try clear hb); (try clear hb2); (try clear hk); (try clear hi); (try clear ho0); (try clear ho1)) | ((with_reducible refine gate_dst (N := 11) rfl ?_); (try (refine gate_guard (by rfl) ?_; dsimp only)); refine Kd.R_lit k60 _ 60 ?hg (N := 11) ?hd (xs := ([(⟨97, 1⟩ : S60), (⟨98, 0⟩ : S60)] : List (S60))) (inner := [.int .i32 97, .int .u8 1, .int .i32 98, .int .u8 0]) (ok := fun _ => True) (okp := fun _ => True) ?hr ?hp (fun _ hk => hk) trivial (Below.refl _ _) (Nat.le_refl _) (by simp) ?_; (case hd => rfl); (case hg => rfl); (case hr => first | (go_simp; done) | (go_simp; rfl)); (case hp => exact (Reps.c2 (show Kd.M k60 _ _ _ (⟨97, 1⟩ : S60) [.int .i32 97, .int .u8 1] from (k60_mkM _ _ _ (⟨97, 1⟩ : S60) )) (Reps.c2 (show Kd.M k60 _ _ _ (⟨98, 0⟩ : S60) [.int .i32 98, .int .u8 0] from (k60_mkM _ _ _ (⟨98, 0⟩ : S60) )) (Reps.none _ _)))); intro v164 w8 ho9 hb hg_ hnew_; clear hg_ hnew_; (first | rw [← Ny163.out] at ho9 | (simp only [Int.reduceToNat] at ho9; rw [← Ny163.out] at ho9)); have n0_ := qA (qT (by (with_reducible repeat (first | apply qJ | apply qI | apply qK)); exact HO156.out) hb); have n1_ := qA (Kd.R_elder' (by (with_reducible repeat (first | apply qJ | apply qI | apply qK)); exact HO160.out) (Kd.R_base ho9) hb); have n2_ := qA (qT (by (with_reducible repeat (first | apply qJ | apply qI | apply qK)); exact HO162.out) hb); have n3_ := qA (qW (Kd.R_new' ho9 (Kd.R_lt (by (with_reducible repeat (first | apply qJ | apply qI | apply qK)); exact HO160.out))) (qS (by repeat (first | (with_reducible first | exact HB.out | apply qG | apply qB | apply qF) | exact HB.out)))); have n4_ := qA (qR (by repeat (first | (with_reducible first | exact HB.out | apply qG | apply qB | apply qF) | exact HB.out)) hb); clear HO156; clear HO160; clear HO162; clear HB; have HO156 := n0_; have HO160 := n1_; have HO162 := n2_; have HO165 := n3_; have HB := n4_; clear n0_ n1_ n2_ n3_ n4_; clear hb ho9; obtain ⟨Ao10, co10, eo10⟩ := Kd.R_slice HO160.out; subst eo10; obtain ⟨Ao11, co11, eo11⟩ := Kd.R_slice HO165.out; subst eo11) | ((with_reducible refine gate_callee (f := 34) rfl ?_); refine goesL_ (some 12) rfl rfl Tryd.func34 (by kernel_rfl) rfl #[.slice Ao10 t157.length co10, .slice Ao11 y163.length co11] rfl (by (try simp only [List.map_toArray, List.map_cons, List.map_nil]); first | done | rfl | (simp only [List.length_drop, List.length_take]; rfl)) ?_; (with_reducible refine (flongref03_Same.calls k _ _ t157 _ _ y163 true _ ?side1 ?side2 ?side3 ?side4 A2.out).mono ?_); (case side1 => repeat (first | exact (Kd.R_reads' HO160.out).2.2 | (with_reducible refine Kd.C_alloc ?_ _) | (with_reducible refine Kd.C_drewN ?_ _) | (with_reducible refine Kd.C_drew ?_))); (case side2 => exact (Kd.R_reads' HO160.out).2.1); (case side3 => repeat (first | exact (Kd.R_reads' HO165.out).2.2 | (with_reducible refine Kd.C_alloc ?_ _) | (with_reducible refine Kd.C_drewN ?_ _) | (with_reducible refine Kd.C_drew ?_))); (case side4 => exact (Kd.R_reads' HO165.out).2.1); rintro e w' ⟨rfl, ⟨nd, rfl⟩⟩; refine ⟨_, rfl, ?_⟩; obtain ⟨Ao12, co12, eo12⟩ := Kd.R_slice HO162.out; subst eo12))
    go_ret
    exact ⟨by first | rfl | (simp [errW_none, errW_some] <;> rfl) | (simp [*, errW_none, errW_some] <;> rfl), by repeat (first | (with_reducible first | exact HB.out | apply qG | apply qB | apply qF) | exact HB.out)⟩
  · replace c3 := Bool.eq_false_iff.mpr c3
    subst c3
    have H1 : (some false) = some r := by rw [if_neg (show ¬ (false = true) by decide)] at H; exact H
    clear H
    have H := H1
    clear H1
    obtain rfl := Option.some.inj H
    go_enter Tryd.func29, Tryd.ntmps29
    go_wp2_with (first | ((with_reducible refine gate_dst (N := 4) rfl ?_); (try (refine gate_guard (by rfl) ?_; dsimp only)); refine Kd.R_lit Kd.string _ 9 ?hg (N := 4) ?hd (xs := ([(⟨#[97]⟩ : ByteArray), (⟨#[98]⟩ : ByteArray)] : List ByteArray)) (inner := [.string (⟨#[97]⟩ : ByteArray), .string (⟨#[98]⟩ : ByteArray)]) (ok := fun _ => True) (okp := fun _ => True) ?hr ?hp (fun _ hk => hk) trivial (Below.refl _ _) (Nat.le_refl _) (by simp) ?_; (case hd => rfl); (case hg => rfl); (case hr => first | (go_simp; done) | (go_simp; rfl)); (case hp => exact (Reps.one (show Kd.M Kd.string _ _ _ (⟨#[97]⟩ : ByteArray) [.string (⟨#[97]⟩ : ByteArray)] from rfl) (Reps.one (show Kd.M Kd.string _ _ _ (⟨#[98]⟩ : ByteArray) [.string (⟨#[98]⟩ : ByteArray)] from rfl) (Reps.none _ _)))); intro v155 w13 ho14 hb hg_ hnew_; clear hg_ hnew_; (first | rw [← Ny154.out] at ho14 | (simp only [Int.reduceToNat] at ho14; rw [← Ny154.out] at ho14)); have n0_ := qA (qW ho14 (qS (by repeat (first | (with_reducible first | exact HB.out | apply qG | apply qB | apply qF) | exact HB.out)))); have n1_ := qA (qR (by repeat (first | (with_reducible first | exact HB.out | apply qG | apply qB | apply qF) | exact HB.out)) hb); clear HB; have HO156 := n0_; have HB := n1_; clear n0_ n1_; clear hb ho14; obtain ⟨Ao15, co15, eo15⟩ := Kd.R_slice HO156.out; subst eo15) | ((with_reducible refine gate_callee (f := 54) rfl ?_); refine goesL_ (some 5) rfl rfl Tryd.func54 (by kernel_rfl) rfl #[.int .u8 1, .int .u8 0, .slice Ao15 y154.length co15] rfl (by (try simp only [List.map_toArray, List.map_cons, List.map_nil]); first | done | rfl | (simp only [List.length_drop, List.length_take]; rfl)) ?_; (with_reducible refine (styles_Turns.calls k 1 0 _ _ y154 t157 t158 _ ?side1 ?side2 ?side3 A1.out).mono ?_); (case side1 => exact GL.below HG.out (by repeat (first | (with_reducible first | exact HB.out | apply qG | apply qB | apply qF) | exact HB.out))); (case side2 => repeat (first | exact (Kd.R_reads' HO156.out).2.2 | (with_reducible refine Kd.C_alloc ?_ _) | (with_reducible refine Kd.C_drewN ?_ _) | (with_reducible refine Kd.C_drew ?_))); (case side3 => exact (Kd.R_reads' HO156.out).2.1); rintro e w16 ⟨v159, v161, rfl, ho0, ho1, hb⟩; refine ⟨_, rfl, ?_⟩; have n0_ := qA (qT (by (with_reducible repeat (first | apply qJ | apply qI | apply qK)); exact HO156.out) hb); have n1_ := qA (qW ho0 (qS (by repeat (first | (with_reducible first | exact HB.out | apply qG | apply qB | apply qF) | exact HB.out)))); have n2_ := qA (qW ho1 (qS (by repeat (first | (with_reducible first | exact HB.out | apply qG | apply qB | apply qF) | exact HB.out)))); have n3_ := qA (qR (by repeat (first | (with_reducible first | exact HB.out | apply qG | apply qB | apply qF) | exact HB.out)) hb); clear HO156; clear HB; have HO156 := n0_; have HO160 := n1_; have HO162 := n2_; have HB := n3_; clear n0_ n1_ n2_ n3_; (try clear hb); (try clear hb2); (try clear hk); (try clear hi); (try clear ho0); (try clear ho1)) | ((with_reducible refine gate_dst (N := 11) rfl ?_); (try (refine gate_guard (by rfl) ?_; dsimp only)); refine Kd.R_lit k60 _ 60 ?hg (N := 11) ?hd (xs := ([(⟨97, 1⟩ : S60), (⟨98, 0⟩ : S60)] : List (S60))) (inner := [.int .i32 97, .int .u8 1, .int .i32 98, .int .u8 0]) (ok := fun _ => True) (okp := fun _ => True) ?hr ?hp (fun _ hk => hk) trivial (Below.refl _ _) (Nat.le_refl _) (by simp) ?_; (case hd => rfl); (case hg => rfl); (case hr => first | (go_simp; done) | (go_simp; rfl)); (case hp => exact (Reps.c2 (show Kd.M k60 _ _ _ (⟨97, 1⟩ : S60) [.int .i32 97, .int .u8 1] from (k60_mkM _ _ _ (⟨97, 1⟩ : S60) )) (Reps.c2 (show Kd.M k60 _ _ _ (⟨98, 0⟩ : S60) [.int .i32 98, .int .u8 0] from (k60_mkM _ _ _ (⟨98, 0⟩ : S60) )) (Reps.none _ _)))); intro v164 w17 ho18 hb hg_ hnew_; clear hg_ hnew_; (first | rw [← Ny163.out] at ho18 | (simp only [Int.reduceToNat] at ho18; rw [← Ny163.out] at ho18)); have n0_ := qA (qT (by (with_reducible repeat (first | apply qJ | apply qI | apply qK)); exact HO156.out) hb); have n1_ := qA (Kd.R_elder' (by (with_reducible repeat (first | apply qJ | apply qI | apply qK)); exact HO160.out) (Kd.R_base ho18) hb); have n2_ := qA (qT (by (with_reducible repeat (first | apply qJ | apply qI | apply qK)); exact HO162.out) hb); have n3_ := qA (qW (Kd.R_new' ho18 (Kd.R_lt (by (with_reducible repeat (first | apply qJ | apply qI | apply qK)); exact HO160.out))) (qS (by repeat (first | (with_reducible first | exact HB.out | apply qG | apply qB | apply qF) | exact HB.out)))); have n4_ := qA (qR (by repeat (first | (with_reducible first | exact HB.out | apply qG | apply qB | apply qF) | exact HB.out)) hb); clear HO156; clear HO160; clear HO162; clear HB; have HO156 := n0_; have HO160 := n1_; have HO162 := n2_; have HO165 := n3_; have HB := n4_; clear n0_ n1_ n2_ n3_ n4_; clear hb ho18; obtain ⟨Ao19, co19, eo19⟩ := Kd.R_slice HO160.out; subst eo19; obtain ⟨Ao20, co20, eo20⟩ := Kd.R_slice HO165.out; subst eo20) | ((with_reducible refine gate_callee (f := 34) rfl ?_); refine goesL_ (some 12) rfl rfl Tryd.func34 (by kernel_rfl) rfl #[.slice Ao19 t157.length co19, .slice Ao20 y163.length co20] rfl (by (try simp only [List.map_toArray, List.map_cons, List.map_nil]); first | done | rfl | (simp only [List.length_drop, List.length_take]; rfl)) ?_; (with_reducible refine (flongref03_Same.calls k _ _ t157 _ _ y163 false _ ?side1 ?side2 ?side3 ?side4 A2.out).mono ?_); (case side1 => repeat (first | exact (Kd.R_reads' HO160.out).2.2 | (with_reducible refine Kd.C_alloc ?_ _) | (with_reducible refine Kd.C_drewN ?_ _) | (with_reducible refine Kd.C_drew ?_))); (case side2 => exact (Kd.R_reads' HO160.out).2.1); (case side3 => repeat (first | exact (Kd.R_reads' HO165.out).2.2 | (with_reducible refine Kd.C_alloc ?_ _) | (with_reducible refine Kd.C_drewN ?_ _) | (with_reducible refine Kd.C_drew ?_))); (case side4 => exact (Kd.R_reads' HO165.out).2.1); rintro e w' ⟨rfl, ⟨nd, rfl⟩⟩; refine ⟨_, rfl, ?_⟩))
    go_ret
    exact ⟨by first | rfl | (simp [errW_none, errW_some] <;> rfl) | (simp [*, errW_none, errW_some] <;> rfl), by repeat (first | (with_reducible first | exact HB.out | apply qG | apply qB | apply qF) | exact HB.out)⟩
end Go.Proofs.YtdogljnddalgdaaDoor.A6
end
section
namespace Go.Proofs.YtdogljnddalgdaaDoor.A6
open Go.RowKit Go.Proofs.YtdogljnddalgdaaDoorW.PrintWords Go.Proofs.YtdogljnddalgdaaDoorW.PrintLast Go.Proofs.YtdogljnddalgdaaDoorW.PrintMore
attribute [local go_sem] max2_int min2_int max_two min_two max_three min_three max_four min_four   -- for this text's walks alone
set_option linter.unusedVariables false
set_option linter.unusedSimpArgs false
attribute [local go_sem high] eqA47
end Go.Proofs.YtdogljnddalgdaaDoor.A6
end
section
namespace Go.Proofs.YtdogljnddalgdaaDoor.A6
open Go Go.RowKit Go.Proofs.YtdogljnddalgdaaDoor Go.Proofs.YtdogljnddalgdaaDoorW.PrintWords Go.Proofs.YtdogljnddalgdaaDoorW.PrintLast Go.Proofs.YtdogljnddalgdaaDoorW.PrintMore
theorem known6_is : flonglaw06_known.f 40 = some true := by decide +kernel
theorem Ev_known6 : Ev (fun k => flonglaw06_known.f k) true := Ev.of flonglaw06_known.mono known6_is
theorem Ev_kn6 : Ev (fun k => (flonglaw06_known.f k).bind fun t => some t) true := Ev.bind Ev_known6 (Ev.now _)
theorem Ev_Turn4 (a b : Int) : Ev (fun k => styles_Turn.f k a b 4) (b, a) := by
  unfold styles_Turn.f
  exact Ev.pos rfl (Ev.now _)
theorem Ev_Turn (a b n : Int) (h0 : 0 ≤ n) (h4 : n < 4) : Ev (fun k => styles_Turn.f k a b n) (n, a) := by
  have e : n % 256 = n := Int.emod_eq_of_lt h0 (by omega)
  unfold styles_Turn.f
  refine Ev.neg (by omega) ?_
  have j : ∀ b' : Bool, (b' = true → True) → (b' = false → n = 2 ∨ n = 3) → Ev (fun k => styles_Turn.j0 k n n b' a b) (n, a) := by
    intro b' _ hb
    refine Ev.succ ?_
    simp only [styles_Turn.j0, e]
    cases b' with
    | true => exact Ev.pos rfl (Ev.now _)
    | false =>
      refine Ev.neg (by simp) ?_
      rcases hb rfl with h | h
      · exact Ev.pos h (Ev.now _)
      · exact Ev.neg (by omega) (Ev.pos h (Ev.now _))
  by_cases hz : n = 0
  · refine Ev.pos hz (j _ (fun _ => trivial) ?_)
    intro h
    simp [hz] at h
  · refine Ev.neg hz (j _ (fun _ => trivial) ?_)
    intro h
    have : ¬ n = 1 := by simpa using h
    omega
end Go.Proofs.YtdogljnddalgdaaDoor.A6
end
section
namespace Go.Proofs.YtdogljnddalgdaaDoor.A6
open Go.RowKit Go.Proofs.YtdogljnddalgdaaDoorW.PrintWords Go.Proofs.YtdogljnddalgdaaDoorW.PrintLast Go.Proofs.YtdogljnddalgdaaDoorW.PrintMore
open Go.Proofs.YtdogljnddalgdaaDoorW.PrintWords.Aside0 renaming mk → qA
open Go.Proofs.YtdogljnddalgdaaDoorW.PrintWords renaming pw_below_drewN → qB, below_set → qC, blk_alloc → qD, blk_drewN → qE, below_drew1 → qF, below_alloc → qG, blk_drew → qH, blk_frozen → qL, blk_cell → qQ, below_step → qR, below_size → qS, blk_below → qX, blk_put → qY
open Go.Proofs.YtdogljnddalgdaaDoorW.PrintWords.Kd renaming R_drewN → qI, R_alloc → qJ, R_drew → qK, R_far → qP, R_below → qT, R_mono → qU, R_types → qV
open List renaming setIfInBounds_toArray → qM, set_cons_succ → qN, set_cons_zero → qO
attribute [local go_sem] max2_int min2_int max_two min_two max_three min_three max_four min_four   -- for this text's walks alone
set_option linter.unusedVariables false
set_option linter.unusedSimpArgs false
mutual
def flongref06_Set.l0 : Nat → List (S38) → List (S60) → Int → Int → Int → Option ((List (S60)) × Int × Int)
  | 0, _, _, _, _, _ => none
  | k + 1, x1, x6, x7, x184000, x184001 => if x7 < (x1.length : Int) then (if 0 ≤ x7 then (if ((rd_T38 x1 x7).f0) = 1 then (if x6.length < 17592186044416 then (flongref06_Set.j1 k x1 (x6 ++ [(⟨(rd_T38 x1 x7).f1, x184000⟩ : S60)]) x7 x184000 x184001) else (none)) else (flongref06_Set.j1 k x1 x6 x7 x184000 x184001)) else (none)) else (some (x6, x184000, x184001))
def flongref06_Set.j1 : Nat → List (S38) → List (S60) → Int → Int → Int → Option ((List (S60)) × Int × Int)
  | 0, _, _, _, _, _ => none
  | k + 1, x1, x6, x7, x184000, x184001 => if 0 ≤ x7 then (if x7 < (x1.length : Int) then (if ((rd_T38 x1 x7).f0) = 2 then (if x6.length < 17592186044416 then ((some (x6 ++ [(⟨32, 0⟩ : S60)] : List (S60))).bind fun y191 => (if ((rd_T38 x1 x7).f0) = 3 then ((flongref06_Turn.f x184000 x184001 ((rd_T38 x1 x7).f1)).bind fun bt196 => (flongref06_Set.l0 k x1 y191 (wrap64 (x7 + 1)) bt196.1 bt196.2)) else (flongref06_Set.l0 k x1 y191 (wrap64 (x7 + 1)) x184000 x184001))) else (none)) else (if ((rd_T38 x1 x7).f0) = 3 then ((flongref06_Turn.f x184000 x184001 ((rd_T38 x1 x7).f1)).bind fun bt200 => (flongref06_Set.l0 k x1 x6 (wrap64 (x7 + 1)) bt200.1 bt200.2)) else (flongref06_Set.l0 k x1 x6 (wrap64 (x7 + 1)) x184000 x184001))) else (none)) else (none)
end
def flongref06_Set.f (k : Nat) (a0_0 : Int) (a0_1 : Int) (l1 : List (S38)) : Option ((List (S60)) × Int × Int) := flongref06_Set.l0 k l1 ([] : List (S60)) 0 a0_0 a0_1
def flongref06_Set.T6 : Bool × List (List Nat × List Nat) := (true, [([], []), ([], []), ([], []), ([1, 2], [1, 2]), ([3], [3]), ([4], [4]), ([], []), ([6], [6]), ([5, 7], [5, 7]), ([8], [8]), ([0, 9], [0, 9]), ([10, 10, 0, 1, 2, 3, 4, 5, 6, 7, 8, 9, 10], [0, 10])])
def flongref06_Set.B6 : List Nat := [0, 0, 0, 6, 14, 30, 0, 64, 254, 510, 1023, 2047]
theorem flongref06_Set.tab6 : rtab .any (opsOf Tryd.f31 6) = flongref06_Set.T6 := by kernel_rfl
theorem flongref06_Set.bits6 : waitsOk flongref06_Set.T6.2 flongref06_Set.B6 = true := by kernel_rfl
def flongref06_Set.T10 : Bool × List (List Nat × List Nat) := (true, [([], []), ([], []), ([], []), ([1, 2], [1, 2]), ([3], [3]), ([4], [4]), ([0, 5], [0, 5]), ([6, 6, 0, 1, 2, 3, 4, 5, 6], [6])])
def flongref06_Set.B10 : List Nat := [0, 0, 0, 6, 14, 30, 63, 127]
theorem flongref06_Set.tab10 : rtab .any (opsOf Tryd.f31 10) = flongref06_Set.T10 := by kernel_rfl
theorem flongref06_Set.bits10 : waitsOk flongref06_Set.T10.2 flongref06_Set.B10 = true := by kernel_rfl
set_option maxHeartbeats 8000000 in
set_option maxRecDepth 100000 in
theorem flongref06_Set.calls (k : Nat) (a0_0 : Int) (a0_1 : Int) (A1 : Option Addr) (c1 : Nat) (l1 : List (S38)) (r1 : List (S60)) (r2 : Int) (r3 : Int) (w : World) (hr1 : Kd.C k38 w A1 l1.length l1) (hc1 : l1.length ≤ c1) (h : flongref06_Set.f k a0_0 a0_1 l1 = some (r1, r2, r3)) :
    Calls Tryd.prog 31 #[.agg #[.int .u8 a0_0, .int .u8 a0_1], .slice A1 l1.length c1] w fun e w' => ∃ v0_ : Value, e = .returned (.tuple #[v0_, .agg #[.int .u8 r2, .int .u8 r3]]) ∧ Kd.R k60 60 w' w.heap.size (fun _ => True) v0_ r1 ∧ Below w.heap.size w w' := by
  have hu47 := Tryd.underlying47
  have hu60 := Tryd.underlying60
  have HR1 := qA hr1
  have HC1 := qA hc1
  clear hr1 hc1
  have HB := qA (Below.refl w.heap.size w)
  have H : (flongref06_Set.l0 k l1 ([] : List (S60)) 0 a0_0 a0_1) = some (r1, r2, r3) := h
  clear h
  have H' := qA H
  clear H
  go_enter Tryd.func31, Tryd.ntmps31
  go_wp2_with (first | ((with_reducible refine gate_dst (N := 2) rfl ?_); refine box_event ?hg (N := 2) ?hd (cs := #[.int .u8 a0_0, .int .u8 a0_1]) (t := 47) ?hr ?_; (case hd => rfl); (case hg => rfl); (case hr => first | (go_simp; done) | (go_simp; rfl)); intro gb183 hg w3 hbox hb; have n0_ := qA (qR (by repeat (first | (with_reducible first | exact HB.out | apply qG | apply qB | apply qF) | exact HB.out)) hb); have n1_ := qA (hbox); have n2_ := qA ((by rw [hg]; exact (qS (by repeat (first | (with_reducible first | exact HB.out | apply qG | apply qB | apply qF) | exact HB.out))) : w.heap.size ≤ gb183)); have n3_ := qA ((by rw [hg]; exact (qS (by repeat (first | (with_reducible first | exact HB.out | apply qG | apply qB | apply qF) | exact HB.out))) : w.heap.size ≤ gb183)); clear HB; have HB := n0_; have BK183 := n1_; have GW183 := n2_; have GE183 := n3_; clear n0_ n1_ n2_ n3_; clear hb hbox hg) | ((with_reducible refine gate_dst (N := 5) rfl ?_); refine box_event ?hg (N := 5) ?hd (cs := #[.int .u8 0, .int .u8 0]) (t := 47) ?hr ?_; (case hd => rfl); (case hg => rfl); (case hr => first | (go_simp; done) | (go_simp; rfl)); intro gb184 hg w4 hbox hb; have n0_ := qA (qX (g := gb183) (o := .cells #[.int .u8 a0_0, .int .u8 a0_1] 47 (0, 0)) (by (with_reducible repeat (first | refine qE ?_ _ | refine qH ?_ | refine qD ?_ _)); exact BK183.out) hb); have n1_ := qA (qR (by repeat (first | (with_reducible first | exact HB.out | apply qG | apply qB | apply qF | refine qC ?_ GE183.out) | exact HB.out)) hb); have n2_ := qA (hbox); have n3_ := qA ((by rw [hg]; exact (qS (by repeat (first | (with_reducible first | exact HB.out | apply qG | apply qB | apply qF | refine qC ?_ GE183.out) | exact HB.out))) : w.heap.size ≤ gb184)); have n4_ := qA ((by rw [hg]; exact (qS (by repeat (first | (with_reducible first | exact HB.out | apply qG | apply qB | apply qF | refine qC ?_ GE183.out) | exact HB.out))) : w.heap.size ≤ gb184)); have n5_ := qA ((by rw [hg]; exact Nat.ne_of_lt (blk_lt (g := gb183) (o := .cells #[.int .u8 a0_0, .int .u8 a0_1] 47 (0, 0)) (by (with_reducible repeat (first | refine qE ?_ _ | refine qH ?_ | refine qD ?_ _)); exact BK183.out)) : gb183 ≠ gb184)); have n6_ := qA ((by rw [hg]; exact Nat.ne_of_gt (blk_lt (g := gb183) (o := .cells #[.int .u8 a0_0, .int .u8 a0_1] 47 (0, 0)) (by (with_reducible repeat (first | refine qE ?_ _ | refine qH ?_ | refine qD ?_ _)); exact BK183.out)) : gb184 ≠ gb183)); clear BK183; clear HB; have BK183 := n0_; have HB := n1_; have BK184 := n2_; have GW184 := n3_; have GE184 := n4_; have NB183_184 := n5_; have NB184_183 := n6_; clear n0_ n1_ n2_ n3_ n4_ n5_ n6_; clear hb hbox hg))
  go_loopg [6, 7] k (fun kq v6 v7 w' => ∃ (x6_1 : List (S60)) (x7_1 : Int) (x184000_1 : Int) (x184001_1 : Int), v7 = .int .i64 x7_1 ∧ Aside0 (flongref06_Set.l0 kq l1 x6_1 x7_1 x184000_1 x184001_1 = some (r1, r2, r3)) ∧ Aside0 (kq ≤ k) ∧ Aside0 (Kd.R k60 60 w' w.heap.size (fun _ => True) v6 x6_1) ∧ Aside0 (w'.heap[gb183]? = some (.cells #[.int .u8 x184000_1, .int .u8 x184001_1] 47 (0, 0))) ∧ Aside0 (w'.heap[gb184]? = some (.cells #[.int .u8 0, .int .u8 0] 47 (0, 0))) ∧ Aside0 (Below w.heap.size w w'))
  case atStart => exact ⟨(([] : List (S60))), (0), (a0_0), (a0_1), (by first | rfl | (simp; done) | (simp [*]; done)), H', ⟨Nat.le_refl _⟩, ⟨by first | exact Kd.R_nil _ _ _ _ _ | exact Kd.N_nil _ _ _ _ _ | exact Kd.V_nil _ _ _ _ _ | exact Kd.Q_nil _ _ _ _ _ | exact Kd.S_nil _ _ _ _ _⟩, ⟨by (with_reducible repeat (first | refine qE ?_ _ | refine qH ?_ | refine qD ?_ _)); exact BK183.out⟩, ⟨by (with_reducible repeat (first | refine qE ?_ _ | refine qH ?_ | refine qD ?_ _)); exact BK184.out⟩, ⟨by repeat (first | (with_reducible first | exact HB.out | apply qG | apply qB | apply qF | refine qC ?_ GE183.out | refine qC ?_ GE184.out) | exact HB.out)⟩⟩
  case round =>
    clear H'
    try clear c1
    try clear p2
    try clear c3
    obtain ⟨x6_1, x7_1, x184000_1, x184001_1, rfl, HA, HK1, HO_6, BK183, BK184, HB⟩ := hrel
    cases gk with
    | zero => exact absurd HA.out (by simp [flongref06_Set.l0])
    | succ k1 =>
      have H := HA.out
      clear HA
      simp only [flongref06_Set.l0] at H
      by_cases c5 : x7_1 < (l1.length : Int)
      · rw [if_pos c5] at H
        have c5b0 : decide (x7_1 < (l1.length : Int)) = true := decide_eq_true c5
        clear c5
        by_cases c6 : 0 ≤ x7_1
        · rw [if_pos c6] at H
          have c6b0 : decide (0 ≤ x7_1) = true := decide_eq_true c6
          clear c6
          have HC7 := qA H
          clear H
          have p185 : 0 ≤ (x7_1 : Int) := of_decide_eq_true (by first | (with_reducible assumption) | assumption)
          have q185 : x7_1 < (l1.length : Int) := of_decide_eq_true (by first | (with_reducible assumption) | assumption)
          obtain ⟨ad185, e185, hx185_0, hx185_1⟩ := at_T38 HR1.out x7_1 p185 q185
          cases e185
          replace hx185_0 := (HB.out.cell (World.block_lt_of_cell? w _ hx185_0)).trans hx185_0
          replace hx185_1 := (HB.out.cell (World.block_lt_of_cell? w _ hx185_1)).trans hx185_1
          replace p185 := eq_true p185
          replace q185 := eq_true q185
          go_upto_if 19 with (fail)
          go_cut [6] (fun v6 wc => ∃ (kq : Nat) (x6_6 : List (S60)), Aside0 (flongref06_Set.j1 kq l1 x6_6 x7_1 x184000_1 x184001_1 = some (r1, r2, r3)) ∧ Aside0 (kq ≤ k1) ∧ Aside0 (Kd.R k60 60 wc w.heap.size (fun _ => True) v6 x6_6) ∧ Aside0 (wc.heap[gb183]? = some (.cells #[.int .u8 x184000_1, .int .u8 x184001_1] 47 (0, 0))) ∧ Aside0 (wc.heap[gb184]? = some (.cells #[.int .u8 0, .int .u8 0] 47 (0, 0))) ∧ Aside0 (Below w.heap.size w wc))
          case first =>
            have H := HC7.out
            clear HC7
            by_cases c8 : ((rd_T38 l1 x7_1).f0) = 1
            · rw [if_pos c8] at H
              have c8b0 : (((rd_T38 l1 x7_1).f0) == 1) = true := beq_iff_eq.mpr c8
              have c8b1 : (((rd_T38 l1 x7_1).f0) != 1) = false := bne_eq_false_iff_eq.mpr c8
              clear c8
              (first | rw [c8b0] | (simp only [i64_w, i32_w]; rw [c8b0]) | skip)
              by_cases c9 : x6_1.length < 17592186044416
              · rw [if_pos c9] at H
                have LMc9 := qA c9
                clear c9
                obtain ⟨y187, hy187⟩ : ∃ y_ : List (S60), y_ = (x6_1 ++ [(⟨(rd_T38 l1 x7_1).f1, x184000_1⟩ : S60)]) := ⟨_, rfl⟩
                replace H : (flongref06_Set.j1 k1 l1 y187 x7_1 x184000_1 x184001_1) = some (r1, r2, r3) := by first | (rw [hy187]; with_reducible exact H) | (have H2_ := (Option.bind_some _ _).symm.trans H; rw [hy187]; with_reducible exact H2_) | (have H2_ := (Option.bind_some _ _).symm.trans H; with_reducible exact H2_) | with_reducible exact H | (rw [hy187]; exact H) | exact H
                have Ny187 := qA hy187
                clear hy187
                have H' := qA H
                clear H
                try go_wp2
                have n0_ := qA (qK HO_6.out)
                have n1_ := qA (qH BK183.out)
                have n2_ := qA (qH BK184.out)
                have n3_ := qA (qF HB.out)
                clear HO_6
                clear BK183
                clear BK184
                clear HB
                have HO_6 := n0_
                have BK183 := n1_
                have BK184 := n2_
                have HB := n3_
                clear n0_ n1_ n2_ n3_
                have p186 : 0 ≤ (x7_1 : Int) := of_decide_eq_true (by first | (with_reducible assumption) | assumption)
                have q186 : x7_1 < (l1.length : Int) := of_decide_eq_true (by first | (with_reducible assumption) | assumption)
                obtain ⟨ad186, e186, hx186_0, hx186_1⟩ := at_T38 HR1.out x7_1 p186 q186
                have hw186_1 := hx186_1
                have hw186_0 := hx186_0
                obtain rfl : ad185 = ad186 := (by injection e186)
                replace hx186_0 := (HB.out.cell (World.block_lt_of_cell? w _ hx186_0)).trans hx186_0
                replace hx186_1 := (HB.out.cell (World.block_lt_of_cell? w _ hx186_1)).trans hx186_1
                replace p186 := eq_true p186
                replace q186 := eq_true q186
                refine start_ (n := 12) (S := fun w' => w'.cell? ⟨gb183, 0, none⟩ = some (.int .u8 x184000_1) ∧ w'.cell? ⟨gb183, 1, none⟩ = some (.int .u8 x184001_1) ∧ w'.cell? (ad185.add ((x7_1).toNat * 2)) = some (.int .i64 ((rd_T38 l1 x7_1).f0)) ∧ w'.cell? ⟨(ad185.add ((x7_1).toNat * 2)).block, (ad185.add ((x7_1).toNat * 2)).off + 1, none⟩ = some (.int .i32 ((rd_T38 l1 x7_1).f1))) (ds := []) #[false, false, false, false, false, false, false, false, false, false, false, false] (by kernel_rfl) rfl rfl ⟨(qQ BK183.out 0).trans rfl, (qQ BK183.out 1).trans rfl, ((HB.out.cell (World.block_lt_of_cell? w _ hw186_0)).trans hw186_0), ((HB.out.cell (World.block_lt_of_cell? w _ hw186_1)).trans hw186_1)⟩ (fun hHeld => ?_); refine with_tabW flongref06_Set.tab6 flongref06_Set.bits6 (fun HT_ HW_ => ?_)
                generalize wr.drew = w10 at HO_6 BK183 BK184 HB hx186_0 hx186_1 hHeld ⊢
                refine pure_ (i := 0) (N := some 20) (v := ?_) (a' := ?_) #[true, false, false, false, false, false, false, false, false, false, false, false] rfl rfl (any_of HT_.out (by kernel_rfl)) (fun _ _ _ h => h) (Or.inl ⟨by rfl, ?_⟩) ?_ ?_
                rotate_left
                · intro w'
                  go_simp
                  with_reducible rfl
                rotate_left
                · simp only [Act.put, qM, qO, qN, i64_w, i32_w]
                  rfl
                refine pure_ (i := 1) (N := some 21) (v := ?_) (a' := ?_) #[true, true, false, false, false, false, false, false, false, false, false, false] rfl rfl (any_of HT_.out (by kernel_rfl)) (fun _ _ _ h => h) (Or.inl ⟨by rfl, ?_⟩) ?_ ?_
                rotate_left
                · intro w'
                  go_simp
                  with_reducible rfl
                rotate_left
                · simp only [Act.put, qM, qO, qN, i64_w, i32_w]
                  rfl
                refine pure_ (i := 2) (N := some 22) (v := ?_) (a' := ?_) #[true, true, true, false, false, false, false, false, false, false, false, false] rfl rfl (any_of HT_.out (by kernel_rfl)) (fun _ _ _ h => h) (Or.inl ⟨by rfl, ?_⟩) ?_ ?_
                rotate_left
                · intro w'
                  go_simp
                  with_reducible rfl
                rotate_left
                · simp only [Act.put, qM, qO, qN, i64_w, i32_w]
                  rfl
                refine pure_ (i := 3) (N := some 23) (v := ?_) (a' := ?_) #[true, true, true, true, false, false, false, false, false, false, false, false] rfl rfl (any_of HT_.out (by kernel_rfl)) (fun _ _ _ h => h) (Or.inl ⟨by rfl, ?_⟩) ?_ ?_
                rotate_left
                · intro w'
                  go_simp
                  with_reducible rfl
                rotate_left
                · simp only [Act.put, qM, qO, qN, i64_w, i32_w]
                  rfl
                refine pure_ (i := 4) (N := some 24) (v := ?_) (a' := ?_) #[true, true, true, true, true, false, false, false, false, false, false, false] rfl rfl (any_of HT_.out (by kernel_rfl)) (fun _ _ _ h => h) (Or.inl ⟨by rfl, ?_⟩) ?_ ?_
                rotate_left
                · intro w'
                  go_simp
                  with_reducible rfl
                rotate_left
                · simp only [Act.put, qM, qO, qN, i64_w, i32_w]
                  rfl
                refine pure_ (i := 6) (N := some 26) (v := ?_) (a' := ?_) #[true, true, true, true, true, false, true, false, false, false, false, false] rfl rfl (any_of HT_.out (by kernel_rfl)) (fun _ _ _ h => h) (Or.inl ⟨by rfl, ?_⟩) ?_ ?_
                rotate_left
                · intro w'
                  go_simp
                  with_reducible rfl
                rotate_left
                · simp only [Act.put, qM, qO, qN, i64_w, i32_w]
                  rfl
                refine take_ (i := 5) (N := some 25) (v := ?_) (a' := ?_) #[true, true, true, true, true, true, true, false, false, false, false, false] rfl rfl (take_ofW HT_.out HW_.out (by kernel_rfl)) (fun _ _ _ h => h) (Or.inl ⟨by rfl, ?_⟩) hHeld ?_ ?_
                rotate_left
                · rintro w' ⟨s0, s1, s2, s3⟩
                  go_simp
                  with_reducible rfl
                rotate_left
                · simp only [Act.put, qM, qO, qN, i64_w, i32_w]
                  rfl
                refine take_ (i := 7) (N := some 27) (v := ?_) (a' := ?_) #[true, true, true, true, true, true, true, true, false, false, false, false] rfl rfl (take_ofW HT_.out HW_.out (by kernel_rfl)) (fun _ _ _ h => h) (Or.inl ⟨by rfl, ?_⟩) hHeld ?_ ?_
                rotate_left
                · rintro w' ⟨s0, s1, s2, s3⟩
                  go_simp
                  with_reducible rfl
                rotate_left
                · simp only [Act.put, qM, qO, qN, i64_w, i32_w]
                  rfl
                refine pure_ (i := 8) (N := some 28) (v := ?_) (a' := ?_) #[true, true, true, true, true, true, true, true, true, false, false, false] rfl rfl (any_of HT_.out (by kernel_rfl)) (fun _ _ _ h => h) (Or.inl ⟨by rfl, ?_⟩) ?_ ?_
                rotate_left
                · intro w'
                  go_simp
                  with_reducible rfl
                rotate_left
                · simp only [Act.put, qM, qO, qN, i64_w, i32_w]
                  rfl
                refine one_ (i := 9) (N := some 29) #[true, true, true, true, true, true, true, true, true, true, false, false] rfl rfl (one_of HT_.out (by kernel_rfl)) (by decide) (fun K hK => ?_)
                refine value_ (w1 := ?_) (v := ?_) (by rfl) rfl ?_ ?_
                rotate_left 2
                · go_simp
                  constructor
                  · rfl
                  · rfl
                refine hK.out _ _ ⟨(qQ (qD BK183.out _) 0).trans rfl, (qQ (qD BK183.out _) 1).trans rfl, (World.cell?_alloc_lt _ _ _ (World.block_lt_of_cell? _ _ (((HB.out.cell (World.block_lt_of_cell? w _ hw186_0)).trans hw186_0)))).trans (((HB.out.cell (World.block_lt_of_cell? w _ hw186_0)).trans hw186_0)), (World.cell?_alloc_lt _ _ _ (World.block_lt_of_cell? _ _ (((HB.out.cell (World.block_lt_of_cell? w _ hw186_1)).trans hw186_1)))).trans (((HB.out.cell (World.block_lt_of_cell? w _ hw186_1)).trans hw186_1))⟩ (fun hHeld => ?_)
                clear hK K
                refine norm_ (a' := ?_) ?_ ?_
                rotate_left
                · show Act.put _ (some 29) _ = _
                  simp only [Act.put, qM, qO, qN, i64_w, i32_w]
                  rfl
                refine one_ (i := 10) (N := some 30) #[true, true, true, true, true, true, true, true, true, true, true, false] rfl rfl (one_of HT_.out (by kernel_rfl)) (by decide) (fun K hK => ?_)
                refine Kd.R_append_step k60 (w0 := w) w.heap.size (by rfl) (.tmp 20) (.tmp 29) 48 60 (.agg #[(.int .i32 0), (.int .u8 0)]) 8 rfl Tryd.underlying48 info60 rfl (by decide) (by omega) u6 x6_1 (⟨(rd_T38 l1 x7_1).f1, x184000_1⟩ : S60) [.int .i32 ((rd_T38 l1 x7_1).f1), .int .u8 x184000_1] (fun _ => True) (fun _ => False) rfl rfl ?aP (fun _ hk => hk.elim) ?aF ?aO ?aB ?aS ?aL ?_
                (case aP => exact k60_mkM _ _ _ (⟨(rd_T38 l1 x7_1).f1, x184000_1⟩ : S60))
                (case aB => exact (by repeat (first | (with_reducible first | exact HB.out | apply qG | apply qB | apply qF | refine qC ?_ GE183.out | refine qC ?_ GE184.out) | exact HB.out)))
                (case aF => exact (fun _ _ => trivial))
                (case aO => exact (by (with_reducible repeat (first | apply qJ | apply qI | apply qK)); exact HO_6.out))
                (case aS => exact (qS (by repeat (first | (with_reducible first | exact HB.out | apply qG | apply qB | apply qF | refine qC ?_ GE183.out | refine qC ?_ GE184.out) | exact HB.out))))
                (case aL => have := LMc9.out; omega)
                intro v188 w11 ho hb hg hat
                rw [← Ny187.out] at ho
                have n0_ := qA (blk_grown (g := gb183) (o := .cells #[.int .u8 x184000_1, .int .u8 x184001_1] 47 (0, 0)) (by (with_reducible repeat (first | refine qE ?_ _ | refine qH ?_ | refine qD ?_ _)); exact BK183.out) hg (Kd.R_ne HO_6.out BK183.out (by decide)))
                have n1_ := qA (blk_grown (g := gb184) (o := .cells #[.int .u8 0, .int .u8 0] 47 (0, 0)) (by (with_reducible repeat (first | refine qE ?_ _ | refine qH ?_ | refine qD ?_ _)); exact BK184.out) hg (Kd.R_ne HO_6.out BK184.out (by decide)))
                have n2_ := qA (hb)
                have n3_ := qA (ho)
                clear BK183
                clear BK184
                clear HB
                clear HO_6
                have BK183 := n0_
                have BK184 := n1_
                have HB := n2_
                have HO189 := n3_
                clear n0_ n1_ n2_ n3_
                clear ho hb hg hat
                refine hK.out _ _ ⟨(qQ BK183.out 0).trans rfl, (qQ BK183.out 1).trans rfl, ((HB.out.cell (World.block_lt_of_cell? w _ hw186_0)).trans hw186_0), ((HB.out.cell (World.block_lt_of_cell? w _ hw186_1)).trans hw186_1)⟩ (fun hHeld => ?_)
                clear hK K
                refine norm_ (a' := ?_) ?_ ?_
                rotate_left
                · show Act.put _ (some 30) _ = _
                  simp only [Act.put, qM, qO, qN, i64_w, i32_w]
                  rfl
                refine pure_ (i := 11) (N := some 6) (v := ?_) (a' := ?_) #[true, true, true, true, true, true, true, true, true, true, true, true] rfl rfl (any_of HT_.out (by kernel_rfl)) (fun _ _ _ h => h) (Or.inl ⟨by rfl, ?_⟩) ?_ ?_
                rotate_left
                · intro w'
                  go_simp
                  with_reducible rfl
                rotate_left
                · simp only [Act.put, qM, qO, qN, i64_w, i32_w]
                  rfl
                refine done_ (done_of HT_.out (by kernel_rfl)) ?_
                try go_wp2
                go_meet
                case rel => exact ⟨_, (y187), H', ⟨by have := HK1.out; first | omega | exact Nat.le_refl _⟩, ⟨by (with_reducible repeat (first | apply qJ | apply qI | apply qK)); exact HO189.out⟩, ⟨by (with_reducible repeat (first | refine qE ?_ _ | refine qH ?_ | refine qD ?_ _)); exact BK183.out⟩, ⟨by (with_reducible repeat (first | refine qE ?_ _ | refine qH ?_ | refine qD ?_ _)); exact BK184.out⟩, ⟨by repeat (first | (with_reducible first | exact HB.out | apply qG | apply qB | apply qF | refine qC ?_ GE183.out | refine qC ?_ GE184.out) | exact HB.out)⟩⟩
              · rw [if_neg c9] at H
                exact absurd H (by simp)
            · rw [if_neg c8] at H
              have c8b0 : (((rd_T38 l1 x7_1).f0) == 1) = false := beq_eq_false_iff_ne.mpr c8
              have c8b1 : (((rd_T38 l1 x7_1).f0) != 1) = true := bne_iff_ne.mpr c8
              (first | rw [c8b0] | (simp only [i64_w, i32_w]; rw [c8b0]) | skip)
              have H' := qA H
              clear H
              go_wp2
              go_meet
              case rel => exact ⟨_, (x6_1), H', ⟨by have := HK1.out; first | omega | exact Nat.le_refl _⟩, ⟨by (with_reducible repeat (first | apply qJ | apply qI | apply qK)); exact HO_6.out⟩, ⟨by (with_reducible repeat (first | refine qE ?_ _ | refine qH ?_ | refine qD ?_ _)); exact BK183.out⟩, ⟨by (with_reducible repeat (first | refine qE ?_ _ | refine qH ?_ | refine qD ?_ _)); exact BK184.out⟩, ⟨by repeat (first | (with_reducible first | exact HB.out | apply qG | apply qB | apply qF | refine qC ?_ GE183.out | refine qC ?_ GE184.out) | exact HB.out)⟩⟩
          case rest =>
            clear HC7
            try clear c1
            try clear p1
            try clear q1
            try clear hx1
            try clear p2
            try clear c3
            try clear c5
            try clear c5b0
            try clear c6
            try clear c6b0
            try clear c8
            try clear c8b0
            try clear c8b1
            try clear c9
            try clear hx185_0
            try clear hx185_1
            try clear hx186_0
            try clear hx186_1
            try clear p185
            try clear p186
            try clear p2
            try clear q185
            try clear q186
            obtain ⟨kq, x6_6, HA, HJ6, HO_6, BK183, BK184, HB⟩ := hcut
            cases kq with
            | zero => exact absurd HA.out (by simp [flongref06_Set.j1])
            | succ kj6 =>
              have H := HA.out
              clear HA
              simp only [flongref06_Set.j1] at H
              by_cases c12 : 0 ≤ x7_1
              · rw [if_pos c12] at H
                have c12b0 : decide (0 ≤ x7_1) = true := decide_eq_true c12
                clear c12
                by_cases c13 : x7_1 < (l1.length : Int)
                · rw [if_pos c13] at H
                  have c13b0 : decide (x7_1 < (l1.length : Int)) = true := decide_eq_true c13
                  clear c13
                  by_cases c14 : ((rd_T38 l1 x7_1).f0) = 2
                  · rw [if_pos c14] at H
                    have c14b0 : (((rd_T38 l1 x7_1).f0) == 2) = true := beq_iff_eq.mpr c14
                    have c14b1 : (((rd_T38 l1 x7_1).f0) != 2) = false := bne_eq_false_iff_eq.mpr c14
                    clear c14
                    by_cases c15 : x6_6.length < 17592186044416
                    · rw [if_pos c15] at H
                      have LMc15 := qA c15
                      clear c15
                      obtain ⟨y191, hy191⟩ : ∃ y_ : List (S60), y_ = (x6_6 ++ [(⟨32, 0⟩ : S60)]) := ⟨_, rfl⟩
                      replace H : (if ((rd_T38 l1 x7_1).f0) = 3 then ((flongref06_Turn.f x184000_1 x184001_1 ((rd_T38 l1 x7_1).f1)).bind fun bt196 => (flongref06_Set.l0 kj6 l1 y191 (wrap64 (x7_1 + 1)) bt196.1 bt196.2)) else (flongref06_Set.l0 kj6 l1 y191 (wrap64 (x7_1 + 1)) x184000_1 x184001_1)) = some (r1, r2, r3) := by first | (rw [hy191]; with_reducible exact H) | (have H2_ := (Option.bind_some _ _).symm.trans H; rw [hy191]; with_reducible exact H2_) | (have H2_ := (Option.bind_some _ _).symm.trans H; with_reducible exact H2_) | with_reducible exact H | (rw [hy191]; exact H) | exact H
                      have Ny191 := qA hy191
                      clear hy191
                      by_cases c16 : ((rd_T38 l1 x7_1).f0) = 3
                      · rw [if_pos c16] at H
                        have c16b0 : (((rd_T38 l1 x7_1).f0) == 3) = true := beq_iff_eq.mpr c16
                        have c16b1 : (((rd_T38 l1 x7_1).f0) != 3) = false := bne_eq_false_iff_eq.mpr c16
                        clear c16
                        replace H := Option.bind_eq_some_iff.mp H
                        obtain ⟨⟨t196, t197⟩, A170, H⟩ := H
                        replace H : (flongref06_Set.l0 kj6 l1 y191 (wrap64 (x7_1 + 1)) t196 t197) = some (r1, r2, r3) := H
                        have A17 := qA A170
                        clear A170
                        have H' := qA H
                        clear H
                        have p190 : 0 ≤ (x7_1 : Int) := of_decide_eq_true (by first | (with_reducible assumption) | assumption)
                        have q190 : x7_1 < (l1.length : Int) := of_decide_eq_true (by first | (with_reducible assumption) | assumption)
                        obtain ⟨ad190, e190, hx190_0, hx190_1⟩ := at_T38 HR1.out x7_1 p190 q190
                        obtain rfl : ad185 = ad190 := (by injection e190)
                        replace hx190_0 := (HB.out.cell (World.block_lt_of_cell? w _ hx190_0)).trans hx190_0
                        replace hx190_1 := (HB.out.cell (World.block_lt_of_cell? w _ hx190_1)).trans hx190_1
                        replace p190 := eq_true p190
                        replace q190 := eq_true q190
                        try go_wp2_with (first | ((with_reducible refine gate_builtin (b := .append) (xs := #[.tmp 37, .tmp 39]) rfl ?_); at_builtin; refine Kd.R_append k60 (w0 := w) w.heap.size rfl (.tmp 37) (.tmp 39) 48 60 (.agg #[(.int .i32 0), (.int .u8 0)]) 8 rfl Tryd.underlying48 info60 rfl (by decide) (by omega) u6 x6_6 (⟨32, 0⟩ : S60) [.int .i32 32, .int .u8 0] (fun _ => True) (fun _ => False) rfl rfl ?aP (fun _ hk => hk.elim) ?aF ?aO ?aB ?aS ?aL ?_; (case aP => exact k60_mkM _ _ _ (⟨32, 0⟩ : S60)); (case aB => exact (by repeat (first | (with_reducible first | exact HB.out | apply qG | apply qB | apply qF | refine qC ?_ GE183.out | refine qC ?_ GE184.out) | exact HB.out))); (case aF => exact (fun _ _ => trivial)); (case aO => exact (by (with_reducible repeat (first | apply qJ | apply qI | apply qK)); exact HO_6.out)); (case aS => exact (qS (by repeat (first | (with_reducible first | exact HB.out | apply qG | apply qB | apply qF | refine qC ?_ GE183.out | refine qC ?_ GE184.out) | exact HB.out)))); (case aL => have := LMc15.out; omega); intro v192 w18 ho hb hg hat; rw [← Ny191.out] at ho; have n0_ := qA (blk_grown (g := gb183) (o := .cells #[.int .u8 x184000_1, .int .u8 x184001_1] 47 (0, 0)) (by (with_reducible repeat (first | refine qE ?_ _ | refine qH ?_ | refine qD ?_ _)); exact BK183.out) hg (Kd.R_ne HO_6.out BK183.out (by decide))); have n1_ := qA (blk_grown (g := gb184) (o := .cells #[.int .u8 0, .int .u8 0] 47 (0, 0)) (by (with_reducible repeat (first | refine qE ?_ _ | refine qH ?_ | refine qD ?_ _)); exact BK184.out) hg (Kd.R_ne HO_6.out BK184.out (by decide))); have n2_ := qA (hb); have n3_ := qA (ho); clear BK183; clear BK184; clear HB; clear HO_6; have BK183 := n0_; have BK184 := n1_; have HB := n2_; have HO193 := n3_; clear n0_ n1_ n2_ n3_; clear ho hb hg hat; have p194 : 0 ≤ (x7_1 : Int) := of_decide_eq_true (by first | (with_reducible assumption) | assumption); have q194 : x7_1 < (l1.length : Int) := of_decide_eq_true (by first | (with_reducible assumption) | assumption); obtain ⟨ad194, e194, hx194_0, hx194_1⟩ := at_T38 HR1.out x7_1 p194 q194; obtain rfl : ad185 = ad194 := (by injection e194); replace hx194_0 := (HB.out.cell (World.block_lt_of_cell? w _ hx194_0)).trans hx194_0; replace hx194_1 := (HB.out.cell (World.block_lt_of_cell? w _ hx194_1)).trans hx194_1; replace p194 := eq_true p194; replace q194 := eq_true q194))
                        have n0_ := qA (qK HO193.out)
                        have n1_ := qA (qH BK183.out)
                        have n2_ := qA (qH BK184.out)
                        have n3_ := qA (qF HB.out)
                        clear HO193
                        clear BK183
                        clear BK184
                        clear HB
                        have HO193 := n0_
                        have BK183 := n1_
                        have BK184 := n2_
                        have HB := n3_
                        clear n0_ n1_ n2_ n3_
                        have p195 : 0 ≤ (x7_1 : Int) := of_decide_eq_true (by first | (with_reducible assumption) | assumption)
                        have q195 : x7_1 < (l1.length : Int) := of_decide_eq_true (by first | (with_reducible assumption) | assumption)
                        obtain ⟨ad195, e195, hx195_0, hx195_1⟩ := at_T38 HR1.out x7_1 p195 q195
                        have hw195_1 := hx195_1
                        have hw195_0 := hx195_0
                        obtain rfl : ad185 = ad195 := (by injection e195)
                        replace hx195_0 := (HB.out.cell (World.block_lt_of_cell? w _ hx195_0)).trans hx195_0
                        replace hx195_1 := (HB.out.cell (World.block_lt_of_cell? w _ hx195_1)).trans hx195_1
                        replace p195 := eq_true p195
                        replace q195 := eq_true q195
                        refine start_ (n := 8) (S := fun w' => w'.cell? ⟨gb183, 0, none⟩ = some (.int .u8 x184000_1) ∧ w'.cell? ⟨gb183, 1, none⟩ = some (.int .u8 x184001_1) ∧ w'.cell? (ad185.add ((x7_1).toNat * 2)) = some (.int .i64 ((rd_T38 l1 x7_1).f0)) ∧ w'.cell? ⟨(ad185.add ((x7_1).toNat * 2)).block, (ad185.add ((x7_1).toNat * 2)).off + 1, none⟩ = some (.int .i32 ((rd_T38 l1 x7_1).f1))) (ds := [7]) #[false, false, false, false, false, false, false, false] (by kernel_rfl) rfl rfl ⟨(qQ BK183.out 0).trans rfl, (qQ BK183.out 1).trans rfl, ((HB.out.cell (World.block_lt_of_cell? w _ hw195_0)).trans hw195_0), ((HB.out.cell (World.block_lt_of_cell? w _ hw195_1)).trans hw195_1)⟩ (fun hHeld => ?_); refine with_tabW flongref06_Set.tab10 flongref06_Set.bits10 (fun HT_ HW_ => ?_)
                        generalize w18.drew = w19 at HO193 BK183 BK184 HB hx195_0 hx195_1 hHeld ⊢
                        refine pure_ (i := 1) (N := some 48) (v := ?_) (a' := ?_) #[false, true, false, false, false, false, false, false] rfl rfl (any_of HT_.out (by kernel_rfl)) (fun _ _ _ h => h) (Or.inl ⟨by rfl, ?_⟩) ?_ ?_
                        rotate_left
                        · intro w'
                          go_simp
                          with_reducible rfl
                        rotate_left
                        · simp only [Act.put, qM, qO, qN, i64_w, i32_w]
                          rfl
                        refine pure_ (i := 2) (N := some 49) (v := ?_) (a' := ?_) #[false, true, true, false, false, false, false, false] rfl rfl (any_of HT_.out (by kernel_rfl)) (fun _ _ _ h => h) (Or.inl ⟨by rfl, ?_⟩) ?_ ?_
                        rotate_left
                        · intro w'
                          go_simp
                          with_reducible rfl
                        rotate_left
                        · simp only [Act.put, qM, qO, qN, i64_w, i32_w]
                          rfl
                        refine pure_ (i := 3) (N := some 50) (v := ?_) (a' := ?_) #[false, true, true, true, false, false, false, false] rfl rfl (any_of HT_.out (by kernel_rfl)) (fun _ _ _ h => h) (Or.inl ⟨by rfl, ?_⟩) ?_ ?_
                        rotate_left
                        · intro w'
                          go_simp
                          with_reducible rfl
                        rotate_left
                        · simp only [Act.put, qM, qO, qN, i64_w, i32_w]
                          rfl
                        refine pure_ (i := 4) (N := some 51) (v := ?_) (a' := ?_) #[false, true, true, true, true, false, false, false] rfl rfl (any_of HT_.out (by kernel_rfl)) (fun _ _ _ h => h) (Or.inl ⟨by rfl, ?_⟩) ?_ ?_
                        rotate_left
                        · intro w'
                          go_simp
                          with_reducible rfl
                        rotate_left
                        · simp only [Act.put, qM, qO, qN, i64_w, i32_w]
                          rfl
                        refine take_ (i := 0) (N := some 47) (v := ?_) (a' := ?_) #[true, true, true, true, true, false, false, false] rfl rfl (take_ofW HT_.out HW_.out (by kernel_rfl)) (fun _ _ _ h => h) (Or.inl ⟨by rfl, ?_⟩) hHeld ?_ ?_
                        rotate_left
                        · rintro w' ⟨s0, s1, s2, s3⟩
                          go_simp
                          with_reducible rfl
                        rotate_left
                        · simp only [Act.put, qM, qO, qN, i64_w, i32_w]
                          rfl
                        refine take_ (i := 5) (N := some 52) (v := ?_) (a' := ?_) #[true, true, true, true, true, true, false, false] rfl rfl (take_ofW HT_.out HW_.out (by kernel_rfl)) (fun _ _ _ h => h) (Or.inl ⟨by rfl, ?_⟩) hHeld ?_ ?_
                        rotate_left
                        · rintro w' ⟨s0, s1, s2, s3⟩
                          go_simp
                          with_reducible rfl
                        rotate_left
                        · simp only [Act.put, qM, qO, qN, i64_w, i32_w]
                          rfl
                        refine one_ (i := 6) (N := some 53) #[true, true, true, true, true, true, true, false] rfl rfl (one_of HT_.out (by kernel_rfl)) (by decide) (fun K hK => ?_)
                        refine goes_ Tryd.func37 (by kernel_rfl) rfl #[.agg #[.int .u8 x184000_1, .int .u8 x184001_1], .int .i32 ((rd_T38 l1 x7_1).f1)] (by rfl) rfl rfl (by (try simp only [List.map_toArray, List.map_cons, List.map_nil]); first | done | rfl | (simp only [List.length_drop, List.length_take]; rfl)) ?_
                        with_reducible refine (flongref06_Turn.calls x184000_1 x184001_1 ((rd_T38 l1 x7_1).f1) t196 t197 _ A17.out).mono ?_
                        rintro e w20 ⟨rfl, hb⟩
                        refine ⟨_, rfl, ?_⟩
                        have n0_ := qA (qT (by (with_reducible repeat (first | apply qJ | apply qI | apply qK)); exact HO193.out) hb)
                        have n1_ := qA (qX (g := gb183) (o := .cells #[.int .u8 x184000_1, .int .u8 x184001_1] 47 (0, 0)) (by (with_reducible repeat (first | refine qE ?_ _ | refine qH ?_ | refine qD ?_ _)); exact BK183.out) hb)
                        have n2_ := qA (qX (g := gb184) (o := .cells #[.int .u8 0, .int .u8 0] 47 (0, 0)) (by (with_reducible repeat (first | refine qE ?_ _ | refine qH ?_ | refine qD ?_ _)); exact BK184.out) hb)
                        have n3_ := qA (qR (by repeat (first | (with_reducible first | exact HB.out | apply qG | apply qB | apply qF | refine qC ?_ GE183.out | refine qC ?_ GE184.out) | exact HB.out)) hb)
                        clear HO193
                        clear BK183
                        clear BK184
                        clear HB
                        have HO193 := n0_
                        have BK183 := n1_
                        have BK184 := n2_
                        have HB := n3_
                        clear n0_ n1_ n2_ n3_
                        (try clear hb)
                        (try clear hb2)
                        (try clear hk)
                        (try clear hi)
                        refine hK.out _ _ ⟨(qQ BK183.out 0).trans rfl, (qQ BK183.out 1).trans rfl, ((HB.out.cell (World.block_lt_of_cell? w _ hw195_0)).trans hw195_0), ((HB.out.cell (World.block_lt_of_cell? w _ hw195_1)).trans hw195_1)⟩ (fun hHeld => ?_)
                        clear hK K
                        refine norm_ (a' := ?_) ?_ ?_
                        rotate_left
                        · show Act.put _ (some 53) _ = _
                          simp only [Act.put, qM, qO, qN, i64_w, i32_w]
                          rfl
                        refine last_ (i := 7) (N := none) #[true, true, true, true, true, true, true, true] rfl rfl (one_of HT_.out (by kernel_rfl)) (by decide) (fun K hK => ?_)
                        have hs21 : w20.cell? ⟨gb183, 0, none⟩ = some (.int .u8 x184000_1) := (qQ BK183.out 0).trans rfl
                        have hfs21 := qL BK183.out 0
                        have hns21_1 := NB184_183.out
                        have hms21_1 := NB183_184.out
                        have hs22 : w20.cell? ⟨gb183, 1, none⟩ = some (.int .u8 x184001_1) := (qQ BK183.out 1).trans rfl
                        have hfs22 := qL BK183.out 1
                        have hns22_1 := NB184_183.out
                        have hms22_1 := NB183_184.out
                        refine skip_ (w1 := ?_) (by rfl) rfl ?_ ?_
                        rotate_left
                        · go_simp
                          rfl
                        refine hK.out _ _ ?_
                        clear hK K
                        refine done_ (done_of HT_.out (by kernel_rfl)) ?_
                        try go_wp2
                        go_roundg kj6
                        case measure => have := HK1.out; have := HJ6.out; omega
                        case rel => exact ⟨(y191), (wrap64 (x7_1 + 1)), (t196), (t197), (by first | rfl | (simp; done) | (simp [*]; done)), H', ⟨by have := HK1.out; have := HJ6.out; omega⟩, ⟨by (with_reducible repeat (first | apply qJ | apply qI | apply qK)); exact qU (qP (p := ⟨gb183, 1, none⟩) (qP (p := ⟨gb183, 0, none⟩) (qV HO193.out BK183.out (by decide)) (fun _ hk => hk.2) (.int .u8 t196)) (fun _ hk => hk.2) (.int .u8 t197)) (fun _ hk => trivial)⟩, ⟨by (with_reducible repeat (first | refine qE ?_ _ | refine qH ?_ | refine qD ?_ _)); refine qY (cs := #[.int .u8 t196, .int .u8 x184001_1]) ?_ 1 _ rfl; (with_reducible repeat (first | refine qE ?_ _ | refine qH ?_ | refine qD ?_ _)); refine qY (cs := #[.int .u8 x184000_1, .int .u8 x184001_1]) ?_ 0 _ rfl; (with_reducible repeat (first | refine qE ?_ _ | refine qH ?_ | refine qD ?_ _)); exact BK183.out⟩, ⟨by (with_reducible repeat (first | refine qE ?_ _ | refine qH ?_ | refine qD ?_ _)); refine blk_far ?_ NB184_183.out _; (with_reducible repeat (first | refine qE ?_ _ | refine qH ?_ | refine qD ?_ _)); refine blk_far ?_ NB184_183.out _; (with_reducible repeat (first | refine qE ?_ _ | refine qH ?_ | refine qD ?_ _)); exact BK184.out⟩, ⟨by repeat (first | (with_reducible first | exact HB.out | apply qG | apply qB | apply qF | refine qC ?_ GE183.out | refine qC ?_ GE184.out) | exact HB.out)⟩⟩
                      · rw [if_neg c16] at H
                        have c16b0 : (((rd_T38 l1 x7_1).f0) == 3) = false := beq_eq_false_iff_ne.mpr c16
                        have c16b1 : (((rd_T38 l1 x7_1).f0) != 3) = true := bne_iff_ne.mpr c16
                        have H' := qA H
                        clear H
                        have p190 : 0 ≤ (x7_1 : Int) := of_decide_eq_true (by first | (with_reducible assumption) | assumption)
                        have q190 : x7_1 < (l1.length : Int) := of_decide_eq_true (by first | (with_reducible assumption) | assumption)
                        obtain ⟨ad190, e190, hx190_0, hx190_1⟩ := at_T38 HR1.out x7_1 p190 q190
                        obtain rfl : ad185 = ad190 := (by injection e190)
                        replace hx190_0 := (HB.out.cell (World.block_lt_of_cell? w _ hx190_0)).trans hx190_0
                        replace hx190_1 := (HB.out.cell (World.block_lt_of_cell? w _ hx190_1)).trans hx190_1
                        replace p190 := eq_true p190
                        replace q190 := eq_true q190
                        go_wp2_with (first | ((with_reducible refine gate_builtin (b := .append) (xs := #[.tmp 37, .tmp 39]) rfl ?_); at_builtin; refine Kd.R_append k60 (w0 := w) w.heap.size rfl (.tmp 37) (.tmp 39) 48 60 (.agg #[(.int .i32 0), (.int .u8 0)]) 8 rfl Tryd.underlying48 info60 rfl (by decide) (by omega) u6 x6_6 (⟨32, 0⟩ : S60) [.int .i32 32, .int .u8 0] (fun _ => True) (fun _ => False) rfl rfl ?aP (fun _ hk => hk.elim) ?aF ?aO ?aB ?aS ?aL ?_; (case aP => exact k60_mkM _ _ _ (⟨32, 0⟩ : S60)); (case aB => exact (by repeat (first | (with_reducible first | exact HB.out | apply qG | apply qB | apply qF | refine qC ?_ GE183.out | refine qC ?_ GE184.out) | exact HB.out))); (case aF => exact (fun _ _ => trivial)); (case aO => exact (by (with_reducible repeat (first | apply qJ | apply qI | apply qK)); exact HO_6.out)); (case aS => exact (qS (by repeat (first | (with_reducible first | exact HB.out | apply qG | apply qB | apply qF | refine qC ?_ GE183.out | refine qC ?_ GE184.out) | exact HB.out)))); (case aL => have := LMc15.out; omega); intro v192 w23 ho hb hg hat; rw [← Ny191.out] at ho; have n0_ := qA (blk_grown (g := gb183) (o := .cells #[.int .u8 x184000_1, .int .u8 x184001_1] 47 (0, 0)) (by (with_reducible repeat (first | refine qE ?_ _ | refine qH ?_ | refine qD ?_ _)); exact BK183.out) hg (Kd.R_ne HO_6.out BK183.out (by decide))); have n1_ := qA (blk_grown (g := gb184) (o := .cells #[.int .u8 0, .int .u8 0] 47 (0, 0)) (by (with_reducible repeat (first | refine qE ?_ _ | refine qH ?_ | refine qD ?_ _)); exact BK184.out) hg (Kd.R_ne HO_6.out BK184.out (by decide))); have n2_ := qA (hb); have n3_ := qA (ho); clear BK183; clear BK184; clear HB; clear HO_6; have BK183 := n0_; have BK184 := n1_; have HB := n2_; have HO193 := n3_; clear n0_ n1_ n2_ n3_; clear ho hb hg hat; have p194 : 0 ≤ (x7_1 : Int) := of_decide_eq_true (by first | (with_reducible assumption) | assumption); have q194 : x7_1 < (l1.length : Int) := of_decide_eq_true (by first | (with_reducible assumption) | assumption); obtain ⟨ad194, e194, hx194_0, hx194_1⟩ := at_T38 HR1.out x7_1 p194 q194; obtain rfl : ad185 = ad194 := (by injection e194); replace hx194_0 := (HB.out.cell (World.block_lt_of_cell? w _ hx194_0)).trans hx194_0; replace hx194_1 := (HB.out.cell (World.block_lt_of_cell? w _ hx194_1)).trans hx194_1; replace p194 := eq_true p194; replace q194 := eq_true q194))
                        go_roundg kj6
                        case measure => have := HK1.out; have := HJ6.out; omega
                        case rel => exact ⟨(y191), (wrap64 (x7_1 + 1)), (x184000_1), (x184001_1), (by first | rfl | (simp; done) | (simp [*]; done)), H', ⟨by have := HK1.out; have := HJ6.out; omega⟩, ⟨by (with_reducible repeat (first | apply qJ | apply qI | apply qK)); exact HO193.out⟩, ⟨by (with_reducible repeat (first | refine qE ?_ _ | refine qH ?_ | refine qD ?_ _)); exact BK183.out⟩, ⟨by (with_reducible repeat (first | refine qE ?_ _ | refine qH ?_ | refine qD ?_ _)); exact BK184.out⟩, ⟨by repeat (first | (with_reducible first | exact HB.out | apply qG | apply qB | apply qF | refine qC ?_ GE183.out | refine qC ?_ GE184.out) | exact HB.out)⟩⟩
                    · rw [if_neg c15] at H
                      exact absurd H (by simp)
                  · rw [if_neg c14] at H
                    have c14b0 : (((rd_T38 l1 x7_1).f0) == 2) = false := beq_eq_false_iff_ne.mpr c14
                    have c14b1 : (((rd_T38 l1 x7_1).f0) != 2) = true := bne_iff_ne.mpr c14
                    by_cases c24 : ((rd_T38 l1 x7_1).f0) = 3
                    · rw [if_pos c24] at H
                      have c24b0 : (((rd_T38 l1 x7_1).f0) == 3) = true := beq_iff_eq.mpr c24
                      have c24b1 : (((rd_T38 l1 x7_1).f0) != 3) = false := bne_eq_false_iff_eq.mpr c24
                      clear c24
                      replace H := Option.bind_eq_some_iff.mp H
                      obtain ⟨⟨t200, t201⟩, A250, H⟩ := H
                      replace H : (flongref06_Set.l0 kj6 l1 x6_6 (wrap64 (x7_1 + 1)) t200 t201) = some (r1, r2, r3) := H
                      have A25 := qA A250
                      clear A250
                      have H' := qA H
                      clear H
                      have p190 : 0 ≤ (x7_1 : Int) := of_decide_eq_true (by first | (with_reducible assumption) | assumption)
                      have q190 : x7_1 < (l1.length : Int) := of_decide_eq_true (by first | (with_reducible assumption) | assumption)
                      obtain ⟨ad190, e190, hx190_0, hx190_1⟩ := at_T38 HR1.out x7_1 p190 q190
                      obtain rfl : ad185 = ad190 := (by injection e190)
                      replace hx190_0 := (HB.out.cell (World.block_lt_of_cell? w _ hx190_0)).trans hx190_0
                      replace hx190_1 := (HB.out.cell (World.block_lt_of_cell? w _ hx190_1)).trans hx190_1
                      replace p190 := eq_true p190
                      replace q190 := eq_true q190
                      have p198 : 0 ≤ (x7_1 : Int) := of_decide_eq_true (by first | (with_reducible assumption) | assumption)
                      have q198 : x7_1 < (l1.length : Int) := of_decide_eq_true (by first | (with_reducible assumption) | assumption)
                      obtain ⟨ad198, e198, hx198_0, hx198_1⟩ := at_T38 HR1.out x7_1 p198 q198
                      obtain rfl : ad185 = ad198 := (by injection e198)
                      replace hx198_0 := (HB.out.cell (World.block_lt_of_cell? w _ hx198_0)).trans hx198_0
                      replace hx198_1 := (HB.out.cell (World.block_lt_of_cell? w _ hx198_1)).trans hx198_1
                      replace p198 := eq_true p198
                      replace q198 := eq_true q198
                      try go_wp2
                      have n0_ := qA (qK HO_6.out)
                      have n1_ := qA (qH BK183.out)
                      have n2_ := qA (qH BK184.out)
                      have n3_ := qA (qF HB.out)
                      clear HO_6
                      clear BK183
                      clear BK184
                      clear HB
                      have HO_6 := n0_
                      have BK183 := n1_
                      have BK184 := n2_
                      have HB := n3_
                      clear n0_ n1_ n2_ n3_
                      have p199 : 0 ≤ (x7_1 : Int) := of_decide_eq_true (by first | (with_reducible assumption) | assumption)
                      have q199 : x7_1 < (l1.length : Int) := of_decide_eq_true (by first | (with_reducible assumption) | assumption)
                      obtain ⟨ad199, e199, hx199_0, hx199_1⟩ := at_T38 HR1.out x7_1 p199 q199
                      have hw199_1 := hx199_1
                      have hw199_0 := hx199_0
                      obtain rfl : ad185 = ad199 := (by injection e199)
                      replace hx199_0 := (HB.out.cell (World.block_lt_of_cell? w _ hx199_0)).trans hx199_0
                      replace hx199_1 := (HB.out.cell (World.block_lt_of_cell? w _ hx199_1)).trans hx199_1
                      replace p199 := eq_true p199
                      replace q199 := eq_true q199
                      refine start_ (n := 8) (S := fun w' => w'.cell? ⟨gb183, 0, none⟩ = some (.int .u8 x184000_1) ∧ w'.cell? ⟨gb183, 1, none⟩ = some (.int .u8 x184001_1) ∧ w'.cell? (ad185.add ((x7_1).toNat * 2)) = some (.int .i64 ((rd_T38 l1 x7_1).f0)) ∧ w'.cell? ⟨(ad185.add ((x7_1).toNat * 2)).block, (ad185.add ((x7_1).toNat * 2)).off + 1, none⟩ = some (.int .i32 ((rd_T38 l1 x7_1).f1))) (ds := [7]) #[false, false, false, false, false, false, false, false] (by kernel_rfl) rfl rfl ⟨(qQ BK183.out 0).trans rfl, (qQ BK183.out 1).trans rfl, ((HB.out.cell (World.block_lt_of_cell? w _ hw199_0)).trans hw199_0), ((HB.out.cell (World.block_lt_of_cell? w _ hw199_1)).trans hw199_1)⟩ (fun hHeld => ?_); refine with_tabW flongref06_Set.tab10 flongref06_Set.bits10 (fun HT_ HW_ => ?_)
                      generalize wc.drew = w26 at HO_6 BK183 BK184 HB hx199_0 hx199_1 hHeld ⊢
                      refine pure_ (i := 1) (N := some 48) (v := ?_) (a' := ?_) #[false, true, false, false, false, false, false, false] rfl rfl (any_of HT_.out (by kernel_rfl)) (fun _ _ _ h => h) (Or.inl ⟨by rfl, ?_⟩) ?_ ?_
                      rotate_left
                      · intro w'
                        go_simp
                        with_reducible rfl
                      rotate_left
                      · simp only [Act.put, qM, qO, qN, i64_w, i32_w]
                        rfl
                      refine pure_ (i := 2) (N := some 49) (v := ?_) (a' := ?_) #[false, true, true, false, false, false, false, false] rfl rfl (any_of HT_.out (by kernel_rfl)) (fun _ _ _ h => h) (Or.inl ⟨by rfl, ?_⟩) ?_ ?_
                      rotate_left
                      · intro w'
                        go_simp
                        with_reducible rfl
                      rotate_left
                      · simp only [Act.put, qM, qO, qN, i64_w, i32_w]
                        rfl
                      refine pure_ (i := 3) (N := some 50) (v := ?_) (a' := ?_) #[false, true, true, true, false, false, false, false] rfl rfl (any_of HT_.out (by kernel_rfl)) (fun _ _ _ h => h) (Or.inl ⟨by rfl, ?_⟩) ?_ ?_
                      rotate_left
                      · intro w'
                        go_simp
                        with_reducible rfl
                      rotate_left
                      · simp only [Act.put, qM, qO, qN, i64_w, i32_w]
                        rfl
                      refine pure_ (i := 4) (N := some 51) (v := ?_) (a' := ?_) #[false, true, true, true, true, false, false, false] rfl rfl (any_of HT_.out (by kernel_rfl)) (fun _ _ _ h => h) (Or.inl ⟨by rfl, ?_⟩) ?_ ?_
                      rotate_left
                      · intro w'
                        go_simp
                        with_reducible rfl
                      rotate_left
                      · simp only [Act.put, qM, qO, qN, i64_w, i32_w]
                        rfl
                      refine take_ (i := 0) (N := some 47) (v := ?_) (a' := ?_) #[true, true, true, true, true, false, false, false] rfl rfl (take_ofW HT_.out HW_.out (by kernel_rfl)) (fun _ _ _ h => h) (Or.inl ⟨by rfl, ?_⟩) hHeld ?_ ?_
                      rotate_left
                      · rintro w' ⟨s0, s1, s2, s3⟩
                        go_simp
                        with_reducible rfl
                      rotate_left
                      · simp only [Act.put, qM, qO, qN, i64_w, i32_w]
                        rfl
                      refine take_ (i := 5) (N := some 52) (v := ?_) (a' := ?_) #[true, true, true, true, true, true, false, false] rfl rfl (take_ofW HT_.out HW_.out (by kernel_rfl)) (fun _ _ _ h => h) (Or.inl ⟨by rfl, ?_⟩) hHeld ?_ ?_
                      rotate_left
                      · rintro w' ⟨s0, s1, s2, s3⟩
                        go_simp
                        with_reducible rfl
                      rotate_left
                      · simp only [Act.put, qM, qO, qN, i64_w, i32_w]
                        rfl
                      refine one_ (i := 6) (N := some 53) #[true, true, true, true, true, true, true, false] rfl rfl (one_of HT_.out (by kernel_rfl)) (by decide) (fun K hK => ?_)
                      refine goes_ Tryd.func37 (by kernel_rfl) rfl #[.agg #[.int .u8 x184000_1, .int .u8 x184001_1], .int .i32 ((rd_T38 l1 x7_1).f1)] (by rfl) rfl rfl (by (try simp only [List.map_toArray, List.map_cons, List.map_nil]); first | done | rfl | (simp only [List.length_drop, List.length_take]; rfl)) ?_
                      with_reducible refine (flongref06_Turn.calls x184000_1 x184001_1 ((rd_T38 l1 x7_1).f1) t200 t201 _ A25.out).mono ?_
                      rintro e w27 ⟨rfl, hb⟩
                      refine ⟨_, rfl, ?_⟩
                      have n0_ := qA (qT (by (with_reducible repeat (first | apply qJ | apply qI | apply qK)); exact HO_6.out) hb)
                      have n1_ := qA (qX (g := gb183) (o := .cells #[.int .u8 x184000_1, .int .u8 x184001_1] 47 (0, 0)) (by (with_reducible repeat (first | refine qE ?_ _ | refine qH ?_ | refine qD ?_ _)); exact BK183.out) hb)
                      have n2_ := qA (qX (g := gb184) (o := .cells #[.int .u8 0, .int .u8 0] 47 (0, 0)) (by (with_reducible repeat (first | refine qE ?_ _ | refine qH ?_ | refine qD ?_ _)); exact BK184.out) hb)
                      have n3_ := qA (qR (by repeat (first | (with_reducible first | exact HB.out | apply qG | apply qB | apply qF | refine qC ?_ GE183.out | refine qC ?_ GE184.out) | exact HB.out)) hb)
                      clear HO_6
                      clear BK183
                      clear BK184
                      clear HB
                      have HO_6 := n0_
                      have BK183 := n1_
                      have BK184 := n2_
                      have HB := n3_
                      clear n0_ n1_ n2_ n3_
                      (try clear hb)
                      (try clear hb2)
                      (try clear hk)
                      (try clear hi)
                      refine hK.out _ _ ⟨(qQ BK183.out 0).trans rfl, (qQ BK183.out 1).trans rfl, ((HB.out.cell (World.block_lt_of_cell? w _ hw199_0)).trans hw199_0), ((HB.out.cell (World.block_lt_of_cell? w _ hw199_1)).trans hw199_1)⟩ (fun hHeld => ?_)
                      clear hK K
                      refine norm_ (a' := ?_) ?_ ?_
                      rotate_left
                      · show Act.put _ (some 53) _ = _
                        simp only [Act.put, qM, qO, qN, i64_w, i32_w]
                        rfl
                      refine last_ (i := 7) (N := none) #[true, true, true, true, true, true, true, true] rfl rfl (one_of HT_.out (by kernel_rfl)) (by decide) (fun K hK => ?_)
                      have hs28 : w27.cell? ⟨gb183, 0, none⟩ = some (.int .u8 x184000_1) := (qQ BK183.out 0).trans rfl
                      have hfs28 := qL BK183.out 0
                      have hns28_1 := NB184_183.out
                      have hms28_1 := NB183_184.out
                      have hs29 : w27.cell? ⟨gb183, 1, none⟩ = some (.int .u8 x184001_1) := (qQ BK183.out 1).trans rfl
                      have hfs29 := qL BK183.out 1
                      have hns29_1 := NB184_183.out
                      have hms29_1 := NB183_184.out
                      refine skip_ (w1 := ?_) (by rfl) rfl ?_ ?_
                      rotate_left
                      · go_simp
                        rfl
                      refine hK.out _ _ ?_
                      clear hK K
                      refine done_ (done_of HT_.out (by kernel_rfl)) ?_
                      try go_wp2
                      go_roundg kj6
                      case measure => have := HK1.out; have := HJ6.out; omega
                      case rel => exact ⟨(x6_6), (wrap64 (x7_1 + 1)), (t200), (t201), (by first | rfl | (simp; done) | (simp [*]; done)), H', ⟨by have := HK1.out; have := HJ6.out; omega⟩, ⟨by (with_reducible repeat (first | apply qJ | apply qI | apply qK)); exact qU (qP (p := ⟨gb183, 1, none⟩) (qP (p := ⟨gb183, 0, none⟩) (qV HO_6.out BK183.out (by decide)) (fun _ hk => hk.2) (.int .u8 t200)) (fun _ hk => hk.2) (.int .u8 t201)) (fun _ hk => trivial)⟩, ⟨by (with_reducible repeat (first | refine qE ?_ _ | refine qH ?_ | refine qD ?_ _)); refine qY (cs := #[.int .u8 t200, .int .u8 x184001_1]) ?_ 1 _ rfl; (with_reducible repeat (first | refine qE ?_ _ | refine qH ?_ | refine qD ?_ _)); refine qY (cs := #[.int .u8 x184000_1, .int .u8 x184001_1]) ?_ 0 _ rfl; (with_reducible repeat (first | refine qE ?_ _ | refine qH ?_ | refine qD ?_ _)); exact BK183.out⟩, ⟨by (with_reducible repeat (first | refine qE ?_ _ | refine qH ?_ | refine qD ?_ _)); refine blk_far ?_ NB184_183.out _; (with_reducible repeat (first | refine qE ?_ _ | refine qH ?_ | refine qD ?_ _)); refine blk_far ?_ NB184_183.out _; (with_reducible repeat (first | refine qE ?_ _ | refine qH ?_ | refine qD ?_ _)); exact BK184.out⟩, ⟨by repeat (first | (with_reducible first | exact HB.out | apply qG | apply qB | apply qF | refine qC ?_ GE183.out | refine qC ?_ GE184.out) | exact HB.out)⟩⟩
                    · rw [if_neg c24] at H
                      have c24b0 : (((rd_T38 l1 x7_1).f0) == 3) = false := beq_eq_false_iff_ne.mpr c24
                      have c24b1 : (((rd_T38 l1 x7_1).f0) != 3) = true := bne_iff_ne.mpr c24
                      have H' := qA H
                      clear H
                      have p190 : 0 ≤ (x7_1 : Int) := of_decide_eq_true (by first | (with_reducible assumption) | assumption)
                      have q190 : x7_1 < (l1.length : Int) := of_decide_eq_true (by first | (with_reducible assumption) | assumption)
                      obtain ⟨ad190, e190, hx190_0, hx190_1⟩ := at_T38 HR1.out x7_1 p190 q190
                      obtain rfl : ad185 = ad190 := (by injection e190)
                      replace hx190_0 := (HB.out.cell (World.block_lt_of_cell? w _ hx190_0)).trans hx190_0
                      replace hx190_1 := (HB.out.cell (World.block_lt_of_cell? w _ hx190_1)).trans hx190_1
                      replace p190 := eq_true p190
                      replace q190 := eq_true q190
                      have p198 : 0 ≤ (x7_1 : Int) := of_decide_eq_true (by first | (with_reducible assumption) | assumption)
                      have q198 : x7_1 < (l1.length : Int) := of_decide_eq_true (by first | (with_reducible assumption) | assumption)
                      obtain ⟨ad198, e198, hx198_0, hx198_1⟩ := at_T38 HR1.out x7_1 p198 q198
                      obtain rfl : ad185 = ad198 := (by injection e198)
                      replace hx198_0 := (HB.out.cell (World.block_lt_of_cell? w _ hx198_0)).trans hx198_0
                      replace hx198_1 := (HB.out.cell (World.block_lt_of_cell? w _ hx198_1)).trans hx198_1
                      replace p198 := eq_true p198
                      replace q198 := eq_true q198
                      go_wp2
                      go_roundg kj6
                      case measure => have := HK1.out; have := HJ6.out; omega
                      case rel => exact ⟨(x6_6), (wrap64 (x7_1 + 1)), (x184000_1), (x184001_1), (by first | rfl | (simp; done) | (simp [*]; done)), H', ⟨by have := HK1.out; have := HJ6.out; omega⟩, ⟨by (with_reducible repeat (first | apply qJ | apply qI | apply qK)); exact HO_6.out⟩, ⟨by (with_reducible repeat (first | refine qE ?_ _ | refine qH ?_ | refine qD ?_ _)); exact BK183.out⟩, ⟨by (with_reducible repeat (first | refine qE ?_ _ | refine qH ?_ | refine qD ?_ _)); exact BK184.out⟩, ⟨by repeat (first | (with_reducible first | exact HB.out | apply qG | apply qB | apply qF | refine qC ?_ GE183.out | refine qC ?_ GE184.out) | exact HB.out)⟩⟩
                · rw [if_neg c13] at H
                  exact absurd H (by simp)
              · rw [if_neg c12] at H
                exact absurd H (by simp)
        · rw [if_neg c6] at H
          exact absurd H (by simp)
      · rw [if_neg c5] at H
        have c5b0 : decide (x7_1 < (l1.length : Int)) = false := decide_eq_false c5
        clear c5
        simp only [Option.some.injEq, Prod.mk.injEq] at H
        obtain ⟨rfl, rfl, rfl⟩ := H
        try go_wp2
        have n0_ := qA (qK HO_6.out)
        have n1_ := qA (qH BK183.out)
        have n2_ := qA (qH BK184.out)
        have n3_ := qA (qF HB.out)
        clear HO_6
        clear BK183
        clear BK184
        clear HB
        have HO_6 := n0_
        have BK183 := n1_
        have BK184 := n2_
        have HB := n3_
        clear n0_ n1_ n2_ n3_
        refine start_ (n := 4) (S := fun w' => w'.cell? ⟨gb183, 0, none⟩ = some (.int .u8 x184000_1) ∧ w'.cell? ⟨gb183, 1, none⟩ = some (.int .u8 x184001_1)) (ds := []) #[false, false, false, false] (by kernel_rfl) rfl rfl ⟨(qQ BK183.out 0).trans rfl, (qQ BK183.out 1).trans rfl⟩ (fun hHeld => ?_)
        generalize wr.drew = w30 at HO_6 BK183 BK184 HB hHeld ⊢
        refine pure_ (i := 0) (N := some 54) (v := ?_) (a' := ?_) #[true, false, false, false] rfl rfl (by kernel_rfl) (fun _ _ _ h => h) (Or.inl ⟨by rfl, ?_⟩) ?_ ?_
        rotate_left
        · intro w'
          go_simp
          with_reducible rfl
        rotate_left
        · simp only [Act.put, qM, qO, qN, i64_w, i32_w]
          rfl
        refine pure_ (i := 2) (N := some 4) (v := ?_) (a' := ?_) #[true, false, true, false] rfl rfl (by kernel_rfl) (fun _ _ _ h => h) (Or.inl ⟨by rfl, ?_⟩) ?_ ?_
        rotate_left
        · intro w'
          go_simp
          with_reducible rfl
        rotate_left
        · simp only [Act.put, qM, qO, qN, i64_w, i32_w]
          rfl
        refine take_ (i := 1) (N := some 55) (v := ?_) (a' := ?_) #[true, true, true, false] rfl rfl (by kernel_rfl) (fun _ _ _ h => h) (Or.inl ⟨by rfl, ?_⟩) hHeld ?_ ?_
        rotate_left
        · rintro w' ⟨s0, s1⟩
          go_simp
          with_reducible rfl
        rotate_left
        · simp only [Act.put, qM, qO, qN, i64_w, i32_w]
          rfl
        refine one_ (i := 3) (N := none) #[true, true, true, true] rfl rfl (by kernel_rfl) (by decide) (fun K hK => ?_)
        have hs31 : w30.cell? ⟨gb184, 0, none⟩ = some (.int .u8 0) := (qQ BK184.out 0).trans rfl
        have hfs31 := qL BK184.out 0
        have hns31_0 := NB183_184.out
        have hms31_0 := NB184_183.out
        have hs32 : w30.cell? ⟨gb184, 1, none⟩ = some (.int .u8 0) := (qQ BK184.out 1).trans rfl
        have hfs32 := qL BK184.out 1
        have hns32_0 := NB183_184.out
        have hms32_0 := NB184_183.out
        refine skip_ (w1 := ?_) (by rfl) rfl ?_ ?_
        rotate_left
        · go_simp
          rfl
        refine hK.out _ _ ⟨((cell_far (p := ⟨gb184, _, none⟩) NB183_184.out _).trans (((cell_far (p := ⟨gb184, _, none⟩) NB183_184.out _).trans (hHeld.1)))), ((cell_far (p := ⟨gb184, _, none⟩) NB183_184.out _).trans (((cell_far (p := ⟨gb184, _, none⟩) NB183_184.out _).trans (hHeld.2))))⟩ (fun hHeld => ?_)
        clear hK K
        refine done_ (by kernel_rfl) ?_
        try go_wp2
        refine bodyPost_ret (results_tc rfl _ _ gb184 47 #[.int .u8 x184000_1, .int .u8 x184001_1] (0, 0) _ rfl (by (with_reducible repeat (first | refine qE ?_ _ | refine qH ?_ | refine qD ?_ _)); refine qY (cs := #[.int .u8 x184000_1, .int .u8 0]) ?_ 1 _ rfl; (with_reducible repeat (first | refine qE ?_ _ | refine qH ?_ | refine qD ?_ _)); refine qY (cs := #[.int .u8 0, .int .u8 0]) ?_ 0 _ rfl; (with_reducible repeat (first | refine qE ?_ _ | refine qH ?_ | refine qD ?_ _)); exact BK184.out) Tryd.underlying47 rfl (by kernel_rfl)) rfl ?_
        exact ⟨_, by first | rfl | (simp [errW_none, errW_some] <;> rfl) | (simp [*, errW_none, errW_some] <;> rfl), by (with_reducible repeat (first | apply qJ | apply qI | apply qK)); exact qU (qP (p := ⟨gb184, 1, none⟩) (qP (p := ⟨gb184, 0, none⟩) (qV HO_6.out BK184.out (by decide)) (fun _ hk => hk.2) (.int .u8 x184000_1)) (fun _ hk => hk.2) (.int .u8 x184001_1)) (fun _ hk => trivial), by repeat (first | (with_reducible first | exact HB.out | apply qG | apply qB | apply qF | refine qC ?_ GE183.out | refine qC ?_ GE184.out) | exact HB.out)⟩
end Go.Proofs.YtdogljnddalgdaaDoor.A6
end
section
namespace Go.Proofs.YtdogljnddalgdaaDoor.A6
open Go.RowKit Go.Proofs.YtdogljnddalgdaaDoorW.PrintWords Go.Proofs.YtdogljnddalgdaaDoorW.PrintLast Go.Proofs.YtdogljnddalgdaaDoorW.PrintMore
open Go.Proofs.YtdogljnddalgdaaDoorW.PrintWords.Aside0 renaming mk → qA
open Go.Proofs.YtdogljnddalgdaaDoorW.PrintWords renaming pw_below_drewN → qB, below_set → qC, blk_alloc → qD, blk_drewN → qE, below_drew1 → qF, below_alloc → qG, blk_drew → qH, blk_frozen → qL, blk_cell → qQ, below_step → qR, below_size → qS, blk_below → qX, blk_put → qY
open Go.Proofs.YtdogljnddalgdaaDoorW.PrintWords.Kd renaming R_drewN → qI, R_alloc → qJ, R_drew → qK, R_far → qP, R_below → qT, R_mono → qU, R_types → qV, R_lower → qW
open List renaming setIfInBounds_toArray → qM, set_cons_succ → qN, set_cons_zero → qO
attribute [local go_sem] max2_int min2_int max_two min_two max_three min_three max_four min_four   -- for this text's walks alone
set_option linter.unusedVariables false
set_option linter.unusedSimpArgs false
def flongref06_Line.f (k : Nat) (a0_0 : Int) (a0_1 : Int) (a1 : ByteArray) : Option ((List (S60)) × Int × Int × (List (S41))) := (flongref04_Scan.f k a1).bind fun bt400 => ((flongref06_Set.f k a0_0 a0_1 bt400.1).bind fun bt406 => (some (bt406.1, bt406.2.1, bt406.2.2, bt400.2)))
set_option maxHeartbeats 8000000 in
set_option maxRecDepth 100000 in
theorem flongref06_Line.calls (k : Nat) (a0_0 : Int) (a0_1 : Int) (a1 : ByteArray) (r1 : List (S60)) (r2 : Int) (r3 : Int) (r4 : List (S41)) (w : World) (h : flongref06_Line.f k a0_0 a0_1 a1 = some (r1, r2, r3, r4)) :
    Calls Tryd.prog 33 #[.agg #[.int .u8 a0_0, .int .u8 a0_1], .string a1] w fun e w' => ∃ v0_ v3_ : Value, e = .returned (.tuple #[v0_, .agg #[.int .u8 r2, .int .u8 r3], v3_]) ∧ Kd.R k60 60 w' w.heap.size (fun _ => True) v0_ r1 ∧ Kd.R k41 41 w' w.heap.size (fun _ => True) v3_ r4 ∧ Below w.heap.size w w' := by
  have hu47 := Tryd.underlying47
  have HB := qA (Below.refl w.heap.size w)
  have H : ((flongref04_Scan.f k a1).bind fun bt400 => ((flongref06_Set.f k a0_0 a0_1 bt400.1).bind fun bt406 => (some (bt406.1, bt406.2.1, bt406.2.2, bt400.2)))) = some (r1, r2, r3, r4) := h
  clear h
  replace H := Option.bind_eq_some_iff.mp H
  obtain ⟨⟨t400, t401⟩, A30, H⟩ := H
  replace H : ((flongref06_Set.f k a0_0 a0_1 t400).bind fun bt406 => (some (bt406.1, bt406.2.1, bt406.2.2, t401))) = some (r1, r2, r3, r4) := H
  have A3 := qA A30
  clear A30
  replace H := Option.bind_eq_some_iff.mp H
  obtain ⟨⟨t406, t409, t410⟩, A40, H⟩ := H
  replace H : (some (t406, t409, t410, t401)) = some (r1, r2, r3, r4) := H
  have A4 := qA A40
  clear A40
  simp only [Option.some.injEq, Prod.mk.injEq] at H
  obtain ⟨rfl, rfl, rfl, rfl⟩ := H
  go_enter Tryd.func33, Tryd.ntmps33
  try go_wp2_with (first | ((with_reducible refine gate_dst (N := 2) rfl ?_); refine box_event ?hg (N := 2) ?hd (cs := #[.int .u8 a0_0, .int .u8 a0_1]) (t := 47) ?hr ?_; (case hd => rfl); (case hg => rfl); (case hr => first | (go_simp; done) | (go_simp; rfl)); intro gb398 hg w5 hbox hb; have n0_ := qA (qR (by repeat (first | (with_reducible first | exact HB.out | apply qG | apply qB | apply qF) | exact HB.out)) hb); have n1_ := qA (hbox); have n2_ := qA ((by rw [hg]; exact (qS (by repeat (first | (with_reducible first | exact HB.out | apply qG | apply qB | apply qF) | exact HB.out))) : w.heap.size ≤ gb398)); have n3_ := qA ((by rw [hg]; exact (qS (by repeat (first | (with_reducible first | exact HB.out | apply qG | apply qB | apply qF) | exact HB.out))) : w.heap.size ≤ gb398)); clear HB; have HB := n0_; have BK398 := n1_; have GW398 := n2_; have GE398 := n3_; clear n0_ n1_ n2_ n3_; clear hb hbox hg) | ((with_reducible refine gate_dst (N := 5) rfl ?_); refine box_event ?hg (N := 5) ?hd (cs := #[.int .u8 0, .int .u8 0]) (t := 47) ?hr ?_; (case hd => rfl); (case hg => rfl); (case hr => first | (go_simp; done) | (go_simp; rfl)); intro gb399 hg w6 hbox hb; have n0_ := qA (qX (g := gb398) (o := .cells #[.int .u8 a0_0, .int .u8 a0_1] 47 (0, 0)) (by (with_reducible repeat (first | refine qE ?_ _ | refine qH ?_ | refine qD ?_ _)); exact BK398.out) hb); have n1_ := qA (qR (by repeat (first | (with_reducible first | exact HB.out | apply qG | apply qB | apply qF | refine qC ?_ GE398.out) | exact HB.out)) hb); have n2_ := qA (hbox); have n3_ := qA ((by rw [hg]; exact (qS (by repeat (first | (with_reducible first | exact HB.out | apply qG | apply qB | apply qF | refine qC ?_ GE398.out) | exact HB.out))) : w.heap.size ≤ gb399)); have n4_ := qA ((by rw [hg]; exact (qS (by repeat (first | (with_reducible first | exact HB.out | apply qG | apply qB | apply qF | refine qC ?_ GE398.out) | exact HB.out))) : w.heap.size ≤ gb399)); have n5_ := qA ((by rw [hg]; exact Nat.ne_of_lt (blk_lt (g := gb398) (o := .cells #[.int .u8 a0_0, .int .u8 a0_1] 47 (0, 0)) (by (with_reducible repeat (first | refine qE ?_ _ | refine qH ?_ | refine qD ?_ _)); exact BK398.out)) : gb398 ≠ gb399)); have n6_ := qA ((by rw [hg]; exact Nat.ne_of_gt (blk_lt (g := gb398) (o := .cells #[.int .u8 a0_0, .int .u8 a0_1] 47 (0, 0)) (by (with_reducible repeat (first | refine qE ?_ _ | refine qH ?_ | refine qD ?_ _)); exact BK398.out)) : gb399 ≠ gb398)); clear BK398; clear HB; have BK398 := n0_; have HB := n1_; have BK399 := n2_; have GW399 := n3_; have GE399 := n4_; have NB398_399 := n5_; have NB399_398 := n6_; clear n0_ n1_ n2_ n3_ n4_ n5_ n6_; clear hb hbox hg) | ((with_reducible refine gate_callee (f := 16) rfl ?_); refine goesL_ (some 13) rfl rfl Tryd.func16 (by kernel_rfl) rfl #[.string a1] rfl (by (try simp only [List.map_toArray, List.map_cons, List.map_nil]); first | done | rfl | (simp only [List.length_drop, List.length_take]; rfl)) ?_; (with_reducible refine (flongref04_Scan.calls k a1 t400 t401 _ A3.out).mono ?_); rintro e w7 ⟨v402, v404, rfl, ho0, ho1, hb⟩; refine ⟨_, rfl, ?_⟩; have n0_ := qA (qW ho0 (qS (by repeat (first | (with_reducible first | exact HB.out | apply qG | apply qB | apply qF | refine qC ?_ GE398.out | refine qC ?_ GE399.out) | exact HB.out)))); have n1_ := qA (qW ho1 (qS (by repeat (first | (with_reducible first | exact HB.out | apply qG | apply qB | apply qF | refine qC ?_ GE398.out | refine qC ?_ GE399.out) | exact HB.out)))); have n2_ := qA (qX (g := gb398) (o := .cells #[.int .u8 a0_0, .int .u8 a0_1] 47 (0, 0)) (by (with_reducible repeat (first | refine qE ?_ _ | refine qH ?_ | refine qD ?_ _)); exact BK398.out) hb); have n3_ := qA (qX (g := gb399) (o := .cells #[.int .u8 0, .int .u8 0] 47 (0, 0)) (by (with_reducible repeat (first | refine qE ?_ _ | refine qH ?_ | refine qD ?_ _)); exact BK399.out) hb); have n4_ := qA (qR (by repeat (first | (with_reducible first | exact HB.out | apply qG | apply qB | apply qF | refine qC ?_ GE398.out | refine qC ?_ GE399.out) | exact HB.out)) hb); clear BK398; clear BK399; clear HB; have HO403 := n0_; have HO405 := n1_; have BK398 := n2_; have BK399 := n3_; have HB := n4_; clear n0_ n1_ n2_ n3_ n4_; (try clear hb); (try clear hb2); (try clear hk); (try clear hi); (try clear ho0); (try clear ho1); have hnb8 := NB398_399.out; have hnc8 := NB399_398.out; have hcz9_0 : w7.cell? ⟨gb398, 0, none⟩ = some (.int .u8 a0_0) := (qQ BK398.out 0).trans rfl; have hcz9_1 : w7.cell? ⟨gb398, 1, none⟩ = some (.int .u8 a0_1) := (qQ BK398.out 1).trans rfl; have hfz9_0 := qL BK398.out 0; have hfz9_1 := qL BK398.out 1; obtain ⟨Ao10, co10, eo10⟩ := Kd.R_slice HO403.out; subst eo10) | ((with_reducible refine gate_callee (f := 31) rfl ?_); refine goesL_ (some 19) rfl rfl Tryd.func31 (by kernel_rfl) rfl #[.agg #[.int .u8 a0_0, .int .u8 a0_1], .slice Ao10 t400.length co10] rfl (by (try simp only [List.map_toArray, List.map_cons, List.map_nil]); first | done | rfl | (simp only [List.length_drop, List.length_take]; rfl)) ?_; (with_reducible refine (flongref06_Set.calls k a0_0 a0_1 _ _ t400 t406 t409 t410 _ ?side1 ?side2 A4.out).mono ?_); (case side1 => repeat (first | exact (Kd.R_reads' HO403.out).2.2 | (with_reducible refine Kd.C_alloc ?_ _) | (with_reducible refine Kd.C_drewN ?_ _) | (with_reducible refine Kd.C_drew ?_))); (case side2 => exact (Kd.R_reads' HO403.out).2.1); rintro e w11 ⟨v407, rfl, ho0, hb⟩; refine ⟨_, rfl, ?_⟩; have n0_ := qA (qT (by (with_reducible repeat (first | apply qJ | apply qI | apply qK)); exact HO403.out) hb); have n1_ := qA (qT (by (with_reducible repeat (first | apply qJ | apply qI | apply qK)); exact HO405.out) hb); have n2_ := qA (qW ho0 (qS (by repeat (first | (with_reducible first | exact HB.out | apply qG | apply qB | apply qF | refine qC ?_ GE398.out | refine qC ?_ GE399.out) | exact HB.out)))); have n3_ := qA (qX (g := gb398) (o := .cells #[.int .u8 a0_0, .int .u8 a0_1] 47 (0, 0)) (by (with_reducible repeat (first | refine qE ?_ _ | refine qH ?_ | refine qD ?_ _)); exact BK398.out) hb); have n4_ := qA (qX (g := gb399) (o := .cells #[.int .u8 0, .int .u8 0] 47 (0, 0)) (by (with_reducible repeat (first | refine qE ?_ _ | refine qH ?_ | refine qD ?_ _)); exact BK399.out) hb); have n5_ := qA (qR (by repeat (first | (with_reducible first | exact HB.out | apply qG | apply qB | apply qF | refine qC ?_ GE398.out | refine qC ?_ GE399.out) | exact HB.out)) hb); clear HO403; clear HO405; clear BK398; clear BK399; clear HB; have HO403 := n0_; have HO405 := n1_; have HO408 := n2_; have BK398 := n3_; have BK399 := n4_; have HB := n5_; clear n0_ n1_ n2_ n3_ n4_ n5_; (try clear hb); (try clear hb2); (try clear hk); (try clear hi); (try clear ho0)) | ((with_reducible refine gate_dst (N := 10) rfl ?_); refine box_event ?hg (N := 10) ?hd (cs := #[.int .u8 0, .int .u8 0]) (t := 47) ?hr ?_; (case hd => rfl); (case hg => rfl); (case hr => first | (go_simp; done) | (go_simp; rfl)); intro gb411 hg w12 hbox hb; have n0_ := qA (qT (by (with_reducible repeat (first | apply qJ | apply qI | apply qK)); exact HO403.out) hb); have n1_ := qA (qT (by (with_reducible repeat (first | apply qJ | apply qI | apply qK)); exact HO405.out) hb); have n2_ := qA (qT (by (with_reducible repeat (first | apply qJ | apply qI | apply qK)); exact HO408.out) hb); have n3_ := qA (qX (g := gb398) (o := .cells #[.int .u8 a0_0, .int .u8 a0_1] 47 (0, 0)) (by (with_reducible repeat (first | refine qE ?_ _ | refine qH ?_ | refine qD ?_ _)); exact BK398.out) hb); have n4_ := qA (qX (g := gb399) (o := .cells #[.int .u8 0, .int .u8 0] 47 (0, 0)) (by (with_reducible repeat (first | refine qE ?_ _ | refine qH ?_ | refine qD ?_ _)); exact BK399.out) hb); have n5_ := qA (qR (by repeat (first | (with_reducible first | exact HB.out | apply qG | apply qB | apply qF | refine qC ?_ GE398.out | refine qC ?_ GE399.out) | exact HB.out)) hb); have n6_ := qA (hbox); have n7_ := qA ((by rw [hg]; exact (qS (by repeat (first | (with_reducible first | exact HB.out | apply qG | apply qB | apply qF | refine qC ?_ GE398.out | refine qC ?_ GE399.out) | exact HB.out))) : w.heap.size ≤ gb411)); have n8_ := qA ((by rw [hg]; exact (qS (by repeat (first | (with_reducible first | exact HB.out | apply qG | apply qB | apply qF | refine qC ?_ GE398.out | refine qC ?_ GE399.out) | exact HB.out))) : w.heap.size ≤ gb411)); have n9_ := qA ((by rw [hg]; exact Nat.ne_of_lt (blk_lt (g := gb398) (o := .cells #[.int .u8 a0_0, .int .u8 a0_1] 47 (0, 0)) (by (with_reducible repeat (first | refine qE ?_ _ | refine qH ?_ | refine qD ?_ _)); exact BK398.out)) : gb398 ≠ gb411)); have n10_ := qA ((by rw [hg]; exact Nat.ne_of_gt (blk_lt (g := gb398) (o := .cells #[.int .u8 a0_0, .int .u8 a0_1] 47 (0, 0)) (by (with_reducible repeat (first | refine qE ?_ _ | refine qH ?_ | refine qD ?_ _)); exact BK398.out)) : gb411 ≠ gb398)); have n11_ := qA ((by rw [hg]; exact Nat.ne_of_lt (blk_lt (g := gb399) (o := .cells #[.int .u8 0, .int .u8 0] 47 (0, 0)) (by (with_reducible repeat (first | refine qE ?_ _ | refine qH ?_ | refine qD ?_ _)); exact BK399.out)) : gb399 ≠ gb411)); have n12_ := qA ((by rw [hg]; exact Nat.ne_of_gt (blk_lt (g := gb399) (o := .cells #[.int .u8 0, .int .u8 0] 47 (0, 0)) (by (with_reducible repeat (first | refine qE ?_ _ | refine qH ?_ | refine qD ?_ _)); exact BK399.out)) : gb411 ≠ gb399)); clear HO403; clear HO405; clear HO408; clear BK398; clear BK399; clear HB; have HO403 := n0_; have HO405 := n1_; have HO408 := n2_; have BK398 := n3_; have BK399 := n4_; have HB := n5_; have BK411 := n6_; have GW411 := n7_; have GE411 := n8_; have NB398_411 := n9_; have NB411_398 := n10_; have NB399_411 := n11_; have NB411_399 := n12_; clear n0_ n1_ n2_ n3_ n4_ n5_ n6_ n7_ n8_ n9_ n10_ n11_ n12_; clear hb hbox hg; have hnb13 := NB411_398.out; have hnc13 := NB398_411.out; have hnb14 := NB411_399.out; have hnc14 := NB399_411.out; have hcz15_0 : w12.cell? ⟨gb411, 0, none⟩ = some (.int .u8 0) := (qQ BK411.out 0).trans rfl; have hcz15_1 : w12.cell? ⟨gb411, 1, none⟩ = some (.int .u8 0) := (qQ BK411.out 1).trans rfl; have hfz15_0 := qL BK411.out 0; have hfz15_1 := qL BK411.out 1))
  have n0_ : Aside0 (Kd.R k38 38 ((w12.setCell ⟨gb411, 0, none⟩ (.int .u8 t409)).setCell ⟨gb411, 1, none⟩ (.int .u8 t410)) w.heap.size (fun _ => True) (.slice Ao10 t400.length co10) t400) := ⟨by (with_reducible repeat (first | apply qJ | apply qI | apply qK)); exact qU (qP (p := ⟨gb411, 1, none⟩) (qP (p := ⟨gb411, 0, none⟩) (qV HO403.out BK411.out (by decide)) (fun _ hk => hk.2) (.int .u8 t409)) (fun _ hk => hk.2) (.int .u8 t410)) (fun _ hk => trivial)⟩
  have n1_ : Aside0 (Kd.R k41 41 ((w12.setCell ⟨gb411, 0, none⟩ (.int .u8 t409)).setCell ⟨gb411, 1, none⟩ (.int .u8 t410)) w.heap.size (fun _ => True) v404 t401) := ⟨by (with_reducible repeat (first | apply qJ | apply qI | apply qK)); exact qU (qP (p := ⟨gb411, 1, none⟩) (qP (p := ⟨gb411, 0, none⟩) (qV HO405.out BK411.out (by decide)) (fun _ hk => hk.2) (.int .u8 t409)) (fun _ hk => hk.2) (.int .u8 t410)) (fun _ hk => trivial)⟩
  have n2_ : Aside0 (Kd.R k60 60 ((w12.setCell ⟨gb411, 0, none⟩ (.int .u8 t409)).setCell ⟨gb411, 1, none⟩ (.int .u8 t410)) w.heap.size (fun _ => True) v407 t406) := ⟨by (with_reducible repeat (first | apply qJ | apply qI | apply qK)); exact qU (qP (p := ⟨gb411, 1, none⟩) (qP (p := ⟨gb411, 0, none⟩) (qV HO408.out BK411.out (by decide)) (fun _ hk => hk.2) (.int .u8 t409)) (fun _ hk => hk.2) (.int .u8 t410)) (fun _ hk => trivial)⟩
  have n3_ : Aside0 (((w12.setCell ⟨gb411, 0, none⟩ (.int .u8 t409)).setCell ⟨gb411, 1, none⟩ (.int .u8 t410)).heap[gb398]? = some (.cells #[.int .u8 a0_0, .int .u8 a0_1] 47 (0, 0))) := ⟨by (with_reducible repeat (first | refine qE ?_ _ | refine qH ?_ | refine qD ?_ _)); refine blk_far ?_ NB398_411.out _; (with_reducible repeat (first | refine qE ?_ _ | refine qH ?_ | refine qD ?_ _)); refine blk_far ?_ NB398_411.out _; (with_reducible repeat (first | refine qE ?_ _ | refine qH ?_ | refine qD ?_ _)); exact BK398.out⟩
  have n4_ : Aside0 (((w12.setCell ⟨gb411, 0, none⟩ (.int .u8 t409)).setCell ⟨gb411, 1, none⟩ (.int .u8 t410)).heap[gb399]? = some (.cells #[.int .u8 0, .int .u8 0] 47 (0, 0))) := ⟨by (with_reducible repeat (first | refine qE ?_ _ | refine qH ?_ | refine qD ?_ _)); refine blk_far ?_ NB399_411.out _; (with_reducible repeat (first | refine qE ?_ _ | refine qH ?_ | refine qD ?_ _)); refine blk_far ?_ NB399_411.out _; (with_reducible repeat (first | refine qE ?_ _ | refine qH ?_ | refine qD ?_ _)); exact BK399.out⟩
  have n5_ : Aside0 (((w12.setCell ⟨gb411, 0, none⟩ (.int .u8 t409)).setCell ⟨gb411, 1, none⟩ (.int .u8 t410)).heap[gb411]? = some (.cells #[.int .u8 t409, .int .u8 t410] 47 (0, 0))) := ⟨by (with_reducible repeat (first | refine qE ?_ _ | refine qH ?_ | refine qD ?_ _)); refine qY (cs := #[.int .u8 t409, .int .u8 0]) ?_ 1 _ rfl; (with_reducible repeat (first | refine qE ?_ _ | refine qH ?_ | refine qD ?_ _)); refine qY (cs := #[.int .u8 0, .int .u8 0]) ?_ 0 _ rfl; (with_reducible repeat (first | refine qE ?_ _ | refine qH ?_ | refine qD ?_ _)); exact BK411.out⟩
  have n6_ : Aside0 (Below w.heap.size w ((w12.setCell ⟨gb411, 0, none⟩ (.int .u8 t409)).setCell ⟨gb411, 1, none⟩ (.int .u8 t410))) := ⟨by repeat (first | (with_reducible first | exact HB.out | apply qG | apply qB | apply qF | refine qC ?_ GE398.out | refine qC ?_ GE399.out | refine qC ?_ GE411.out) | exact HB.out)⟩
  (try clear HO403)
  (try clear HO405)
  (try clear HO408)
  (try clear BK398)
  (try clear BK399)
  (try clear BK411)
  (try clear HB)
  generalize ((w12.setCell ⟨gb411, 0, none⟩ (.int .u8 t409)).setCell ⟨gb411, 1, none⟩ (.int .u8 t410)) = w16 at n0_ n1_ n2_ n3_ n4_ n5_ n6_ ⊢
  have HO403 := n0_
  have HO405 := n1_
  have HO408 := n2_
  have BK398 := n3_
  have BK399 := n4_
  have BK411 := n5_
  have HB := n6_
  clear n0_ n1_ n2_ n3_ n4_ n5_ n6_
  have n0_ := qA (qK HO403.out)
  have n1_ := qA (qK HO405.out)
  have n2_ := qA (qK HO408.out)
  have n3_ := qA (qH BK398.out)
  have n4_ := qA (qH BK399.out)
  have n5_ := qA (qH BK411.out)
  have n6_ := qA (qF HB.out)
  clear HO403
  clear HO405
  clear HO408
  clear BK398
  clear BK399
  clear BK411
  clear HB
  have HO403 := n0_
  have HO405 := n1_
  have HO408 := n2_
  have BK398 := n3_
  have BK399 := n4_
  have BK411 := n5_
  have HB := n6_
  clear n0_ n1_ n2_ n3_ n4_ n5_ n6_
  refine start_ (n := 6) (S := fun w' => w'.cell? ⟨gb411, 0, none⟩ = some (.int .u8 t409) ∧ w'.cell? ⟨gb411, 1, none⟩ = some (.int .u8 t410)) (ds := []) #[false, false, false, false, false, false] (by kernel_rfl) rfl rfl ⟨(qQ BK411.out 0).trans rfl, (qQ BK411.out 1).trans rfl⟩ (fun hHeld => ?_)
  generalize w16.drew = w17 at HO403 HO405 HO408 BK398 BK399 BK411 HB hHeld ⊢
  refine pure_ (i := 0) (N := some 22) (v := ?_) (a' := ?_) #[true, false, false, false, false, false] rfl rfl (by kernel_rfl) (fun _ _ _ h => h) (Or.inl ⟨by rfl, ?_⟩) ?_ ?_
  rotate_left
  · intro w'
    go_simp
    with_reducible rfl
  rotate_left
  · simp only [Act.put, qM, qO, qN, i64_w, i32_w]
    rfl
  refine pure_ (i := 2) (N := some 24) (v := ?_) (a' := ?_) #[true, false, true, false, false, false] rfl rfl (by kernel_rfl) (fun _ _ _ h => h) (Or.inl ⟨by rfl, ?_⟩) ?_ ?_
  rotate_left
  · intro w'
    go_simp
    with_reducible rfl
  rotate_left
  · simp only [Act.put, qM, qO, qN, i64_w, i32_w]
    rfl
  refine pure_ (i := 3) (N := some 4) (v := ?_) (a' := ?_) #[true, false, true, true, false, false] rfl rfl (by kernel_rfl) (fun _ _ _ h => h) (Or.inl ⟨by rfl, ?_⟩) ?_ ?_
  rotate_left
  · intro w'
    go_simp
    with_reducible rfl
  rotate_left
  · simp only [Act.put, qM, qO, qN, i64_w, i32_w]
    rfl
  refine take_ (i := 1) (N := some 23) (v := ?_) (a' := ?_) #[true, true, true, true, false, false] rfl rfl (by kernel_rfl) (fun _ _ _ h => h) (Or.inl ⟨by rfl, ?_⟩) hHeld ?_ ?_
  rotate_left
  · rintro w' ⟨s0, s1⟩
    go_simp
    with_reducible rfl
  rotate_left
  · simp only [Act.put, qM, qO, qN, i64_w, i32_w]
    rfl
  refine one_ (i := 4) (N := none) #[true, true, true, true, true, false] rfl rfl (by kernel_rfl) (by decide) (fun K hK => ?_)
  have hs18 : w17.cell? ⟨gb399, 0, none⟩ = some (.int .u8 0) := (qQ BK399.out 0).trans rfl
  have hfs18 := qL BK399.out 0
  have hns18_0 := NB398_399.out
  have hns18_2 := NB411_399.out
  have hms18_0 := NB399_398.out
  have hms18_2 := NB399_411.out
  have hs19 : w17.cell? ⟨gb399, 1, none⟩ = some (.int .u8 0) := (qQ BK399.out 1).trans rfl
  have hfs19 := qL BK399.out 1
  have hns19_0 := NB398_399.out
  have hns19_2 := NB411_399.out
  have hms19_0 := NB399_398.out
  have hms19_2 := NB399_411.out
  refine skip_ (w1 := ?_) (by rfl) rfl ?_ ?_
  rotate_left
  · go_simp
    rfl
  refine hK.out _ _ ⟨((cell_far (p := ⟨gb399, _, none⟩) NB411_399.out _).trans (((cell_far (p := ⟨gb399, _, none⟩) NB411_399.out _).trans (hHeld.1)))), ((cell_far (p := ⟨gb399, _, none⟩) NB411_399.out _).trans (((cell_far (p := ⟨gb399, _, none⟩) NB411_399.out _).trans (hHeld.2))))⟩ (fun hHeld => ?_)
  clear hK K
  refine pure_ (i := 5) (N := some 6) (v := ?_) (a' := ?_) #[true, true, true, true, true, true] rfl rfl (by kernel_rfl) (fun _ _ _ h => h) (Or.inl ⟨by rfl, ?_⟩) ?_ ?_
  rotate_left
  · intro w'
    go_simp
    with_reducible rfl
  rotate_left
  · simp only [Act.put, qM, qO, qN, i64_w, i32_w]
    rfl
  refine done_ (by kernel_rfl) ?_
  try go_wp2
  refine bodyPost_ret (results_list (rs := [.tmp 4, .cell 5 47, .tmp 6]) rfl (by simp) (.tmp (.cell gb399 47 #[.int .u8 t409, .int .u8 t410] (0, 0) _ rfl (by (with_reducible repeat (first | refine qE ?_ _ | refine qH ?_ | refine qD ?_ _)); refine qY (cs := #[.int .u8 t409, .int .u8 0]) ?_ 1 _ rfl; (with_reducible repeat (first | refine qE ?_ _ | refine qH ?_ | refine qD ?_ _)); refine qY (cs := #[.int .u8 0, .int .u8 0]) ?_ 0 _ rfl; (with_reducible repeat (first | refine qE ?_ _ | refine qH ?_ | refine qD ?_ _)); exact BK399.out) Tryd.underlying47 rfl (by kernel_rfl) (.tmp .nil)))) rfl ?_
  exact ⟨_, _, by first | rfl | (simp [errW_none, errW_some] <;> rfl) | (simp [*, errW_none, errW_some] <;> rfl), by (with_reducible repeat (first | apply qJ | apply qI | apply qK)); exact qU (qP (p := ⟨gb399, 1, none⟩) (qP (p := ⟨gb399, 0, none⟩) (qV HO408.out BK399.out (by decide)) (fun _ hk => hk.2) (.int .u8 t409)) (fun _ hk => hk.2) (.int .u8 t410)) (fun _ hk => trivial), by (with_reducible repeat (first | apply qJ | apply qI | apply qK)); exact qU (qP (p := ⟨gb399, 1, none⟩) (qP (p := ⟨gb399, 0, none⟩) (qV HO405.out BK399.out (by decide)) (fun _ hk => hk.2) (.int .u8 t409)) (fun _ hk => hk.2) (.int .u8 t410)) (fun _ hk => trivial), by repeat (first | (with_reducible first | exact HB.out | apply qG | apply qB | apply qF | refine qC ?_ GE398.out | refine qC ?_ GE399.out | refine qC ?_ GE411.out) | exact HB.out)⟩
end Go.Proofs.YtdogljnddalgdaaDoor.A6
end
