/- Of what the law StylesSets needs: part 8. -/
import Derived.Test.YtdogljnddalgdaaDoorBSets7
namespace Go.Proofs.YtdogljnddalgdaaDoorW.PrintLast
end Go.Proofs.YtdogljnddalgdaaDoorW.PrintLast
namespace Go.Proofs.YtdogljnddalgdaaDoorW.PrintMore
end Go.Proofs.YtdogljnddalgdaaDoorW.PrintMore
namespace Go.Proofs.YtdogljnddalgdaaDoorW.PrintWords
end Go.Proofs.YtdogljnddalgdaaDoorW.PrintWords
namespace Go.Proofs.YtdogljnddalgdaaDoorW.PrintWords.Aside0
end Go.Proofs.YtdogljnddalgdaaDoorW.PrintWords.Aside0
namespace Go.Proofs.YtdogljnddalgdaaDoorW.PrintWords.Kd
end Go.Proofs.YtdogljnddalgdaaDoorW.PrintWords.Kd
section
namespace Go.Proofs.YtdogljnddalgdaaDoor.A6
open Go.RowKit Go.Proofs.YtdogljnddalgdaaDoorW.PrintWords Go.Proofs.YtdogljnddalgdaaDoorW.PrintLast Go.Proofs.YtdogljnddalgdaaDoorW.PrintMore
open Go.Proofs.YtdogljnddalgdaaDoorW.PrintWords.Aside0 renaming mk → qA
open Go.Proofs.YtdogljnddalgdaaDoorW.PrintWords renaming pw_below_drewN → qB, below_drew1 → qF, below_alloc → qG
open Go.Proofs.YtdogljnddalgdaaDoorW.PrintWords.Kd renaming R_drewN → qI, R_alloc → qJ, R_drew → qK, R_below → qT
attribute [local go_sem] max2_int min2_int max_two min_two max_three min_three max_four min_four   -- for this text's walks alone
set_option linter.unusedVariables false
set_option linter.unusedSimpArgs false
mutual
def flongref02_Decode.l0 : Nat → List Int → List Int → Int → Option (List Int)
  | 0, _, _, _ => none
  | k + 1, x0, x3, x4 => if x4 < (x0.length : Int) then (flongref02_Decode.l1 k x0 x3 x4 0 1) else (some x3)
def flongref02_Decode.l1 : Nat → List Int → List Int → Int → Int → Int → Option (List Int)
  | 0, _, _, _, _, _ => none
  | k + 1, x0, x3, x4, x5, x6 => if x6 ≤ 4 then (if (wrap64 (x4 + x6)) ≤ (x0.length : Int) then (flongref02_Decode.j2 k x0 x3 x4 x5 x6 (x5 == 0)) else (flongref02_Decode.j2 k x0 x3 x4 x5 x6 false)) else (flongref02_Decode.j2 k x0 x3 x4 x5 x6 false)
def flongref02_Decode.j2 : Nat → List Int → List Int → Int → Int → Int → Bool → Option (List Int)
  | 0, _, _, _, _, _, _ => none
  | k + 1, x0, x3, x4, x5, x6, x24 => if x24 = true then (if 0 ≤ x4 then (if x4 ≤ (wrap64 (x4 + x6)) then (if (wrap64 (x4 + x6)) ≤ (x0.length : Int) then ((flongref02_is.f k ((x0.take ((wrap64 (x4 + x6)) : Int).toNat).drop (x4 : Int).toNat)).bind fun t223 => (if t223 = true then (flongref02_Decode.l1 k x0 x3 x4 x6 (wrap64 (x6 + 1))) else (flongref02_Decode.l1 k x0 x3 x4 x5 (wrap64 (x6 + 1))))) else (none)) else (none)) else (none)) else (if x5 = 0 then (if x3.length < 35184372088832 then (flongref02_Decode.l0 k x0 (x3 ++ [65533]) (wrap64 (x4 + 1))) else (none)) else (if 0 ≤ x4 then (if x4 ≤ (wrap64 (x4 + x5)) then (if (wrap64 (x4 + x5)) ≤ (x0.length : Int) then ((flongref02_value.f k ((x0.take ((wrap64 (x4 + x5)) : Int).toNat).drop (x4 : Int).toNat)).bind fun t228 => (if x3.length < 35184372088832 then (flongref02_Decode.l0 k x0 (x3 ++ [wrap32 (t228)]) (wrap64 (x4 + x5))) else (none))) else (none)) else (none)) else (none)))
end
def flongref02_Decode.f (k : Nat) (l0 : List Int) : Option (List Int) := flongref02_Decode.l0 k l0 ([] : List Int) 0
set_option maxHeartbeats 8000000 in
set_option maxRecDepth 100000 in
theorem flongref02_Decode.calls (k : Nat) (A0 : Option Addr) (c0 : Nat) (l0 : List Int) (r : List Int) (w : World) (hr0 : Kd.C (Kd.int .u8) w A0 l0.length l0) (hc0 : l0.length ≤ c0) (h : flongref02_Decode.f k l0 = some r) :
    Calls Tryd.prog 25 #[.slice A0 l0.length c0] w fun e w' => ∃ v0_ : Value, e = .returned (v0_) ∧ Kd.R (Kd.int .i32) 21 w' w.heap.size (fun _ => True) v0_ r ∧ Below w.heap.size w w' := by
  have HR0 := qA hr0
  have HC0 := qA hc0
  clear hr0 hc0
  have HB := qA (Below.refl w.heap.size w)
  have H : (flongref02_Decode.l0 k l0 ([] : List Int) 0) = some r := h
  clear h
  have H' := qA H
  clear H
  go_enter Tryd.func25, Tryd.ntmps25
  go_wp2
  go_loopg [3, 4] k (fun kq v3 v4 w' => ∃ (x3_1 : List Int) (x4_1 : Int), v4 = .int .i64 x4_1 ∧ Aside0 (flongref02_Decode.l0 kq l0 x3_1 x4_1 = some r) ∧ Aside0 (kq ≤ k) ∧ Aside0 (Kd.R (Kd.int .i32) 21 w' w.heap.size (fun _ => True) v3 x3_1) ∧ Aside0 (Below w.heap.size w w'))
  case atStart => exact ⟨(([] : List Int)), (0), (by first | rfl | (simp; done) | (simp [*]; done)), H', ⟨Nat.le_refl _⟩, ⟨by first | exact Kd.R_nil _ _ _ _ _ | exact Kd.N_nil _ _ _ _ _ | exact Kd.V_nil _ _ _ _ _ | exact Kd.Q_nil _ _ _ _ _ | exact Kd.S_nil _ _ _ _ _⟩, ⟨by repeat (first | (with_reducible first | exact HB.out | apply qG | apply qB | apply qF) | exact HB.out)⟩⟩
  case round =>
    clear H'
    obtain ⟨x3_1, x4_1, rfl, HA, HK1, HO_3, HB⟩ := hrel
    cases gk with
    | zero => exact absurd HA.out (by simp [flongref02_Decode.l0])
    | succ k1 =>
      have H := HA.out
      clear HA
      simp only [flongref02_Decode.l0] at H
      by_cases c2 : x4_1 < (l0.length : Int)
      · rw [if_pos c2] at H
        have c2b0 : decide (x4_1 < (l0.length : Int)) = true := decide_eq_true c2
        clear c2
        have H' := qA H
        clear H
        go_wp2
        go_loopg [5, 6] k1 (fun kq v5 v6 w' => ∃ (x5_2 : Int) (x6_2 : Int), v5 = .int .i64 x5_2 ∧ v6 = .int .i64 x6_2 ∧ Aside0 (flongref02_Decode.l1 kq l0 x3_1 x4_1 x5_2 x6_2 = some r) ∧ Aside0 (kq ≤ k1) ∧ Aside0 (Kd.R (Kd.int .i32) 21 w' w.heap.size (fun _ => True) u3 x3_1) ∧ Aside0 (Below w.heap.size w w'))
        case atStart => exact ⟨(0), (1), (by first | rfl | (simp; done) | (simp [*]; done)), (by first | rfl | (simp; done) | (simp [*]; done)), H', ⟨Nat.le_refl _⟩, ⟨by (with_reducible repeat (first | apply qJ | apply qI | apply qK)); exact HO_3.out⟩, ⟨by repeat (first | (with_reducible first | exact HB.out | apply qG | apply qB | apply qF) | exact HB.out)⟩⟩
        case round =>
          clear H'
          try clear c2
          try clear c2b0
          try clear p2
          obtain ⟨x5_2, x6_2, rfl, rfl, HA, HK2, HO_3, HB⟩ := hrel
          cases gk with
          | zero => exact absurd HA.out (by simp [flongref02_Decode.l1])
          | succ k2 =>
            have H := HA.out
            clear HA
            simp only [flongref02_Decode.l1] at H
            have HC3 := qA H
            clear H
            go_upto_region 6 with (fail)
            go_cut [24] (fun v24 wc => ∃ (kq : Nat) (x24_2 : Bool), v24 = .bool x24_2 ∧ Aside0 (flongref02_Decode.j2 kq l0 x3_1 x4_1 x5_2 x6_2 x24_2 = some r) ∧ Aside0 (kq ≤ k2) ∧ Aside0 (Kd.R (Kd.int .i32) 21 wc w.heap.size (fun _ => True) u3 x3_1) ∧ Aside0 (Below w.heap.size w wc))
            case first =>
              have H := HC3.out
              clear HC3
              by_cases c4 : x6_2 ≤ 4
              · rw [if_pos c4] at H
                have c4b0 : decide (x6_2 ≤ 4) = true := decide_eq_true c4
                clear c4
                (first | rw [c4b0] | (simp only [i64_w, i32_w]; rw [c4b0]) | skip)
                by_cases c5 : (wrap64 (x4_1 + x6_2)) ≤ (l0.length : Int)
                · rw [if_pos c5] at H
                  have c5b0 : decide ((wrap64 (x4_1 + x6_2)) ≤ (l0.length : Int)) = true := decide_eq_true c5
                  clear c5
                  have H' := qA H
                  clear H
                  go_wp2
                  go_meet
                  case rel => exact ⟨_, ((x5_2 == 0)), (by first | rfl | (simp; done) | (simp [*]; done)), H', ⟨by have := HK1.out; have := HK2.out; first | omega | exact Nat.le_refl _⟩, ⟨by (with_reducible repeat (first | apply qJ | apply qI | apply qK)); exact HO_3.out⟩, ⟨by repeat (first | (with_reducible first | exact HB.out | apply qG | apply qB | apply qF) | exact HB.out)⟩⟩
                · rw [if_neg c5] at H
                  have c5b0 : decide ((wrap64 (x4_1 + x6_2)) ≤ (l0.length : Int)) = false := decide_eq_false c5
                  clear c5
                  have H' := qA H
                  clear H
                  go_wp2
                  go_meet
                  case rel => exact ⟨_, (false), (by first | rfl | (simp; done) | (simp [*]; done)), H', ⟨by have := HK1.out; have := HK2.out; first | omega | exact Nat.le_refl _⟩, ⟨by (with_reducible repeat (first | apply qJ | apply qI | apply qK)); exact HO_3.out⟩, ⟨by repeat (first | (with_reducible first | exact HB.out | apply qG | apply qB | apply qF) | exact HB.out)⟩⟩
              · rw [if_neg c4] at H
                have c4b0 : decide (x6_2 ≤ 4) = false := decide_eq_false c4
                clear c4
                (first | rw [c4b0] | (simp only [i64_w, i32_w]; rw [c4b0]) | skip)
                have H' := qA H
                clear H
                go_wp2
                go_meet
                case rel => exact ⟨_, (false), (by first | rfl | (simp; done) | (simp [*]; done)), H', ⟨by have := HK1.out; have := HK2.out; first | omega | exact Nat.le_refl _⟩, ⟨by (with_reducible repeat (first | apply qJ | apply qI | apply qK)); exact HO_3.out⟩, ⟨by repeat (first | (with_reducible first | exact HB.out | apply qG | apply qB | apply qF) | exact HB.out)⟩⟩
            case rest =>
              clear HC3
              try clear c2
              try clear c2b0
              try clear p2
              try clear c4
              try clear c4b0
              try clear c5
              try clear c5b0
              try clear p2
              obtain ⟨kq, x24_2, rfl, HA, HJ2, HO_3, HB⟩ := hcut
              cases kq with
              | zero => exact absurd HA.out (by simp [flongref02_Decode.j2])
              | succ kj2 =>
                have H := HA.out
                clear HA
                simp only [flongref02_Decode.j2] at H
                by_cases c6 : x24_2 = true
                · subst c6
                  have H1 : (if 0 ≤ x4_1 then (if x4_1 ≤ (wrap64 (x4_1 + x6_2)) then (if (wrap64 (x4_1 + x6_2)) ≤ (l0.length : Int) then ((flongref02_is.f kj2 ((l0.take ((wrap64 (x4_1 + x6_2)) : Int).toNat).drop (x4_1 : Int).toNat)).bind fun t223 => (if t223 = true then (flongref02_Decode.l1 kj2 l0 x3_1 x4_1 x6_2 (wrap64 (x6_2 + 1))) else (flongref02_Decode.l1 kj2 l0 x3_1 x4_1 x5_2 (wrap64 (x6_2 + 1))))) else (none)) else (none)) else (none)) = some r := by rw [if_pos rfl] at H; exact H
                  clear H
                  have H := H1
                  clear H1
                  by_cases c7 : 0 ≤ x4_1
                  · rw [if_pos c7] at H
                    have c7b0 := eq_true c7
                    have c7b1 : decide (0 ≤ x4_1) = true := decide_eq_true c7
                    clear c7
                    by_cases c8 : x4_1 ≤ (wrap64 (x4_1 + x6_2))
                    · rw [if_pos c8] at H
                      have c8b0 := eq_true c8
                      have c8b1 : decide (x4_1 ≤ (wrap64 (x4_1 + x6_2))) = true := decide_eq_true c8
                      by_cases c9 : (wrap64 (x4_1 + x6_2)) ≤ (l0.length : Int)
                      · rw [if_pos c9] at H
                        have c9b0 := eq_true c9
                        have c9b1 : decide ((wrap64 (x4_1 + x6_2)) ≤ (l0.length : Int)) = true := decide_eq_true c9
                        replace H := Option.bind_eq_some_iff.mp H
                        obtain ⟨t223, A100, H⟩ := H
                        replace H : (if t223 = true then (flongref02_Decode.l1 kj2 l0 x3_1 x4_1 x6_2 (wrap64 (x6_2 + 1))) else (flongref02_Decode.l1 kj2 l0 x3_1 x4_1 x5_2 (wrap64 (x6_2 + 1)))) = some r := H
                        have A10 := qA A100
                        clear A100
                        by_cases c11 : t223 = true
                        · subst c11
                          have H1 : (flongref02_Decode.l1 kj2 l0 x3_1 x4_1 x6_2 (wrap64 (x6_2 + 1))) = some r := by rw [if_pos rfl] at H; exact H
                          clear H
                          have H := H1
                          clear H1
                          have H' := qA H
                          clear H
                          obtain ⟨i012, hi012, _, hsz12, _⟩ := info_parts info5
                          obtain ⟨A12, hcut12, hA12, hC12⟩ := print_mid_of (P := Tryd.prog) (Value.int .u8) 0 36 5 .i64 .i64 Tryd.underlying36 hi012 hsz12 A0 c0 l0 x4_1 (wrap64 (x4_1 + x6_2)) (of_decide_eq_true (by first | (with_reducible assumption) | assumption)) (by first | omega | exact of_decide_eq_true (by first | (with_reducible assumption) | assumption)) (of_decide_eq_true (by first | (with_reducible assumption) | assumption)) HC0.out
                          have HR222 := qA (Kd.C_of_reads (h1 := fun _ => rfl) (hA12 _ (Kd.reads_of_C HR0.out)))
                          have HC222 := qA hC12
                          clear hA12 hC12 hi012 hsz12
                          go_wp2_with (first | ((with_reducible refine gate_callee (f := 50) rfl ?_); refine goesL_ (some 33) rfl rfl Tryd.func50 (by kernel_rfl) rfl #[.slice A12 ((l0.take ((wrap64 (x4_1 + x6_2)) : Int).toNat).drop (x4_1 : Int).toNat).length (c0 - x4_1.toNat)] rfl (by (try simp only [List.map_toArray, List.map_cons, List.map_nil]); first | done | (rw [show ((l0.take ((wrap64 (x4_1 + x6_2)) : Int).toNat).drop (x4_1 : Int).toNat).length = ((wrap64 (x4_1 + x6_2)).toNat - x4_1.toNat) from (by rw [List.length_drop, List.length_take]; have h_ : ((wrap64 (x4_1 + x6_2)) : Int) ≤ (l0.length : Int) := of_decide_eq_true (by first | (with_reducible assumption) | assumption); omega)] <;> rfl) | rfl | (simp only [List.length_drop, List.length_take]; rfl)) ?_; (with_reducible refine (flongref02_is.calls kj2 _ _ ((l0.take ((wrap64 (x4_1 + x6_2)) : Int).toNat).drop (x4_1 : Int).toNat) true _ ?side1 ?side2 A10.out).mono ?_); (case side1 => repeat (first | exact (Kd.C_below HR222.out HB.out) | (with_reducible refine Kd.C_alloc ?_ _) | (with_reducible refine Kd.C_drewN ?_ _) | (with_reducible refine Kd.C_drew ?_))); (case side2 => exact HC222.out); rintro e w13 ⟨rfl, hb⟩; refine ⟨_, rfl, ?_⟩; have n0_ := qA (qT (by (with_reducible repeat (first | apply qJ | apply qI | apply qK)); exact HO_3.out) hb); have n1_ := qA (below_step (by repeat (first | (with_reducible first | exact HB.out | apply qG | apply qB | apply qF) | exact HB.out)) hb); clear HO_3; clear HB; have HO_3 := n0_; have HB := n1_; clear n0_ n1_; (try clear hb); (try clear hb2); (try clear hk); (try clear hi)))
                          go_roundg kj2
                          case measure => have := HK1.out; have := HK2.out; have := HJ2.out; omega
                          case rel => exact ⟨(x6_2), (wrap64 (x6_2 + 1)), (by first | rfl | (simp; done) | (simp [*]; done)), (by first | rfl | (simp; done) | (simp [*]; done)), H', ⟨by have := HK1.out; have := HK2.out; have := HJ2.out; omega⟩, ⟨by (with_reducible repeat (first | apply qJ | apply qI | apply qK)); exact HO_3.out⟩, ⟨by repeat (first | (with_reducible first | exact HB.out | apply qG | apply qB | apply qF) | exact HB.out)⟩⟩
                        · replace c11 := Bool.eq_false_iff.mpr c11
                          subst c11
                          have H1 : (flongref02_Decode.l1 kj2 l0 x3_1 x4_1 x5_2 (wrap64 (x6_2 + 1))) = some r := by rw [if_neg (show ¬ (false = true) by decide)] at H; exact H
                          clear H
                          have H := H1
                          clear H1
                          have H' := qA H
                          clear H
                          obtain ⟨i014, hi014, _, hsz14, _⟩ := info_parts info5
                          obtain ⟨A14, hcut14, hA14, hC14⟩ := print_mid_of (P := Tryd.prog) (Value.int .u8) 0 36 5 .i64 .i64 Tryd.underlying36 hi014 hsz14 A0 c0 l0 x4_1 (wrap64 (x4_1 + x6_2)) (of_decide_eq_true (by first | (with_reducible assumption) | assumption)) (by first | omega | exact of_decide_eq_true (by first | (with_reducible assumption) | assumption)) (of_decide_eq_true (by first | (with_reducible assumption) | assumption)) HC0.out
                          have HR222 := qA (Kd.C_of_reads (h1 := fun _ => rfl) (hA14 _ (Kd.reads_of_C HR0.out)))
                          have HC222 := qA hC14
                          clear hA14 hC14 hi014 hsz14
                          go_wp2_with (first | ((with_reducible refine gate_callee (f := 50) rfl ?_); refine goesL_ (some 33) rfl rfl Tryd.func50 (by kernel_rfl) rfl #[.slice A14 ((l0.take ((wrap64 (x4_1 + x6_2)) : Int).toNat).drop (x4_1 : Int).toNat).length (c0 - x4_1.toNat)] rfl (by (try simp only [List.map_toArray, List.map_cons, List.map_nil]); first | done | (rw [show ((l0.take ((wrap64 (x4_1 + x6_2)) : Int).toNat).drop (x4_1 : Int).toNat).length = ((wrap64 (x4_1 + x6_2)).toNat - x4_1.toNat) from (by rw [List.length_drop, List.length_take]; have h_ : ((wrap64 (x4_1 + x6_2)) : Int) ≤ (l0.length : Int) := of_decide_eq_true (by first | (with_reducible assumption) | assumption); omega)] <;> rfl) | rfl | (simp only [List.length_drop, List.length_take]; rfl)) ?_; (with_reducible refine (flongref02_is.calls kj2 _ _ ((l0.take ((wrap64 (x4_1 + x6_2)) : Int).toNat).drop (x4_1 : Int).toNat) false _ ?side1 ?side2 A10.out).mono ?_); (case side1 => repeat (first | exact (Kd.C_below HR222.out HB.out) | (with_reducible refine Kd.C_alloc ?_ _) | (with_reducible refine Kd.C_drewN ?_ _) | (with_reducible refine Kd.C_drew ?_))); (case side2 => exact HC222.out); rintro e w15 ⟨rfl, hb⟩; refine ⟨_, rfl, ?_⟩; have n0_ := qA (qT (by (with_reducible repeat (first | apply qJ | apply qI | apply qK)); exact HO_3.out) hb); have n1_ := qA (below_step (by repeat (first | (with_reducible first | exact HB.out | apply qG | apply qB | apply qF) | exact HB.out)) hb); clear HO_3; clear HB; have HO_3 := n0_; have HB := n1_; clear n0_ n1_; (try clear hb); (try clear hb2); (try clear hk); (try clear hi)))
                          go_roundg kj2
                          case measure => have := HK1.out; have := HK2.out; have := HJ2.out; omega
                          case rel => exact ⟨(x5_2), (wrap64 (x6_2 + 1)), (by first | rfl | (simp; done) | (simp [*]; done)), (by first | rfl | (simp; done) | (simp [*]; done)), H', ⟨by have := HK1.out; have := HK2.out; have := HJ2.out; omega⟩, ⟨by (with_reducible repeat (first | apply qJ | apply qI | apply qK)); exact HO_3.out⟩, ⟨by repeat (first | (with_reducible first | exact HB.out | apply qG | apply qB | apply qF) | exact HB.out)⟩⟩
                      · rw [if_neg c9] at H
                        exact absurd H (by simp)
                    · rw [if_neg c8] at H
                      exact absurd H (by simp)
                  · rw [if_neg c7] at H
                    exact absurd H (by simp)
                · replace c6 := Bool.eq_false_iff.mpr c6
                  subst c6
                  have H1 : (if x5_2 = 0 then (if x3_1.length < 35184372088832 then (flongref02_Decode.l0 kj2 l0 (x3_1 ++ [65533]) (wrap64 (x4_1 + 1))) else (none)) else (if 0 ≤ x4_1 then (if x4_1 ≤ (wrap64 (x4_1 + x5_2)) then (if (wrap64 (x4_1 + x5_2)) ≤ (l0.length : Int) then ((flongref02_value.f kj2 ((l0.take ((wrap64 (x4_1 + x5_2)) : Int).toNat).drop (x4_1 : Int).toNat)).bind fun t228 => (if x3_1.length < 35184372088832 then (flongref02_Decode.l0 kj2 l0 (x3_1 ++ [wrap32 (t228)]) (wrap64 (x4_1 + x5_2))) else (none))) else (none)) else (none)) else (none))) = some r := by rw [if_neg (show ¬ (false = true) by decide)] at H; exact H
                  clear H
                  have H := H1
                  clear H1
                  by_cases c16 : x5_2 = 0
                  · rw [if_pos c16] at H
                    have c16b0 : (x5_2 == 0) = true := beq_iff_eq.mpr c16
                    have c16b1 : (x5_2 != 0) = false := bne_eq_false_iff_eq.mpr c16
                    clear c16
                    by_cases c17 : x3_1.length < 35184372088832
                    · rw [if_pos c17] at H
                      have LMc17 := qA c17
                      clear c17
                      obtain ⟨y224, hy224⟩ : ∃ y_ : List Int, y_ = (x3_1 ++ [65533]) := ⟨_, rfl⟩
                      replace H : (flongref02_Decode.l0 kj2 l0 y224 (wrap64 (x4_1 + 1))) = some r := by first | (rw [hy224]; with_reducible exact H) | (have H2_ := (Option.bind_some _ _).symm.trans H; rw [hy224]; with_reducible exact H2_) | (have H2_ := (Option.bind_some _ _).symm.trans H; with_reducible exact H2_) | with_reducible exact H | (rw [hy224]; exact H) | exact H
                      have Ny224 := qA hy224
                      clear hy224
                      have H' := qA H
                      clear H
                      go_wp2_with (first | ((with_reducible refine gate_builtin (b := .append) (xs := #[.tmp 37, .tmp 38]) rfl ?_); (try (refine gate_guard (by rfl) ?_; dsimp only)); at_builtin; refine Kd.R_append (Kd.int .i32) (w0 := w) w.heap.size rfl (.tmp 37) (.tmp 38) 34 21 (.int .i32 0) 4 rfl Tryd.underlying34 info21 rfl (by decide) (by omega) u3 x3_1 65533 [.int .i32 65533] (fun _ => True) (fun _ => False) rfl rfl ?aP (fun _ hk => hk.elim) ?aF ?aO ?aB ?aS ?aL ?_; (case aP => exact rfl); (case aB => exact (by repeat (first | (with_reducible first | exact HB.out | apply qG | apply qB | apply qF) | exact HB.out))); (case aF => exact (fun _ _ => trivial)); (case aO => exact (by (with_reducible repeat (first | apply qJ | apply qI | apply qK)); exact HO_3.out)); (case aS => exact (below_size (by repeat (first | (with_reducible first | exact HB.out | apply qG | apply qB | apply qF) | exact HB.out)))); (case aL => have := LMc17.out; omega); intro v225 w18 ho hb hg hat; rw [← Ny224.out] at ho; have n0_ := qA (hb); have n1_ := qA (ho); clear HB; clear HO_3; have HB := n0_; have HO226 := n1_; clear n0_ n1_; clear ho hb hg hat))
                      go_roundg kj2
                      case measure => have := HK1.out; have := HK2.out; have := HJ2.out; omega
                      case rel => exact ⟨(y224), (wrap64 (x4_1 + 1)), (by first | rfl | (simp; done) | (simp [*]; done)), H', ⟨by have := HK1.out; have := HK2.out; have := HJ2.out; omega⟩, ⟨by (with_reducible repeat (first | apply qJ | apply qI | apply qK)); exact HO226.out⟩, ⟨by repeat (first | (with_reducible first | exact HB.out | apply qG | apply qB | apply qF) | exact HB.out)⟩⟩
                    · rw [if_neg c17] at H
                      exact absurd H (by simp)
                  · rw [if_neg c16] at H
                    have c16b0 : (x5_2 == 0) = false := beq_eq_false_iff_ne.mpr c16
                    have c16b1 : (x5_2 != 0) = true := bne_iff_ne.mpr c16
                    by_cases c19 : 0 ≤ x4_1
                    · rw [if_pos c19] at H
                      have c19b0 := eq_true c19
                      have c19b1 : decide (0 ≤ x4_1) = true := decide_eq_true c19
                      clear c19
                      by_cases c20 : x4_1 ≤ (wrap64 (x4_1 + x5_2))
                      · rw [if_pos c20] at H
                        have c20b0 := eq_true c20
                        have c20b1 : decide (x4_1 ≤ (wrap64 (x4_1 + x5_2))) = true := decide_eq_true c20
                        by_cases c21 : (wrap64 (x4_1 + x5_2)) ≤ (l0.length : Int)
                        · rw [if_pos c21] at H
                          have c21b0 := eq_true c21
                          have c21b1 : decide ((wrap64 (x4_1 + x5_2)) ≤ (l0.length : Int)) = true := decide_eq_true c21
                          replace H := Option.bind_eq_some_iff.mp H
                          obtain ⟨t228, A220, H⟩ := H
                          replace H : (if x3_1.length < 35184372088832 then (flongref02_Decode.l0 kj2 l0 (x3_1 ++ [wrap32 (t228)]) (wrap64 (x4_1 + x5_2))) else (none)) = some r := H
                          have A22 := qA A220
                          clear A220
                          by_cases c23 : x3_1.length < 35184372088832
                          · rw [if_pos c23] at H
                            have LMc23 := qA c23
                            clear c23
                            obtain ⟨y229, hy229⟩ : ∃ y_ : List Int, y_ = (x3_1 ++ [wrap32 (t228)]) := ⟨_, rfl⟩
                            replace H : (flongref02_Decode.l0 kj2 l0 y229 (wrap64 (x4_1 + x5_2))) = some r := by first | (rw [hy229]; with_reducible exact H) | (have H2_ := (Option.bind_some _ _).symm.trans H; rw [hy229]; with_reducible exact H2_) | (have H2_ := (Option.bind_some _ _).symm.trans H; with_reducible exact H2_) | with_reducible exact H | (rw [hy229]; exact H) | exact H
                            have Ny229 := qA hy229
                            clear hy229
                            have H' := qA H
                            clear H
                            obtain ⟨i024, hi024, _, hsz24, _⟩ := info_parts info5
                            obtain ⟨A24, hcut24, hA24, hC24⟩ := print_mid_of (P := Tryd.prog) (Value.int .u8) 0 36 5 .i64 .i64 Tryd.underlying36 hi024 hsz24 A0 c0 l0 x4_1 (wrap64 (x4_1 + x5_2)) (of_decide_eq_true (by first | (with_reducible assumption) | assumption)) (by first | omega | exact of_decide_eq_true (by first | (with_reducible assumption) | assumption)) (of_decide_eq_true (by first | (with_reducible assumption) | assumption)) HC0.out
                            have HR227 := qA (Kd.C_of_reads (h1 := fun _ => rfl) (hA24 _ (Kd.reads_of_C HR0.out)))
                            have HC227 := qA hC24
                            clear hA24 hC24 hi024 hsz24
                            go_wp2_with (first | ((with_reducible refine gate_callee (f := 51) rfl ?_); refine goesL_ (some 49) rfl rfl Tryd.func51 (by kernel_rfl) rfl #[.slice A24 ((l0.take ((wrap64 (x4_1 + x5_2)) : Int).toNat).drop (x4_1 : Int).toNat).length (c0 - x4_1.toNat)] rfl (by (try simp only [List.map_toArray, List.map_cons, List.map_nil]); first | done | (rw [show ((l0.take ((wrap64 (x4_1 + x5_2)) : Int).toNat).drop (x4_1 : Int).toNat).length = ((wrap64 (x4_1 + x5_2)).toNat - x4_1.toNat) from (by rw [List.length_drop, List.length_take]; have h_ : ((wrap64 (x4_1 + x5_2)) : Int) ≤ (l0.length : Int) := of_decide_eq_true (by first | (with_reducible assumption) | assumption); omega)] <;> rfl) | rfl | (simp only [List.length_drop, List.length_take]; rfl)) ?_; (with_reducible refine (flongref02_value.calls kj2 _ _ ((l0.take ((wrap64 (x4_1 + x5_2)) : Int).toNat).drop (x4_1 : Int).toNat) t228 _ ?side1 ?side2 A22.out).mono ?_); (case side1 => repeat (first | exact (Kd.C_below HR227.out HB.out) | (with_reducible refine Kd.C_alloc ?_ _) | (with_reducible refine Kd.C_drewN ?_ _) | (with_reducible refine Kd.C_drew ?_))); (case side2 => exact HC227.out); rintro e w' ⟨rfl, ⟨nd, rfl⟩⟩; refine ⟨_, rfl, ?_⟩) | ((with_reducible refine gate_builtin (b := .append) (xs := #[.tmp 42, .tmp 51]) rfl ?_); (try (refine gate_guard (by rfl) ?_; dsimp only)); at_builtin; refine Kd.R_append (Kd.int .i32) (w0 := w) w.heap.size rfl (.tmp 42) (.tmp 51) 34 21 (.int .i32 0) 4 rfl Tryd.underlying34 info21 rfl (by decide) (by omega) u3 x3_1 (wrap32 (t228)) [.int .i32 (wrap32 (t228))] (fun _ => True) (fun _ => False) rfl rfl ?aP (fun _ hk => hk.elim) ?aF ?aO ?aB ?aS ?aL ?_; (case aP => exact rfl); (case aB => exact (by repeat (first | (with_reducible first | exact HB.out | apply qG | apply qB | apply qF) | exact HB.out))); (case aF => exact (fun _ _ => trivial)); (case aO => exact (by (with_reducible repeat (first | apply qJ | apply qI | apply qK)); exact HO_3.out)); (case aS => exact (below_size (by repeat (first | (with_reducible first | exact HB.out | apply qG | apply qB | apply qF) | exact HB.out)))); (case aL => have := LMc23.out; omega); intro v230 w25 ho hb hg hat; rw [← Ny229.out] at ho; have n0_ := qA (hb); have n1_ := qA (ho); clear HB; clear HO_3; have HB := n0_; have HO231 := n1_; clear n0_ n1_; clear ho hb hg hat))
                            go_roundg kj2
                            case measure => have := HK1.out; have := HK2.out; have := HJ2.out; omega
                            case rel => exact ⟨(y229), (wrap64 (x4_1 + x5_2)), (by first | rfl | (simp; done) | (simp [*]; done)), H', ⟨by have := HK1.out; have := HK2.out; have := HJ2.out; omega⟩, ⟨by (with_reducible repeat (first | apply qJ | apply qI | apply qK)); exact HO231.out⟩, ⟨by repeat (first | (with_reducible first | exact HB.out | apply qG | apply qB | apply qF) | exact HB.out)⟩⟩
                          · rw [if_neg c23] at H
                            exact absurd H (by simp)
                        · rw [if_neg c21] at H
                          exact absurd H (by simp)
                      · rw [if_neg c20] at H
                        exact absurd H (by simp)
                    · rw [if_neg c19] at H
                      exact absurd H (by simp)
      · rw [if_neg c2] at H
        have c2b0 : decide (x4_1 < (l0.length : Int)) = false := decide_eq_false c2
        clear c2
        obtain rfl := Option.some.inj H
        go_wp2
        go_ret
        exact ⟨_, by first | rfl | (simp [errW_none, errW_some] <;> rfl) | (simp [*, errW_none, errW_some] <;> rfl), by (with_reducible repeat (first | apply qJ | apply qI | apply qK)); exact HO_3.out, by repeat (first | (with_reducible first | exact HB.out | apply qG | apply qB | apply qF) | exact HB.out)⟩
end Go.Proofs.YtdogljnddalgdaaDoor.A6
end
section
namespace Go.Proofs.YtdogljnddalgdaaDoor.A6
open Go.RowKit Go.Proofs.YtdogljnddalgdaaDoorW.PrintWords Go.Proofs.YtdogljnddalgdaaDoorW.PrintLast Go.Proofs.YtdogljnddalgdaaDoorW.PrintMore
open Go.Proofs.YtdogljnddalgdaaDoorW.PrintWords.Aside0 renaming mk → qA
open Go.Proofs.YtdogljnddalgdaaDoorW.PrintWords renaming pw_below_drewN → qB, below_drew1 → qF, below_alloc → qG, below_step → qR, below_size → qS
open Go.Proofs.YtdogljnddalgdaaDoorW.PrintWords.Kd renaming R_drewN → qI, R_alloc → qJ, R_drew → qK, R_lower → qW
attribute [local go_sem] max2_int min2_int max_two min_two max_three min_three max_four min_four   -- for this text's walks alone
set_option linter.unusedVariables false
set_option linter.unusedSimpArgs false
def flongref02_Encode.l0 : Nat → List Int → List Int → Int → Option (List Int)
  | 0, _, _, _ => none
  | k + 1, x0, x3, x4 => if x4 < (x0.length : Int) then (if 0 ≤ x4 then ((flongref02_One.f k (rd x0 x4)).bind fun t265 => (if x3.length + t265.length < 140737488355328 then (flongref02_Encode.l0 k x0 (x3 ++ t265) (wrap64 (x4 + 1))) else (none))) else (none)) else (some x3)
def flongref02_Encode.f (k : Nat) (l0 : List Int) : Option (List Int) := flongref02_Encode.l0 k l0 ([] : List Int) 0
set_option maxHeartbeats 8000000 in
set_option maxRecDepth 100000 in
theorem flongref02_Encode.calls (k : Nat) (A0 : Option Addr) (c0 : Nat) (l0 : List Int) (r : List Int) (w : World) (hr0 : Kd.C (Kd.int .i32) w A0 l0.length l0) (hc0 : l0.length ≤ c0) (h : flongref02_Encode.f k l0 = some r) :
    Calls Tryd.prog 71 #[.slice A0 l0.length c0] w fun e w' => ∃ v0_ : Value, e = .returned (v0_) ∧ Kd.R (Kd.int .u8) 5 w' w.heap.size (fun _ => True) v0_ r ∧ Below w.heap.size w w' := by
  have HR0 := qA hr0
  have HC0 := qA hc0
  clear hr0 hc0
  have HB := qA (Below.refl w.heap.size w)
  have H : (flongref02_Encode.l0 k l0 ([] : List Int) 0) = some r := h
  clear h
  have H' := qA H
  clear H
  go_enter Tryd.func71, Tryd.ntmps71
  go_wp2
  go_loopg [3, 4] k (fun kq v3 v4 w' => ∃ (x3_1 : List Int) (x4_1 : Int), v4 = .int .i64 x4_1 ∧ Aside0 (flongref02_Encode.l0 kq l0 x3_1 x4_1 = some r) ∧ Aside0 (kq ≤ k) ∧ Aside0 (Kd.R (Kd.int .u8) 5 w' w.heap.size (fun _ => True) v3 x3_1) ∧ Aside0 (Below w.heap.size w w'))
  case atStart => exact ⟨(([] : List Int)), (0), (by first | rfl | (simp; done) | (simp [*]; done)), H', ⟨Nat.le_refl _⟩, ⟨by first | exact Kd.R_nil _ _ _ _ _ | exact Kd.N_nil _ _ _ _ _ | exact Kd.V_nil _ _ _ _ _ | exact Kd.Q_nil _ _ _ _ _ | exact Kd.S_nil _ _ _ _ _⟩, ⟨by repeat (first | (with_reducible first | exact HB.out | apply qG | apply qB | apply qF) | exact HB.out)⟩⟩
  case round =>
    clear H'
    obtain ⟨x3_1, x4_1, rfl, HA, HK1, HO_3, HB⟩ := hrel
    cases gk with
    | zero => exact absurd HA.out (by simp [flongref02_Encode.l0])
    | succ k1 =>
      have H := HA.out
      clear HA
      simp only [flongref02_Encode.l0] at H
      by_cases c2 : x4_1 < (l0.length : Int)
      · rw [if_pos c2] at H
        have c2b0 : decide (x4_1 < (l0.length : Int)) = true := decide_eq_true c2
        clear c2
        by_cases c3 : 0 ≤ x4_1
        · rw [if_pos c3] at H
          have c3b0 : decide (0 ≤ x4_1) = true := decide_eq_true c3
          clear c3
          replace H := Option.bind_eq_some_iff.mp H
          obtain ⟨t265, A40, H⟩ := H
          replace H : (if x3_1.length + t265.length < 140737488355328 then (flongref02_Encode.l0 k1 l0 (x3_1 ++ t265) (wrap64 (x4_1 + 1))) else (none)) = some r := H
          have A4 := qA A40
          clear A40
          by_cases c5 : x3_1.length + t265.length < 140737488355328
          · rw [if_pos c5] at H
            have LMc5 := qA c5
            clear c5
            obtain ⟨y268, hy268⟩ : ∃ y_ : List Int, y_ = (x3_1 ++ t265) := ⟨_, rfl⟩
            replace H : (flongref02_Encode.l0 k1 l0 y268 (wrap64 (x4_1 + 1))) = some r := by first | (rw [hy268]; with_reducible exact H) | (have H2_ := (Option.bind_some _ _).symm.trans H; rw [hy268]; with_reducible exact H2_) | (have H2_ := (Option.bind_some _ _).symm.trans H; with_reducible exact H2_) | with_reducible exact H | (rw [hy268]; exact H) | exact H
            have Ny268 := qA hy268
            clear hy268
            have H' := qA H
            clear H
            have p264 : 0 ≤ (x4_1 : Int) := of_decide_eq_true (by first | (with_reducible assumption) | assumption)
            have q264 : x4_1 < (l0.length : Int) := of_decide_eq_true (by first | (with_reducible assumption) | assumption)
            obtain ⟨ad264, e264, hx264_0⟩ := Kd.at_int HR0.out x4_1 p264 q264
            cases e264
            replace hx264_0 := (HB.out.cell (World.block_lt_of_cell? w _ hx264_0)).trans hx264_0
            replace p264 := eq_true p264
            replace q264 := eq_true q264
            go_wp2_with (first | ((with_reducible refine gate_callee (f := 61) rfl ?_); refine goesL_ (some 16) rfl rfl Tryd.func61 (by kernel_rfl) rfl #[.int .i32 (rd l0 x4_1)] rfl (by (try simp only [List.map_toArray, List.map_cons, List.map_nil]); first | done | rfl | (simp only [List.length_drop, List.length_take]; rfl)) ?_; (with_reducible refine (flongref02_One.calls k1 (rd l0 x4_1) t265 _ A4.out).mono ?_); rintro e w6 ⟨v266, rfl, ho0, hb⟩; refine ⟨_, rfl, ?_⟩; have n0_ := qA (Kd.R_elder' (by (with_reducible repeat (first | apply qJ | apply qI | apply qK)); exact HO_3.out) (Kd.R_base ho0) hb); have n1_ := qA (qW (Kd.R_new' ho0 (Kd.R_lt (by (with_reducible repeat (first | apply qJ | apply qI | apply qK)); exact HO_3.out))) (qS (by repeat (first | (with_reducible first | exact HB.out | apply qG | apply qB | apply qF) | exact HB.out)))); have n2_ := qA (qR (by repeat (first | (with_reducible first | exact HB.out | apply qG | apply qB | apply qF) | exact HB.out)) hb); clear HO_3; clear HB; have HO_3 := n0_; have HO267 := n1_; have HB := n2_; clear n0_ n1_ n2_; (try clear hb); (try clear hb2); (try clear hk); (try clear hi); (try clear ho0); obtain ⟨Ao8, co8, eo8⟩ := Kd.R_slice HO267.out; subst eo8) | ((with_reducible refine gate_builtin (b := .append) (xs := #[.tmp 11, .tmp 16]) rfl ?_); at_builtin; refine Kd.R_append_rows (Kd.int .u8) (w0 := w) w.heap.size rfl (.tmp 11) (.tmp 16) 36 5 (.int .u8 0) 1 rfl Tryd.underlying36 info5 rfl (by decide) (by omega) u3 x3_1 t265 _ _ _ (fun k_ => some k_ ≠ (.slice Ao8 t265.length co8 : Value).ownBlock) (fun _ => False) rfl rfl ?aO ?aR (fun _ _ h => h) (fun _ h => h.elim) ?aF ?aB ?aS ?aL ?_; (case aR => repeat (first | exact (Kd.R_reads' HO267.out).2.2 | (with_reducible refine Kd.C_alloc ?_ _) | (with_reducible refine Kd.C_drewN ?_ _) | (with_reducible refine Kd.C_drew ?_))); (case aB => exact (by repeat (first | (with_reducible first | exact HB.out | apply qG | apply qB | apply qF) | exact HB.out))); (case aF => exact (fun k_ hk => Kd.fresh' (Kd.R_lt (by (with_reducible repeat (first | apply qJ | apply qI | apply qK)); exact HO267.out)) k_ hk)); (case aO => exact (by (with_reducible repeat (first | apply qJ | apply qI | apply qK)); exact Kd.R_mono HO_3.out (fun _ hk => hk.2))); (case aS => exact (qS (by repeat (first | (with_reducible first | exact HB.out | apply qG | apply qB | apply qF) | exact HB.out)))); (case aL => have := LMc5.out; omega); intro v269 w7 ho hb hg hat; rw [← Ny268.out] at ho; have n0_ := qA (Kd.R_after (ok := (fun _ => True)) (by (with_reducible repeat (first | apply qJ | apply qI | apply qK)); exact HO267.out) hg hat); have n1_ := qA (hb); have n2_ := qA (ho); clear HO267; clear HB; clear HO_3; have HO267 := n0_; have HB := n1_; have HO270 := n2_; clear n0_ n1_ n2_; clear ho hb hg hat))
            go_roundg k1
            case measure => have := HK1.out; omega
            case rel => exact ⟨(y268), (wrap64 (x4_1 + 1)), (by first | rfl | (simp; done) | (simp [*]; done)), H', ⟨by have := HK1.out; omega⟩, ⟨by (with_reducible repeat (first | apply qJ | apply qI | apply qK)); exact Kd.R_mono HO270.out (fun _ hk => trivial)⟩, ⟨by repeat (first | (with_reducible first | exact HB.out | apply qG | apply qB | apply qF) | exact HB.out)⟩⟩
          · rw [if_neg c5] at H
            exact absurd H (by simp)
        · rw [if_neg c3] at H
          exact absurd H (by simp)
      · rw [if_neg c2] at H
        have c2b0 : decide (x4_1 < (l0.length : Int)) = false := decide_eq_false c2
        clear c2
        obtain rfl := Option.some.inj H
        go_wp2
        go_ret
        exact ⟨_, by first | rfl | (simp [errW_none, errW_some] <;> rfl) | (simp [*, errW_none, errW_some] <;> rfl), by (with_reducible repeat (first | apply qJ | apply qI | apply qK)); exact HO_3.out, by repeat (first | (with_reducible first | exact HB.out | apply qG | apply qB | apply qF) | exact HB.out)⟩
def flongref04_text.f (k : Nat) (l0 : List Int) : Option (ByteArray) := (flongref02_Encode.f k l0).bind fun t271 => (some (strOfNums t271))
set_option maxHeartbeats 8000000 in
set_option maxRecDepth 100000 in
theorem flongref04_text.calls (k : Nat) (A0 : Option Addr) (c0 : Nat) (l0 : List Int) (r : ByteArray) (w : World) (hr0 : Kd.C (Kd.int .i32) w A0 l0.length l0) (hc0 : l0.length ≤ c0) (h : flongref04_text.f k l0 = some r) :
    Calls Tryd.prog 69 #[.slice A0 l0.length c0] w fun e w' => e = .returned (.string r) ∧ Below w.heap.size w w' := by
  have HR0 := qA hr0
  have HC0 := qA hc0
  clear hr0 hc0
  have HB := qA (Below.refl w.heap.size w)
  have H : ((flongref02_Encode.f k l0).bind fun t271 => (some (strOfNums t271))) = some r := h
  clear h
  replace H := Option.bind_eq_some_iff.mp H
  obtain ⟨t271, A20, H⟩ := H
  replace H : (some (strOfNums t271)) = some r := H
  have A2 := qA A20
  clear A20
  obtain rfl := Option.some.inj H
  go_enter Tryd.func69, Tryd.ntmps69
  go_wp2_with (first | ((with_reducible refine gate_callee (f := 71) rfl ?_); refine goesL_ (some 4) rfl rfl Tryd.func71 (by kernel_rfl) rfl #[.slice A0 l0.length c0] rfl (by (try simp only [List.map_toArray, List.map_cons, List.map_nil]); first | done | rfl | (simp only [List.length_drop, List.length_take]; rfl)) ?_; (with_reducible refine (flongref02_Encode.calls k _ _ l0 t271 _ ?side1 ?side2 A2.out).mono ?_); (case side1 => repeat (first | exact HR0.out | (with_reducible refine Kd.C_alloc ?_ _) | (with_reducible refine Kd.C_drewN ?_ _) | (with_reducible refine Kd.C_drew ?_))); (case side2 => exact HC0.out); rintro e w3 ⟨v272, rfl, ho0, hb⟩; refine ⟨_, rfl, ?_⟩; have n0_ := qA (qW ho0 (qS (by repeat (first | (with_reducible first | exact HB.out | apply qG | apply qB | apply qF) | exact HB.out)))); have n1_ := qA (qR (by repeat (first | (with_reducible first | exact HB.out | apply qG | apply qB | apply qF) | exact HB.out)) hb); clear HB; have HO273 := n0_; have HB := n1_; clear n0_ n1_; (try clear hb); (try clear hb2); (try clear hk); (try clear hi); (try clear ho0); have hcv4 := own_string (P := Tryd.prog) Tryd.underlying36 Tryd.underlying5 Tryd.underlying9 (Kd.own_of_R HO273.out)))
  go_ret
  exact ⟨by first | rfl | (simp [errW_none, errW_some] <;> rfl) | (simp [*, errW_none, errW_some] <;> rfl), by repeat (first | (with_reducible first | exact HB.out | apply qG | apply qB | apply qF) | exact HB.out)⟩
def flongref04_name.f (k : Nat) (l0 : List Int) (a1 : Int) : Option (ByteArray × Int) := if a1 ≥ (l0.length : Int) then (some ((⟨#[]⟩ : ByteArray), (-1))) else (if 0 ≤ a1 then (if a1 < (l0.length : Int) then (if (rd l0 a1) = 91 then ((flongref04_close.f k l0 a1).bind fun t275 => (if t275 < 0 then (some ((⟨#[]⟩ : ByteArray), (-1))) else (if 0 ≤ (wrap64 (a1 + 1)) then (if (wrap64 (a1 + 1)) ≤ t275 then (if t275 ≤ (l0.length : Int) then ((flongref04_text.f k ((l0.take (t275 : Int).toNat).drop ((wrap64 (a1 + 1)) : Int).toNat)).bind fun t277 => (some (t277, wrap64 (t275 + 1)))) else (none)) else (none)) else (none)))) else (if (rd l0 a1) = 40 then (if (wrap64 (a1 + 3)) > (l0.length : Int) then (some ((⟨#[]⟩ : ByteArray), (-1))) else (if 0 ≤ (wrap64 (a1 + 1)) then (if (wrap64 (a1 + 1)) ≤ (wrap64 (a1 + 3)) then (if (wrap64 (a1 + 3)) ≤ (l0.length : Int) then ((flongref04_text.f k ((l0.take ((wrap64 (a1 + 3)) : Int).toNat).drop ((wrap64 (a1 + 1)) : Int).toNat)).bind fun t280 => (some (t280, wrap64 (a1 + 3)))) else (none)) else (none)) else (none))) else (if a1 ≤ (wrap64 (a1 + 1)) then (if (wrap64 (a1 + 1)) ≤ (l0.length : Int) then ((flongref04_text.f k ((l0.take ((wrap64 (a1 + 1)) : Int).toNat).drop (a1 : Int).toNat)).bind fun t282 => (some (t282, wrap64 (a1 + 1)))) else (none)) else (none)))) else (none)) else (none))
set_option maxHeartbeats 8000000 in
set_option maxRecDepth 100000 in
theorem flongref04_name.calls (k : Nat) (A0 : Option Addr) (c0 : Nat) (l0 : List Int) (a1 : Int) (r1 : ByteArray) (r2 : Int) (w : World) (hr0 : Kd.C (Kd.int .i32) w A0 l0.length l0) (hc0 : l0.length ≤ c0) (h : flongref04_name.f k l0 a1 = some (r1, r2)) :
    Calls Tryd.prog 59 #[.slice A0 l0.length c0, .int .i64 a1] w fun e w' => e = .returned (.tuple #[.string r1, .int .i64 r2]) ∧ Below w.heap.size w w' := by
  have HR0 := qA hr0
  have HC0 := qA hc0
  clear hr0 hc0
  have HB := qA (Below.refl w.heap.size w)
  have H : (if a1 ≥ (l0.length : Int) then (some ((⟨#[]⟩ : ByteArray), (-1))) else (if 0 ≤ a1 then (if a1 < (l0.length : Int) then (if (rd l0 a1) = 91 then ((flongref04_close.f k l0 a1).bind fun t275 => (if t275 < 0 then (some ((⟨#[]⟩ : ByteArray), (-1))) else (if 0 ≤ (wrap64 (a1 + 1)) then (if (wrap64 (a1 + 1)) ≤ t275 then (if t275 ≤ (l0.length : Int) then ((flongref04_text.f k ((l0.take (t275 : Int).toNat).drop ((wrap64 (a1 + 1)) : Int).toNat)).bind fun t277 => (some (t277, wrap64 (t275 + 1)))) else (none)) else (none)) else (none)))) else (if (rd l0 a1) = 40 then (if (wrap64 (a1 + 3)) > (l0.length : Int) then (some ((⟨#[]⟩ : ByteArray), (-1))) else (if 0 ≤ (wrap64 (a1 + 1)) then (if (wrap64 (a1 + 1)) ≤ (wrap64 (a1 + 3)) then (if (wrap64 (a1 + 3)) ≤ (l0.length : Int) then ((flongref04_text.f k ((l0.take ((wrap64 (a1 + 3)) : Int).toNat).drop ((wrap64 (a1 + 1)) : Int).toNat)).bind fun t280 => (some (t280, wrap64 (a1 + 3)))) else (none)) else (none)) else (none))) else (if a1 ≤ (wrap64 (a1 + 1)) then (if (wrap64 (a1 + 1)) ≤ (l0.length : Int) then ((flongref04_text.f k ((l0.take ((wrap64 (a1 + 1)) : Int).toNat).drop (a1 : Int).toNat)).bind fun t282 => (some (t282, wrap64 (a1 + 1)))) else (none)) else (none)))) else (none)) else (none))) = some (r1, r2) := h
  clear h
  by_cases c3 : a1 ≥ (l0.length : Int)
  · rw [if_pos c3] at H
    have c3b0 : decide ((l0.length : Int) ≤ a1) = true := decide_eq_true c3
    clear c3
    simp only [Option.some.injEq, Prod.mk.injEq] at H
    obtain ⟨rfl, rfl⟩ := H
    go_enter Tryd.func59, Tryd.ntmps59
    go_wp2
    go_ret2
    exact ⟨by first | rfl | (simp [errW_none, errW_some] <;> rfl) | (simp [*, errW_none, errW_some] <;> rfl), by repeat (first | (with_reducible first | exact HB.out | apply qG | apply qB | apply qF) | exact HB.out)⟩
  · rw [if_neg c3] at H
    have c3b0 : decide ((l0.length : Int) ≤ a1) = false := decide_eq_false c3
    clear c3
    by_cases c4 : 0 ≤ a1
    · rw [if_pos c4] at H
      have c4b0 : decide (0 ≤ a1) = true := decide_eq_true c4
      clear c4
      by_cases c5 : a1 < (l0.length : Int)
      · rw [if_pos c5] at H
        have c5b0 : decide (a1 < (l0.length : Int)) = true := decide_eq_true c5
        clear c5
        by_cases c6 : (rd l0 a1) = 91
        · rw [if_pos c6] at H
          have c6b0 : ((rd l0 a1) == 91) = true := beq_iff_eq.mpr c6
          have c6b1 : ((rd l0 a1) != 91) = false := bne_eq_false_iff_eq.mpr c6
          clear c6
          replace H := Option.bind_eq_some_iff.mp H
          obtain ⟨t275, A70, H⟩ := H
          replace H : (if t275 < 0 then (some ((⟨#[]⟩ : ByteArray), (-1))) else (if 0 ≤ (wrap64 (a1 + 1)) then (if (wrap64 (a1 + 1)) ≤ t275 then (if t275 ≤ (l0.length : Int) then ((flongref04_text.f k ((l0.take (t275 : Int).toNat).drop ((wrap64 (a1 + 1)) : Int).toNat)).bind fun t277 => (some (t277, wrap64 (t275 + 1)))) else (none)) else (none)) else (none))) = some (r1, r2) := H
          have A7 := qA A70
          clear A70
          by_cases c8 : t275 < 0
          · rw [if_pos c8] at H
            have c8b0 : decide (t275 < 0) = true := decide_eq_true c8
            clear c8
            simp only [Option.some.injEq, Prod.mk.injEq] at H
            obtain ⟨rfl, rfl⟩ := H
            have p274 : 0 ≤ (a1 : Int) := of_decide_eq_true (by first | (with_reducible assumption) | assumption)
            have q274 : a1 < (l0.length : Int) := of_decide_eq_true (by first | (with_reducible assumption) | assumption)
            obtain ⟨ad274, e274, hx274_0⟩ := Kd.at_int HR0.out a1 p274 q274
            cases e274
            replace p274 := eq_true p274
            replace q274 := eq_true q274
            go_enter Tryd.func59, Tryd.ntmps59
            go_wp2_with (first | ((with_reducible refine gate_callee (f := 68) rfl ?_); refine goesL_ (some 18) rfl rfl Tryd.func68 (by kernel_rfl) rfl #[.slice (some ad274) l0.length c0, .int .i64 a1] rfl (by (try simp only [List.map_toArray, List.map_cons, List.map_nil]); first | done | rfl | (simp only [List.length_drop, List.length_take]; rfl)) ?_; (with_reducible refine (flongref04_close.calls k _ _ l0 a1 t275 _ ?side1 ?side2 A7.out).mono ?_); (case side1 => repeat (first | exact HR0.out | (with_reducible refine Kd.C_alloc ?_ _) | (with_reducible refine Kd.C_drewN ?_ _) | (with_reducible refine Kd.C_drew ?_))); (case side2 => exact HC0.out); rintro e w' ⟨rfl, ⟨nd, rfl⟩⟩; refine ⟨_, rfl, ?_⟩))
            go_ret2
            exact ⟨by first | rfl | (simp [errW_none, errW_some] <;> rfl) | (simp [*, errW_none, errW_some] <;> rfl), by repeat (first | (with_reducible first | exact HB.out | apply qG | apply qB | apply qF) | exact HB.out)⟩
          · rw [if_neg c8] at H
            have c8b0 : decide (t275 < 0) = false := decide_eq_false c8
            clear c8
            obtain ⟨ji9, hji9⟩ : ∃ j_ : Int, (wrap64 (a1 + 1)) = j_ := ⟨_, rfl⟩
            replace H : (if 0 ≤ (ji9) then (if (ji9) ≤ t275 then (if t275 ≤ (l0.length : Int) then ((flongref04_text.f k ((l0.take (t275 : Int).toNat).drop ((ji9) : Int).toNat)).bind fun t277 => (some (t277, wrap64 (t275 + 1)))) else (none)) else (none)) else (none)) = some (r1, r2) := by first | (rw [hji9] at H; exact H) | (simp only [hji9] at H ⊢; exact H)
            (try rw [hji9] at A7)
            have hji9w : (IntKind.i64.wrap (a1 + 1)) = ji9 := (i64_w _).trans hji9
            by_cases c10 : 0 ≤ (ji9)
            · rw [if_pos c10] at H
              have c10b0 := eq_true c10
              have c10b1 : decide (0 ≤ (ji9)) = true := decide_eq_true c10
              clear c10
              by_cases c11 : (ji9) ≤ t275
              · rw [if_pos c11] at H
                have c11b0 := eq_true c11
                have c11b1 : decide ((ji9) ≤ t275) = true := decide_eq_true c11
                clear c11
                by_cases c12 : t275 ≤ (l0.length : Int)
                · rw [if_pos c12] at H
                  have c12b0 := eq_true c12
                  have c12b1 : decide (t275 ≤ (l0.length : Int)) = true := decide_eq_true c12
                  clear c12
                  replace H := Option.bind_eq_some_iff.mp H
                  obtain ⟨t277, A130, H⟩ := H
                  replace H : (some (t277, wrap64 (t275 + 1))) = some (r1, r2) := H
                  have A13 := qA A130
                  clear A130
                  simp only [Option.some.injEq, Prod.mk.injEq] at H
                  obtain ⟨rfl, rfl⟩ := H
                  have p274 : 0 ≤ (a1 : Int) := of_decide_eq_true (by first | (with_reducible assumption) | assumption)
                  have q274 : a1 < (l0.length : Int) := of_decide_eq_true (by first | (with_reducible assumption) | assumption)
                  obtain ⟨ad274, e274, hx274_0⟩ := Kd.at_int HR0.out a1 p274 q274
                  cases e274
                  replace p274 := eq_true p274
                  replace q274 := eq_true q274
                  go_enter Tryd.func59, Tryd.ntmps59
                  go_wp2_with (first | ((with_reducible refine gate_callee (f := 68) rfl ?_); refine goesL_ (some 18) rfl rfl Tryd.func68 (by kernel_rfl) rfl #[.slice (some ad274) l0.length c0, .int .i64 a1] rfl (by (try simp only [List.map_toArray, List.map_cons, List.map_nil]); first | done | rfl | (simp only [List.length_drop, List.length_take]; rfl)) ?_; (with_reducible refine (flongref04_close.calls k _ _ l0 a1 t275 _ ?side1 ?side2 A7.out).mono ?_); (case side1 => repeat (first | exact HR0.out | (with_reducible refine Kd.C_alloc ?_ _) | (with_reducible refine Kd.C_drewN ?_ _) | (with_reducible refine Kd.C_drew ?_))); (case side2 => exact HC0.out); rintro e w' ⟨rfl, ⟨nd, rfl⟩⟩; refine ⟨_, rfl, ?_⟩; obtain ⟨i014, hi014, _, hsz14, _⟩ := info_parts info21; obtain ⟨A14, hcut14, hA14, hC14⟩ := print_mid_of (P := Tryd.prog) (Value.int .i32) 0 34 21 .i64 .i64 Tryd.underlying34 hi014 hsz14 (some ad274) c0 l0 (ji9) t275 (of_decide_eq_true (by first | (with_reducible assumption) | assumption)) (by first | omega | exact of_decide_eq_true (by first | (with_reducible assumption) | assumption)) (of_decide_eq_true (by first | (with_reducible assumption) | assumption)) HC0.out; have HR276 := qA (Kd.C_of_reads (h1 := fun _ => rfl) (hA14 _ (Kd.reads_of_C HR0.out))); have HC276 := qA hC14; clear hA14 hC14 hi014 hsz14) | ((with_reducible refine gate_callee (f := 69) rfl ?_); refine goesL_ (some 26) rfl rfl Tryd.func69 (by kernel_rfl) rfl #[.slice A14 ((l0.take (t275 : Int).toNat).drop ((ji9) : Int).toNat).length (c0 - (ji9).toNat)] rfl (by (try simp only [List.map_toArray, List.map_cons, List.map_nil]); first | done | (rw [show ((l0.take (t275 : Int).toNat).drop ((ji9) : Int).toNat).length = (t275.toNat - (ji9).toNat) from (by rw [List.length_drop, List.length_take]; have h_ : (t275 : Int) ≤ (l0.length : Int) := of_decide_eq_true (by first | (with_reducible assumption) | assumption); omega)] <;> rfl) | (simp only [hji9]; rfl) | rfl | (simp only [List.length_drop, List.length_take]; rfl)) ?_; (with_reducible refine (flongref04_text.calls k _ _ ((l0.take (t275 : Int).toNat).drop ((ji9) : Int).toNat) t277 _ ?side1 ?side2 A13.out).mono ?_); (case side1 => repeat (first | exact HR276.out | (with_reducible refine Kd.C_alloc ?_ _) | (with_reducible refine Kd.C_drewN ?_ _) | (with_reducible refine Kd.C_drew ?_))); (case side2 => exact HC276.out); rintro e w15 ⟨rfl, hb⟩; refine ⟨_, rfl, ?_⟩; have n0_ := qA (qR (by repeat (first | (with_reducible first | exact HB.out | apply qG | apply qB | apply qF) | exact HB.out)) hb); clear HB; have HB := n0_; clear n0_; (try clear hb); (try clear hb2); (try clear hk); (try clear hi)))
                  go_ret2
                  exact ⟨by first | rfl | (simp [errW_none, errW_some] <;> rfl) | (simp only [← hji9]; first | rfl | (simp [errW_none, errW_some] <;> rfl)) | (simp [*, errW_none, errW_some] <;> rfl), by repeat (first | (with_reducible first | exact HB.out | apply qG | apply qB | apply qF) | exact HB.out)⟩
                · rw [if_neg c12] at H
                  exact absurd H (by simp)
              · rw [if_neg c11] at H
                exact absurd H (by simp)
            · rw [if_neg c10] at H
              exact absurd H (by simp)
        · rw [if_neg c6] at H
          have c6b0 : ((rd l0 a1) == 91) = false := beq_eq_false_iff_ne.mpr c6
          have c6b1 : ((rd l0 a1) != 91) = true := bne_iff_ne.mpr c6
          by_cases c16 : (rd l0 a1) = 40
          · rw [if_pos c16] at H
            have c16b0 : ((rd l0 a1) == 40) = true := beq_iff_eq.mpr c16
            have c16b1 : ((rd l0 a1) != 40) = false := bne_eq_false_iff_eq.mpr c16
            clear c16
            by_cases c17 : (wrap64 (a1 + 3)) > (l0.length : Int)
            · rw [if_pos c17] at H
              have c17b0 : decide ((l0.length : Int) < (wrap64 (a1 + 3))) = true := decide_eq_true c17
              clear c17
              simp only [Option.some.injEq, Prod.mk.injEq] at H
              obtain ⟨rfl, rfl⟩ := H
              have p274 : 0 ≤ (a1 : Int) := of_decide_eq_true (by first | (with_reducible assumption) | assumption)
              have q274 : a1 < (l0.length : Int) := of_decide_eq_true (by first | (with_reducible assumption) | assumption)
              obtain ⟨ad274, e274, hx274_0⟩ := Kd.at_int HR0.out a1 p274 q274
              cases e274
              replace p274 := eq_true p274
              replace q274 := eq_true q274
              have p278 : 0 ≤ (a1 : Int) := of_decide_eq_true (by first | (with_reducible assumption) | assumption)
              have q278 : a1 < (l0.length : Int) := of_decide_eq_true (by first | (with_reducible assumption) | assumption)
              obtain ⟨ad278, e278, hx278_0⟩ := Kd.at_int HR0.out a1 p278 q278
              obtain rfl : ad274 = ad278 := (by injection e278)
              replace p278 := eq_true p278
              replace q278 := eq_true q278
              go_enter Tryd.func59, Tryd.ntmps59
              go_wp2
              go_ret2
              exact ⟨by first | rfl | (simp [errW_none, errW_some] <;> rfl) | (simp [*, errW_none, errW_some] <;> rfl), by repeat (first | (with_reducible first | exact HB.out | apply qG | apply qB | apply qF) | exact HB.out)⟩
            · rw [if_neg c17] at H
              have c17b0 : decide ((l0.length : Int) < (wrap64 (a1 + 3))) = false := decide_eq_false c17
              clear c17
              obtain ⟨ji18, hji18⟩ : ∃ j_ : Int, (wrap64 (a1 + 1)) = j_ := ⟨_, rfl⟩
              replace H : (if 0 ≤ (ji18) then (if (ji18) ≤ (wrap64 (a1 + 3)) then (if (wrap64 (a1 + 3)) ≤ (l0.length : Int) then ((flongref04_text.f k ((l0.take ((wrap64 (a1 + 3)) : Int).toNat).drop ((ji18) : Int).toNat)).bind fun t280 => (some (t280, wrap64 (a1 + 3)))) else (none)) else (none)) else (none)) = some (r1, r2) := by first | (rw [hji18] at H; exact H) | (simp only [hji18] at H ⊢; exact H)
              have hji18w : (IntKind.i64.wrap (a1 + 1)) = ji18 := (i64_w _).trans hji18
              by_cases c19 : 0 ≤ (ji18)
              · rw [if_pos c19] at H
                have c19b0 := eq_true c19
                have c19b1 : decide (0 ≤ (ji18)) = true := decide_eq_true c19
                clear c19
                by_cases c20 : (ji18) ≤ (wrap64 (a1 + 3))
                · rw [if_pos c20] at H
                  have c20b0 := eq_true c20
                  have c20b1 : decide ((ji18) ≤ (wrap64 (a1 + 3))) = true := decide_eq_true c20
                  by_cases c21 : (wrap64 (a1 + 3)) ≤ (l0.length : Int)
                  · rw [if_pos c21] at H
                    have c21b0 := eq_true c21
                    have c21b1 : decide ((wrap64 (a1 + 3)) ≤ (l0.length : Int)) = true := decide_eq_true c21
                    replace H := Option.bind_eq_some_iff.mp H
                    obtain ⟨t280, A220, H⟩ := H
                    replace H : (some (t280, wrap64 (a1 + 3))) = some (r1, r2) := H
                    have A22 := qA A220
                    clear A220
                    simp only [Option.some.injEq, Prod.mk.injEq] at H
                    obtain ⟨rfl, rfl⟩ := H
                    have p274 : 0 ≤ (a1 : Int) := of_decide_eq_true (by first | (with_reducible assumption) | assumption)
                    have q274 : a1 < (l0.length : Int) := of_decide_eq_true (by first | (with_reducible assumption) | assumption)
                    obtain ⟨ad274, e274, hx274_0⟩ := Kd.at_int HR0.out a1 p274 q274
                    cases e274
                    replace p274 := eq_true p274
                    replace q274 := eq_true q274
                    have p278 : 0 ≤ (a1 : Int) := of_decide_eq_true (by first | (with_reducible assumption) | assumption)
                    have q278 : a1 < (l0.length : Int) := of_decide_eq_true (by first | (with_reducible assumption) | assumption)
                    obtain ⟨ad278, e278, hx278_0⟩ := Kd.at_int HR0.out a1 p278 q278
                    obtain rfl : ad274 = ad278 := (by injection e278)
                    replace p278 := eq_true p278
                    replace q278 := eq_true q278
                    obtain ⟨i023, hi023, _, hsz23, _⟩ := info_parts info21
                    obtain ⟨A23, hcut23, hA23, hC23⟩ := print_mid_of (P := Tryd.prog) (Value.int .i32) 0 34 21 .i64 .i64 Tryd.underlying34 hi023 hsz23 (some ad274) c0 l0 (ji18) (wrap64 (a1 + 3)) (of_decide_eq_true (by first | (with_reducible assumption) | assumption)) (by first | omega | exact of_decide_eq_true (by first | (with_reducible assumption) | assumption)) (of_decide_eq_true (by first | (with_reducible assumption) | assumption)) HC0.out
                    have HR279 := qA (Kd.C_of_reads (h1 := fun _ => rfl) (hA23 _ (Kd.reads_of_C HR0.out)))
                    have HC279 := qA hC23
                    clear hA23 hC23 hi023 hsz23
                    go_enter Tryd.func59, Tryd.ntmps59
                    go_wp2_with (first | ((with_reducible refine gate_callee (f := 69) rfl ?_); refine goesL_ (some 45) rfl rfl Tryd.func69 (by kernel_rfl) rfl #[.slice A23 ((l0.take ((wrap64 (a1 + 3)) : Int).toNat).drop ((ji18) : Int).toNat).length (c0 - (ji18).toNat)] rfl (by (try simp only [List.map_toArray, List.map_cons, List.map_nil]); first | done | (rw [show ((l0.take ((wrap64 (a1 + 3)) : Int).toNat).drop ((ji18) : Int).toNat).length = ((wrap64 (a1 + 3)).toNat - (ji18).toNat) from (by rw [List.length_drop, List.length_take]; have h_ : ((wrap64 (a1 + 3)) : Int) ≤ (l0.length : Int) := of_decide_eq_true (by first | (with_reducible assumption) | assumption); omega)] <;> rfl) | (simp only [hji18]; rfl) | rfl | (simp only [List.length_drop, List.length_take]; rfl)) ?_; (with_reducible refine (flongref04_text.calls k _ _ ((l0.take ((wrap64 (a1 + 3)) : Int).toNat).drop ((ji18) : Int).toNat) t280 _ ?side1 ?side2 A22.out).mono ?_); (case side1 => repeat (first | exact HR279.out | (with_reducible refine Kd.C_alloc ?_ _) | (with_reducible refine Kd.C_drewN ?_ _) | (with_reducible refine Kd.C_drew ?_))); (case side2 => exact HC279.out); rintro e w24 ⟨rfl, hb⟩; refine ⟨_, rfl, ?_⟩; have n0_ := qA (qR (by repeat (first | (with_reducible first | exact HB.out | apply qG | apply qB | apply qF) | exact HB.out)) hb); clear HB; have HB := n0_; clear n0_; (try clear hb); (try clear hb2); (try clear hk); (try clear hi)))
                    go_ret2
                    exact ⟨by first | rfl | (simp [errW_none, errW_some] <;> rfl) | (simp only [← hji18]; first | rfl | (simp [errW_none, errW_some] <;> rfl)) | (simp [*, errW_none, errW_some] <;> rfl), by repeat (first | (with_reducible first | exact HB.out | apply qG | apply qB | apply qF) | exact HB.out)⟩
                  · rw [if_neg c21] at H
                    exact absurd H (by simp)
                · rw [if_neg c20] at H
                  exact absurd H (by simp)
              · rw [if_neg c19] at H
                exact absurd H (by simp)
          · rw [if_neg c16] at H
            have c16b0 : ((rd l0 a1) == 40) = false := beq_eq_false_iff_ne.mpr c16
            have c16b1 : ((rd l0 a1) != 40) = true := bne_iff_ne.mpr c16
            have c25b0 := eq_true (of_decide_eq_true (by first | (with_reducible assumption) | assumption) : 0 ≤ a1)
            by_cases c26 : a1 ≤ (wrap64 (a1 + 1))
            · rw [if_pos c26] at H
              have c26b0 := eq_true c26
              have c26b1 : decide (a1 ≤ (wrap64 (a1 + 1))) = true := decide_eq_true c26
              by_cases c27 : (wrap64 (a1 + 1)) ≤ (l0.length : Int)
              · rw [if_pos c27] at H
                have c27b0 := eq_true c27
                have c27b1 : decide ((wrap64 (a1 + 1)) ≤ (l0.length : Int)) = true := decide_eq_true c27
                replace H := Option.bind_eq_some_iff.mp H
                obtain ⟨t282, A280, H⟩ := H
                replace H : (some (t282, wrap64 (a1 + 1))) = some (r1, r2) := H
                have A28 := qA A280
                clear A280
                simp only [Option.some.injEq, Prod.mk.injEq] at H
                obtain ⟨rfl, rfl⟩ := H
                have p274 : 0 ≤ (a1 : Int) := of_decide_eq_true (by first | (with_reducible assumption) | assumption)
                have q274 : a1 < (l0.length : Int) := of_decide_eq_true (by first | (with_reducible assumption) | assumption)
                obtain ⟨ad274, e274, hx274_0⟩ := Kd.at_int HR0.out a1 p274 q274
                cases e274
                replace p274 := eq_true p274
                replace q274 := eq_true q274
                have p278 : 0 ≤ (a1 : Int) := of_decide_eq_true (by first | (with_reducible assumption) | assumption)
                have q278 : a1 < (l0.length : Int) := of_decide_eq_true (by first | (with_reducible assumption) | assumption)
                obtain ⟨ad278, e278, hx278_0⟩ := Kd.at_int HR0.out a1 p278 q278
                obtain rfl : ad274 = ad278 := (by injection e278)
                replace p278 := eq_true p278
                replace q278 := eq_true q278
                obtain ⟨i029, hi029, _, hsz29, _⟩ := info_parts info21
                obtain ⟨A29, hcut29, hA29, hC29⟩ := print_mid_of (P := Tryd.prog) (Value.int .i32) 0 34 21 .i64 .i64 Tryd.underlying34 hi029 hsz29 (some ad274) c0 l0 a1 (wrap64 (a1 + 1)) (of_decide_eq_true (by first | (with_reducible assumption) | assumption)) (by first | omega | exact of_decide_eq_true (by first | (with_reducible assumption) | assumption)) (of_decide_eq_true (by first | (with_reducible assumption) | assumption)) HC0.out
                have HR281 := qA (Kd.C_of_reads (h1 := fun _ => rfl) (hA29 _ (Kd.reads_of_C HR0.out)))
                have HC281 := qA hC29
                clear hA29 hC29 hi029 hsz29
                go_enter Tryd.func59, Tryd.ntmps59
                go_wp2_with (first | ((with_reducible refine gate_callee (f := 69) rfl ?_); refine goesL_ (some 53) rfl rfl Tryd.func69 (by kernel_rfl) rfl #[.slice A29 ((l0.take ((wrap64 (a1 + 1)) : Int).toNat).drop (a1 : Int).toNat).length (c0 - a1.toNat)] rfl (by (try simp only [List.map_toArray, List.map_cons, List.map_nil]); first | done | (rw [show ((l0.take ((wrap64 (a1 + 1)) : Int).toNat).drop (a1 : Int).toNat).length = ((wrap64 (a1 + 1)).toNat - a1.toNat) from (by rw [List.length_drop, List.length_take]; have h_ : ((wrap64 (a1 + 1)) : Int) ≤ (l0.length : Int) := of_decide_eq_true (by first | (with_reducible assumption) | assumption); omega)] <;> rfl) | rfl | (simp only [List.length_drop, List.length_take]; rfl)) ?_; (with_reducible refine (flongref04_text.calls k _ _ ((l0.take ((wrap64 (a1 + 1)) : Int).toNat).drop (a1 : Int).toNat) t282 _ ?side1 ?side2 A28.out).mono ?_); (case side1 => repeat (first | exact HR281.out | (with_reducible refine Kd.C_alloc ?_ _) | (with_reducible refine Kd.C_drewN ?_ _) | (with_reducible refine Kd.C_drew ?_))); (case side2 => exact HC281.out); rintro e w30 ⟨rfl, hb⟩; refine ⟨_, rfl, ?_⟩; have n0_ := qA (qR (by repeat (first | (with_reducible first | exact HB.out | apply qG | apply qB | apply qF) | exact HB.out)) hb); clear HB; have HB := n0_; clear n0_; (try clear hb); (try clear hb2); (try clear hk); (try clear hi)))
                go_ret2
                exact ⟨by first | rfl | (simp [errW_none, errW_some] <;> rfl) | (simp [*, errW_none, errW_some] <;> rfl), by repeat (first | (with_reducible first | exact HB.out | apply qG | apply qB | apply qF) | exact HB.out)⟩
              · rw [if_neg c27] at H
                exact absurd H (by simp)
            · rw [if_neg c26] at H
              exact absurd H (by simp)
      · rw [if_neg c5] at H
        exact absurd H (by simp)
    · rw [if_neg c4] at H
      exact absurd H (by simp)
end Go.Proofs.YtdogljnddalgdaaDoor.A6
end
section
namespace Go.Proofs.YtdogljnddalgdaaDoor.A6
open Go.RowKit Go.Proofs.YtdogljnddalgdaaDoorW.PrintWords Go.Proofs.YtdogljnddalgdaaDoorW.PrintLast Go.Proofs.YtdogljnddalgdaaDoorW.PrintMore
open Go.Proofs.YtdogljnddalgdaaDoorW.PrintWords.Aside0 renaming mk → qA
attribute [local go_sem] max2_int min2_int max_two min_two max_three min_three max_four min_four   -- for this text's walks alone
set_option linter.unusedVariables false
set_option linter.unusedSimpArgs false
def slices_Index_rune_rune.l0 : Nat → List Int → Int → Int → Int → Option (Int)
  | 0, _, _, _, _ => none
  | k + 1, x0, x1, x7, x8 => if x8 < x7 then (if 0 ≤ x8 then (if x8 < (x0.length : Int) then (if x1 = (rd x0 x8) then (some x8) else (slices_Index_rune_rune.l0 k x0 x1 x7 (wrap64 (x8 + 1)))) else (none)) else (none)) else (some (-1))
def slices_Index_rune_rune.f (k : Nat) (l0 : List Int) (a1 : Int) : Option (Int) := slices_Index_rune_rune.l0 k l0 a1 (l0.length : Int) 0
theorem slices_Index_rune_rune.mono_l : ∀ k, (∀ y0 y1 y2 y3, LeO (slices_Index_rune_rune.l0 k y0 y1 y2 y3) (slices_Index_rune_rune.l0 (k + 1) y0 y1 y2 y3))
  | 0 => fun _ _ _ _ r h => by simp [slices_Index_rune_rune.l0] at h
  | k + 1 => by
    have ih0 := slices_Index_rune_rune.mono_l k
    · intro y0 y1 y2 y3
      unfold slices_Index_rune_rune.l0
      repeat' first
      | (with_reducible exact ih0 _ _ _ _)
      | (with_reducible exact LeO.refl _)
      | (with_reducible exact LeO.none _)
      | (with_reducible refine LeO.ite ?_ ?_)
      | (with_reducible refine LeO.bind ?_ (fun _ => ?_))
      | exact ih0 _ _ _ _
      | exact LeO.none _
      | refine LeO.ite ?_ ?_
      | refine LeO.bind ?_ (fun _ => ?_)
theorem slices_Index_rune_rune.mono : ∀ a0 a1 k, LeO (slices_Index_rune_rune.f k a0 a1) (slices_Index_rune_rune.f (k + 1) a0 a1) := by
  intro a0 a1 k
  have ih0 := slices_Index_rune_rune.mono_l k
  unfold slices_Index_rune_rune.f
  repeat' first
      | (with_reducible exact ih0 _ _ _ _)
      | (with_reducible exact LeO.refl _)
      | (with_reducible exact LeO.none _)
      | (with_reducible refine LeO.ite ?_ ?_)
      | (with_reducible refine LeO.bind ?_ (fun _ => ?_))
      | exact ih0 _ _ _ _
      | exact LeO.none _
      | refine LeO.ite ?_ ?_
      | refine LeO.bind ?_ (fun _ => ?_)
set_option maxHeartbeats 8000000 in
set_option maxRecDepth 100000 in
theorem slices_Index_rune_rune.calls (k : Nat) (A0 : Option Addr) (c0 : Nat) (l0 : List Int) (a1 : Int) (r : Int) (w : World) (hr0 : Kd.C (Kd.int .i32) w A0 l0.length l0) (hc0 : l0.length ≤ c0) (h : slices_Index_rune_rune.f k l0 a1 = some r) :
    Calls Tryd.prog 70 #[.slice A0 l0.length c0, .int .i32 a1] w fun e w' => e = .returned (.int .i64 r) ∧ Drawn0 w w' := by
  have HR0 := qA hr0
  have HC0 := qA hc0
  clear hr0 hc0
  have H : (slices_Index_rune_rune.l0 k l0 a1 (l0.length : Int) 0) = some r := h
  clear h
  have H' := qA H
  clear H
  go_enter Tryd.func70, Tryd.ntmps70
  go_wp2
  go_loopg [8] k (fun kq v8 w' => ∃ (x8_1 : Int), v8 = .int .i64 x8_1 ∧ Aside0 (slices_Index_rune_rune.l0 kq l0 a1 (l0.length : Int) x8_1 = some r) ∧ Aside0 (kq ≤ k) ∧ Drawn0 w w')
  case atStart => exact ⟨(0), (by first | rfl | (simp; done) | (simp [*]; done)), H', ⟨Nat.le_refl _⟩, by repeat (first | exact Drawn0.refl _ | apply Drawn0.step)⟩
  case round =>
    clear H'
    try clear p2
    obtain ⟨x8_1, rfl, HA, HK1, ⟨m1, rfl⟩⟩ := hrel
    cases gk with
    | zero => exact absurd HA.out (by simp [slices_Index_rune_rune.l0])
    | succ k1 =>
      have H := HA.out
      clear HA
      simp only [slices_Index_rune_rune.l0] at H
      by_cases c3 : x8_1 < (l0.length : Int)
      · rw [if_pos c3] at H
        have c3b0 : decide (x8_1 < (l0.length : Int)) = true := decide_eq_true c3
        clear c3
        by_cases c4 : 0 ≤ x8_1
        · rw [if_pos c4] at H
          have c4b0 : decide (0 ≤ x8_1) = true := decide_eq_true c4
          clear c4
          by_cases c5 : x8_1 < (l0.length : Int)
          · rw [if_pos c5] at H
            have c5b0 : decide (x8_1 < (l0.length : Int)) = true := decide_eq_true c5
            clear c5
            by_cases c6 : a1 = (rd l0 x8_1)
            · rw [if_pos c6] at H
              have c6b0 : (a1 == (rd l0 x8_1)) = true := beq_iff_eq.mpr c6
              have c6b1 : (a1 != (rd l0 x8_1)) = false := bne_eq_false_iff_eq.mpr c6
              clear c6
              obtain rfl := Option.some.inj H
              have p125 : 0 ≤ (x8_1 : Int) := of_decide_eq_true (by first | (with_reducible assumption) | assumption)
              have q125 : x8_1 < (l0.length : Int) := of_decide_eq_true (by first | (with_reducible assumption) | assumption)
              obtain ⟨ad125, e125, hx125_0⟩ := Kd.at_int HR0.out x8_1 p125 q125
              cases e125
              replace p125 := eq_true p125
              replace q125 := eq_true q125
              go_wp2
              go_ret
              exact ⟨by first | rfl | (simp; done) | (simp [*]; done), by repeat (first | exact Drawn0.refl _ | apply Drawn0.step)⟩
            · rw [if_neg c6] at H
              have c6b0 : (a1 == (rd l0 x8_1)) = false := beq_eq_false_iff_ne.mpr c6
              have c6b1 : (a1 != (rd l0 x8_1)) = true := bne_iff_ne.mpr c6
              have H' := qA H
              clear H
              have p125 : 0 ≤ (x8_1 : Int) := of_decide_eq_true (by first | (with_reducible assumption) | assumption)
              have q125 : x8_1 < (l0.length : Int) := of_decide_eq_true (by first | (with_reducible assumption) | assumption)
              obtain ⟨ad125, e125, hx125_0⟩ := Kd.at_int HR0.out x8_1 p125 q125
              cases e125
              replace p125 := eq_true p125
              replace q125 := eq_true q125
              go_wp2
              go_roundg k1
              case measure => have := HK1.out; omega
              case rel => exact ⟨(wrap64 (x8_1 + 1)), (by first | rfl | (simp; done) | (simp [*]; done)), H', ⟨by have := HK1.out; omega⟩, by repeat (first | exact Drawn0.refl _ | apply Drawn0.step)⟩
          · rw [if_neg c5] at H
            exact absurd H (by simp)
        · rw [if_neg c4] at H
          exact absurd H (by simp)
      · rw [if_neg c3] at H
        have c3b0 : decide (x8_1 < (l0.length : Int)) = false := decide_eq_false c3
        clear c3
        obtain rfl := Option.some.inj H
        go_wp2
        go_ret
        exact ⟨by first | rfl | (simp; done) | (simp [*]; done), by repeat (first | exact Drawn0.refl _ | apply Drawn0.step)⟩
end Go.Proofs.YtdogljnddalgdaaDoor.A6
end
section
namespace Go.Proofs.YtdogljnddalgdaaDoor.A6
open Go.RowKit Go.Proofs.YtdogljnddalgdaaDoorW.PrintWords Go.Proofs.YtdogljnddalgdaaDoorW.PrintLast Go.Proofs.YtdogljnddalgdaaDoorW.PrintMore
open Go.Proofs.YtdogljnddalgdaaDoorW.PrintWords.Aside0 renaming mk → qA
open Go.Proofs.YtdogljnddalgdaaDoorW.PrintWords renaming pw_below_drewN → qB, blk_frozen → qL, blk_cell → qQ
open Go.Proofs.YtdogljnddalgdaaDoorW.PrintWords.Kd renaming R_drewN → qI, R_drew → qK
attribute [local go_sem] max2_int min2_int max_two min_two max_three min_three max_four min_four   -- for this text's walks alone
set_option linter.unusedVariables false
set_option linter.unusedSimpArgs false
theorem runes_conv {w : World} {A : Option Addr} {xs : List Int} {c : Nat} (h : Kd.C (Kd.int .i32) w A xs.length xs) :
    (convert 34 9 (.slice A xs.length c)).run Tryd.prog w = .ok (.string (runesBytes xs)) w := by
  have h' := Kd.reads_of_C (d := (0 : Int)) h
  rcases xs with _ | ⟨x, xs⟩
  · cases A with
    | none => exact run_convert_runes_nil w _ _ 21 _ _ Tryd.underlying34 Tryd.underlying21 Tryd.underlying9
    | some a =>
      have := run_convert_runes (P := Tryd.prog) w 34 9 21 a 0 c [] (by simp) Tryd.underlying34 Tryd.underlying21 Tryd.underlying9 (by simp)
      simpa using this
  · obtain ⟨a, e, hc⟩ := h'.2.2 (by simp)
    subst e
    have := run_convert_runes (P := Tryd.prog) w 34 9 21 a (x :: xs).length c (x :: xs) (Nat.le_refl _) Tryd.underlying34 Tryd.underlying21 Tryd.underlying9 (fun j hj => hc j hj)
    simpa using this
def rd_name (k : Nat) (l : List Int) (p : Int) (one : Bool) : Option (ByteArray × Bool × Int) :=
  if (l.length : Int) ≤ p then some (⟨#[]⟩, false, p)
  else if rd l p = 91 then (slices_Index_rune_rune.f k (l.drop p.toNat) 93).bind fun e => if e < 0 then some (⟨#[]⟩, false, p) else if 1 ≤ e ∧ e < (l.drop p.toNat).length then some (runesBytes (((l.drop p.toNat).take e.toNat).drop 1), true, p + (e + 1)) else none
  else if rd l p = 40 then (if p + 1 + 2 > l.length then some (⟨#[]⟩, false, p + 1) else some (runesBytes ((l.take (p + 1 + 2).toNat).drop (p + 1).toNat), true, p + 1 + 2))
  else if one then some (runesBytes ((l.take (p + 1).toNat).drop p.toNat), true, p + 1) else some (⟨#[]⟩, false, p)
section
variable {w : World} {base g : Nat} {vl : Value} {l : List Int} {p : Int} {vo : Value} {xs : List S38} {vb : Value} {ys : List S41}
theorem RD.set_at (h : RD w base g vl l p vo xs vb ys) (q : Int) : RD (w.setCell ⟨g, 1, none⟩ (.int .i64 q)) base g vl l q vo xs vb ys :=
  ⟨blk_put (cs := #[vl, .int .i64 p, vo, vb]) h.blk 1 _ rfl, h.ge, Kd.R_set h.l h.blk (by decide) 1 _, Kd.R_set h.o h.blk (by decide) 1 _, Kd.R_set h.b h.blk (by decide) 1 _⟩
theorem RD.drewN (h : RD w base g vl l p vo xs vb ys) (n : Nat) : RD (w.drewN n) base g vl l p vo xs vb ys := ⟨h.blk, h.ge, qI h.l n, qI h.o n, qI h.b n⟩
theorem RD.drew (h : RD w base g vl l p vo xs vb ys) : RD w.drew base g vl l p vo xs vb ys := ⟨h.blk, h.ge, qK h.l, qK h.o, qK h.b⟩
end
set_option maxHeartbeats 8000000 in
set_option maxRecDepth 100000 in
theorem name_empty {w0 w : World} {base g : Nat} {vl : Value} {l : List Int} {p : Int} {vo : Value} {xs : List S38} {vb : Value} {ys : List S41} (one : Bool)
    (hB : Below base w0 w) (h : RD w base g vl l p vo xs vb ys) (hp0 : 0 ≤ p) (hp1 : p ≤ l.length) (hp : (l.length : Int) ≤ p) :
    Calls Tryd.prog 67 #[.pointer (some ⟨g, 0, none⟩), .bool one] w fun e w' => e = .returned (.tuple #[.string ⟨#[]⟩, .bool false]) ∧
      RD w' base g vl l p vo xs vb ys ∧ Below base w0 w' ∧ w.heap.size ≤ w'.heap.size := by
  obtain ⟨Al, cl, el, hcl, hrl⟩ := Kd.R_reads h.l
  subst el
  have HR := qA h
  have HB := qA hB
  have hcz0 : w.cell? ⟨g, 0, none⟩ = some (.slice Al l.length cl) := (qQ h.blk 0).trans rfl
  have hcz1 : w.cell? ⟨g, 1, none⟩ = some (.int .i64 p) := (qQ h.blk 1).trans rfl
  have hfz1 := qL h.blk 1
  obtain ⟨i0, hi0, _, hsz, _⟩ := info_parts info21
  obtain ⟨A', hcut, hA, hC⟩ := print_drop_of (P := Tryd.prog) (Value.int .i32) 0 34 21 .i64 Tryd.underlying34 hi0 hsz Al cl l p hp0 hp1 hcl
  have e0 : l.drop p.toNat = [] := List.drop_eq_nil_of_le (by omega)
  rw [e0] at hcut
  clear h hB hA hC hi0 hsz hrl e0 hcl hp0 hp1 hp
  have hu65 := Tryd.underlying65
  go_enter Tryd.func67, Tryd.ntmps67
  go_wp2
  go_quiet (fail)
  go_wp2
  go_ret2
  exact ⟨rfl, by repeat (first | exact HR.out | apply RD.drew | apply RD.drewN | apply RD.set_at), by repeat (first | exact HB.out | apply below_drew | apply qB | refine Below.setCell ?_ HR.out.ge _), by simp [World.setCell]⟩
set_option maxHeartbeats 8000000 in
set_option maxRecDepth 100000 in
theorem name_none {w0 w : World} {base g : Nat} {vl : Value} {l : List Int} {p : Int} {vo : Value} {xs : List S38} {vb : Value} {ys : List S41} (one : Bool)
    (hB : Below base w0 w) (h : RD w base g vl l p vo xs vb ys) (hp0 : 0 ≤ p) (hp1 : p < l.length) (h91 : rd l p ≠ 91) (h40 : rd l p ≠ 40) :
    Calls Tryd.prog 67 #[.pointer (some ⟨g, 0, none⟩), .bool false] w fun e w' => e = .returned (.tuple #[.string ⟨#[]⟩, .bool false]) ∧
      RD w' base g vl l p vo xs vb ys ∧ Below base w0 w' ∧ w.heap.size ≤ w'.heap.size := by
  obtain ⟨Al, cl, el, hcl, hrl⟩ := Kd.R_reads h.l
  subst el
  have HR := qA h
  have HB := qA hB
  have hcz0 : w.cell? ⟨g, 0, none⟩ = some (.slice Al l.length cl) := (qQ h.blk 0).trans rfl
  have hcz1 : w.cell? ⟨g, 1, none⟩ = some (.int .i64 p) := (qQ h.blk 1).trans rfl
  have hfz1 := qL h.blk 1
  obtain ⟨i0, hi0, _, hsz, _⟩ := info_parts info21
  obtain ⟨A', hcut, hA, hC⟩ := print_drop_of (P := Tryd.prog) (Value.int .i32) 0 34 21 .i64 Tryd.underlying34 hi0 hsz Al cl l p hp0 (Int.le_of_lt hp1) hcl
  have hrd : Kd.C (Kd.int .i32) w A' (l.drop p.toNat).length (l.drop p.toNat) := Kd.C_of_reads (h1 := fun _ => rfl) (hA w (Kd.reads_of_C (d := (0 : Int)) hrl))
  have hm0 : rd (l.drop p.toNat) 0 = rd l p := by simp [rd, List.getD]
  have hml : 0 < (l.drop p.toNat).length := by simp; omega
  obtain ⟨m, hm⟩ : ∃ m, m = l.drop p.toNat := ⟨_, rfl⟩
  rw [← hm] at hcut hrd hm0 hml hC
  obtain ⟨ad, ead, hx0⟩ := Kd.at_int hrd 0 (by omega) (by omega)
  subst ead
  rw [show ((0 : Int)).toNat = 0 from rfl, Addr.add_zero', hm0] at hx0
  have hlt : (0 < m.length) = True := eq_true hml
  have hz : ((m.length : Int) == 0) = false := beq_eq_false_iff_ne.mpr (by omega)
  have hlt2 : decide (0 < m.length) = true := decide_eq_true hml
  have b91 : (rd l p == 91) = false := by simpa using h91
  have b40 : (rd l p == 40) = false := by simpa using h40
  have HM := qA hm
  clear h hB hA hC hi0 hsz hrl hrd hcl hp0 hp1 h91 h40 hm hm0 hml
  have hu65 := Tryd.underlying65
  go_enter Tryd.func67, Tryd.ntmps67
  go_wp2
  go_quiet (fail)
  go_wp2
  go_quiet (fail)
  go_wp2
  go_ret2
  exact ⟨rfl, by repeat (first | exact HR.out | apply RD.drew | apply RD.drewN | apply RD.set_at), by repeat (first | exact HB.out | apply below_drew | apply qB | refine Below.setCell ?_ HR.out.ge _), by simp [World.setCell]⟩
set_option maxHeartbeats 8000000 in
set_option maxRecDepth 100000 in
theorem name_one {w0 w : World} {base g : Nat} {vl : Value} {l : List Int} {p : Int} {vo : Value} {xs : List S38} {vb : Value} {ys : List S41} (one : Bool)
    (hB : Below base w0 w) (h : RD w base g vl l p vo xs vb ys) (hp0 : 0 ≤ p) (hp1 : p < l.length) (h91 : rd l p ≠ 91) (h40 : rd l p ≠ 40) (hll : l.length ≤ 9223372036854775806) :
    Calls Tryd.prog 67 #[.pointer (some ⟨g, 0, none⟩), .bool true] w fun e w' => e = .returned (.tuple #[.string (runesBytes ((l.take (p + 1).toNat).drop p.toNat)), .bool true]) ∧
      RD w' base g vl l (p + 1) vo xs vb ys ∧ Below base w0 w' ∧ w.heap.size ≤ w'.heap.size := by
  obtain ⟨Al, cl, el, hcl, hrl⟩ := Kd.R_reads h.l
  subst el
  have HR := qA h
  have HB := qA hB
  have hcz0 : w.cell? ⟨g, 0, none⟩ = some (.slice Al l.length cl) := (qQ h.blk 0).trans rfl
  have hcz1 : w.cell? ⟨g, 1, none⟩ = some (.int .i64 p) := (qQ h.blk 1).trans rfl
  have hfz1 := qL h.blk 1
  obtain ⟨i0, hi0, _, hsz, _⟩ := info_parts info21
  obtain ⟨A', hcut, hA, hC⟩ := print_drop_of (P := Tryd.prog) (Value.int .i32) 0 34 21 .i64 Tryd.underlying34 hi0 hsz Al cl l p hp0 (Int.le_of_lt hp1) hcl
  have hrd : Kd.C (Kd.int .i32) w A' (l.drop p.toNat).length (l.drop p.toNat) := Kd.C_of_reads (h1 := fun _ => rfl) (hA w (Kd.reads_of_C (d := (0 : Int)) hrl))
  have hm0 : rd (l.drop p.toNat) 0 = rd l p := by simp [rd, List.getD]
  have hml : 0 < (l.drop p.toNat).length := by simp; omega
  obtain ⟨m, hm⟩ : ∃ m, m = l.drop p.toNat := ⟨_, rfl⟩
  rw [← hm] at hcut hrd hm0 hml hC
  obtain ⟨ad, ead, hx0⟩ := Kd.at_int hrd 0 (by omega) (by omega)
  subst ead
  rw [show ((0 : Int)).toNat = 0 from rfl, Addr.add_zero', hm0] at hx0
  have hlt : (0 < m.length) = True := eq_true hml
  have hz : ((m.length : Int) == 0) = false := beq_eq_false_iff_ne.mpr (by omega)
  have hlt2 : decide (0 < m.length) = true := decide_eq_true hml
  obtain ⟨i1, hi1, _, hsz1, _⟩ := info_parts info21
  obtain ⟨A2, hcut2, hA2, hC2⟩ := print_mid_of (P := Tryd.prog) (Value.int .i32) 0 34 21 .i64 .i64 Tryd.underlying34 hi1 hsz1 Al cl l p (p + 1) hp0 (by omega) (by omega) hcl
  have hrd2 : ∀ n, Kd.C (Kd.int .i32) (w.drewN n) A2 ((l.take (p + 1).toNat).drop p.toNat).length ((l.take (p + 1).toNat).drop p.toNat) := fun n => Kd.C_drewN (Kd.C_of_reads (h1 := fun _ => rfl) (hA2 w (Kd.reads_of_C (d := (0 : Int)) hrl))) n
  obtain ⟨m2, hm2⟩ : ∃ m2, m2 = (l.take (p + 1).toNat).drop p.toNat := ⟨_, rfl⟩
  rw [← hm2] at hcut2 hrd2
  have hcv := fun n => runes_conv (c := cl - p.toNat) (hrd2 n)
  have hw1 : wrap64 (p + 1) = p + 1 := by unfold wrap64; omega
  have hgt : decide ((l.length : Int) < p + 1) = false := decide_eq_false (by omega)
  have HM2 := qA hm2
  have hp00 : 0 ≤ p := hp0
  have hpl : p + 1 ≤ 9223372036854775807 := by omega
  have b91 : (rd l p == 91) = false := by simpa using h91
  have b40 : (rd l p == 40) = false := by simpa using h40
  have HM := qA hm
  clear h hB hA hC hi0 hsz hrl hrd hrd2 hA2 hC2 hi1 hsz1 hll hcl hp0 hp1 h91 h40 hm hm0 hml hm2
  have hu65 := Tryd.underlying65
  go_enter Tryd.func67, Tryd.ntmps67
  go_wp2
  go_quiet (fail)
  go_wp2
  go_quiet (fail)
  go_wp2
  go_quiet (fail)
  go_wp2
  go_ret2
  rw [← HM2.out]
  exact ⟨rfl, by repeat (first | exact HR.out | apply RD.drew | apply RD.drewN | apply RD.set_at), by repeat (first | exact HB.out | apply below_drew | apply qB | refine Below.setCell ?_ HR.out.ge _), by simp [World.setCell]⟩
set_option maxHeartbeats 8000000 in
set_option maxRecDepth 100000 in
theorem name_two {w0 w : World} {base g : Nat} {vl : Value} {l : List Int} {p : Int} {vo : Value} {xs : List S38} {vb : Value} {ys : List S41} (one : Bool)
    (hB : Below base w0 w) (h : RD w base g vl l p vo xs vb ys) (hp0 : 0 ≤ p) (hp1 : p < l.length) (h40 : rd l p = 40) (h3 : p + 1 + 2 ≤ l.length) (hll : l.length ≤ 9223372036854775806) :
    Calls Tryd.prog 67 #[.pointer (some ⟨g, 0, none⟩), .bool one] w fun e w' => e = .returned (.tuple #[.string (runesBytes ((l.take (p + 1 + 2).toNat).drop (p + 1).toNat)), .bool true]) ∧
      RD w' base g vl l (p + 1 + 2) vo xs vb ys ∧ Below base w0 w' ∧ w.heap.size ≤ w'.heap.size := by
  obtain ⟨Al, cl, el, hcl, hrl⟩ := Kd.R_reads h.l
  subst el
  have HR := qA h
  have HB := qA hB
  have hcz0 : w.cell? ⟨g, 0, none⟩ = some (.slice Al l.length cl) := (qQ h.blk 0).trans rfl
  have hcz1 : w.cell? ⟨g, 1, none⟩ = some (.int .i64 p) := (qQ h.blk 1).trans rfl
  have hfz1 := qL h.blk 1
  obtain ⟨i0, hi0, _, hsz, _⟩ := info_parts info21
  obtain ⟨A', hcut, hA, hC⟩ := print_drop_of (P := Tryd.prog) (Value.int .i32) 0 34 21 .i64 Tryd.underlying34 hi0 hsz Al cl l p hp0 (Int.le_of_lt hp1) hcl
  have hrd : Kd.C (Kd.int .i32) w A' (l.drop p.toNat).length (l.drop p.toNat) := Kd.C_of_reads (h1 := fun _ => rfl) (hA w (Kd.reads_of_C (d := (0 : Int)) hrl))
  have hm0 : rd (l.drop p.toNat) 0 = rd l p := by simp [rd, List.getD]
  have hml : 0 < (l.drop p.toNat).length := by simp; omega
  obtain ⟨m, hm⟩ : ∃ m, m = l.drop p.toNat := ⟨_, rfl⟩
  rw [← hm] at hcut hrd hm0 hml hC
  obtain ⟨ad, ead, hx0⟩ := Kd.at_int hrd 0 (by omega) (by omega)
  subst ead
  rw [show ((0 : Int)).toNat = 0 from rfl, Addr.add_zero', hm0] at hx0
  have hlt : (0 < m.length) = True := eq_true hml
  have hz : ((m.length : Int) == 0) = false := beq_eq_false_iff_ne.mpr (by omega)
  have hlt2 : decide (0 < m.length) = true := decide_eq_true hml
  obtain ⟨i1, hi1, _, hsz1, _⟩ := info_parts info21
  obtain ⟨A2, hcut2, hA2, hC2⟩ := print_mid_of (P := Tryd.prog) (Value.int .i32) 0 34 21 .i64 .i64 Tryd.underlying34 hi1 hsz1 Al cl l (p + 1) (p + 1 + 2) (by omega) (by omega) (by omega) hcl
  have hrd2 : ∀ n n2, Kd.C (Kd.int .i32) (((w.drewN n).setCell ⟨g, 1, none⟩ (.int .i64 (p + 1))).drewN n2) A2 ((l.take (p + 1 + 2).toNat).drop (p + 1).toNat).length ((l.take (p + 1 + 2).toNat).drop (p + 1).toNat) := fun n n2 => Kd.C_of_reads (h1 := fun _ => rfl) (hA2 _ (Kd.reads_of_C (d := (0 : Int)) (Kd.R_reads' (((HR.out.drewN n).set_at (p + 1)).drewN n2).l).2.2))
  obtain ⟨m2, hm2⟩ : ∃ m2, m2 = (l.take (p + 1 + 2).toNat).drop (p + 1).toNat := ⟨_, rfl⟩
  rw [← hm2] at hcut2 hrd2
  have hcv := fun n n2 => runes_conv (c := cl - (p + 1).toNat) (hrd2 n n2)
  have hw1 : wrap64 (p + 1) = p + 1 := by unfold wrap64; omega
  have hw2 : wrap64 (p + 1 + 2) = p + 1 + 2 := by unfold wrap64; omega
  have hgt : decide ((l.length : Int) < p + 1 + 2) = false := decide_eq_false (by omega)
  have HM2 := qA hm2
  have hp00 : 0 ≤ p := hp0
  have hpl : p + 1 + 2 ≤ 9223372036854775807 := by omega
  have b91 : (rd l p == 91) = false := by simp [h40]
  have b40 : (rd l p == 40) = true := by simpa using h40
  have HM := qA hm
  clear h hB hA hC hi0 hsz hrl hrd hrd2 hA2 hC2 hi1 hsz1 hll hcl hp0 hp1 h40 hm hm0 hml hm2 h3
  have hu65 := Tryd.underlying65
  cases one
  all_goals
    go_enter Tryd.func67, Tryd.ntmps67
    go_wp2
    go_quiet (fail)
    go_wp2
    go_quiet (fail)
    go_wp2
    go_quiet (fail)
    go_wp2
    go_ret2
    rw [← HM2.out]
    exact ⟨rfl, by repeat (first | exact HR.out | apply RD.drew | apply RD.drewN | apply RD.set_at), by repeat (first | exact HB.out | apply below_drew | apply qB | refine Below.setCell ?_ HR.out.ge _), by simp [World.setCell]⟩
set_option maxHeartbeats 8000000 in
set_option maxRecDepth 100000 in
theorem name_two_ends {w0 w : World} {base g : Nat} {vl : Value} {l : List Int} {p : Int} {vo : Value} {xs : List S38} {vb : Value} {ys : List S41} (one : Bool)
    (hB : Below base w0 w) (h : RD w base g vl l p vo xs vb ys) (hp0 : 0 ≤ p) (hp1 : p < l.length) (h40 : rd l p = 40) (h3 : l.length < p + 1 + 2) (hll : l.length ≤ 9223372036854775800) :
    Calls Tryd.prog 67 #[.pointer (some ⟨g, 0, none⟩), .bool one] w fun e w' => e = .returned (.tuple #[.string ⟨#[]⟩, .bool false]) ∧
      RD w' base g vl l (p + 1) vo xs vb ys ∧ Below base w0 w' ∧ w.heap.size ≤ w'.heap.size := by
  obtain ⟨Al, cl, el, hcl, hrl⟩ := Kd.R_reads h.l
  subst el
  have HR := qA h
  have HB := qA hB
  have hcz0 : w.cell? ⟨g, 0, none⟩ = some (.slice Al l.length cl) := (qQ h.blk 0).trans rfl
  have hcz1 : w.cell? ⟨g, 1, none⟩ = some (.int .i64 p) := (qQ h.blk 1).trans rfl
  have hfz1 := qL h.blk 1
  obtain ⟨i0, hi0, _, hsz, _⟩ := info_parts info21
  obtain ⟨A', hcut, hA, hC⟩ := print_drop_of (P := Tryd.prog) (Value.int .i32) 0 34 21 .i64 Tryd.underlying34 hi0 hsz Al cl l p hp0 (Int.le_of_lt hp1) hcl
  have hrd : Kd.C (Kd.int .i32) w A' (l.drop p.toNat).length (l.drop p.toNat) := Kd.C_of_reads (h1 := fun _ => rfl) (hA w (Kd.reads_of_C (d := (0 : Int)) hrl))
  have hm0 : rd (l.drop p.toNat) 0 = rd l p := by simp [rd, List.getD]
  have hml : 0 < (l.drop p.toNat).length := by simp; omega
  obtain ⟨m, hm⟩ : ∃ m, m = l.drop p.toNat := ⟨_, rfl⟩
  rw [← hm] at hcut hrd hm0 hml hC
  obtain ⟨ad, ead, hx0⟩ := Kd.at_int hrd 0 (by omega) (by omega)
  subst ead
  rw [show ((0 : Int)).toNat = 0 from rfl, Addr.add_zero', hm0] at hx0
  have hlt : (0 < m.length) = True := eq_true hml
  have hz : ((m.length : Int) == 0) = false := beq_eq_false_iff_ne.mpr (by omega)
  have hlt2 : decide (0 < m.length) = true := decide_eq_true hml
  have hw1 : wrap64 (p + 1) = p + 1 := by unfold wrap64; omega
  have hgt : decide ((l.length : Int) < p + 1 + 2) = true := decide_eq_true (by omega)
  have hp00 : 0 ≤ p := hp0
  have hpl : p + 1 + 2 ≤ 9223372036854775807 := by omega
  have b91 : (rd l p == 91) = false := by simp [h40]
  have b40 : (rd l p == 40) = true := by simpa using h40
  have HM := qA hm
  clear h hB hA hC hi0 hsz hrl hrd hll hcl hp0 hp1 h40 hm hm0 hml h3
  have hu65 := Tryd.underlying65
  cases one
  all_goals
    go_enter Tryd.func67, Tryd.ntmps67
    go_wp2
    go_quiet (fail)
    go_wp2
    go_quiet (fail)
    go_wp2
    go_ret2
    exact ⟨rfl, by repeat (first | exact HR.out | apply RD.drew | apply RD.drewN | apply RD.set_at), by repeat (first | exact HB.out | apply below_drew | apply qB | refine Below.setCell ?_ HR.out.ge _), by simp [World.setCell]⟩
set_option maxHeartbeats 8000000 in
set_option maxRecDepth 100000 in
theorem name_open {w0 w : World} {base g : Nat} {vl : Value} {l : List Int} {p : Int} {vo : Value} {xs : List S38} {vb : Value} {ys : List S41} (k : Nat) (one : Bool)
    (hB : Below base w0 w) (h : RD w base g vl l p vo xs vb ys) (hp0 : 0 ≤ p) (hp1 : p < l.length) (h91 : rd l p = 91) (j : Int) (hi : slices_Index_rune_rune.f k (l.drop p.toNat) 93 = some j) (he : j < 0) (hll : l.length ≤ 9223372036854775806) :
    Calls Tryd.prog 67 #[.pointer (some ⟨g, 0, none⟩), .bool one] w fun e w' => e = .returned (.tuple #[.string ⟨#[]⟩, .bool false]) ∧
      RD w' base g vl l p vo xs vb ys ∧ Below base w0 w' ∧ w.heap.size ≤ w'.heap.size := by
  obtain ⟨Al, cl, el, hcl, hrl⟩ := Kd.R_reads h.l
  subst el
  have HR := qA h
  have HB := qA hB
  have hcz0 : w.cell? ⟨g, 0, none⟩ = some (.slice Al l.length cl) := (qQ h.blk 0).trans rfl
  have hcz1 : w.cell? ⟨g, 1, none⟩ = some (.int .i64 p) := (qQ h.blk 1).trans rfl
  have hfz1 := qL h.blk 1
  obtain ⟨i0, hi0, _, hsz, _⟩ := info_parts info21
  obtain ⟨A', hcut, hA, hC⟩ := print_drop_of (P := Tryd.prog) (Value.int .i32) 0 34 21 .i64 Tryd.underlying34 hi0 hsz Al cl l p hp0 (Int.le_of_lt hp1) hcl
  have hrd : Kd.C (Kd.int .i32) w A' (l.drop p.toNat).length (l.drop p.toNat) := Kd.C_of_reads (h1 := fun _ => rfl) (hA w (Kd.reads_of_C (d := (0 : Int)) hrl))
  have hm0 : rd (l.drop p.toNat) 0 = rd l p := by simp [rd, List.getD]
  have hml : 0 < (l.drop p.toNat).length := by simp; omega
  obtain ⟨m, hm⟩ : ∃ m, m = l.drop p.toNat := ⟨_, rfl⟩
  rw [← hm] at hcut hrd hm0 hml hC hi
  obtain ⟨ad, ead, hx0⟩ := Kd.at_int hrd 0 (by omega) (by omega)
  subst ead
  rw [show ((0 : Int)).toNat = 0 from rfl, Addr.add_zero', hm0] at hx0
  have hlt : (0 < m.length) = True := eq_true hml
  have hz : ((m.length : Int) == 0) = false := beq_eq_false_iff_ne.mpr (by omega)
  have hlt2 : decide (0 < m.length) = true := decide_eq_true hml
  have HI := qA hi
  have HRD := qA hrd
  have HC := qA hC
  have b91 : (rd l p == 91) = true := by simpa using h91
  have he0 : decide (j < 0) = true := decide_eq_true (by omega)
  have HM := qA hm
  clear h hB hA hC hi0 hsz hrl hrd hll hcl hp0 hp1 h91 hm hm0 hml hi he
  have hu65 := Tryd.underlying65
  go_enter Tryd.func67, Tryd.ntmps67
  go_wp2
  go_quiet (fail)
  go_wp2_with (go_at_call 70; (with_reducible refine (slices_Index_rune_rune.calls k _ _ m 93 j _ ?side1 ?side2 HI.out).mono ?_); (case side1 => repeat (first | exact HRD.out | (with_reducible refine Kd.C_drewN ?_ _) | (with_reducible refine Kd.C_drew ?_))); (case side2 => exact HC.out); rintro e w' ⟨rfl, ⟨nd, rfl⟩⟩)
  go_ret2
  exact ⟨rfl, by repeat (first | exact HR.out | apply RD.drew | apply RD.drewN | apply RD.set_at), by repeat (first | exact HB.out | apply below_drew | apply qB | refine Below.setCell ?_ HR.out.ge _), by simp [World.setCell]⟩
set_option maxHeartbeats 8000000 in
set_option maxRecDepth 100000 in
theorem name_in {w0 w : World} {base g : Nat} {vl : Value} {l : List Int} {p : Int} {vo : Value} {xs : List S38} {vb : Value} {ys : List S41} (k : Nat) (one : Bool)
    (hB : Below base w0 w) (h : RD w base g vl l p vo xs vb ys) (hp0 : 0 ≤ p) (hp1 : p < l.length) (h91 : rd l p = 91) (j : Int) (hi : slices_Index_rune_rune.f k (l.drop p.toNat) 93 = some j) (he : 1 ≤ j) (he2 : j < (l.drop p.toNat).length) (hll : l.length ≤ 9223372036854775806) :
    Calls Tryd.prog 67 #[.pointer (some ⟨g, 0, none⟩), .bool one] w fun e w' => e = .returned (.tuple #[.string (runesBytes (((l.drop p.toNat).take j.toNat).drop 1)), .bool true]) ∧
      RD w' base g vl l (p + (j + 1)) vo xs vb ys ∧ Below base w0 w' ∧ w.heap.size ≤ w'.heap.size := by
  obtain ⟨Al, cl, el, hcl, hrl⟩ := Kd.R_reads h.l
  subst el
  have HR := qA h
  have HB := qA hB
  have hcz0 : w.cell? ⟨g, 0, none⟩ = some (.slice Al l.length cl) := (qQ h.blk 0).trans rfl
  have hcz1 : w.cell? ⟨g, 1, none⟩ = some (.int .i64 p) := (qQ h.blk 1).trans rfl
  have hfz1 := qL h.blk 1
  obtain ⟨i0, hi0, _, hsz, _⟩ := info_parts info21
  obtain ⟨A', hcut, hA, hC⟩ := print_drop_of (P := Tryd.prog) (Value.int .i32) 0 34 21 .i64 Tryd.underlying34 hi0 hsz Al cl l p hp0 (Int.le_of_lt hp1) hcl
  have hrd : Kd.C (Kd.int .i32) w A' (l.drop p.toNat).length (l.drop p.toNat) := Kd.C_of_reads (h1 := fun _ => rfl) (hA w (Kd.reads_of_C (d := (0 : Int)) hrl))
  have hm0 : rd (l.drop p.toNat) 0 = rd l p := by simp [rd, List.getD]
  have hml : 0 < (l.drop p.toNat).length := by simp; omega
  obtain ⟨m, hm⟩ : ∃ m, m = l.drop p.toNat := ⟨_, rfl⟩
  rw [← hm] at hcut hrd hm0 hml hC hi he2
  obtain ⟨ad, ead, hx0⟩ := Kd.at_int hrd 0 (by omega) (by omega)
  subst ead
  rw [show ((0 : Int)).toNat = 0 from rfl, Addr.add_zero', hm0] at hx0
  have hlt : (0 < m.length) = True := eq_true hml
  have hz : ((m.length : Int) == 0) = false := beq_eq_false_iff_ne.mpr (by omega)
  have hlt2 : decide (0 < m.length) = true := decide_eq_true hml
  have hml2 : (m.length : Int) ≤ l.length - p := by rw [hm]; simp; omega
  obtain ⟨i1, hi1, _, hsz1, _⟩ := info_parts info21
  obtain ⟨A2, hcut2, hA2, hC2⟩ := print_mid_of (P := Tryd.prog) (Value.int .i32) 0 34 21 .i64 .i64 Tryd.underlying34 hi1 hsz1 (some ad) (cl - p.toNat) m 1 j (by omega) he (by omega) hC
  have hrd2 : ∀ n, Kd.C (Kd.int .i32) ((w.drewN n).setCell ⟨g, 1, none⟩ (.int .i64 (p + (j + 1)))) A2 ((m.take j.toNat).drop (1 : Int).toNat).length ((m.take j.toNat).drop (1 : Int).toNat) := fun n => Kd.C_of_reads (h1 := fun _ => rfl) (hA2 _ (Kd.reads_of_C (d := (0 : Int)) (by rw [hm]; exact Kd.C_of_reads (h1 := fun _ => rfl) (hA _ (Kd.reads_of_C (d := (0 : Int)) (Kd.R_reads' ((HR.out.drewN n).set_at (p + (j + 1))).l).2.2)))))
  obtain ⟨m2, hm2⟩ : ∃ m2, m2 = (m.take j.toNat).drop (1 : Int).toNat := ⟨_, rfl⟩
  rw [← hm2] at hcut2 hrd2
  have hcv := fun n => runes_conv (c := cl - p.toNat - 1) (hrd2 n)
  rw [show (m.take j.toNat).drop (1 : Int).toNat = (m.take j.toNat).drop 1 from rfl] at hm2
  have HM2 := qA hm2
  have hp00 : 0 ≤ p := hp0
  have he00 : 0 ≤ j := by omega
  have hpl : p + (j + 1) ≤ 9223372036854775807 := by omega
  have HI := qA hi
  have HRD := qA hrd
  have HC := qA hC
  have b91 : (rd l p == 91) = true := by simpa using h91
  have he0 : decide (j < 0) = false := decide_eq_false (by omega)
  have HM := qA hm
  clear h hB hA hC hi0 hsz hrl hrd hll hcl hp0 hp1 h91 hm hm0 hml hi hrd2 hA2 hC2 hi1 hsz1 hm2 he he2 hml2
  have hu65 := Tryd.underlying65
  go_enter Tryd.func67, Tryd.ntmps67
  go_wp2
  go_quiet (fail)
  go_wp2_with (go_at_call 70; (with_reducible refine (slices_Index_rune_rune.calls k _ _ m 93 j _ ?side1 ?side2 HI.out).mono ?_); (case side1 => repeat (first | exact HRD.out | (with_reducible refine Kd.C_drewN ?_ _) | (with_reducible refine Kd.C_drew ?_))); (case side2 => exact HC.out); rintro e w' ⟨rfl, ⟨nd, rfl⟩⟩)
  trace_state
  go_ret2
  rw [← HM.out, ← HM2.out]
  exact ⟨rfl, by repeat (first | exact HR.out | apply RD.drew | apply RD.drewN | apply RD.set_at), by repeat (first | exact HB.out | apply below_drew | apply qB | refine Below.setCell ?_ HR.out.ge _), by simp [World.setCell]⟩
theorem name_calls {w0 w : World} {base g : Nat} {vl : Value} {l : List Int} {p : Int} {vo : Value} {xs : List S38} {vb : Value} {ys : List S41} (k : Nat) (one : Bool) (s : ByteArray) (ok : Bool) (q : Int)
    (hB : Below base w0 w) (h : RD w base g vl l p vo xs vb ys) (hp0 : 0 ≤ p) (hp1 : p ≤ l.length) (hll : l.length ≤ 9223372036854775800) (hf : rd_name k l p one = some (s, ok, q)) :
    Calls Tryd.prog 67 #[.pointer (some ⟨g, 0, none⟩), .bool one] w fun e w' => e = .returned (.tuple #[.string s, .bool ok]) ∧
      RD w' base g vl l q vo xs vb ys ∧ Below base w0 w' ∧ w.heap.size ≤ w'.heap.size := by
  unfold rd_name at hf
  by_cases h0 : (l.length : Int) ≤ p
  · rw [if_pos h0] at hf
    simp only [Option.some.injEq, Prod.mk.injEq] at hf
    obtain ⟨rfl, rfl, rfl⟩ := hf
    exact name_empty one hB h hp0 hp1 h0
  rw [if_neg h0] at hf
  have hp2 : p < l.length := by omega
  by_cases h91 : rd l p = 91
  · rw [if_pos h91] at hf
    obtain ⟨j, hj, hf⟩ := Option.bind_eq_some_iff.mp hf
    by_cases hj0 : j < 0
    · rw [if_pos hj0] at hf
      simp only [Option.some.injEq, Prod.mk.injEq] at hf
      obtain ⟨rfl, rfl, rfl⟩ := hf
      exact name_open k one hB h hp0 hp2 h91 j hj hj0 (by omega)
    · rw [if_neg hj0] at hf
      by_cases hj1 : 1 ≤ j ∧ j < (l.drop p.toNat).length
      · rw [if_pos hj1] at hf
        simp only [Option.some.injEq, Prod.mk.injEq] at hf
        obtain ⟨rfl, rfl, rfl⟩ := hf
        exact name_in k one hB h hp0 hp2 h91 j hj hj1.1 hj1.2 (by omega)
      · rw [if_neg hj1] at hf
        exact absurd hf (by simp)
  rw [if_neg h91] at hf
  by_cases h40 : rd l p = 40
  · rw [if_pos h40] at hf
    by_cases h3 : p + 1 + 2 > l.length
    · rw [if_pos h3] at hf
      simp only [Option.some.injEq, Prod.mk.injEq] at hf
      obtain ⟨rfl, rfl, rfl⟩ := hf
      exact name_two_ends one hB h hp0 hp2 h40 h3 hll
    · rw [if_neg h3] at hf
      simp only [Option.some.injEq, Prod.mk.injEq] at hf
      obtain ⟨rfl, rfl, rfl⟩ := hf
      exact name_two one hB h hp0 hp2 h40 (by omega) (by omega)
  rw [if_neg h40] at hf
  cases one
  · simp only [Bool.false_eq_true, if_false, Option.some.injEq, Prod.mk.injEq] at hf
    obtain ⟨rfl, rfl, rfl⟩ := hf
    exact name_none false hB h hp0 hp2 h91 h40
  · simp only [if_true, Option.some.injEq, Prod.mk.injEq] at hf
    obtain ⟨rfl, rfl, rfl⟩ := hf
    exact name_one true hB h hp0 hp2 h91 h40 (by omega)
end Go.Proofs.YtdogljnddalgdaaDoor.A6
end
section
namespace Go.Proofs.YtdogljnddalgdaaDoor.A6
open Go.RowKit Go.Proofs.YtdogljnddalgdaaDoorW.PrintWords Go.Proofs.YtdogljnddalgdaaDoorW.PrintLast Go.Proofs.YtdogljnddalgdaaDoorW.PrintMore
open Go.Proofs.YtdogljnddalgdaaDoorW.PrintWords.Aside0 renaming mk → qA
open Go.Proofs.YtdogljnddalgdaaDoorW.PrintWords renaming pw_below_drewN → qB
attribute [local go_sem] max2_int min2_int max_two min_two max_three min_three max_four min_four   -- for this text's walks alone
set_option linter.unusedVariables false
set_option linter.unusedSimpArgs false
def rd_named (k : Nat) (l : List Int) (p : Int) (xs : List S38) (ys : List S41) (font : Bool) (from_ : Int) : Option (Bool × Int × List S38 × List S41) :=
  (rd_name k l p font).bind fun t =>
    if t.2.1 = true then (if font = true then escape_Font.f t.1 else escape_Name.f k t.1).bind fun u => if u.2 = true then some (true, t.2.2, xs ++ [⟨if font = true then 3 else 1, u.1⟩], ys) else some (true, t.2.2, xs, ys ++ [⟨2, 0, wrap64 (from_ + 1)⟩])
    else some (false, t.2.2, xs, ys ++ [⟨1, 0, wrap64 (from_ + 1)⟩])
set_option maxHeartbeats 8000000 in
set_option maxRecDepth 100000 in
theorem named_calls {w0 w : World} {g : Nat} {vl : Value} {l : List Int} {p : Int} {vo : Value} {xs : List S38} {vb : Value} {ys : List S41} (k : Nat) (font : Bool) (from_ : Int) (go : Bool) (q : Int) (xs' : List S38) (ys' : List S41) (hG : GL w0)
    (hB : Below w0.heap.size w0 w) (h : RD w w0.heap.size g vl l p vo xs vb ys) (hp0 : 0 ≤ p) (hp1 : p ≤ l.length) (hll : l.length ≤ 9223372036854775800) (hx : xs.length < 8796093022208) (hy : ys.length < 5864062014805)
    (hf : rd_named k l p xs ys font from_ = some (go, q, xs', ys')) :
    Calls Tryd.prog 58 #[.pointer (some ⟨g, 0, none⟩), .bool font, .int .i64 from_] w fun e w' => e = .returned (.bool go) ∧
      ∃ vo' vb', RD w' w0.heap.size g vl l q vo' xs' vb' ys' ∧ Below w0.heap.size w0 w' := by
  unfold rd_named at hf
  obtain ⟨⟨s, ok, q1⟩, hs, hf⟩ := Option.bind_eq_some_iff.mp hf
  have HS := qA hs
  have HR := qA h
  have HB := qA hB
  have HG := qA hG
  have HX := qA hx
  have HY := qA hy
  have HP0 := qA hp0
  have HP1 := qA hp1
  have HLL := qA hll
  clear hs h hB hG hx hy hp0 hp1 hll
  have hu65 := Tryd.underlying65
  cases ok with
  | false =>
    simp only [Bool.false_eq_true, if_false, Option.some.injEq, Prod.mk.injEq] at hf
    obtain ⟨rfl, rfl, rfl, rfl⟩ := hf
    go_enter Tryd.func58, Tryd.ntmps58
    go_wp2_with (first | (go_at_call 67; refine (name_calls k _ _ _ _ HB.out HR.out HP0.out HP1.out HLL.out HS.out).mono ?_; rintro e w1 ⟨rfl, hr1, hb1, hz1⟩; have HR1 := qA hr1; have HB1 := qA hb1; have HZ1 := qA (Nat.le_trans HB.out.size hz1); clear hr1 hb1 hz1) | (go_at_call 43; refine (tell_calls _ _ HB1.out HZ1.out HR1.out HY.out).mono ?_; rintro e w2 ⟨rfl, vb', hr2, hb2, _⟩; have HR2 := qA hr2; have HB2 := qA hb2; clear hr2 hb2))
    go_ret
    exact ⟨rfl, _, _, HR2.out, HB2.out⟩
  | true =>
    simp only [if_true] at hf
    obtain ⟨⟨x, has⟩, hu, hf⟩ := Option.bind_eq_some_iff.mp hf
    have HU := qA hu
    clear hu
    cases font <;> cases has <;> simp only [Bool.false_eq_true, if_false, if_true, Option.some.injEq, Prod.mk.injEq] at hf HU <;> obtain ⟨rfl, rfl, rfl, rfl⟩ := hf
    all_goals
      go_enter Tryd.func58, Tryd.ntmps58
      go_wp2_with (first | (go_at_call 67; refine (name_calls k _ _ _ _ HB.out HR.out HP0.out HP1.out HLL.out HS.out).mono ?_; rintro e w1 ⟨rfl, hr1, hb1, hz1⟩; have HR1 := qA hr1; have HB1 := qA hb1; have HZ1 := qA (Nat.le_trans HB.out.size hz1); clear hr1 hb1 hz1) | (go_at_call 19; refine (escape_Name.calls k _ _ _ _ (GL.below HG.out HB1.out) HU.out).mono ?_; rintro e w2 ⟨rfl, ⟨nd, rfl⟩⟩) | (go_at_call 20; refine (escape_Font.calls _ _ _ _ (GL.below HG.out HB1.out) HU.out).mono ?_; rintro e w2 ⟨rfl, ⟨nd, rfl⟩⟩) | (go_at_call 40; refine (say_calls _ _ (qB HB1.out _) HZ1.out (HR1.out.drewN _) HX.out).mono ?_; rintro e w3 ⟨rfl, vb', hr2, hb2, _⟩; have HR2 := qA hr2; have HB2 := qA hb2; clear hr2 hb2) | (go_at_call 43; refine (tell_calls _ _ (qB HB1.out _) HZ1.out (HR1.out.drewN _) HY.out).mono ?_; rintro e w3 ⟨rfl, vb', hr2, hb2, _⟩; have HR2 := qA hr2; have HB2 := qA hb2; clear hr2 hb2))
      go_ret
      exact ⟨rfl, _, _, HR2.out, HB2.out⟩
def rd_escape (k : Nat) (l : List Int) (p : Int) (xs : List S38) (ys : List S41) (from_ : Int) : Option (Bool × Int × List S38 × List S41) :=
  if p = l.length then some (false, p, xs, ys ++ [⟨1, 0, wrap64 (from_ + 1)⟩])
  else if rd l p = 92 ∨ rd l p = 101 then some (true, p + 1, xs ++ [⟨1, 92⟩], ys)
  else if rd l p = 45 ∨ rd l p = 46 then some (true, p + 1, xs ++ [⟨1, rd l p⟩], ys)
  else if rd l p = 39 then some (true, p + 1, xs ++ [⟨1, 180⟩], ys)
  else if rd l p = 96 then some (true, p + 1, xs ++ [⟨1, rd l p⟩], ys)
  else if rd l p = 32 ∨ rd l p = 126 ∨ rd l p = 48 then some (true, p + 1, xs ++ [⟨1, 160⟩], ys)
  else if rd l p = 38 ∨ rd l p = 37 ∨ rd l p = 47 ∨ rd l p = 44 ∨ rd l p = 58 then some (true, p + 1, xs, ys)
  else if rd l p = 34 then some (false, p + 1, xs, ys)
  else if rd l p = 40 ∨ rd l p = 91 then rd_named k l p xs ys false from_
  else if rd l p = 102 then rd_named k l (p + 1) xs ys true from_
  else some (true, p + 1, xs, ys ++ [⟨1, 0, wrap64 (from_ + 1)⟩])
set_option maxHeartbeats 8000000 in
set_option maxRecDepth 100000 in
theorem escape_calls {w0 w : World} {g : Nat} {vl : Value} {l : List Int} {p : Int} {vo : Value} {xs : List S38} {vb : Value} {ys : List S41} (k : Nat) (from_ : Int) (go : Bool) (q : Int) (xs' : List S38) (ys' : List S41) (hG : GL w0)
    (hB : Below w0.heap.size w0 w) (h : RD w w0.heap.size g vl l p vo xs vb ys) (hp0 : 0 ≤ p) (hp1 : p ≤ l.length) (hll : l.length ≤ 9223372036854775800) (hx : xs.length < 8796093022208) (hy : ys.length < 5864062014805)
    (hf : rd_escape k l p xs ys from_ = some (go, q, xs', ys')) :
    Calls Tryd.prog 41 #[.pointer (some ⟨g, 0, none⟩), .int .i64 from_] w fun e w' => e = .returned (.bool go) ∧
      ∃ vo' vb', RD w' w0.heap.size g vl l q vo' xs' vb' ys' ∧ Below w0.heap.size w0 w' := by
  obtain ⟨Al, cl, el, hcl, hrl⟩ := Kd.R_reads h.l
  subst el
  have HR := qA h
  have HB := qA hB
  have HG := qA hG
  have HX := qA hx
  have HY := qA hy
  have HP0 := qA hp0
  have HP1 := qA hp1
  have HLL := qA hll
  have hcz0 : w.cell? ⟨g, 0, none⟩ = some (.slice Al l.length cl) := (blk_cell h.blk 0).trans rfl
  have hcz1 : w.cell? ⟨g, 1, none⟩ = some (.int .i64 p) := (blk_cell h.blk 1).trans rfl
  have hfz1 := blk_frozen h.blk 1
  have HSZ := qA hB.size
  have hu65 := Tryd.underlying65
  unfold rd_escape at hf
  by_cases h0 : p = l.length
  · rw [if_pos h0] at hf
    simp only [Option.some.injEq, Prod.mk.injEq] at hf
    obtain ⟨rfl, rfl, rfl, rfl⟩ := hf
    have b0 : (p == (l.length : Int)) = true := by simpa using h0
    clear h hB hG hx hy hp0 hp1 hll h0 hcl hrl
    go_enter Tryd.func41, Tryd.ntmps41
    go_wp2
    go_quiet (fail)
    go_wp2_with (go_at_call 43; refine (tell_calls _ _ (qB HB.out _) HSZ.out (HR.out.drewN _) HY.out).mono ?_; rintro e w3 ⟨rfl, vb', hr2, hb2, _⟩; have HR2 := qA hr2; have HB2 := qA hb2; clear hr2 hb2)
    go_ret
    exact ⟨rfl, _, _, HR2.out, HB2.out⟩
  rw [if_neg h0] at hf
  have hlt : p < l.length := by omega
  have b0 : (p == (l.length : Int)) = false := by simpa using h0
  obtain ⟨ad, ead, hx0⟩ := Kd.at_int hrl p hp0 hlt
  subst ead
  have hq1 : 0 ≤ p := hp0
  have hq2 : decide (p < (l.length : Int)) = true := decide_eq_true hlt
  have hq3 : (p < (l.length : Int)) = True := eq_true hlt
  have hq4 : p + 1 ≤ 9223372036854775807 := by omega
  generalize hcc : rd l p = c at *
  replace hcc := qA hcc
  by_cases d92 : c = 92 ∨ c = 101
  · rw [if_pos d92] at hf
    rcases d92 with h_ | h_
    all_goals
      subst h_
      simp only [Option.some.injEq, Prod.mk.injEq] at hf
      obtain ⟨rfl, rfl, rfl, rfl⟩ := hf
      clear h hB hG hx hy hp0 hp1 hll h0 hcl hrl hlt
      go_enter Tryd.func41, Tryd.ntmps41
      go_wp2
      go_quiet (fail)
      go_wp2
      go_quiet (fail)
      go_wp2_with (go_at_call 40; refine (say_calls (w0 := w0) (base := w0.heap.size) _ _ (by repeat (first | exact HB.out | apply below_drew | apply qB | refine Below.setCell ?_ HR.out.ge _)) (by simpa [World.setCell] using HSZ.out) (by repeat (first | exact HR.out | apply RD.drew | apply RD.drewN | apply RD.set_at)) HX.out).mono ?_; rintro e w3 ⟨rfl, vb', hr2, hb2, _⟩; have HR2 := qA hr2; have HB2 := qA hb2; clear hr2 hb2)
      go_ret
      exact ⟨rfl, _, _, HR2.out, HB2.out⟩
  rw [if_neg d92] at hf
  by_cases d45 : c = 45 ∨ c = 46
  · rw [if_pos d45] at hf
    rcases d45 with h_ | h_
    all_goals
      subst h_
      simp only [Option.some.injEq, Prod.mk.injEq] at hf
      obtain ⟨rfl, rfl, rfl, rfl⟩ := hf
      clear h hB hG hx hy hp0 hp1 hll h0 hcl hrl hlt
      go_enter Tryd.func41, Tryd.ntmps41
      go_wp2
      go_quiet (fail)
      go_wp2
      go_quiet (fail)
      go_wp2_with (go_at_call 40; refine (say_calls (w0 := w0) (base := w0.heap.size) _ _ (by repeat (first | exact HB.out | apply below_drew | apply qB | refine Below.setCell ?_ HR.out.ge _)) (by simpa [World.setCell] using HSZ.out) (by repeat (first | exact HR.out | apply RD.drew | apply RD.drewN | apply RD.set_at)) HX.out).mono ?_; rintro e w3 ⟨rfl, vb', hr2, hb2, _⟩; have HR2 := qA hr2; have HB2 := qA hb2; clear hr2 hb2)
      go_ret
      exact ⟨rfl, _, _, HR2.out, HB2.out⟩
  rw [if_neg d45] at hf
  by_cases d39 : c = 39
  · rw [if_pos d39] at hf
    have h_ := d39
    all_goals
      subst h_
      simp only [Option.some.injEq, Prod.mk.injEq] at hf
      obtain ⟨rfl, rfl, rfl, rfl⟩ := hf
      clear h hB hG hx hy hp0 hp1 hll h0 hcl hrl hlt
      go_enter Tryd.func41, Tryd.ntmps41
      go_wp2
      go_quiet (fail)
      go_wp2
      go_quiet (fail)
      go_wp2_with (go_at_call 40; refine (say_calls (w0 := w0) (base := w0.heap.size) _ _ (by repeat (first | exact HB.out | apply below_drew | apply qB | refine Below.setCell ?_ HR.out.ge _)) (by simpa [World.setCell] using HSZ.out) (by repeat (first | exact HR.out | apply RD.drew | apply RD.drewN | apply RD.set_at)) HX.out).mono ?_; rintro e w3 ⟨rfl, vb', hr2, hb2, _⟩; have HR2 := qA hr2; have HB2 := qA hb2; clear hr2 hb2)
      go_ret
      exact ⟨rfl, _, _, HR2.out, HB2.out⟩
  rw [if_neg d39] at hf
  by_cases d96 : c = 96
  · rw [if_pos d96] at hf
    have h_ := d96
    all_goals
      subst h_
      simp only [Option.some.injEq, Prod.mk.injEq] at hf
      obtain ⟨rfl, rfl, rfl, rfl⟩ := hf
      clear h hB hG hx hy hp0 hp1 hll h0 hcl hrl hlt
      go_enter Tryd.func41, Tryd.ntmps41
      go_wp2
      go_quiet (fail)
      go_wp2
      go_quiet (fail)
      go_wp2_with (go_at_call 40; refine (say_calls (w0 := w0) (base := w0.heap.size) _ _ (by repeat (first | exact HB.out | apply below_drew | apply qB | refine Below.setCell ?_ HR.out.ge _)) (by simpa [World.setCell] using HSZ.out) (by repeat (first | exact HR.out | apply RD.drew | apply RD.drewN | apply RD.set_at)) HX.out).mono ?_; rintro e w3 ⟨rfl, vb', hr2, hb2, _⟩; have HR2 := qA hr2; have HB2 := qA hb2; clear hr2 hb2)
      go_ret
      exact ⟨rfl, _, _, HR2.out, HB2.out⟩
  rw [if_neg d96] at hf
  by_cases d32 : c = 32 ∨ c = 126 ∨ c = 48
  · rw [if_pos d32] at hf
    rcases d32 with h_ | h_ | h_
    all_goals
      subst h_
      simp only [Option.some.injEq, Prod.mk.injEq] at hf
      obtain ⟨rfl, rfl, rfl, rfl⟩ := hf
      clear h hB hG hx hy hp0 hp1 hll h0 hcl hrl hlt
      go_enter Tryd.func41, Tryd.ntmps41
      go_wp2
      go_quiet (fail)
      go_wp2
      go_quiet (fail)
      go_wp2_with (go_at_call 40; refine (say_calls (w0 := w0) (base := w0.heap.size) _ _ (by repeat (first | exact HB.out | apply below_drew | apply qB | refine Below.setCell ?_ HR.out.ge _)) (by simpa [World.setCell] using HSZ.out) (by repeat (first | exact HR.out | apply RD.drew | apply RD.drewN | apply RD.set_at)) HX.out).mono ?_; rintro e w3 ⟨rfl, vb', hr2, hb2, _⟩; have HR2 := qA hr2; have HB2 := qA hb2; clear hr2 hb2)
      go_ret
      exact ⟨rfl, _, _, HR2.out, HB2.out⟩
  rw [if_neg d32] at hf
  by_cases d38 : c = 38 ∨ c = 37 ∨ c = 47 ∨ c = 44 ∨ c = 58
  · rw [if_pos d38] at hf
    rcases d38 with h_ | h_ | h_ | h_ | h_
    all_goals
      subst h_
      simp only [Option.some.injEq, Prod.mk.injEq] at hf
      obtain ⟨rfl, rfl, rfl, rfl⟩ := hf
      clear h hB hG hx hy hp0 hp1 hll h0 hcl hrl hlt
      go_enter Tryd.func41, Tryd.ntmps41
      go_wp2
      go_quiet (fail)
      go_wp2
      go_quiet (fail)
      go_wp2
      go_ret
      exact ⟨rfl, _, _, (by repeat (first | exact HR.out | apply RD.drew | apply RD.drewN | apply RD.set_at)), (by repeat (first | exact HB.out | apply below_drew | apply qB | refine Below.setCell ?_ HR.out.ge _))⟩
  rw [if_neg d38] at hf
  by_cases d34 : c = 34
  · rw [if_pos d34] at hf
    have h_ := d34
    all_goals
      subst h_
      simp only [Option.some.injEq, Prod.mk.injEq] at hf
      obtain ⟨rfl, rfl, rfl, rfl⟩ := hf
      clear h hB hG hx hy hp0 hp1 hll h0 hcl hrl hlt
      go_enter Tryd.func41, Tryd.ntmps41
      go_wp2
      go_quiet (fail)
      go_wp2
      go_quiet (fail)
      go_wp2
      go_ret
      exact ⟨rfl, _, _, (by repeat (first | exact HR.out | apply RD.drew | apply RD.drewN | apply RD.set_at)), (by repeat (first | exact HB.out | apply below_drew | apply qB | refine Below.setCell ?_ HR.out.ge _))⟩
  rw [if_neg d34] at hf
  by_cases d40 : c = 40 ∨ c = 91
  · rw [if_pos d40] at hf
    rcases d40 with h_ | h_
    all_goals
      subst h_
      have HF := qA hf
      have HP2 := qA (show (0 : Int) ≤ p + 1 by omega)
      have HP3 := qA (show p + 1 ≤ l.length by omega)
      clear hf
      clear h hB hG hx hy hp0 hp1 hll h0 hcl hrl hlt
      go_enter Tryd.func41, Tryd.ntmps41
      go_wp2
      go_quiet (fail)
      go_wp2
      go_quiet (fail)
      go_wp2_with (go_at_call 58; refine (named_calls k _ _ _ _ _ _ HG.out (by repeat (first | exact HB.out | apply below_drew | apply qB | refine Below.setCell ?_ HR.out.ge _)) (by repeat (first | exact HR.out | apply RD.drew | apply RD.drewN | apply RD.set_at)) (by first | exact HP0.out | exact HP2.out) (by first | exact HP1.out | exact HP3.out) HLL.out HX.out HY.out HF.out).mono ?_; rintro e w3 ⟨rfl, vo', vb', hr2, hb2⟩; have HR2 := qA hr2; have HB2 := qA hb2; clear hr2 hb2)
      go_ret
      exact ⟨rfl, _, _, HR2.out, HB2.out⟩
  rw [if_neg d40] at hf
  by_cases d102 : c = 102
  · rw [if_pos d102] at hf
    have h_ := d102
    all_goals
      subst h_
      have HF := qA hf
      have HP2 := qA (show (0 : Int) ≤ p + 1 by omega)
      have HP3 := qA (show p + 1 ≤ l.length by omega)
      clear hf
      clear h hB hG hx hy hp0 hp1 hll h0 hcl hrl hlt
      go_enter Tryd.func41, Tryd.ntmps41
      go_wp2
      go_quiet (fail)
      go_wp2
      go_quiet (fail)
      go_wp2_with (go_at_call 58; refine (named_calls k _ _ _ _ _ _ HG.out (by repeat (first | exact HB.out | apply below_drew | apply qB | refine Below.setCell ?_ HR.out.ge _)) (by repeat (first | exact HR.out | apply RD.drew | apply RD.drewN | apply RD.set_at)) (by first | exact HP0.out | exact HP2.out) (by first | exact HP1.out | exact HP3.out) HLL.out HX.out HY.out HF.out).mono ?_; rintro e w3 ⟨rfl, vo', vb', hr2, hb2⟩; have HR2 := qA hr2; have HB2 := qA hb2; clear hr2 hb2)
      go_ret
      exact ⟨rfl, _, _, HR2.out, HB2.out⟩
  rw [if_neg d102] at hf
  have b92 : (c == 92) = false := beq_eq_false_iff_ne.mpr (by intro e; exact d92 (by simp [e]))
  have b101 : (c == 101) = false := beq_eq_false_iff_ne.mpr (by intro e; exact d92 (by simp [e]))
  have b45 : (c == 45) = false := beq_eq_false_iff_ne.mpr (by intro e; exact d45 (by simp [e]))
  have b46 : (c == 46) = false := beq_eq_false_iff_ne.mpr (by intro e; exact d45 (by simp [e]))
  have b39 : (c == 39) = false := beq_eq_false_iff_ne.mpr (by intro e; exact d39 (by simp [e]))
  have b96 : (c == 96) = false := beq_eq_false_iff_ne.mpr (by intro e; exact d96 (by simp [e]))
  have b32 : (c == 32) = false := beq_eq_false_iff_ne.mpr (by intro e; exact d32 (by simp [e]))
  have b126 : (c == 126) = false := beq_eq_false_iff_ne.mpr (by intro e; exact d32 (by simp [e]))
  have b48 : (c == 48) = false := beq_eq_false_iff_ne.mpr (by intro e; exact d32 (by simp [e]))
  have b38 : (c == 38) = false := beq_eq_false_iff_ne.mpr (by intro e; exact d38 (by simp [e]))
  have b37 : (c == 37) = false := beq_eq_false_iff_ne.mpr (by intro e; exact d38 (by simp [e]))
  have b47 : (c == 47) = false := beq_eq_false_iff_ne.mpr (by intro e; exact d38 (by simp [e]))
  have b44 : (c == 44) = false := beq_eq_false_iff_ne.mpr (by intro e; exact d38 (by simp [e]))
  have b58 : (c == 58) = false := beq_eq_false_iff_ne.mpr (by intro e; exact d38 (by simp [e]))
  have b34 : (c == 34) = false := beq_eq_false_iff_ne.mpr (by intro e; exact d34 (by simp [e]))
  have b40 : (c == 40) = false := beq_eq_false_iff_ne.mpr (by intro e; exact d40 (by simp [e]))
  have b91 : (c == 91) = false := beq_eq_false_iff_ne.mpr (by intro e; exact d40 (by simp [e]))
  have b102 : (c == 102) = false := beq_eq_false_iff_ne.mpr (by intro e; exact d102 (by simp [e]))
  clear d92 d45 d39 d96 d32 d38 d34 d40 d102 hcc
  simp only [Option.some.injEq, Prod.mk.injEq] at hf
  obtain ⟨rfl, rfl, rfl, rfl⟩ := hf
  clear h hB hG hx hy hp0 hp1 hll h0 hcl hrl hlt
  go_enter Tryd.func41, Tryd.ntmps41
  go_wp2
  go_quiet (fail)
  go_wp2
  go_quiet (fail)
  go_wp2_with (go_at_call 43; refine (tell_calls (w0 := w0) (base := w0.heap.size) _ _ (by repeat (first | exact HB.out | apply below_drew | apply qB | refine Below.setCell ?_ HR.out.ge _)) (by simpa [World.setCell] using HSZ.out) (by repeat (first | exact HR.out | apply RD.drew | apply RD.drewN | apply RD.set_at)) HY.out).mono ?_; rintro e w3 ⟨rfl, vb', hr2, hb2, _⟩; have HR2 := qA hr2; have HB2 := qA hb2; clear hr2 hb2)
  go_ret
  exact ⟨rfl, _, _, HR2.out, HB2.out⟩
end Go.Proofs.YtdogljnddalgdaaDoor.A6
end
section
namespace Go.Proofs.YtdogljnddalgdaaDoor.A6
open Go.RowKit Go.Proofs.YtdogljnddalgdaaDoorW.PrintWords Go.Proofs.YtdogljnddalgdaaDoorW.PrintLast Go.Proofs.YtdogljnddalgdaaDoorW.PrintMore
open Go.Proofs.YtdogljnddalgdaaDoorW.PrintWords.Aside0 renaming mk → qA
open Go.Proofs.YtdogljnddalgdaaDoorW.PrintWords renaming pw_below_drewN → qB, blk_cell → qQ, below_size → qS
open Go.Proofs.YtdogljnddalgdaaDoorW.PrintWords.Kd renaming R_drewN → qI
attribute [local go_sem] max2_int min2_int max_two min_two max_three min_three max_four min_four   -- for this text's walks alone
set_option linter.unusedVariables false
set_option linter.unusedSimpArgs false
def rd_scan : Nat → List Int → Int → List S38 → List S41 → Option (List S38 × List S41)
  | 0, _, _, _, _ => none
  | k + 1, l, p, xs, ys => if p < (l.length : Int) then (if 0 ≤ p ∧ xs.length < 8796093022208 ∧ ys.length < 5864062014805 then
      (if rd l p = 32 ∨ rd l p = 9 then rd_scan k l (p + 1) (xs ++ [⟨2, 0⟩]) ys
      else if rd l p = 92 then (rd_escape k l (p + 1) xs ys p).bind fun t => if t.1 = true then rd_scan k l t.2.1 t.2.2.1 t.2.2.2 else some (t.2.2.1, t.2.2.2)
      else (runes_Control.f k (rd l p)).bind fun b => if b = true then rd_scan k l (p + 1) (xs ++ [⟨1, 65533⟩]) (ys ++ [⟨3, 0, wrap64 (p + 1)⟩]) else rd_scan k l (p + 1) (xs ++ [⟨1, rd l p⟩]) ys)
      else none) else some (xs, ys)
def escape_Scan.f (k : Nat) (a0 : ByteArray) : Option (List S38 × List S41) :=
  if a0.size ≤ 9223372036854775807 then ((some (bytesOf a0)).bind fun t => (runes_Decode.f k t).bind fun l => if l.length ≤ 9223372036854775800 then rd_scan k l 0 [] [] else none) else none
set_option maxHeartbeats 8000000 in
set_option maxRecDepth 100000 in
theorem escape_Scan.calls (k : Nat) (a0 : ByteArray) (r1 : List S38) (r2 : List S41) (w : World) (hG : GL w) (h : escape_Scan.f k a0 = some (r1, r2)) :
    Calls Tryd.prog 15 #[.string a0] w fun e w' => ∃ v0_ v1_ : Value, e = .returned (.tuple #[v0_, v1_]) ∧ Kd.R k38 38 w' w.heap.size (fun _ => True) v0_ r1 ∧ Kd.R k41 41 w' w.heap.size (fun _ => True) v1_ r2 ∧ Below w.heap.size w w' := by
  unfold escape_Scan.f at h
  by_cases c2 : a0.size ≤ 9223372036854775807
  · rw [if_pos c2] at h
    obtain ⟨t, ht, h⟩ := Option.bind_eq_some_iff.mp h
    obtain ⟨l, hl, h⟩ := Option.bind_eq_some_iff.mp h
    by_cases c3 : l.length ≤ 9223372036854775800
    · rw [if_pos c3] at h
      have HG := qA hG
      have HT := qA ht
      have HL := qA hl
      have H := qA h
      have HC2 := qA c2
      have HC3 := qA c3
      clear hG ht hl h c2 c3
      have hu65 := Tryd.underlying65
      go_enter Tryd.func15, Tryd.ntmps15
      go_wp2
      go_step3
      go_wp2_with (first | ((with_reducible refine gate_dst (N := 8) rfl ?_); refine conv_step (by rfl) 9 36 5 _ rfl Tryd.underlying9 Tryd.underlying36 Tryd.underlying5 a0 HC2.out (by rfl) t HT.out ?_; rintro e w1 ⟨vc, rfl, ho, hb⟩; have HV := qA ho; have HB := qA hb; clear ho hb; obtain ⟨Ac, cc, ec⟩ := Kd.V_slice HV.out; subst ec) | (go_at_call 39; refine (runes_Decode.calls k _ _ _ t l _ HV.out HL.out).mono ?_; rintro e w2 ⟨vl, rfl, ho, hb⟩; have HB2 := qA (below_step HB.out hb); have HO := qA (Kd.R_lower (Kd.R_mono ho (fun _ _ => trivial)) (qS HB.out)); clear ho hb; obtain ⟨Al, cl, el⟩ := Kd.R_slice HO.out; subst el))
      have HR0 := qA (show RD (w2.alloc (.cells #[.slice Al l.length cl, .int .i64 0, .slice none 0 0, .slice none 0 0] 65)) w.heap.size w2.heap.size (.slice Al l.length cl) l 0 (.slice none 0 0) [] (.slice none 0 0) [] from
        ⟨blk_new w2 _, HB2.out.size, Kd.R_alloc HO.out _, Kd.R_nil _ _ _ _ _, Kd.R_nil _ _ _ _ _⟩)
      have HB0 := qA (show Below w.heap.size w (w2.alloc (.cells #[.slice Al l.length cl, .int .i64 0, .slice none 0 0, .slice none 0 0] 65)) from below_alloc HB2.out _)
      generalize (w2.alloc (.cells #[.slice Al l.length cl, .int .i64 0, .slice none 0 0, .slice none 0 0] 65)) = w3 at HR0 HB0 ⊢
      generalize w2.heap.size = g at HR0 ⊢
      clear HV HB HB2 HO HT HL HC2
      go_step3
      go_wp2
      go_loopg [] k (fun kq w' => ∃ (p : Int) (vo vb : Value) (xs : List S38) (ys : List S41), Aside0 (rd_scan kq l p xs ys = some (r1, r2)) ∧ Aside0 (kq ≤ k) ∧ Aside0 (RD w' w.heap.size g (.slice Al l.length cl) l p vo xs vb ys) ∧ Aside0 (Below w.heap.size w w'))
      case atStart => exact ⟨0, _, _, [], [], H, ⟨Nat.le_refl _⟩, HR0, HB0⟩
      case round =>
        clear H HR0 HB0
        obtain ⟨p, vo, vb, xs, ys, H, HK, HR, HB⟩ := hrel
        cases gk with
        | zero => exact absurd H.out (by simp [rd_scan])
        | succ k1 =>
          have h := H.out
          clear H
          simp only [rd_scan] at h
          have hcz0 := (qQ HR.out.blk 0)
          have hcz1 := (qQ HR.out.blk 1)
          obtain ⟨Aq, cq, eq_, hcq, hrq⟩ := Kd.R_reads HR.out.l
          obtain ⟨rfl, rfl⟩ : Al = Aq ∧ cl = cq := by simp only [Value.slice.injEq] at eq_; exact ⟨eq_.1, eq_.2.2⟩
          clear eq_ hcq
          replace hcz0 : wr.cell? ⟨g, 0, none⟩ = some (.slice Al l.length cl) := hcz0.trans rfl
          replace hcz1 : wr.cell? ⟨g, 1, none⟩ = some (.int .i64 p) := hcz1.trans rfl
          have hfz1 := blk_frozen HR.out.blk 1
          have HSZ := qA (qS HB.out)
          obtain ⟨Ao, co, eo⟩ := Kd.R_slice HR.out.o
          obtain ⟨Ab, cb, eb⟩ := Kd.R_slice HR.out.b
          subst eo
          subst eb
          by_cases d0 : p < (l.length : Int)
          · rw [if_pos d0] at h
            by_cases d1 : 0 ≤ p ∧ xs.length < 8796093022208 ∧ ys.length < 5864062014805
            · rw [if_pos d1] at h
              obtain ⟨hp0, hx, hy⟩ := d1
              have HX := qA hx
              have HY := qA hy
              have hll := HC3.out
              obtain ⟨ad, ead, hx0⟩ := Kd.at_int hrq p hp0 d0
              subst ead
              have hq2 : decide (p < (l.length : Int)) = true := decide_eq_true d0
              have hq3 : (p < (l.length : Int)) = True := eq_true d0
              have hq4 : p + 1 ≤ 9223372036854775807 := by omega
              have HP0 := qA (show 0 ≤ p + 1 by omega)
              have HP1 := qA (show p + 1 ≤ l.length by omega)
              generalize hcc : rd l p = c at *
              replace hcc := qA hcc
              clear hx hy hll hrq d0
              by_cases d32 : c = 32 ∨ c = 9
              · rw [if_pos d32] at h
                have H' := qA h
                clear h
                rcases d32 with h_ | h_
                all_goals
                  subst h_
                  go_wp2
                  go_quiet (fail)
                  go_wp2
                  go_quiet (fail)
                  go_wp2_with (go_at_call 40; refine (say_calls (w0 := w) (base := w.heap.size) _ _ (by repeat (first | exact HB.out | apply below_drew | apply qB | refine Below.setCell ?_ HR.out.ge _)) (by simpa [World.setCell] using HSZ.out) (by repeat (first | exact HR.out | apply RD.drew | apply RD.drewN | apply RD.set_at)) HX.out).mono ?_; rintro e w3 ⟨rfl, vb', hr2, hb2, _⟩; have HR2 := qA hr2; have HB2 := qA hb2; clear hr2 hb2)
                  go_roundg k1
                  case measure => have := HK.out; omega
                  case rel => exact ⟨_, _, _, _, _, H', ⟨by have := HK.out; omega⟩, HR2, HB2⟩
              rw [if_neg d32] at h
              by_cases d92 : c = 92
              · rw [if_pos d92] at h
                subst d92
                obtain ⟨⟨go, q, xs', ys'⟩, he, h⟩ := Option.bind_eq_some_iff.mp h
                have HE := qA he
                clear he d32
                cases go
                · simp only [Bool.false_eq_true, if_false, Option.some.injEq, Prod.mk.injEq] at h
                  obtain ⟨rfl, rfl⟩ := h
                  go_wp2
                  go_quiet (fail)
                  go_wp2
                  go_quiet (fail)
                  go_wp2_with (go_at_call 41; refine (escape_calls k1 _ _ _ _ _ HG.out (by repeat (first | exact HB.out | apply below_drew | apply qB | refine Below.setCell ?_ HR.out.ge _)) (by repeat (first | exact HR.out | apply RD.drew | apply RD.drewN | apply RD.set_at)) HP0.out HP1.out HC3.out HX.out HY.out HE.out).mono ?_; rintro e w3 ⟨rfl, vo', vb', hr2, hb2⟩; have HR2 := qA hr2; have HB2 := qA hb2; clear hr2 hb2)
                  obtain ⟨Ao2, co2, eo2⟩ := Kd.R_slice HR2.out.o
                  obtain ⟨Ab2, cb2, eb2⟩ := Kd.R_slice HR2.out.b
                  subst eo2
                  subst eb2
                  have hcy2 : w3.cell? ⟨g, 2, none⟩ = some (.slice Ao2 xs'.length co2) := (qQ HR2.out.blk 2).trans rfl
                  have hcy3 : w3.cell? ⟨g, 3, none⟩ = some (.slice Ab2 ys'.length cb2) := (qQ HR2.out.blk 3).trans rfl
                  go_quiet (fail)
                  go_wp2
                  rw [Exit.noGoto_ret]
                  go_ret2
                  exact ⟨_, _, rfl, qI HR2.out.o _, qI HR2.out.b _, qB HB2.out _⟩
                · simp only [if_true] at h
                  have H' := qA h
                  clear h
                  go_wp2
                  go_quiet (fail)
                  go_wp2
                  go_quiet (fail)
                  go_wp2_with (go_at_call 41; refine (escape_calls k1 _ _ _ _ _ HG.out (by repeat (first | exact HB.out | apply below_drew | apply qB | refine Below.setCell ?_ HR.out.ge _)) (by repeat (first | exact HR.out | apply RD.drew | apply RD.drewN | apply RD.set_at)) HP0.out HP1.out HC3.out HX.out HY.out HE.out).mono ?_; rintro e w3 ⟨rfl, vo', vb', hr2, hb2⟩; have HR2 := qA hr2; have HB2 := qA hb2; clear hr2 hb2)
                  go_roundg k1
                  case measure => have := HK.out; omega
                  case rel => exact ⟨_, _, _, _, _, H', ⟨by have := HK.out; omega⟩, HR2, HB2⟩
              rw [if_neg d92] at h
              obtain ⟨b, hb, h⟩ := Option.bind_eq_some_iff.mp h
              have HCT := qA hb
              have b32 : (c == 32) = false := beq_eq_false_iff_ne.mpr (fun e => d32 (.inl e))
              have b9 : (c == 9) = false := beq_eq_false_iff_ne.mpr (fun e => d32 (.inr e))
              have b92 : (c == 92) = false := beq_eq_false_iff_ne.mpr d92
              clear hb d32 d92
              cases b
              · simp only [Bool.false_eq_true, if_false] at h
                have H' := qA h
                clear h
                go_wp2
                go_quiet (fail)
                go_wp2
                go_quiet (fail)
                go_wp2_with (first | (go_at_call 42; refine (runes_Control.calls k1 c false _ HCT.out).mono ?_; rintro e w2 ⟨rfl, ⟨nd, rfl⟩⟩) | (go_at_call 40; refine (say_calls (w0 := w) (base := w.heap.size) _ _ (by repeat (first | exact HB.out | apply below_drew | apply qB | refine Below.setCell ?_ HR.out.ge _)) (by simpa [World.setCell] using HSZ.out) (by repeat (first | exact HR.out | apply RD.drew | apply RD.drewN | apply RD.set_at)) HX.out).mono ?_; rintro e w3 ⟨rfl, vb', hr2, hb2, _⟩; have HR2 := qA hr2; have HB2 := qA hb2; clear hr2 hb2))
                go_roundg k1
                case measure => have := HK.out; omega
                case rel => exact ⟨_, _, _, _, _, H', ⟨by have := HK.out; omega⟩, HR2, HB2⟩
              · simp only [if_true] at h
                have H' := qA h
                clear h
                go_wp2
                go_quiet (fail)
                go_wp2
                go_quiet (fail)
                go_wp2_with (first | (go_at_call 42; refine (runes_Control.calls k1 c true _ HCT.out).mono ?_; rintro e w2 ⟨rfl, ⟨nd, rfl⟩⟩) | (go_at_call 43; refine (tell_calls (w0 := w) (base := w.heap.size) _ _ (by repeat (first | exact HB.out | apply below_drew | apply qB | refine Below.setCell ?_ HR.out.ge _)) (by simpa [World.setCell] using HSZ.out) (by repeat (first | exact HR.out | apply RD.drew | apply RD.drewN | apply RD.set_at)) HY.out).mono ?_; rintro e w4 ⟨rfl, vo', hr3, hb3, hz3⟩; have HR3 := qA hr3; have HB3 := qA hb3; have HS3 := qA (qS hb3); clear hr3 hb3 hz3) | (go_at_call 40; refine (say_calls (w0 := w) (base := w.heap.size) _ _ HB3.out HS3.out HR3.out HX.out).mono ?_; rintro e w3 ⟨rfl, vb', hr2, hb2, _⟩; have HR2 := qA hr2; have HB2 := qA hb2; clear hr2 hb2))
                go_roundg k1
                case measure => have := HK.out; omega
                case rel => exact ⟨_, _, _, _, _, H', ⟨by have := HK.out; omega⟩, HR2, HB2⟩
            · rw [if_neg d1] at h
              exact absurd h (by simp)
          · rw [if_neg d0] at h
            simp only [Option.some.injEq, Prod.mk.injEq] at h
            obtain ⟨rfl, rfl⟩ := h
            have hq2 : decide (p < (l.length : Int)) = false := decide_eq_false d0
            have hcy2 : wr.cell? ⟨g, 2, none⟩ = some (.slice Ao xs.length co) := (qQ HR.out.blk 2).trans rfl
            have hcy3 : wr.cell? ⟨g, 3, none⟩ = some (.slice Ab ys.length cb) := (qQ HR.out.blk 3).trans rfl
            clear hrq d0
            go_wp2
            go_quiet (fail)
            go_wp2
            go_quiet (fail)
            go_wp2
            rw [Exit.noGoto_ret]
            go_ret2
            exact ⟨_, _, rfl, qI (qI HR.out.o _) _, qI (qI HR.out.b _) _, qB (qB HB.out _) _⟩
    · rw [if_neg c3] at h
      exact absurd h (by simp)
  · rw [if_neg c2] at h
    exact absurd h (by simp)
theorem rd_name_mono (k : Nat) (l : List Int) (p : Int) (one : Bool) : LeO (rd_name k l p one) (rd_name (k + 1) l p one) := by
  unfold rd_name
  refine LeO.ite (LeO.refl _) (LeO.ite (LeO.bind (slices_Index_rune_rune.mono _ _ _) fun _ => LeO.refl _) (LeO.refl _))
theorem rd_named_mono (k : Nat) (l : List Int) (p : Int) (xs : List S38) (ys : List S41) (font : Bool) (f : Int) : LeO (rd_named k l p xs ys font f) (rd_named (k + 1) l p xs ys font f) := by
  unfold rd_named
  exact LeO.bind (rd_name_mono _ _ _ _) fun _ => LeO.ite (LeO.bind (LeO.ite (LeO.refl _) (escape_Name.mono _ _)) fun _ => LeO.refl _) (LeO.refl _)
theorem rd_escape_mono (k : Nat) (l : List Int) (p : Int) (xs : List S38) (ys : List S41) (f : Int) : LeO (rd_escape k l p xs ys f) (rd_escape (k + 1) l p xs ys f) := by
  unfold rd_escape
  repeat' first | exact rd_named_mono _ _ _ _ _ _ _ | exact LeO.refl _ | refine LeO.ite ?_ ?_
theorem rd_scan_mono : ∀ (k : Nat) (l : List Int) (p : Int) (xs : List S38) (ys : List S41), LeO (rd_scan k l p xs ys) (rd_scan (k + 1) l p xs ys)
  | 0, _, _, _, _ => fun r h => by simp [rd_scan] at h
  | k + 1, l, p, xs, ys => by
    rw [rd_scan, rd_scan]
    have ih := rd_scan_mono k l
    repeat' first | exact ih _ _ _ | exact rd_escape_mono _ _ _ _ _ _ | exact runes_Control.mono _ _ | exact LeO.refl _ | refine LeO.ite ?_ ?_ | refine LeO.bind ?_ (fun _ => ?_)
theorem escape_Scan.mono : ∀ a0 k, LeO (escape_Scan.f k a0) (escape_Scan.f (k + 1) a0) := by
  intro a0 k
  unfold escape_Scan.f
  repeat' first | exact rd_scan_mono _ _ _ _ _ | exact runes_Decode.mono _ _ | exact LeO.refl _ | exact LeO.none _ | refine LeO.ite ?_ ?_ | refine LeO.bind ?_ (fun _ => ?_)
end Go.Proofs.YtdogljnddalgdaaDoor.A6
end
