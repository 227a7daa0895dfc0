/- Of what the law EscapeFonts needs: part 10. -/
import Derived.ArgAppend
import Derived.Below
import Derived.BigQuiet
import Derived.Deep.AppendLies
import Derived.Deep.CutBlock
import Derived.Deep.DeepCutAuto
import Derived.Deep.Draws
import Derived.Deep.LoopGhost
import Derived.Deep.OwnRows
import Derived.Deep.QuietTactic
import Derived.Deep.RegionHeld3
import Derived.KernelRfl
import Derived.Laws.BitsLemmas
import Derived.Laws.BytesArg
import Derived.Laws.Cover4
import Derived.Laws.IdiomCopy
import Derived.Laws.MakeOwn
import Derived.Laws.OwnMore
import Derived.Laws.Rows
import Derived.Laws.Slices
import Derived.Laws.StructEq
import Derived.Lib.AppendStr
import Derived.Lib.ConvBytes
import Derived.Maps.AppendAt
import Derived.Maps.Own
import Derived.Maps.OwnOps
import Derived.Maps.OwnSet
import Derived.OrdersHeld
import Derived.OwnWalk
import Derived.RowKit
import Derived.RowKit3
import Derived.StringKeys
import Derived.Tactics
import Derived.Test.YtdogljnddalgdaaDoorProg
import Derived.WalkKit
import Derived.WalkMore
import Derived.WideLaws
import Derived.Test.YtdogljnddalgdaaDoorZFonts7
import Derived.Test.YtdogljnddalgdaaDoorZFonts9
namespace Go.Proofs.YtdogljnddalgdaaDoorW.PrintLast
end Go.Proofs.YtdogljnddalgdaaDoorW.PrintLast
namespace Go.Proofs.YtdogljnddalgdaaDoorW.PrintMore
end Go.Proofs.YtdogljnddalgdaaDoorW.PrintMore
namespace Go.Proofs.YtdogljnddalgdaaDoorW.PrintWords
end Go.Proofs.YtdogljnddalgdaaDoorW.PrintWords
section
namespace Go.Proofs.YtdogljnddalgdaaDoor.A4
open Go.RowKit Go.Proofs.YtdogljnddalgdaaDoorW.PrintWords Go.Proofs.YtdogljnddalgdaaDoorW.PrintLast Go.Proofs.YtdogljnddalgdaaDoorW.PrintMore
attribute [local go_sem] max2_int min2_int max_two min_two max_three min_three max_four min_four   -- for this text's walks alone
set_option linter.unusedVariables false
set_option linter.unusedSimpArgs false
def escape_Quote.l0 : Nat → ByteArray → List Int → Int → Int → Option (ByteArray)
  | 0, _, _, _, _ => none
  | k + 1, x0, x3, x6, x7 => if x7 < x6 then (if 0 ≤ x7 then (if x7 < (x0.size : Int) then (if x3.length < 140737488355328 then ((some (x3 ++ [bt x0 x7] : List Int)).bind fun y126 => (if (bt x0 x7) = 92 then (if y126.length < 140737488355328 then (escape_Quote.l0 k x0 (y126 ++ [101]) x6 (wrap64 (x7 + 1))) else (none)) else (escape_Quote.l0 k x0 y126 x6 (wrap64 (x7 + 1))))) else (none)) else (none)) else (none)) else (some (strOfNums x3))
def escape_Quote.f (k : Nat) (a0 : ByteArray) : Option (ByteArray) := escape_Quote.l0 k a0 ([] : List Int) (a0.size : Int) 0
theorem escape_Quote.mono_l : ∀ k, (∀ y0 y1 y2 y3, LeO (escape_Quote.l0 k y0 y1 y2 y3) (escape_Quote.l0 (k + 1) y0 y1 y2 y3))
  | 0 => fun _ _ _ _ r h => by simp [escape_Quote.l0] at h
  | k + 1 => by
    have ih0 := escape_Quote.mono_l k
    · intro y0 y1 y2 y3
      unfold escape_Quote.l0
      repeat' first
      | (with_reducible exact ih0 _ _ _ _)
      | (with_reducible exact LeO.refl _)
      | (with_reducible exact LeO.none _)
      | (with_reducible refine LeO.ite ?_ ?_)
      | (with_reducible refine LeO.bind ?_ (fun _ => ?_))
      | exact ih0 _ _ _ _
      | exact LeO.none _
      | refine LeO.ite ?_ ?_
      | refine LeO.bind ?_ (fun _ => ?_)
theorem escape_Quote.mono : ∀ a0 k, LeO (escape_Quote.f k a0) (escape_Quote.f (k + 1) a0) := by
  intro a0 k
  have ih0 := escape_Quote.mono_l k
  unfold escape_Quote.f
  repeat' first
      | (with_reducible exact ih0 _ _ _ _)
      | (with_reducible exact LeO.refl _)
      | (with_reducible exact LeO.none _)
      | (with_reducible refine LeO.ite ?_ ?_)
      | (with_reducible refine LeO.bind ?_ (fun _ => ?_))
      | exact ih0 _ _ _ _
      | exact LeO.none _
      | refine LeO.ite ?_ ?_
      | refine LeO.bind ?_ (fun _ => ?_)
set_option maxHeartbeats 8000000 in
set_option maxRecDepth 100000 in
theorem escape_Quote.calls (k : Nat) (a0 : ByteArray) (r : ByteArray) (w : World) (h : escape_Quote.f k a0 = some r) :
    Calls Tryd.prog 23 #[.string a0] w fun e w' => e = .returned (.string r) ∧ Below w.heap.size w w' := by
  have HB := Aside0.mk (Below.refl w.heap.size w)
  have H : (escape_Quote.l0 k a0 ([] : List Int) (a0.size : Int) 0) = some r := h
  clear h
  have H' := Aside0.mk H
  clear H
  go_enter Tryd.func23, Tryd.ntmps23
  go_wp2
  go_loopg [3, 7] k (fun kq v3 v7 w' => ∃ (x3_1 : List Int) (x7_1 : Int), v7 = .int .i64 x7_1 ∧ Aside0 (escape_Quote.l0 kq a0 x3_1 (a0.size : Int) x7_1 = some r) ∧ Aside0 (kq ≤ k) ∧ Aside0 (Kd.R (Kd.int .u8) 5 w' w.heap.size (fun _ => True) v3 x3_1) ∧ Aside0 (Below w.heap.size w w'))
  case atStart => exact ⟨(([] : List Int)), (0), (by first | rfl | (simp; done) | (simp [*]; done)), H', ⟨Nat.le_refl _⟩, ⟨by first | exact Kd.R_nil _ _ _ _ _ | exact Kd.N_nil _ _ _ _ _ | exact Kd.V_nil _ _ _ _ _ | exact Kd.Q_nil _ _ _ _ _ | exact Kd.S_nil _ _ _ _ _⟩, ⟨by repeat (first | (with_reducible first | exact HB.out | apply below_alloc | apply pw_below_drewN | apply below_drew1) | exact HB.out)⟩⟩
  case round =>
    clear H'
    obtain ⟨x3_1, x7_1, rfl, HA, HK1, HO_3, HB⟩ := hrel
    cases gk with
    | zero => exact absurd HA.out (by simp [escape_Quote.l0])
    | succ k1 =>
      have H := HA.out
      clear HA
      simp only [escape_Quote.l0] at H
      by_cases c2 : x7_1 < (a0.size : Int)
      · rw [if_pos c2] at H
        have c2b0 : decide (x7_1 < (a0.size : Int)) = true := decide_eq_true c2
        clear c2
        by_cases c3 : 0 ≤ x7_1
        · rw [if_pos c3] at H
          have c3b0 : decide (0 ≤ x7_1) = true := decide_eq_true c3
          clear c3
          by_cases c4 : x7_1 < (a0.size : Int)
          · rw [if_pos c4] at H
            have c4b0 : decide (x7_1 < (a0.size : Int)) = true := decide_eq_true c4
            clear c4
            by_cases c6 : x3_1.length < 140737488355328
            · rw [if_pos c6] at H
              have LMc6 := Aside0.mk c6
              clear c6
              obtain ⟨y126, hy126⟩ : ∃ y_ : List Int, y_ = (x3_1 ++ [bt a0 x7_1]) := ⟨_, rfl⟩
              replace H : (if (bt a0 x7_1) = 92 then (if y126.length < 140737488355328 then (escape_Quote.l0 k1 a0 (y126 ++ [101]) (a0.size : Int) (wrap64 (x7_1 + 1))) else (none)) else (escape_Quote.l0 k1 a0 y126 (a0.size : Int) (wrap64 (x7_1 + 1)))) = some r := by first | (rw [hy126]; with_reducible exact H) | (have H2_ := (Option.bind_some _ _).symm.trans H; rw [hy126]; with_reducible exact H2_) | (have H2_ := (Option.bind_some _ _).symm.trans H; with_reducible exact H2_) | with_reducible exact H | (rw [hy126]; exact H) | exact H
              have Ny126 := Aside0.mk hy126
              clear hy126
              by_cases c8 : (bt a0 x7_1) = 92
              · rw [if_pos c8] at H
                have c8b0 : ((bt a0 x7_1) == 92) = true := beq_iff_eq.mpr c8
                have c8b1 : ((bt a0 x7_1) != 92) = false := bne_eq_false_iff_eq.mpr c8
                clear c8
                by_cases c9 : y126.length < 140737488355328
                · rw [if_pos c9] at H
                  have LMc9 := Aside0.mk c9
                  clear c9
                  obtain ⟨y129, hy129⟩ : ∃ y_ : List Int, y_ = (y126 ++ [101]) := ⟨_, rfl⟩
                  replace H : (escape_Quote.l0 k1 a0 y129 (a0.size : Int) (wrap64 (x7_1 + 1))) = some r := by first | (rw [hy129]; with_reducible exact H) | (have H2_ := (Option.bind_some _ _).symm.trans H; rw [hy129]; with_reducible exact H2_) | (have H2_ := (Option.bind_some _ _).symm.trans H; with_reducible exact H2_) | with_reducible exact H | (rw [hy129]; exact H) | exact H
                  have Ny129 := Aside0.mk hy129
                  clear hy129
                  have H' := Aside0.mk H
                  clear H
                  have p5 : 0 ≤ (x7_1 : Int) := of_decide_eq_true (by first | (with_reducible assumption) | assumption)
                  have q5 : x7_1 < (a0.size : Int) := of_decide_eq_true (by first | (with_reducible assumption) | assumption)
                  have hx5 := bt_at a0 x7_1
                  replace p5 := eq_true p5
                  replace q5 := eq_true q5
                  go_wp2_with (first | ((with_reducible refine gate_builtin (b := .append) (xs := #[.tmp 10, .tmp 14]) rfl ?_); at_builtin; refine Kd.R_append (Kd.int .u8) (w0 := w) w.heap.size rfl (.tmp 10) (.tmp 14) 36 5 (.int .u8 0) 1 rfl Tryd.underlying36 info5 rfl (by decide) (by omega) u3 x3_1 (bt a0 x7_1) [.int .u8 (bt a0 x7_1)] (fun _ => True) (fun _ => False) rfl rfl ?aP (fun _ hk => hk.elim) ?aF ?aO ?aB ?aS ?aL ?_; (case aP => exact rfl); (case aB => exact (by repeat (first | (with_reducible first | exact HB.out | apply below_alloc | apply pw_below_drewN | apply below_drew1) | exact HB.out))); (case aF => exact (fun _ _ => trivial)); (case aO => exact (by (with_reducible repeat (first | apply Kd.R_alloc | apply Kd.R_drewN | apply Kd.R_drew)); exact HO_3.out)); (case aS => exact (below_size (by repeat (first | (with_reducible first | exact HB.out | apply below_alloc | apply pw_below_drewN | apply below_drew1) | exact HB.out)))); (case aL => have := LMc6.out; omega); intro v127 w10 ho hb hg hat; rw [← Ny126.out] at ho; have n0_ := Aside0.mk (hb); have n1_ := Aside0.mk (ho); clear HB; clear HO_3; have HB := n0_; have HO128 := n1_; clear n0_ n1_; clear ho hb hg hat; have p7 : 0 ≤ (x7_1 : Int) := of_decide_eq_true (by first | (with_reducible assumption) | assumption); have q7 : x7_1 < (a0.size : Int) := of_decide_eq_true (by first | (with_reducible assumption) | assumption); have hx7 := bt_at a0 x7_1; replace p7 := eq_true p7; replace q7 := eq_true q7) | ((with_reducible refine gate_builtin (b := .append) (xs := #[.tmp 20, .tmp 21]) rfl ?_); at_builtin; refine Kd.R_append (Kd.int .u8) (w0 := w) w.heap.size rfl (.tmp 20) (.tmp 21) 36 5 (.int .u8 0) 1 rfl Tryd.underlying36 info5 rfl (by decide) (by omega) v127 y126 101 [.int .u8 101] (fun _ => True) (fun _ => False) rfl rfl ?aP (fun _ hk => hk.elim) ?aF ?aO ?aB ?aS ?aL ?_; (case aP => exact rfl); (case aB => exact (by repeat (first | (with_reducible first | exact HB.out | apply below_alloc | apply pw_below_drewN | apply below_drew1) | exact HB.out))); (case aF => exact (fun _ _ => trivial)); (case aO => exact (by (with_reducible repeat (first | apply Kd.R_alloc | apply Kd.R_drewN | apply Kd.R_drew)); exact HO128.out)); (case aS => exact (below_size (by repeat (first | (with_reducible first | exact HB.out | apply below_alloc | apply pw_below_drewN | apply below_drew1) | exact HB.out)))); (case aL => have := LMc9.out; omega); intro v130 w11 ho hb hg hat; rw [← Ny129.out] at ho; have n0_ := Aside0.mk (hb); have n1_ := Aside0.mk (ho); clear HB; clear HO128; have HB := n0_; have HO131 := n1_; clear n0_ n1_; clear ho hb hg hat))
                  go_roundg k1
                  case measure => have := HK1.out; omega
                  case rel => exact ⟨(y129), (wrap64 (x7_1 + 1)), (by first | rfl | (simp; done) | (simp [*]; done)), H', ⟨by have := HK1.out; omega⟩, ⟨by (with_reducible repeat (first | apply Kd.R_alloc | apply Kd.R_drewN | apply Kd.R_drew)); exact HO131.out⟩, ⟨by repeat (first | (with_reducible first | exact HB.out | apply below_alloc | apply pw_below_drewN | apply below_drew1) | exact HB.out)⟩⟩
                · rw [if_neg c9] at H
                  exact absurd H (by simp)
              · rw [if_neg c8] at H
                have c8b0 : ((bt a0 x7_1) == 92) = false := beq_eq_false_iff_ne.mpr c8
                have c8b1 : ((bt a0 x7_1) != 92) = true := bne_iff_ne.mpr c8
                have H' := Aside0.mk H
                clear H
                have p5 : 0 ≤ (x7_1 : Int) := of_decide_eq_true (by first | (with_reducible assumption) | assumption)
                have q5 : x7_1 < (a0.size : Int) := of_decide_eq_true (by first | (with_reducible assumption) | assumption)
                have hx5 := bt_at a0 x7_1
                replace p5 := eq_true p5
                replace q5 := eq_true q5
                go_wp2_with (first | ((with_reducible refine gate_builtin (b := .append) (xs := #[.tmp 10, .tmp 14]) rfl ?_); at_builtin; refine Kd.R_append (Kd.int .u8) (w0 := w) w.heap.size rfl (.tmp 10) (.tmp 14) 36 5 (.int .u8 0) 1 rfl Tryd.underlying36 info5 rfl (by decide) (by omega) u3 x3_1 (bt a0 x7_1) [.int .u8 (bt a0 x7_1)] (fun _ => True) (fun _ => False) rfl rfl ?aP (fun _ hk => hk.elim) ?aF ?aO ?aB ?aS ?aL ?_; (case aP => exact rfl); (case aB => exact (by repeat (first | (with_reducible first | exact HB.out | apply below_alloc | apply pw_below_drewN | apply below_drew1) | exact HB.out))); (case aF => exact (fun _ _ => trivial)); (case aO => exact (by (with_reducible repeat (first | apply Kd.R_alloc | apply Kd.R_drewN | apply Kd.R_drew)); exact HO_3.out)); (case aS => exact (below_size (by repeat (first | (with_reducible first | exact HB.out | apply below_alloc | apply pw_below_drewN | apply below_drew1) | exact HB.out)))); (case aL => have := LMc6.out; omega); intro v127 w12 ho hb hg hat; rw [← Ny126.out] at ho; have n0_ := Aside0.mk (hb); have n1_ := Aside0.mk (ho); clear HB; clear HO_3; have HB := n0_; have HO128 := n1_; clear n0_ n1_; clear ho hb hg hat; have p7 : 0 ≤ (x7_1 : Int) := of_decide_eq_true (by first | (with_reducible assumption) | assumption); have q7 : x7_1 < (a0.size : Int) := of_decide_eq_true (by first | (with_reducible assumption) | assumption); have hx7 := bt_at a0 x7_1; replace p7 := eq_true p7; replace q7 := eq_true q7))
                go_roundg k1
                case measure => have := HK1.out; omega
                case rel => exact ⟨(y126), (wrap64 (x7_1 + 1)), (by first | rfl | (simp; done) | (simp [*]; done)), H', ⟨by have := HK1.out; omega⟩, ⟨by (with_reducible repeat (first | apply Kd.R_alloc | apply Kd.R_drewN | apply Kd.R_drew)); exact HO128.out⟩, ⟨by repeat (first | (with_reducible first | exact HB.out | apply below_alloc | apply pw_below_drewN | apply below_drew1) | exact HB.out)⟩⟩
            · rw [if_neg c6] at H
              exact absurd H (by simp)
          · rw [if_neg c4] at H
            exact absurd H (by simp)
        · rw [if_neg c3] at H
          exact absurd H (by simp)
      · rw [if_neg c2] at H
        have c2b0 : decide (x7_1 < (a0.size : Int)) = false := decide_eq_false c2
        clear c2
        obtain rfl := Option.some.inj H
        have hcv13 := own_string (P := Tryd.prog) Tryd.underlying36 Tryd.underlying5 Tryd.underlying9 (Kd.own_of_R HO_3.out)
        go_wp2
        go_ret
        exact ⟨by first | rfl | (simp [errW_none, errW_some] <;> rfl) | (simp [*, errW_none, errW_some] <;> rfl), by repeat (first | (with_reducible first | exact HB.out | apply below_alloc | apply pw_below_drewN | apply below_drew1) | exact HB.out)⟩
def flonglaw04_known.f (k : Nat)  : Option (Bool) := (escape_Scan.f k (⟨#[97, 92, 40, 101, 109, 98]⟩ : ByteArray)).bind fun bt132 => ((flongref04_Same.f k bt132.1 (([(⟨1, 97⟩ : S38), (⟨1, 8212⟩ : S38), (⟨1, 98⟩ : S38)] : List (S38)))).bind fun t141 => (if t141 = true then (if (bt132.2.length : Int) = 0 then ((escape_Quote.f k (⟨#[92]⟩ : ByteArray)).bind fun t142 => (some (t142.toList == ([92, 101] : List UInt8)))) else (some false)) else (some false)))
theorem flonglaw04_known.mono : ∀ k, LeO (flonglaw04_known.f k ) (flonglaw04_known.f (k + 1) ) := by
  intro  k
  unfold flonglaw04_known.f
  repeat' first
      | (with_reducible exact escape_Quote.mono _ _)
      | (with_reducible exact escape_Scan.mono _ _)
      | (with_reducible exact flongref04_Same.mono _ _ _)
      | (with_reducible exact LeO.refl _)
      | (with_reducible exact LeO.none _)
      | (with_reducible refine LeO.ite ?_ ?_)
      | (with_reducible refine LeO.bind ?_ (fun _ => ?_))
      | exact escape_Quote.mono _ _
      | exact escape_Scan.mono _ _
      | exact flongref04_Same.mono _ _ _
      | exact LeO.none _
      | refine LeO.ite ?_ ?_
      | refine LeO.bind ?_ (fun _ => ?_)
set_option maxHeartbeats 8000000 in
set_option maxRecDepth 100000 in
theorem flonglaw04_known.calls (k : Nat)  (r : Bool) (w : World) (hG : GL w) (h : flonglaw04_known.f k  = some r) :
    Calls Tryd.prog 14 #[] w fun e w' => e = .returned (.bool r) ∧ Below w.heap.size w w' := by
  have hu38 := Tryd.underlying38
  have HG := Aside0.mk hG
  clear hG
  have HB := Aside0.mk (Below.refl w.heap.size w)
  have H : ((escape_Scan.f k (⟨#[97, 92, 40, 101, 109, 98]⟩ : ByteArray)).bind fun bt132 => ((flongref04_Same.f k bt132.1 (([(⟨1, 97⟩ : S38), (⟨1, 8212⟩ : S38), (⟨1, 98⟩ : S38)] : List (S38)))).bind fun t141 => (if t141 = true then (if (bt132.2.length : Int) = 0 then ((escape_Quote.f k (⟨#[92]⟩ : ByteArray)).bind fun t142 => (some (t142.toList == ([92, 101] : List UInt8)))) else (some false)) else (some false)))) = some r := h
  clear h
  replace H := Option.bind_eq_some_iff.mp H
  obtain ⟨⟨t132, t133⟩, A10, H⟩ := H
  replace H : ((flongref04_Same.f k t132 (([(⟨1, 97⟩ : S38), (⟨1, 8212⟩ : S38), (⟨1, 98⟩ : S38)] : List (S38)))).bind fun t141 => (if t141 = true then (if (t133.length : Int) = 0 then ((escape_Quote.f k (⟨#[92]⟩ : ByteArray)).bind fun t142 => (some (t142.toList == ([92, 101] : List UInt8)))) else (some false)) else (some false))) = some r := H
  have A1 := Aside0.mk A10
  clear A10
  obtain ⟨y138, hy138⟩ : ∃ y_ : List (S38), y_ = (([(⟨1, 97⟩ : S38), (⟨1, 8212⟩ : S38), (⟨1, 98⟩ : S38)] : List (S38))) := ⟨_, rfl⟩
  replace H : ((flongref04_Same.f k t132 y138).bind fun t141 => (if t141 = true then (if (t133.length : Int) = 0 then ((escape_Quote.f k (⟨#[92]⟩ : ByteArray)).bind fun t142 => (some (t142.toList == ([92, 101] : List UInt8)))) else (some false)) else (some false))) = some r := by first | (rw [hy138]; with_reducible exact H) | (have H2_ := (Option.bind_some _ _).symm.trans H; rw [hy138]; with_reducible exact H2_) | (have H2_ := (Option.bind_some _ _).symm.trans H; with_reducible exact H2_) | with_reducible exact H | (rw [hy138]; exact H) | exact H
  have Ny138 := Aside0.mk hy138
  clear hy138
  replace H := Option.bind_eq_some_iff.mp H
  obtain ⟨t141, A20, H⟩ := H
  replace H : (if t141 = true then (if (t133.length : Int) = 0 then ((escape_Quote.f k (⟨#[92]⟩ : ByteArray)).bind fun t142 => (some (t142.toList == ([92, 101] : List UInt8)))) else (some false)) else (some false)) = some r := H
  have A2 := Aside0.mk A20
  clear A20
  by_cases c3 : t141 = true
  · subst c3
    have H1 : (if (t133.length : Int) = 0 then ((escape_Quote.f k (⟨#[92]⟩ : ByteArray)).bind fun t142 => (some (t142.toList == ([92, 101] : List UInt8)))) else (some false)) = some r := by rw [if_pos rfl] at H; exact H
    clear H
    have H := H1
    clear H1
    by_cases c4 : (t133.length : Int) = 0
    · rw [if_pos c4] at H
      have c4b0 : ((t133.length : Int) == 0) = true := beq_iff_eq.mpr c4
      have c4b1 : ((t133.length : Int) != 0) = false := bne_eq_false_iff_eq.mpr c4
      clear c4
      replace H := Option.bind_eq_some_iff.mp H
      obtain ⟨t142, A50, H⟩ := H
      replace H : (some (t142.toList == ([92, 101] : List UInt8))) = some r := H
      have A5 := Aside0.mk A50
      clear A50
      obtain rfl := Option.some.inj H
      go_enter Tryd.func14, Tryd.ntmps14
      go_wp2_with (first | ((with_reducible refine gate_callee (f := 15) rfl ?_); refine goesL_ (some 4) rfl rfl Tryd.func15 (by kernel_rfl) rfl #[.string (⟨#[97, 92, 40, 101, 109, 98]⟩ : ByteArray)] rfl (by (try simp only [List.map_toArray, List.map_cons, List.map_nil]); first | done | rfl | (simp only [List.length_drop, List.length_take]; rfl)) ?_; (with_reducible refine (escape_Scan.calls k (⟨#[97, 92, 40, 101, 109, 98]⟩ : ByteArray) t132 t133 _ ?side1 A1.out).mono ?_); (case side1 => exact GL.below HG.out (by repeat (first | (with_reducible first | exact HB.out | apply below_alloc | apply pw_below_drewN | apply below_drew1) | exact HB.out))); rintro e w6 ⟨v134, v136, rfl, ho0, ho1, hb⟩; refine ⟨_, rfl, ?_⟩; have n0_ := Aside0.mk (Kd.R_lower ho0 (below_size (by repeat (first | (with_reducible first | exact HB.out | apply below_alloc | apply pw_below_drewN | apply below_drew1) | exact HB.out)))); have n1_ := Aside0.mk (Kd.R_lower ho1 (below_size (by repeat (first | (with_reducible first | exact HB.out | apply below_alloc | apply pw_below_drewN | apply below_drew1) | exact HB.out)))); have n2_ := Aside0.mk (below_step (by repeat (first | (with_reducible first | exact HB.out | apply below_alloc | apply pw_below_drewN | apply below_drew1) | exact HB.out)) hb); clear HB; have HO135 := n0_; have HO137 := n1_; have HB := n2_; clear n0_ n1_ n2_; (try clear hb); (try clear hb2); (try clear hk); (try clear hi); (try clear ho0); (try clear ho1)) | ((with_reducible refine gate_dst (N := 11) rfl ?_); (try (refine gate_guard (by rfl) ?_; dsimp only)); refine Kd.R_lit k38 _ 38 ?hg (N := 11) ?hd (xs := ([(⟨1, 97⟩ : S38), (⟨1, 8212⟩ : S38), (⟨1, 98⟩ : S38)] : List (S38))) (inner := [.int .i64 1, .int .i32 97, .int .i64 1, .int .i32 8212, .int .i64 1, .int .i32 98]) (ok := fun _ => True) (okp := fun _ => True) ?hr ?hp (fun _ hk => hk) trivial (Below.refl _ _) (Nat.le_refl _) (by simp) ?_; (case hd => rfl); (case hg => rfl); (case hr => first | (go_simp; done) | (go_simp; rfl)); (case hp => exact (Reps.c2 (show Kd.M k38 _ _ _ (⟨1, 97⟩ : S38) [.int .i64 1, .int .i32 97] from (k38_mkM _ _ _ (⟨1, 97⟩ : S38) )) (Reps.c2 (show Kd.M k38 _ _ _ (⟨1, 8212⟩ : S38) [.int .i64 1, .int .i32 8212] from (k38_mkM _ _ _ (⟨1, 8212⟩ : S38) )) (Reps.c2 (show Kd.M k38 _ _ _ (⟨1, 98⟩ : S38) [.int .i64 1, .int .i32 98] from (k38_mkM _ _ _ (⟨1, 98⟩ : S38) )) (Reps.none _ _))))); intro v139 w7 ho8 hb hg_ hnew_; clear hg_ hnew_; (first | rw [← Ny138.out] at ho8 | (simp only [Int.reduceToNat] at ho8; rw [← Ny138.out] at ho8)); have n0_ := Aside0.mk (Kd.R_elder' (by (with_reducible repeat (first | apply Kd.R_alloc | apply Kd.R_drewN | apply Kd.R_drew)); exact HO135.out) (Kd.R_base ho8) hb); have n1_ := Aside0.mk (Kd.R_below (by (with_reducible repeat (first | apply Kd.R_alloc | apply Kd.R_drewN | apply Kd.R_drew)); exact HO137.out) hb); have n2_ := Aside0.mk (Kd.R_lower (Kd.R_new' ho8 (Kd.R_lt (by (with_reducible repeat (first | apply Kd.R_alloc | apply Kd.R_drewN | apply Kd.R_drew)); exact HO135.out))) (below_size (by repeat (first | (with_reducible first | exact HB.out | apply below_alloc | apply pw_below_drewN | apply below_drew1) | exact HB.out)))); have n3_ := Aside0.mk (below_step (by repeat (first | (with_reducible first | exact HB.out | apply below_alloc | apply pw_below_drewN | apply below_drew1) | exact HB.out)) hb); clear HO135; clear HO137; clear HB; have HO135 := n0_; have HO137 := n1_; have HO140 := n2_; have HB := n3_; clear n0_ n1_ n2_ n3_; clear hb ho8; obtain ⟨Ao9, co9, eo9⟩ := Kd.R_slice HO135.out; subst eo9; obtain ⟨Ao10, co10, eo10⟩ := Kd.R_slice HO140.out; subst eo10) | ((with_reducible refine gate_callee (f := 17) rfl ?_); refine goesL_ (some 12) rfl rfl Tryd.func17 (by kernel_rfl) rfl #[.slice Ao9 t132.length co9, .slice Ao10 y138.length co10] rfl (by (try simp only [List.map_toArray, List.map_cons, List.map_nil]); first | done | rfl | (simp only [List.length_drop, List.length_take]; rfl)) ?_; (with_reducible refine (flongref04_Same.calls k _ _ t132 _ _ y138 true _ ?side1 ?side2 ?side3 ?side4 A2.out).mono ?_); (case side1 => repeat (first | exact (Kd.R_reads' HO135.out).2.2 | (with_reducible refine Kd.C_alloc ?_ _) | (with_reducible refine Kd.C_drewN ?_ _) | (with_reducible refine Kd.C_drew ?_))); (case side2 => exact (Kd.R_reads' HO135.out).2.1); (case side3 => repeat (first | exact (Kd.R_reads' HO140.out).2.2 | (with_reducible refine Kd.C_alloc ?_ _) | (with_reducible refine Kd.C_drewN ?_ _) | (with_reducible refine Kd.C_drew ?_))); (case side4 => exact (Kd.R_reads' HO140.out).2.1); rintro e w' ⟨rfl, ⟨nd, rfl⟩⟩; refine ⟨_, rfl, ?_⟩; obtain ⟨Ao11, co11, eo11⟩ := Kd.R_slice HO137.out; subst eo11) | (go_at_call 23; (with_reducible refine (escape_Quote.calls k (⟨#[92]⟩ : ByteArray) t142 _ A5.out).mono ?_); rintro e w12 ⟨rfl, hb⟩; have n0_ := Aside0.mk (Kd.R_below (by (with_reducible repeat (first | apply Kd.R_alloc | apply Kd.R_drewN | apply Kd.R_drew)); exact HO135.out) hb); have n1_ := Aside0.mk (Kd.R_below (by (with_reducible repeat (first | apply Kd.R_alloc | apply Kd.R_drewN | apply Kd.R_drew)); exact HO137.out) hb); have n2_ := Aside0.mk (Kd.R_below (by (with_reducible repeat (first | apply Kd.R_alloc | apply Kd.R_drewN | apply Kd.R_drew)); exact HO140.out) hb); have n3_ := Aside0.mk (below_step (by repeat (first | (with_reducible first | exact HB.out | apply below_alloc | apply pw_below_drewN | apply below_drew1) | exact HB.out)) hb); clear HO135; clear HO137; clear HO140; clear HB; have HO135 := n0_; have HO137 := n1_; have HO140 := n2_; have HB := n3_; clear n0_ n1_ n2_ n3_; (try clear hb); (try clear hb2); (try clear hk); (try clear hi)))
      go_ret
      exact ⟨by first | rfl | (simp [errW_none, errW_some] <;> rfl) | (simp [*, errW_none, errW_some] <;> rfl), by repeat (first | (with_reducible first | exact HB.out | apply below_alloc | apply pw_below_drewN | apply below_drew1) | exact HB.out)⟩
    · rw [if_neg c4] at H
      have c4b0 : ((t133.length : Int) == 0) = false := beq_eq_false_iff_ne.mpr c4
      have c4b1 : ((t133.length : Int) != 0) = true := bne_iff_ne.mpr c4
      have c4b2 : ¬ (t133 = []) := fun h_ => c4 (by rw [h_]; rfl)
      obtain rfl := Option.some.inj H
      go_enter Tryd.func14, Tryd.ntmps14
      go_wp2_with (first | ((with_reducible refine gate_callee (f := 15) rfl ?_); refine goesL_ (some 4) rfl rfl Tryd.func15 (by kernel_rfl) rfl #[.string (⟨#[97, 92, 40, 101, 109, 98]⟩ : ByteArray)] rfl (by (try simp only [List.map_toArray, List.map_cons, List.map_nil]); first | done | rfl | (simp only [List.length_drop, List.length_take]; rfl)) ?_; (with_reducible refine (escape_Scan.calls k (⟨#[97, 92, 40, 101, 109, 98]⟩ : ByteArray) t132 t133 _ ?side1 A1.out).mono ?_); (case side1 => exact GL.below HG.out (by repeat (first | (with_reducible first | exact HB.out | apply below_alloc | apply pw_below_drewN | apply below_drew1) | exact HB.out))); rintro e w13 ⟨v134, v136, rfl, ho0, ho1, hb⟩; refine ⟨_, rfl, ?_⟩; have n0_ := Aside0.mk (Kd.R_lower ho0 (below_size (by repeat (first | (with_reducible first | exact HB.out | apply below_alloc | apply pw_below_drewN | apply below_drew1) | exact HB.out)))); have n1_ := Aside0.mk (Kd.R_lower ho1 (below_size (by repeat (first | (with_reducible first | exact HB.out | apply below_alloc | apply pw_below_drewN | apply below_drew1) | exact HB.out)))); have n2_ := Aside0.mk (below_step (by repeat (first | (with_reducible first | exact HB.out | apply below_alloc | apply pw_below_drewN | apply below_drew1) | exact HB.out)) hb); clear HB; have HO135 := n0_; have HO137 := n1_; have HB := n2_; clear n0_ n1_ n2_; (try clear hb); (try clear hb2); (try clear hk); (try clear hi); (try clear ho0); (try clear ho1)) | ((with_reducible refine gate_dst (N := 11) rfl ?_); (try (refine gate_guard (by rfl) ?_; dsimp only)); refine Kd.R_lit k38 _ 38 ?hg (N := 11) ?hd (xs := ([(⟨1, 97⟩ : S38), (⟨1, 8212⟩ : S38), (⟨1, 98⟩ : S38)] : List (S38))) (inner := [.int .i64 1, .int .i32 97, .int .i64 1, .int .i32 8212, .int .i64 1, .int .i32 98]) (ok := fun _ => True) (okp := fun _ => True) ?hr ?hp (fun _ hk => hk) trivial (Below.refl _ _) (Nat.le_refl _) (by simp) ?_; (case hd => rfl); (case hg => rfl); (case hr => first | (go_simp; done) | (go_simp; rfl)); (case hp => exact (Reps.c2 (show Kd.M k38 _ _ _ (⟨1, 97⟩ : S38) [.int .i64 1, .int .i32 97] from (k38_mkM _ _ _ (⟨1, 97⟩ : S38) )) (Reps.c2 (show Kd.M k38 _ _ _ (⟨1, 8212⟩ : S38) [.int .i64 1, .int .i32 8212] from (k38_mkM _ _ _ (⟨1, 8212⟩ : S38) )) (Reps.c2 (show Kd.M k38 _ _ _ (⟨1, 98⟩ : S38) [.int .i64 1, .int .i32 98] from (k38_mkM _ _ _ (⟨1, 98⟩ : S38) )) (Reps.none _ _))))); intro v139 w14 ho15 hb hg_ hnew_; clear hg_ hnew_; (first | rw [← Ny138.out] at ho15 | (simp only [Int.reduceToNat] at ho15; rw [← Ny138.out] at ho15)); have n0_ := Aside0.mk (Kd.R_elder' (by (with_reducible repeat (first | apply Kd.R_alloc | apply Kd.R_drewN | apply Kd.R_drew)); exact HO135.out) (Kd.R_base ho15) hb); have n1_ := Aside0.mk (Kd.R_below (by (with_reducible repeat (first | apply Kd.R_alloc | apply Kd.R_drewN | apply Kd.R_drew)); exact HO137.out) hb); have n2_ := Aside0.mk (Kd.R_lower (Kd.R_new' ho15 (Kd.R_lt (by (with_reducible repeat (first | apply Kd.R_alloc | apply Kd.R_drewN | apply Kd.R_drew)); exact HO135.out))) (below_size (by repeat (first | (with_reducible first | exact HB.out | apply below_alloc | apply pw_below_drewN | apply below_drew1) | exact HB.out)))); have n3_ := Aside0.mk (below_step (by repeat (first | (with_reducible first | exact HB.out | apply below_alloc | apply pw_below_drewN | apply below_drew1) | exact HB.out)) hb); clear HO135; clear HO137; clear HB; have HO135 := n0_; have HO137 := n1_; have HO140 := n2_; have HB := n3_; clear n0_ n1_ n2_ n3_; clear hb ho15; obtain ⟨Ao16, co16, eo16⟩ := Kd.R_slice HO135.out; subst eo16; obtain ⟨Ao17, co17, eo17⟩ := Kd.R_slice HO140.out; subst eo17) | ((with_reducible refine gate_callee (f := 17) rfl ?_); refine goesL_ (some 12) rfl rfl Tryd.func17 (by kernel_rfl) rfl #[.slice Ao16 t132.length co16, .slice Ao17 y138.length co17] rfl (by (try simp only [List.map_toArray, List.map_cons, List.map_nil]); first | done | rfl | (simp only [List.length_drop, List.length_take]; rfl)) ?_; (with_reducible refine (flongref04_Same.calls k _ _ t132 _ _ y138 true _ ?side1 ?side2 ?side3 ?side4 A2.out).mono ?_); (case side1 => repeat (first | exact (Kd.R_reads' HO135.out).2.2 | (with_reducible refine Kd.C_alloc ?_ _) | (with_reducible refine Kd.C_drewN ?_ _) | (with_reducible refine Kd.C_drew ?_))); (case side2 => exact (Kd.R_reads' HO135.out).2.1); (case side3 => repeat (first | exact (Kd.R_reads' HO140.out).2.2 | (with_reducible refine Kd.C_alloc ?_ _) | (with_reducible refine Kd.C_drewN ?_ _) | (with_reducible refine Kd.C_drew ?_))); (case side4 => exact (Kd.R_reads' HO140.out).2.1); rintro e w' ⟨rfl, ⟨nd, rfl⟩⟩; refine ⟨_, rfl, ?_⟩; obtain ⟨Ao18, co18, eo18⟩ := Kd.R_slice HO137.out; subst eo18))
      go_ret
      exact ⟨by first | rfl | (simp [errW_none, errW_some] <;> rfl) | (simp [*, errW_none, errW_some] <;> rfl), by repeat (first | (with_reducible first | exact HB.out | apply below_alloc | apply pw_below_drewN | apply below_drew1) | exact HB.out)⟩
  · replace c3 := Bool.eq_false_iff.mpr c3
    subst c3
    have H1 : (some false) = some r := by rw [if_neg (show ¬ (false = true) by decide)] at H; exact H
    clear H
    have H := H1
    clear H1
    obtain rfl := Option.some.inj H
    go_enter Tryd.func14, Tryd.ntmps14
    go_wp2_with (first | ((with_reducible refine gate_callee (f := 15) rfl ?_); refine goesL_ (some 4) rfl rfl Tryd.func15 (by kernel_rfl) rfl #[.string (⟨#[97, 92, 40, 101, 109, 98]⟩ : ByteArray)] rfl (by (try simp only [List.map_toArray, List.map_cons, List.map_nil]); first | done | rfl | (simp only [List.length_drop, List.length_take]; rfl)) ?_; (with_reducible refine (escape_Scan.calls k (⟨#[97, 92, 40, 101, 109, 98]⟩ : ByteArray) t132 t133 _ ?side1 A1.out).mono ?_); (case side1 => exact GL.below HG.out (by repeat (first | (with_reducible first | exact HB.out | apply below_alloc | apply pw_below_drewN | apply below_drew1) | exact HB.out))); rintro e w19 ⟨v134, v136, rfl, ho0, ho1, hb⟩; refine ⟨_, rfl, ?_⟩; have n0_ := Aside0.mk (Kd.R_lower ho0 (below_size (by repeat (first | (with_reducible first | exact HB.out | apply below_alloc | apply pw_below_drewN | apply below_drew1) | exact HB.out)))); have n1_ := Aside0.mk (Kd.R_lower ho1 (below_size (by repeat (first | (with_reducible first | exact HB.out | apply below_alloc | apply pw_below_drewN | apply below_drew1) | exact HB.out)))); have n2_ := Aside0.mk (below_step (by repeat (first | (with_reducible first | exact HB.out | apply below_alloc | apply pw_below_drewN | apply below_drew1) | exact HB.out)) hb); clear HB; have HO135 := n0_; have HO137 := n1_; have HB := n2_; clear n0_ n1_ n2_; (try clear hb); (try clear hb2); (try clear hk); (try clear hi); (try clear ho0); (try clear ho1)) | ((with_reducible refine gate_dst (N := 11) rfl ?_); (try (refine gate_guard (by rfl) ?_; dsimp only)); refine Kd.R_lit k38 _ 38 ?hg (N := 11) ?hd (xs := ([(⟨1, 97⟩ : S38), (⟨1, 8212⟩ : S38), (⟨1, 98⟩ : S38)] : List (S38))) (inner := [.int .i64 1, .int .i32 97, .int .i64 1, .int .i32 8212, .int .i64 1, .int .i32 98]) (ok := fun _ => True) (okp := fun _ => True) ?hr ?hp (fun _ hk => hk) trivial (Below.refl _ _) (Nat.le_refl _) (by simp) ?_; (case hd => rfl); (case hg => rfl); (case hr => first | (go_simp; done) | (go_simp; rfl)); (case hp => exact (Reps.c2 (show Kd.M k38 _ _ _ (⟨1, 97⟩ : S38) [.int .i64 1, .int .i32 97] from (k38_mkM _ _ _ (⟨1, 97⟩ : S38) )) (Reps.c2 (show Kd.M k38 _ _ _ (⟨1, 8212⟩ : S38) [.int .i64 1, .int .i32 8212] from (k38_mkM _ _ _ (⟨1, 8212⟩ : S38) )) (Reps.c2 (show Kd.M k38 _ _ _ (⟨1, 98⟩ : S38) [.int .i64 1, .int .i32 98] from (k38_mkM _ _ _ (⟨1, 98⟩ : S38) )) (Reps.none _ _))))); intro v139 w20 ho21 hb hg_ hnew_; clear hg_ hnew_; (first | rw [← Ny138.out] at ho21 | (simp only [Int.reduceToNat] at ho21; rw [← Ny138.out] at ho21)); have n0_ := Aside0.mk (Kd.R_elder' (by (with_reducible repeat (first | apply Kd.R_alloc | apply Kd.R_drewN | apply Kd.R_drew)); exact HO135.out) (Kd.R_base ho21) hb); have n1_ := Aside0.mk (Kd.R_below (by (with_reducible repeat (first | apply Kd.R_alloc | apply Kd.R_drewN | apply Kd.R_drew)); exact HO137.out) hb); have n2_ := Aside0.mk (Kd.R_lower (Kd.R_new' ho21 (Kd.R_lt (by (with_reducible repeat (first | apply Kd.R_alloc | apply Kd.R_drewN | apply Kd.R_drew)); exact HO135.out))) (below_size (by repeat (first | (with_reducible first | exact HB.out | apply below_alloc | apply pw_below_drewN | apply below_drew1) | exact HB.out)))); have n3_ := Aside0.mk (below_step (by repeat (first | (with_reducible first | exact HB.out | apply below_alloc | apply pw_below_drewN | apply below_drew1) | exact HB.out)) hb); clear HO135; clear HO137; clear HB; have HO135 := n0_; have HO137 := n1_; have HO140 := n2_; have HB := n3_; clear n0_ n1_ n2_ n3_; clear hb ho21; obtain ⟨Ao22, co22, eo22⟩ := Kd.R_slice HO135.out; subst eo22; obtain ⟨Ao23, co23, eo23⟩ := Kd.R_slice HO140.out; subst eo23) | ((with_reducible refine gate_callee (f := 17) rfl ?_); refine goesL_ (some 12) rfl rfl Tryd.func17 (by kernel_rfl) rfl #[.slice Ao22 t132.length co22, .slice Ao23 y138.length co23] rfl (by (try simp only [List.map_toArray, List.map_cons, List.map_nil]); first | done | rfl | (simp only [List.length_drop, List.length_take]; rfl)) ?_; (with_reducible refine (flongref04_Same.calls k _ _ t132 _ _ y138 false _ ?side1 ?side2 ?side3 ?side4 A2.out).mono ?_); (case side1 => repeat (first | exact (Kd.R_reads' HO135.out).2.2 | (with_reducible refine Kd.C_alloc ?_ _) | (with_reducible refine Kd.C_drewN ?_ _) | (with_reducible refine Kd.C_drew ?_))); (case side2 => exact (Kd.R_reads' HO135.out).2.1); (case side3 => repeat (first | exact (Kd.R_reads' HO140.out).2.2 | (with_reducible refine Kd.C_alloc ?_ _) | (with_reducible refine Kd.C_drewN ?_ _) | (with_reducible refine Kd.C_drew ?_))); (case side4 => exact (Kd.R_reads' HO140.out).2.1); rintro e w' ⟨rfl, ⟨nd, rfl⟩⟩; refine ⟨_, rfl, ?_⟩))
    go_ret
    exact ⟨by first | rfl | (simp [errW_none, errW_some] <;> rfl) | (simp [*, errW_none, errW_some] <;> rfl), by repeat (first | (with_reducible first | exact HB.out | apply below_alloc | apply pw_below_drewN | apply below_drew1) | exact HB.out)⟩
end Go.Proofs.YtdogljnddalgdaaDoor.A4
end
section
namespace Go.Proofs.YtdogljnddalgdaaDoor.A4
open Go.RowKit Go.Proofs.YtdogljnddalgdaaDoorW.PrintWords Go.Proofs.YtdogljnddalgdaaDoorW.PrintLast Go.Proofs.YtdogljnddalgdaaDoorW.PrintMore
attribute [local go_sem] max2_int min2_int max_two min_two max_three min_three max_four min_four   -- for this text's walks alone
set_option linter.unusedVariables false
set_option linter.unusedSimpArgs false
def flongref02_Valid.f (a0 : Int) : Option (Bool) := if a0 ≥ 0 then (if a0 < 1114112 then (if a0 < 55296 then (some true) else (some (decide (a0 > 57343)))) else (some false)) else (some false)
set_option maxHeartbeats 8000000 in
set_option maxRecDepth 100000 in
theorem flongref02_Valid.calls (a0 : Int) (r : Bool) (w : World) (h : flongref02_Valid.f a0 = some r) :
    Calls Tryd.prog 52 #[.int .i32 a0] w fun e w' => e = .returned (.bool r) ∧ Drawn0 w w' := by
  have H : (if a0 ≥ 0 then (if a0 < 1114112 then (if a0 < 55296 then (some true) else (some (decide (a0 > 57343)))) else (some false)) else (some false)) = some r := h
  clear h
  by_cases c2 : a0 ≥ 0
  · rw [if_pos c2] at H
    have c2b0 : decide (0 ≤ a0) = true := decide_eq_true c2
    clear c2
    by_cases c3 : a0 < 1114112
    · rw [if_pos c3] at H
      have c3b0 : decide (a0 < 1114112) = true := decide_eq_true c3
      clear c3
      by_cases c4 : a0 < 55296
      · rw [if_pos c4] at H
        have c4b0 : decide (a0 < 55296) = true := decide_eq_true c4
        clear c4
        obtain rfl := Option.some.inj H
        go_enter Tryd.func52, Tryd.ntmps52
        go_wp2
        go_ret
        exact ⟨by first | rfl | (simp; done) | (simp [*]; done), by repeat (first | exact Drawn0.refl _ | apply Drawn0.step)⟩
      · rw [if_neg c4] at H
        have c4b0 : decide (a0 < 55296) = false := decide_eq_false c4
        clear c4
        obtain rfl := Option.some.inj H
        go_enter Tryd.func52, Tryd.ntmps52
        go_wp2
        go_ret
        exact ⟨by first | rfl | (simp; done) | (simp [*]; done), by repeat (first | exact Drawn0.refl _ | apply Drawn0.step)⟩
    · rw [if_neg c3] at H
      have c3b0 : decide (a0 < 1114112) = false := decide_eq_false c3
      clear c3
      obtain rfl := Option.some.inj H
      go_enter Tryd.func52, Tryd.ntmps52
      go_wp2
      go_ret
      exact ⟨by first | rfl | (simp; done) | (simp [*]; done), by repeat (first | exact Drawn0.refl _ | apply Drawn0.step)⟩
  · rw [if_neg c2] at H
    have c2b0 : decide (0 ≤ a0) = false := decide_eq_false c2
    clear c2
    obtain rfl := Option.some.inj H
    go_enter Tryd.func52, Tryd.ntmps52
    go_wp2
    go_ret
    exact ⟨by first | rfl | (simp; done) | (simp [*]; done), by repeat (first | exact Drawn0.refl _ | apply Drawn0.step)⟩
end Go.Proofs.YtdogljnddalgdaaDoor.A4
end
section
namespace Go.Proofs.YtdogljnddalgdaaDoor.A4
open Go.RowKit Go.Proofs.YtdogljnddalgdaaDoorW.PrintWords Go.Proofs.YtdogljnddalgdaaDoorW.PrintLast Go.Proofs.YtdogljnddalgdaaDoorW.PrintMore
attribute [local go_sem] max2_int min2_int max_two min_two max_three min_three max_four min_four   -- for this text's walks alone
set_option linter.unusedVariables false
set_option linter.unusedSimpArgs false
def flongref02_Control.f (a0 : Int) : Option (Bool) := if a0 ≥ 0 then (if a0 ≤ 31 then (some true) else (if a0 ≥ 127 then (if a0 ≤ 159 then (some true) else (if a0 = 8232 then (some true) else (some (a0 == 8233)))) else (if a0 = 8232 then (some true) else (some (a0 == 8233))))) else (if a0 ≥ 127 then (if a0 ≤ 159 then (some true) else (if a0 = 8232 then (some true) else (some (a0 == 8233)))) else (if a0 = 8232 then (some true) else (some (a0 == 8233))))
set_option maxHeartbeats 8000000 in
set_option maxRecDepth 100000 in
theorem flongref02_Control.calls (a0 : Int) (r : Bool) (w : World) (h : flongref02_Control.f a0 = some r) :
    Calls Tryd.prog 27 #[.int .i32 a0] w fun e w' => e = .returned (.bool r) ∧ Drawn0 w w' := by
  have H : (if a0 ≥ 0 then (if a0 ≤ 31 then (some true) else (if a0 ≥ 127 then (if a0 ≤ 159 then (some true) else (if a0 = 8232 then (some true) else (some (a0 == 8233)))) else (if a0 = 8232 then (some true) else (some (a0 == 8233))))) else (if a0 ≥ 127 then (if a0 ≤ 159 then (some true) else (if a0 = 8232 then (some true) else (some (a0 == 8233)))) else (if a0 = 8232 then (some true) else (some (a0 == 8233))))) = some r := h
  clear h
  by_cases c2 : a0 ≥ 0
  · rw [if_pos c2] at H
    have c2b0 : decide (0 ≤ a0) = true := decide_eq_true c2
    clear c2
    by_cases c3 : a0 ≤ 31
    · rw [if_pos c3] at H
      have c3b0 : decide (a0 ≤ 31) = true := decide_eq_true c3
      clear c3
      obtain rfl := Option.some.inj H
      go_enter Tryd.func27, Tryd.ntmps27
      go_wp2
      go_ret
      exact ⟨by first | rfl | (simp; done) | (simp [*]; done), by repeat (first | exact Drawn0.refl _ | apply Drawn0.step)⟩
    · rw [if_neg c3] at H
      have c3b0 : decide (a0 ≤ 31) = false := decide_eq_false c3
      clear c3
      by_cases c4 : a0 ≥ 127
      · rw [if_pos c4] at H
        have c4b0 : decide (127 ≤ a0) = true := decide_eq_true c4
        clear c4
        by_cases c5 : a0 ≤ 159
        · rw [if_pos c5] at H
          have c5b0 : decide (a0 ≤ 159) = true := decide_eq_true c5
          clear c5
          obtain rfl := Option.some.inj H
          go_enter Tryd.func27, Tryd.ntmps27
          go_wp2
          go_ret
          exact ⟨by first | rfl | (simp; done) | (simp [*]; done), by repeat (first | exact Drawn0.refl _ | apply Drawn0.step)⟩
        · rw [if_neg c5] at H
          have c5b0 : decide (a0 ≤ 159) = false := decide_eq_false c5
          clear c5
          by_cases c6 : a0 = 8232
          · rw [if_pos c6] at H
            have c6b0 : (a0 == 8232) = true := beq_iff_eq.mpr c6
            have c6b1 : (a0 != 8232) = false := bne_eq_false_iff_eq.mpr c6
            clear c6
            obtain rfl := Option.some.inj H
            go_enter Tryd.func27, Tryd.ntmps27
            go_wp2
            go_ret
            exact ⟨by first | rfl | (simp; done) | (simp [*]; done), by repeat (first | exact Drawn0.refl _ | apply Drawn0.step)⟩
          · rw [if_neg c6] at H
            have c6b0 : (a0 == 8232) = false := beq_eq_false_iff_ne.mpr c6
            have c6b1 : (a0 != 8232) = true := bne_iff_ne.mpr c6
            obtain rfl := Option.some.inj H
            go_enter Tryd.func27, Tryd.ntmps27
            go_wp2
            go_ret
            exact ⟨by first | rfl | (simp; done) | (simp [*]; done), by repeat (first | exact Drawn0.refl _ | apply Drawn0.step)⟩
      · rw [if_neg c4] at H
        have c4b0 : decide (127 ≤ a0) = false := decide_eq_false c4
        clear c4
        by_cases c7 : a0 = 8232
        · rw [if_pos c7] at H
          have c7b0 : (a0 == 8232) = true := beq_iff_eq.mpr c7
          have c7b1 : (a0 != 8232) = false := bne_eq_false_iff_eq.mpr c7
          clear c7
          obtain rfl := Option.some.inj H
          go_enter Tryd.func27, Tryd.ntmps27
          go_wp2
          go_ret
          exact ⟨by first | rfl | (simp; done) | (simp [*]; done), by repeat (first | exact Drawn0.refl _ | apply Drawn0.step)⟩
        · rw [if_neg c7] at H
          have c7b0 : (a0 == 8232) = false := beq_eq_false_iff_ne.mpr c7
          have c7b1 : (a0 != 8232) = true := bne_iff_ne.mpr c7
          obtain rfl := Option.some.inj H
          go_enter Tryd.func27, Tryd.ntmps27
          go_wp2
          go_ret
          exact ⟨by first | rfl | (simp; done) | (simp [*]; done), by repeat (first | exact Drawn0.refl _ | apply Drawn0.step)⟩
  · rw [if_neg c2] at H
    have c2b0 : decide (0 ≤ a0) = false := decide_eq_false c2
    clear c2
    by_cases c8 : a0 ≥ 127
    · rw [if_pos c8] at H
      have c8b0 : decide (127 ≤ a0) = true := decide_eq_true c8
      clear c8
      by_cases c9 : a0 ≤ 159
      · rw [if_pos c9] at H
        have c9b0 : decide (a0 ≤ 159) = true := decide_eq_true c9
        clear c9
        obtain rfl := Option.some.inj H
        go_enter Tryd.func27, Tryd.ntmps27
        go_wp2
        go_ret
        exact ⟨by first | rfl | (simp; done) | (simp [*]; done), by repeat (first | exact Drawn0.refl _ | apply Drawn0.step)⟩
      · rw [if_neg c9] at H
        have c9b0 : decide (a0 ≤ 159) = false := decide_eq_false c9
        clear c9
        by_cases c10 : a0 = 8232
        · rw [if_pos c10] at H
          have c10b0 : (a0 == 8232) = true := beq_iff_eq.mpr c10
          have c10b1 : (a0 != 8232) = false := bne_eq_false_iff_eq.mpr c10
          clear c10
          obtain rfl := Option.some.inj H
          go_enter Tryd.func27, Tryd.ntmps27
          go_wp2
          go_ret
          exact ⟨by first | rfl | (simp; done) | (simp [*]; done), by repeat (first | exact Drawn0.refl _ | apply Drawn0.step)⟩
        · rw [if_neg c10] at H
          have c10b0 : (a0 == 8232) = false := beq_eq_false_iff_ne.mpr c10
          have c10b1 : (a0 != 8232) = true := bne_iff_ne.mpr c10
          obtain rfl := Option.some.inj H
          go_enter Tryd.func27, Tryd.ntmps27
          go_wp2
          go_ret
          exact ⟨by first | rfl | (simp; done) | (simp [*]; done), by repeat (first | exact Drawn0.refl _ | apply Drawn0.step)⟩
    · rw [if_neg c8] at H
      have c8b0 : decide (127 ≤ a0) = false := decide_eq_false c8
      clear c8
      by_cases c11 : a0 = 8232
      · rw [if_pos c11] at H
        have c11b0 : (a0 == 8232) = true := beq_iff_eq.mpr c11
        have c11b1 : (a0 != 8232) = false := bne_eq_false_iff_eq.mpr c11
        clear c11
        obtain rfl := Option.some.inj H
        go_enter Tryd.func27, Tryd.ntmps27
        go_wp2
        go_ret
        exact ⟨by first | rfl | (simp; done) | (simp [*]; done), by repeat (first | exact Drawn0.refl _ | apply Drawn0.step)⟩
      · rw [if_neg c11] at H
        have c11b0 : (a0 == 8232) = false := beq_eq_false_iff_ne.mpr c11
        have c11b1 : (a0 != 8232) = true := bne_iff_ne.mpr c11
        obtain rfl := Option.some.inj H
        go_enter Tryd.func27, Tryd.ntmps27
        go_wp2
        go_ret
        exact ⟨by first | rfl | (simp; done) | (simp [*]; done), by repeat (first | exact Drawn0.refl _ | apply Drawn0.step)⟩
def flongref02_Safe.f (a0 : Int) : Option (Int) := (flongref02_Valid.f a0).bind fun t173 => (if t173 = true then ((flongref02_Control.f a0).bind fun t174 => (if t174 = true then (some 65533) else (some a0))) else (some 65533))
set_option maxHeartbeats 8000000 in
set_option maxRecDepth 100000 in
theorem flongref02_Safe.calls (a0 : Int) (r : Int) (w : World) (h : flongref02_Safe.f a0 = some r) :
    Calls Tryd.prog 26 #[.int .i32 a0] w fun e w' => e = .returned (.int .i32 r) ∧ Drawn0 w w' := by
  have H : ((flongref02_Valid.f a0).bind fun t173 => (if t173 = true then ((flongref02_Control.f a0).bind fun t174 => (if t174 = true then (some 65533) else (some a0))) else (some 65533))) = some r := h
  clear h
  replace H := Option.bind_eq_some_iff.mp H
  obtain ⟨t173, A20, H⟩ := H
  replace H : (if t173 = true then ((flongref02_Control.f a0).bind fun t174 => (if t174 = true then (some 65533) else (some a0))) else (some 65533)) = some r := H
  have A2 := Aside0.mk A20
  clear A20
  by_cases c3 : t173 = true
  · subst c3
    have H1 : ((flongref02_Control.f a0).bind fun t174 => (if t174 = true then (some 65533) else (some a0))) = some r := by rw [if_pos rfl] at H; exact H
    clear H
    have H := H1
    clear H1
    replace H := Option.bind_eq_some_iff.mp H
    obtain ⟨t174, A40, H⟩ := H
    replace H : (if t174 = true then (some 65533) else (some a0)) = some r := H
    have A4 := Aside0.mk A40
    clear A40
    by_cases c5 : t174 = true
    · subst c5
      have H1 : (some 65533) = some r := by rw [if_pos rfl] at H; exact H
      clear H
      have H := H1
      clear H1
      obtain rfl := Option.some.inj H
      go_enter Tryd.func26, Tryd.ntmps26
      go_wp2_with (first | ((with_reducible refine gate_callee (f := 52) rfl ?_); refine goesL_ (some 4) rfl rfl Tryd.func52 (by kernel_rfl) rfl #[.int .i32 a0] rfl (by (try simp only [List.map_toArray, List.map_cons, List.map_nil]); first | done | rfl | (simp only [List.length_drop, List.length_take]; rfl)) ?_; (with_reducible refine (flongref02_Valid.calls a0 true _ A2.out).mono ?_); rintro e w' ⟨rfl, ⟨nd, rfl⟩⟩; refine ⟨_, rfl, ?_⟩) | (go_at_call 27; (with_reducible refine (flongref02_Control.calls a0 true _ A4.out).mono ?_); rintro e w' ⟨rfl, ⟨nd, rfl⟩⟩))
      go_ret
      exact ⟨by first | rfl | (simp; done) | (simp [*]; done), by repeat (first | exact Drawn0.refl _ | apply Drawn0.step)⟩
    · replace c5 := Bool.eq_false_iff.mpr c5
      subst c5
      have H1 : (some a0) = some r := by rw [if_neg (show ¬ (false = true) by decide)] at H; exact H
      clear H
      have H := H1
      clear H1
      obtain rfl := Option.some.inj H
      go_enter Tryd.func26, Tryd.ntmps26
      go_wp2_with (first | ((with_reducible refine gate_callee (f := 52) rfl ?_); refine goesL_ (some 4) rfl rfl Tryd.func52 (by kernel_rfl) rfl #[.int .i32 a0] rfl (by (try simp only [List.map_toArray, List.map_cons, List.map_nil]); first | done | rfl | (simp only [List.length_drop, List.length_take]; rfl)) ?_; (with_reducible refine (flongref02_Valid.calls a0 true _ A2.out).mono ?_); rintro e w' ⟨rfl, ⟨nd, rfl⟩⟩; refine ⟨_, rfl, ?_⟩) | (go_at_call 27; (with_reducible refine (flongref02_Control.calls a0 false _ A4.out).mono ?_); rintro e w' ⟨rfl, ⟨nd, rfl⟩⟩))
      go_ret
      exact ⟨by first | rfl | (simp; done) | (simp [*]; done), by repeat (first | exact Drawn0.refl _ | apply Drawn0.step)⟩
  · replace c3 := Bool.eq_false_iff.mpr c3
    subst c3
    have H1 : (some 65533) = some r := by rw [if_neg (show ¬ (false = true) by decide)] at H; exact H
    clear H
    have H := H1
    clear H1
    obtain rfl := Option.some.inj H
    go_enter Tryd.func26, Tryd.ntmps26
    go_wp2_with (first | ((with_reducible refine gate_callee (f := 52) rfl ?_); refine goesL_ (some 4) rfl rfl Tryd.func52 (by kernel_rfl) rfl #[.int .i32 a0] rfl (by (try simp only [List.map_toArray, List.map_cons, List.map_nil]); first | done | rfl | (simp only [List.length_drop, List.length_take]; rfl)) ?_; (with_reducible refine (flongref02_Valid.calls a0 false _ A2.out).mono ?_); rintro e w' ⟨rfl, ⟨nd, rfl⟩⟩; refine ⟨_, rfl, ?_⟩))
    go_ret
    exact ⟨by first | rfl | (simp; done) | (simp [*]; done), by repeat (first | exact Drawn0.refl _ | apply Drawn0.step)⟩
def flongref04_all.f  : Option (List ByteArray × List Int) := some ((([(⟨#[101, 109]⟩ : ByteArray), (⟨#[101, 110]⟩ : ByteArray), (⟨#[104, 121]⟩ : ByteArray), (⟨#[98, 117]⟩ : ByteArray), (⟨#[108, 113]⟩ : ByteArray), (⟨#[114, 113]⟩ : ByteArray), (⟨#[111, 113]⟩ : ByteArray), (⟨#[99, 113]⟩ : ByteArray), (⟨#[97, 113]⟩ : ByteArray), (⟨#[100, 113]⟩ : ByteArray), (⟨#[99, 111]⟩ : ByteArray), (⟨#[114, 103]⟩ : ByteArray), (⟨#[116, 109]⟩ : ByteArray), (⟨#[114, 115]⟩ : ByteArray), (⟨#[104, 97]⟩ : ByteArray), (⟨#[116, 105]⟩ : ByteArray), (⟨#[109, 117]⟩ : ByteArray), (⟨#[100, 105]⟩ : ByteArray), (⟨#[60, 45]⟩ : ByteArray), (⟨#[45, 62]⟩ : ByteArray), (⟨#[60, 61]⟩ : ByteArray), (⟨#[62, 61]⟩ : ByteArray), (⟨#[33, 61]⟩ : ByteArray), (⟨#[100, 101]⟩ : ByteArray), (⟨#[115, 99]⟩ : ByteArray), (⟨#[69, 117]⟩ : ByteArray), (⟨#[117, 58]⟩ : ByteArray), (⟨#[111, 58]⟩ : ByteArray), (⟨#[97, 58]⟩ : ByteArray), (⟨#[115, 115]⟩ : ByteArray)] : List ByteArray)), (([8212, 8211, 8208, 8226, 8220, 8221, 8216, 8217, 39, 34, 169, 174, 8482, 92, 94, 126, 215, 247, 8592, 8594, 8804, 8805, 8800, 176, 167, 8364, 252, 246, 228, 223] : List Int)))
set_option maxHeartbeats 8000000 in
set_option maxRecDepth 100000 in
theorem flongref04_all.calls  (r1 : List ByteArray) (r2 : List Int) (w : World) (h : flongref04_all.f  = some (r1, r2)) :
    Calls Tryd.prog 49 #[] w fun e w' => ∃ v0_ v1_ : Value, e = .returned (.tuple #[v0_, v1_]) ∧ Kd.R Kd.string 9 w' w.heap.size (fun _ => True) v0_ r1 ∧ Kd.R (Kd.int .i32) 21 w' w.heap.size (fun _ => True) v1_ r2 ∧ Below w.heap.size w w' := by
  have HB := Aside0.mk (Below.refl w.heap.size w)
  have H : (some ((([(⟨#[101, 109]⟩ : ByteArray), (⟨#[101, 110]⟩ : ByteArray), (⟨#[104, 121]⟩ : ByteArray), (⟨#[98, 117]⟩ : ByteArray), (⟨#[108, 113]⟩ : ByteArray), (⟨#[114, 113]⟩ : ByteArray), (⟨#[111, 113]⟩ : ByteArray), (⟨#[99, 113]⟩ : ByteArray), (⟨#[97, 113]⟩ : ByteArray), (⟨#[100, 113]⟩ : ByteArray), (⟨#[99, 111]⟩ : ByteArray), (⟨#[114, 103]⟩ : ByteArray), (⟨#[116, 109]⟩ : ByteArray), (⟨#[114, 115]⟩ : ByteArray), (⟨#[104, 97]⟩ : ByteArray), (⟨#[116, 105]⟩ : ByteArray), (⟨#[109, 117]⟩ : ByteArray), (⟨#[100, 105]⟩ : ByteArray), (⟨#[60, 45]⟩ : ByteArray), (⟨#[45, 62]⟩ : ByteArray), (⟨#[60, 61]⟩ : ByteArray), (⟨#[62, 61]⟩ : ByteArray), (⟨#[33, 61]⟩ : ByteArray), (⟨#[100, 101]⟩ : ByteArray), (⟨#[115, 99]⟩ : ByteArray), (⟨#[69, 117]⟩ : ByteArray), (⟨#[117, 58]⟩ : ByteArray), (⟨#[111, 58]⟩ : ByteArray), (⟨#[97, 58]⟩ : ByteArray), (⟨#[115, 115]⟩ : ByteArray)] : List ByteArray)), (([8212, 8211, 8208, 8226, 8220, 8221, 8216, 8217, 39, 34, 169, 174, 8482, 92, 94, 126, 215, 247, 8592, 8594, 8804, 8805, 8800, 176, 167, 8364, 252, 246, 228, 223] : List Int)))) = some (r1, r2) := h
  clear h
  obtain ⟨y175, hy175⟩ : ∃ y_ : List ByteArray, y_ = (([(⟨#[101, 109]⟩ : ByteArray), (⟨#[101, 110]⟩ : ByteArray), (⟨#[104, 121]⟩ : ByteArray), (⟨#[98, 117]⟩ : ByteArray), (⟨#[108, 113]⟩ : ByteArray), (⟨#[114, 113]⟩ : ByteArray), (⟨#[111, 113]⟩ : ByteArray), (⟨#[99, 113]⟩ : ByteArray), (⟨#[97, 113]⟩ : ByteArray), (⟨#[100, 113]⟩ : ByteArray), (⟨#[99, 111]⟩ : ByteArray), (⟨#[114, 103]⟩ : ByteArray), (⟨#[116, 109]⟩ : ByteArray), (⟨#[114, 115]⟩ : ByteArray), (⟨#[104, 97]⟩ : ByteArray), (⟨#[116, 105]⟩ : ByteArray), (⟨#[109, 117]⟩ : ByteArray), (⟨#[100, 105]⟩ : ByteArray), (⟨#[60, 45]⟩ : ByteArray), (⟨#[45, 62]⟩ : ByteArray), (⟨#[60, 61]⟩ : ByteArray), (⟨#[62, 61]⟩ : ByteArray), (⟨#[33, 61]⟩ : ByteArray), (⟨#[100, 101]⟩ : ByteArray), (⟨#[115, 99]⟩ : ByteArray), (⟨#[69, 117]⟩ : ByteArray), (⟨#[117, 58]⟩ : ByteArray), (⟨#[111, 58]⟩ : ByteArray), (⟨#[97, 58]⟩ : ByteArray), (⟨#[115, 115]⟩ : ByteArray)] : List ByteArray)) := ⟨_, rfl⟩
  replace H : (some (y175, (([8212, 8211, 8208, 8226, 8220, 8221, 8216, 8217, 39, 34, 169, 174, 8482, 92, 94, 126, 215, 247, 8592, 8594, 8804, 8805, 8800, 176, 167, 8364, 252, 246, 228, 223] : List Int)))) = some (r1, r2) := by first | (rw [hy175]; with_reducible exact H) | (have H2_ := (Option.bind_some _ _).symm.trans H; rw [hy175]; with_reducible exact H2_) | (have H2_ := (Option.bind_some _ _).symm.trans H; with_reducible exact H2_) | with_reducible exact H | (rw [hy175]; exact H) | exact H
  have Ny175 := Aside0.mk hy175
  clear hy175
  obtain ⟨y178, hy178⟩ : ∃ y_ : List Int, y_ = (([8212, 8211, 8208, 8226, 8220, 8221, 8216, 8217, 39, 34, 169, 174, 8482, 92, 94, 126, 215, 247, 8592, 8594, 8804, 8805, 8800, 176, 167, 8364, 252, 246, 228, 223] : List Int)) := ⟨_, rfl⟩
  replace H : (some (y175, y178)) = some (r1, r2) := by first | (rw [hy178]; with_reducible exact H) | (have H2_ := (Option.bind_some _ _).symm.trans H; rw [hy178]; with_reducible exact H2_) | (have H2_ := (Option.bind_some _ _).symm.trans H; with_reducible exact H2_) | with_reducible exact H | (rw [hy178]; exact H) | exact H
  have Ny178 := Aside0.mk hy178
  clear hy178
  simp only [Option.some.injEq, Prod.mk.injEq] at H
  obtain ⟨rfl, rfl⟩ := H
  go_enter Tryd.func49, Tryd.ntmps49
  go_wp2_with (first | ((with_reducible refine gate_dst (N := 2) rfl ?_); refine Kd.R_lit Kd.string _ 9 ?hg (N := 2) ?hd (xs := ([(⟨#[101, 109]⟩ : ByteArray), (⟨#[101, 110]⟩ : ByteArray), (⟨#[104, 121]⟩ : ByteArray), (⟨#[98, 117]⟩ : ByteArray), (⟨#[108, 113]⟩ : ByteArray), (⟨#[114, 113]⟩ : ByteArray), (⟨#[111, 113]⟩ : ByteArray), (⟨#[99, 113]⟩ : ByteArray), (⟨#[97, 113]⟩ : ByteArray), (⟨#[100, 113]⟩ : ByteArray), (⟨#[99, 111]⟩ : ByteArray), (⟨#[114, 103]⟩ : ByteArray), (⟨#[116, 109]⟩ : ByteArray), (⟨#[114, 115]⟩ : ByteArray), (⟨#[104, 97]⟩ : ByteArray), (⟨#[116, 105]⟩ : ByteArray), (⟨#[109, 117]⟩ : ByteArray), (⟨#[100, 105]⟩ : ByteArray), (⟨#[60, 45]⟩ : ByteArray), (⟨#[45, 62]⟩ : ByteArray), (⟨#[60, 61]⟩ : ByteArray), (⟨#[62, 61]⟩ : ByteArray), (⟨#[33, 61]⟩ : ByteArray), (⟨#[100, 101]⟩ : ByteArray), (⟨#[115, 99]⟩ : ByteArray), (⟨#[69, 117]⟩ : ByteArray), (⟨#[117, 58]⟩ : ByteArray), (⟨#[111, 58]⟩ : ByteArray), (⟨#[97, 58]⟩ : ByteArray), (⟨#[115, 115]⟩ : ByteArray)] : List ByteArray)) (inner := [.string (⟨#[101, 109]⟩ : ByteArray), .string (⟨#[101, 110]⟩ : ByteArray), .string (⟨#[104, 121]⟩ : ByteArray), .string (⟨#[98, 117]⟩ : ByteArray), .string (⟨#[108, 113]⟩ : ByteArray), .string (⟨#[114, 113]⟩ : ByteArray), .string (⟨#[111, 113]⟩ : ByteArray), .string (⟨#[99, 113]⟩ : ByteArray), .string (⟨#[97, 113]⟩ : ByteArray), .string (⟨#[100, 113]⟩ : ByteArray), .string (⟨#[99, 111]⟩ : ByteArray), .string (⟨#[114, 103]⟩ : ByteArray), .string (⟨#[116, 109]⟩ : ByteArray), .string (⟨#[114, 115]⟩ : ByteArray), .string (⟨#[104, 97]⟩ : ByteArray), .string (⟨#[116, 105]⟩ : ByteArray), .string (⟨#[109, 117]⟩ : ByteArray), .string (⟨#[100, 105]⟩ : ByteArray), .string (⟨#[60, 45]⟩ : ByteArray), .string (⟨#[45, 62]⟩ : ByteArray), .string (⟨#[60, 61]⟩ : ByteArray), .string (⟨#[62, 61]⟩ : ByteArray), .string (⟨#[33, 61]⟩ : ByteArray), .string (⟨#[100, 101]⟩ : ByteArray), .string (⟨#[115, 99]⟩ : ByteArray), .string (⟨#[69, 117]⟩ : ByteArray), .string (⟨#[117, 58]⟩ : ByteArray), .string (⟨#[111, 58]⟩ : ByteArray), .string (⟨#[97, 58]⟩ : ByteArray), .string (⟨#[115, 115]⟩ : ByteArray)]) (ok := fun _ => True) (okp := fun _ => True) ?hr ?hp (fun _ hk => hk) trivial (Below.refl _ _) (Nat.le_refl _) (by simp) ?_; (case hd => rfl); (case hg => rfl); (case hr => first | (go_simp; done) | (go_simp; rfl)); (case hp => exact (Reps.one (show Kd.M Kd.string _ _ _ (⟨#[101, 109]⟩ : ByteArray) [.string (⟨#[101, 109]⟩ : ByteArray)] from rfl) (Reps.one (show Kd.M Kd.string _ _ _ (⟨#[101, 110]⟩ : ByteArray) [.string (⟨#[101, 110]⟩ : ByteArray)] from rfl) (Reps.one (show Kd.M Kd.string _ _ _ (⟨#[104, 121]⟩ : ByteArray) [.string (⟨#[104, 121]⟩ : ByteArray)] from rfl) (Reps.one (show Kd.M Kd.string _ _ _ (⟨#[98, 117]⟩ : ByteArray) [.string (⟨#[98, 117]⟩ : ByteArray)] from rfl) (Reps.one (show Kd.M Kd.string _ _ _ (⟨#[108, 113]⟩ : ByteArray) [.string (⟨#[108, 113]⟩ : ByteArray)] from rfl) (Reps.one (show Kd.M Kd.string _ _ _ (⟨#[114, 113]⟩ : ByteArray) [.string (⟨#[114, 113]⟩ : ByteArray)] from rfl) (Reps.one (show Kd.M Kd.string _ _ _ (⟨#[111, 113]⟩ : ByteArray) [.string (⟨#[111, 113]⟩ : ByteArray)] from rfl) (Reps.one (show Kd.M Kd.string _ _ _ (⟨#[99, 113]⟩ : ByteArray) [.string (⟨#[99, 113]⟩ : ByteArray)] from rfl) (Reps.one (show Kd.M Kd.string _ _ _ (⟨#[97, 113]⟩ : ByteArray) [.string (⟨#[97, 113]⟩ : ByteArray)] from rfl) (Reps.one (show Kd.M Kd.string _ _ _ (⟨#[100, 113]⟩ : ByteArray) [.string (⟨#[100, 113]⟩ : ByteArray)] from rfl) (Reps.one (show Kd.M Kd.string _ _ _ (⟨#[99, 111]⟩ : ByteArray) [.string (⟨#[99, 111]⟩ : ByteArray)] from rfl) (Reps.one (show Kd.M Kd.string _ _ _ (⟨#[114, 103]⟩ : ByteArray) [.string (⟨#[114, 103]⟩ : ByteArray)] from rfl) (Reps.one (show Kd.M Kd.string _ _ _ (⟨#[116, 109]⟩ : ByteArray) [.string (⟨#[116, 109]⟩ : ByteArray)] from rfl) (Reps.one (show Kd.M Kd.string _ _ _ (⟨#[114, 115]⟩ : ByteArray) [.string (⟨#[114, 115]⟩ : ByteArray)] from rfl) (Reps.one (show Kd.M Kd.string _ _ _ (⟨#[104, 97]⟩ : ByteArray) [.string (⟨#[104, 97]⟩ : ByteArray)] from rfl) (Reps.one (show Kd.M Kd.string _ _ _ (⟨#[116, 105]⟩ : ByteArray) [.string (⟨#[116, 105]⟩ : ByteArray)] from rfl) (Reps.one (show Kd.M Kd.string _ _ _ (⟨#[109, 117]⟩ : ByteArray) [.string (⟨#[109, 117]⟩ : ByteArray)] from rfl) (Reps.one (show Kd.M Kd.string _ _ _ (⟨#[100, 105]⟩ : ByteArray) [.string (⟨#[100, 105]⟩ : ByteArray)] from rfl) (Reps.one (show Kd.M Kd.string _ _ _ (⟨#[60, 45]⟩ : ByteArray) [.string (⟨#[60, 45]⟩ : ByteArray)] from rfl) (Reps.one (show Kd.M Kd.string _ _ _ (⟨#[45, 62]⟩ : ByteArray) [.string (⟨#[45, 62]⟩ : ByteArray)] from rfl) (Reps.one (show Kd.M Kd.string _ _ _ (⟨#[60, 61]⟩ : ByteArray) [.string (⟨#[60, 61]⟩ : ByteArray)] from rfl) (Reps.one (show Kd.M Kd.string _ _ _ (⟨#[62, 61]⟩ : ByteArray) [.string (⟨#[62, 61]⟩ : ByteArray)] from rfl) (Reps.one (show Kd.M Kd.string _ _ _ (⟨#[33, 61]⟩ : ByteArray) [.string (⟨#[33, 61]⟩ : ByteArray)] from rfl) (Reps.one (show Kd.M Kd.string _ _ _ (⟨#[100, 101]⟩ : ByteArray) [.string (⟨#[100, 101]⟩ : ByteArray)] from rfl) (Reps.one (show Kd.M Kd.string _ _ _ (⟨#[115, 99]⟩ : ByteArray) [.string (⟨#[115, 99]⟩ : ByteArray)] from rfl) (Reps.one (show Kd.M Kd.string _ _ _ (⟨#[69, 117]⟩ : ByteArray) [.string (⟨#[69, 117]⟩ : ByteArray)] from rfl) (Reps.one (show Kd.M Kd.string _ _ _ (⟨#[117, 58]⟩ : ByteArray) [.string (⟨#[117, 58]⟩ : ByteArray)] from rfl) (Reps.one (show Kd.M Kd.string _ _ _ (⟨#[111, 58]⟩ : ByteArray) [.string (⟨#[111, 58]⟩ : ByteArray)] from rfl) (Reps.one (show Kd.M Kd.string _ _ _ (⟨#[97, 58]⟩ : ByteArray) [.string (⟨#[97, 58]⟩ : ByteArray)] from rfl) (Reps.one (show Kd.M Kd.string _ _ _ (⟨#[115, 115]⟩ : ByteArray) [.string (⟨#[115, 115]⟩ : ByteArray)] from rfl) (Reps.none _ _)))))))))))))))))))))))))))))))); intro v176 w1 ho2 hb hg_ hnew_; clear hg_ hnew_; (first | rw [← Ny175.out] at ho2 | (simp only [Int.reduceToNat] at ho2; rw [← Ny175.out] at ho2)); have n0_ := Aside0.mk (Kd.R_lower ho2 (below_size (by repeat (first | (with_reducible first | exact HB.out | apply below_alloc | apply pw_below_drewN | apply below_drew1) | exact HB.out)))); have n1_ := Aside0.mk (below_step (by repeat (first | (with_reducible first | exact HB.out | apply below_alloc | apply pw_below_drewN | apply below_drew1) | exact HB.out)) hb); clear HB; have HO177 := n0_; have HB := n1_; clear n0_ n1_; clear hb ho2) | ((with_reducible refine gate_dst (N := 3) rfl ?_); refine Kd.R_lit (Kd.int .i32) _ 21 ?hg (N := 3) ?hd (xs := ([8212, 8211, 8208, 8226, 8220, 8221, 8216, 8217, 39, 34, 169, 174, 8482, 92, 94, 126, 215, 247, 8592, 8594, 8804, 8805, 8800, 176, 167, 8364, 252, 246, 228, 223] : List Int)) (inner := [.int .i32 8212, .int .i32 8211, .int .i32 8208, .int .i32 8226, .int .i32 8220, .int .i32 8221, .int .i32 8216, .int .i32 8217, .int .i32 39, .int .i32 34, .int .i32 169, .int .i32 174, .int .i32 8482, .int .i32 92, .int .i32 94, .int .i32 126, .int .i32 215, .int .i32 247, .int .i32 8592, .int .i32 8594, .int .i32 8804, .int .i32 8805, .int .i32 8800, .int .i32 176, .int .i32 167, .int .i32 8364, .int .i32 252, .int .i32 246, .int .i32 228, .int .i32 223]) (ok := fun _ => True) (okp := fun _ => True) ?hr ?hp (fun _ hk => hk) trivial (Below.refl _ _) (Nat.le_refl _) (by simp) ?_; (case hd => rfl); (case hg => rfl); (case hr => first | (go_simp; done) | (go_simp; rfl)); (case hp => exact (Reps.one (show Kd.M (Kd.int .i32) _ _ _ 8212 [.int .i32 8212] from rfl) (Reps.one (show Kd.M (Kd.int .i32) _ _ _ 8211 [.int .i32 8211] from rfl) (Reps.one (show Kd.M (Kd.int .i32) _ _ _ 8208 [.int .i32 8208] from rfl) (Reps.one (show Kd.M (Kd.int .i32) _ _ _ 8226 [.int .i32 8226] from rfl) (Reps.one (show Kd.M (Kd.int .i32) _ _ _ 8220 [.int .i32 8220] from rfl) (Reps.one (show Kd.M (Kd.int .i32) _ _ _ 8221 [.int .i32 8221] from rfl) (Reps.one (show Kd.M (Kd.int .i32) _ _ _ 8216 [.int .i32 8216] from rfl) (Reps.one (show Kd.M (Kd.int .i32) _ _ _ 8217 [.int .i32 8217] from rfl) (Reps.one (show Kd.M (Kd.int .i32) _ _ _ 39 [.int .i32 39] from rfl) (Reps.one (show Kd.M (Kd.int .i32) _ _ _ 34 [.int .i32 34] from rfl) (Reps.one (show Kd.M (Kd.int .i32) _ _ _ 169 [.int .i32 169] from rfl) (Reps.one (show Kd.M (Kd.int .i32) _ _ _ 174 [.int .i32 174] from rfl) (Reps.one (show Kd.M (Kd.int .i32) _ _ _ 8482 [.int .i32 8482] from rfl) (Reps.one (show Kd.M (Kd.int .i32) _ _ _ 92 [.int .i32 92] from rfl) (Reps.one (show Kd.M (Kd.int .i32) _ _ _ 94 [.int .i32 94] from rfl) (Reps.one (show Kd.M (Kd.int .i32) _ _ _ 126 [.int .i32 126] from rfl) (Reps.one (show Kd.M (Kd.int .i32) _ _ _ 215 [.int .i32 215] from rfl) (Reps.one (show Kd.M (Kd.int .i32) _ _ _ 247 [.int .i32 247] from rfl) (Reps.one (show Kd.M (Kd.int .i32) _ _ _ 8592 [.int .i32 8592] from rfl) (Reps.one (show Kd.M (Kd.int .i32) _ _ _ 8594 [.int .i32 8594] from rfl) (Reps.one (show Kd.M (Kd.int .i32) _ _ _ 8804 [.int .i32 8804] from rfl) (Reps.one (show Kd.M (Kd.int .i32) _ _ _ 8805 [.int .i32 8805] from rfl) (Reps.one (show Kd.M (Kd.int .i32) _ _ _ 8800 [.int .i32 8800] from rfl) (Reps.one (show Kd.M (Kd.int .i32) _ _ _ 176 [.int .i32 176] from rfl) (Reps.one (show Kd.M (Kd.int .i32) _ _ _ 167 [.int .i32 167] from rfl) (Reps.one (show Kd.M (Kd.int .i32) _ _ _ 8364 [.int .i32 8364] from rfl) (Reps.one (show Kd.M (Kd.int .i32) _ _ _ 252 [.int .i32 252] from rfl) (Reps.one (show Kd.M (Kd.int .i32) _ _ _ 246 [.int .i32 246] from rfl) (Reps.one (show Kd.M (Kd.int .i32) _ _ _ 228 [.int .i32 228] from rfl) (Reps.one (show Kd.M (Kd.int .i32) _ _ _ 223 [.int .i32 223] from rfl) (Reps.none _ _)))))))))))))))))))))))))))))))); intro v179 w3 ho4 hb hg_ hnew_; clear hg_ hnew_; (first | rw [← Ny178.out] at ho4 | (simp only [Int.reduceToNat] at ho4; rw [← Ny178.out] at ho4)); have n0_ := Aside0.mk (Kd.R_below (by (with_reducible repeat (first | apply Kd.R_alloc | apply Kd.R_drewN | apply Kd.R_drew)); exact HO177.out) hb); have n1_ := Aside0.mk (Kd.R_lower ho4 (below_size (by repeat (first | (with_reducible first | exact HB.out | apply below_alloc | apply pw_below_drewN | apply below_drew1) | exact HB.out)))); have n2_ := Aside0.mk (below_step (by repeat (first | (with_reducible first | exact HB.out | apply below_alloc | apply pw_below_drewN | apply below_drew1) | exact HB.out)) hb); clear HO177; clear HB; have HO177 := n0_; have HO180 := n1_; have HB := n2_; clear n0_ n1_ n2_; clear hb ho4))
  go_ret2
  exact ⟨_, _, by first | rfl | (simp [errW_none, errW_some] <;> rfl) | (simp [*, errW_none, errW_some] <;> rfl), by (with_reducible repeat (first | apply Kd.R_alloc | apply Kd.R_drewN | apply Kd.R_drew)); exact HO177.out, by (with_reducible repeat (first | apply Kd.R_alloc | apply Kd.R_drewN | apply Kd.R_drew)); exact HO180.out, by repeat (first | (with_reducible first | exact HB.out | apply below_alloc | apply pw_below_drewN | apply below_drew1) | exact HB.out)⟩
end Go.Proofs.YtdogljnddalgdaaDoor.A4
end
