/- Of what the law StylesSets needs: part 7. -/
import Derived.Laws.Cover4
import Derived.Outline
import Derived.WalkMore
import Derived.Test.YtdogljnddalgdaaDoorBSets3
import Derived.Test.YtdogljnddalgdaaDoorBSets4
import Derived.Test.YtdogljnddalgdaaDoorBSets6
namespace Go.Proofs.YtdogljnddalgdaaDoor
end Go.Proofs.YtdogljnddalgdaaDoor
namespace Go.Proofs.YtdogljnddalgdaaDoorW.PrintLast
end Go.Proofs.YtdogljnddalgdaaDoorW.PrintLast
namespace Go.Proofs.YtdogljnddalgdaaDoorW.PrintMore
end Go.Proofs.YtdogljnddalgdaaDoorW.PrintMore
namespace Go.Proofs.YtdogljnddalgdaaDoorW.PrintWords
end Go.Proofs.YtdogljnddalgdaaDoorW.PrintWords
namespace Go.Proofs.YtdogljnddalgdaaDoorW.PrintWords.Aside0
end Go.Proofs.YtdogljnddalgdaaDoorW.PrintWords.Aside0
namespace Go.Proofs.YtdogljnddalgdaaDoorW.PrintWords.Kd
end Go.Proofs.YtdogljnddalgdaaDoorW.PrintWords.Kd
section
namespace Go.Proofs.YtdogljnddalgdaaDoor.A6
open Go.RowKit Go.Proofs.YtdogljnddalgdaaDoorW.PrintWords Go.Proofs.YtdogljnddalgdaaDoorW.PrintLast Go.Proofs.YtdogljnddalgdaaDoorW.PrintMore
attribute [local go_sem] max2_int min2_int max_two min_two max_three min_three max_four min_four   -- for this text's walks alone
set_option linter.unusedVariables false
set_option linter.unusedSimpArgs false
def errW : Option Int → Value
  | none => .nilIface
  | some c => .iface 0 (.int .i64 c)
theorem errW_none : errW none = .nilIface := rfl
theorem errW_some (c : Int) : errW (some c) = .iface 0 (.int .i64 c) := rfl
theorem info5 : (Tryd.prog.info? 5).map (fun i => (i.zero, i.size, i.bytes)) = some (some (.int .u8 0), 1, 1) := by kernel_rfl
theorem info21 : (Tryd.prog.info? 21).map (fun i => (i.zero, i.size, i.bytes)) = some (some (.int .i32 0), 1, 4) := by kernel_rfl
theorem info38 : (Tryd.prog.info? 38).map (fun i => (i.zero, i.size, i.bytes)) = some (some (.agg #[(.int .i64 0), (.int .i32 0)]), 2, 16) := by kernel_rfl
theorem info41 : (Tryd.prog.info? 41).map (fun i => (i.zero, i.size, i.bytes)) = some (some (.agg #[(.int .i64 0), (.int .i64 0), (.int .i64 0)]), 3, 24) := by kernel_rfl
theorem info60 : (Tryd.prog.info? 60).map (fun i => (i.zero, i.size, i.bytes)) = some (some (.agg #[(.int .i32 0), (.int .u8 0)]), 2, 8) := by kernel_rfl
structure S60 where
  f0 : Int
  f1 : Int
def z60 : S60 := ⟨(0 : Int), (0 : Int)⟩
def k60 : Kd S60 := Kd.iso (Kd.pair (Kd.int .i32) (Kd.int .u8)) (fun x : S60 => (x.f0, x.f1))
theorem k60_open {w : World} {x : S60} {cs : List Value} (h : k60.K w x cs) : cs = [.int .i32 x.f0, .int .u8 x.f1] := by
  obtain ⟨_, _, rfl, rfl, rfl⟩ := h
  exact rfl
theorem k60_mkM (w : World) (base : Nat) (ok : Nat → Prop) (x : S60)  : k60.M w base ok x [.int .i32 x.f0, .int .u8 x.f1] := ⟨[.int .i32 x.f0], [.int .u8 x.f1], rfl, rfl, rfl⟩
def rd_T60 (xs : List S60) (i : Int) : S60 := xs.getD i.toNat z60
theorem at_T60 {w : World} {A : Option Addr} {n : Nat} {xs : List S60} (h : Kd.C k60 w A n xs) (i : Int) (h0 : 0 ≤ i) (h1 : i < n) : ∃ ad , A = some ad ∧ w.cell? (ad.add (i.toNat * 2)) = some (.int .i32 (rd_T60 xs i).f0) ∧ w.cell? ⟨(ad.add (i.toNat * 2)).block, (ad.add (i.toNat * 2)).off + 1, none⟩ = some (.int .u8 (rd_T60 xs i).f1) := by
  obtain ⟨ad, c, e, _, hK, hc0⟩ := Kd.C_get h z60 i h0 h1
  have hc : ∀ j u, c[j]? = some u → w.cell? (ad.add (i.toNat * 2 + j)) = some u := hc0
  obtain rfl := k60_open hK
  exact ⟨ad, e, hc 0 _ rfl, by rw [← add_field _ _ 1 (by omega)]; exact hc 1 _ rfl⟩
structure S38 where
  f0 : Int
  f1 : Int
def z38 : S38 := ⟨(0 : Int), (0 : Int)⟩
def k38 : Kd S38 := Kd.iso (Kd.pair (Kd.int .i64) (Kd.int .i32)) (fun x : S38 => (x.f0, x.f1))
theorem k38_open {w : World} {x : S38} {cs : List Value} (h : k38.K w x cs) : cs = [.int .i64 x.f0, .int .i32 x.f1] := by
  obtain ⟨_, _, rfl, rfl, rfl⟩ := h
  exact rfl
theorem k38_mk (w : World) (x : S38)  : k38.K w x [.int .i64 x.f0, .int .i32 x.f1] := ⟨[.int .i64 x.f0], [.int .i32 x.f1], rfl, rfl, rfl⟩
theorem k38_mkM (w : World) (base : Nat) (ok : Nat → Prop) (x : S38)  : k38.M w base ok x [.int .i64 x.f0, .int .i32 x.f1] := ⟨[.int .i64 x.f0], [.int .i32 x.f1], rfl, rfl, rfl⟩
def rd_T38 (xs : List S38) (i : Int) : S38 := xs.getD i.toNat z38
theorem at_T38 {w : World} {A : Option Addr} {n : Nat} {xs : List S38} (h : Kd.C k38 w A n xs) (i : Int) (h0 : 0 ≤ i) (h1 : i < n) : ∃ ad , A = some ad ∧ w.cell? (ad.add (i.toNat * 2)) = some (.int .i64 (rd_T38 xs i).f0) ∧ w.cell? ⟨(ad.add (i.toNat * 2)).block, (ad.add (i.toNat * 2)).off + 1, none⟩ = some (.int .i32 (rd_T38 xs i).f1) := by
  obtain ⟨ad, c, e, _, hK, hc0⟩ := Kd.C_get h z38 i h0 h1
  have hc : ∀ j u, c[j]? = some u → w.cell? (ad.add (i.toNat * 2 + j)) = some u := hc0
  obtain rfl := k38_open hK
  exact ⟨ad, e, hc 0 _ rfl, by rw [← add_field _ _ 1 (by omega)]; exact hc 1 _ rfl⟩
structure S41 where
  f0 : Int
  f1 : Int
  f2 : Int
def z41 : S41 := ⟨(0 : Int), (0 : Int), (0 : Int)⟩
def k41 : Kd S41 := Kd.iso (Kd.pair (Kd.int .i64) (Kd.pair (Kd.int .i64) (Kd.int .i64))) (fun x : S41 => (x.f0, x.f1, x.f2))
theorem k41_open {w : World} {x : S41} {cs : List Value} (h : k41.K w x cs) : cs = [.int .i64 x.f0, .int .i64 x.f1, .int .i64 x.f2] := by
  obtain ⟨_, _, rfl, rfl, ⟨_, _, rfl, rfl, rfl⟩⟩ := h
  exact rfl
theorem k41_mkM (w : World) (base : Nat) (ok : Nat → Prop) (x : S41)  : k41.M w base ok x [.int .i64 x.f0, .int .i64 x.f1, .int .i64 x.f2] := ⟨[.int .i64 x.f0], [.int .i64 x.f1, .int .i64 x.f2], rfl, rfl, ⟨[.int .i64 x.f1], [.int .i64 x.f2], rfl, rfl, rfl⟩⟩
def rd_T41 (xs : List S41) (i : Int) : S41 := xs.getD i.toNat z41
theorem at_T41 {w : World} {A : Option Addr} {n : Nat} {xs : List S41} (h : Kd.C k41 w A n xs) (i : Int) (h0 : 0 ≤ i) (h1 : i < n) : ∃ ad , A = some ad ∧ w.cell? (ad.add (i.toNat * 3)) = some (.int .i64 (rd_T41 xs i).f0) ∧ w.cell? ⟨(ad.add (i.toNat * 3)).block, (ad.add (i.toNat * 3)).off + 1, none⟩ = some (.int .i64 (rd_T41 xs i).f1) ∧ w.cell? ⟨(ad.add (i.toNat * 3)).block, (ad.add (i.toNat * 3)).off + 2, none⟩ = some (.int .i64 (rd_T41 xs i).f2) := by
  obtain ⟨ad, c, e, _, hK, hc0⟩ := Kd.C_get h z41 i h0 h1
  have hc : ∀ j u, c[j]? = some u → w.cell? (ad.add (i.toNat * 3 + j)) = some u := hc0
  obtain rfl := k41_open hK
  exact ⟨ad, e, hc 0 _ rfl, by rw [← add_field _ _ 1 (by omega)]; exact hc 1 _ rfl, by rw [← add_field _ _ 2 (by omega)]; exact hc 2 _ rfl⟩
end Go.Proofs.YtdogljnddalgdaaDoor.A6
end
section
namespace Go.Proofs.YtdogljnddalgdaaDoor.A6
open Go.RowKit Go.Proofs.YtdogljnddalgdaaDoorW.PrintWords Go.Proofs.YtdogljnddalgdaaDoorW.PrintLast Go.Proofs.YtdogljnddalgdaaDoorW.PrintMore
attribute [local go_sem] max2_int min2_int max_two min_two max_three min_three max_four min_four   -- for this text's walks alone
set_option linter.unusedVariables false
set_option linter.unusedSimpArgs false
theorem eqA60 (d : Nat) (w : World) (x0 y0 : Int) (x1 y1 : Int) :
    (Op.equalIn (d + 2) 60 (.agg #[.int .i32 x0, .int .u8 x1]) (.agg #[.int .i32 y0, .int .u8 y1])).run Tryd.prog w = .ok (x0 == y0 && (x1 == y1)) w := by
  refine eqA_of Tryd.underlying60 (by kernel_rfl) ?_
  refine eqf_cons (by rfl) (by go_simp; rfl) (by go_simp; rfl) (by go_simp) ?_
  exact eqf_last (by rfl) (by go_simp; rfl) (by go_simp; rfl) (by go_simp)
end Go.Proofs.YtdogljnddalgdaaDoor.A6
end
section
namespace Go.Proofs.YtdogljnddalgdaaDoor.A6
open Go.RowKit Go.Proofs.YtdogljnddalgdaaDoorW.PrintWords Go.Proofs.YtdogljnddalgdaaDoorW.PrintLast Go.Proofs.YtdogljnddalgdaaDoorW.PrintMore
open Go.Proofs.YtdogljnddalgdaaDoorW.PrintWords.Aside0 renaming mk → qA
attribute [local go_sem] max2_int min2_int max_two min_two max_three min_three max_four min_four   -- for this text's walks alone
set_option linter.unusedVariables false
set_option linter.unusedSimpArgs false
attribute [local go_sem high] eqA60
def flongref03_Same.l0 : Nat → List (S60) → List (S60) → Int → Option (Bool)
  | 0, _, _, _ => none
  | k + 1, x0, x1, x5 => if x5 < (x0.length : Int) then (if 0 ≤ x5 then (if x5 < (x1.length : Int) then (if (!(((rd_T60 x0 x5).f0) == ((rd_T60 x1 x5).f0)) || (!(((rd_T60 x0 x5).f1) == ((rd_T60 x1 x5).f1)))) = true then (some false) else (flongref03_Same.l0 k x0 x1 (wrap64 (x5 + 1)))) else (none)) else (none)) else (some true)
def flongref03_Same.f (k : Nat) (l0 : List (S60)) (l1 : List (S60)) : Option (Bool) := if (l0.length : Int) = (l1.length : Int) then (flongref03_Same.l0 k l0 l1 0) else (some false)
theorem flongref03_Same.mono_l : ∀ k, (∀ y0 y1 y2, LeO (flongref03_Same.l0 k y0 y1 y2) (flongref03_Same.l0 (k + 1) y0 y1 y2))
  | 0 => fun _ _ _ r h => by simp [flongref03_Same.l0] at h
  | k + 1 => by
    have ih0 := flongref03_Same.mono_l k
    · intro y0 y1 y2
      unfold flongref03_Same.l0
      repeat' first
      | (with_reducible exact ih0 _ _ _)
      | (with_reducible exact LeO.refl _)
      | (with_reducible exact LeO.none _)
      | (with_reducible refine LeO.ite ?_ ?_)
      | (with_reducible refine LeO.bind ?_ (fun _ => ?_))
      | exact ih0 _ _ _
      | exact LeO.none _
      | refine LeO.ite ?_ ?_
      | refine LeO.bind ?_ (fun _ => ?_)
theorem flongref03_Same.mono : ∀ a0 a1 k, LeO (flongref03_Same.f k a0 a1) (flongref03_Same.f (k + 1) a0 a1) := by
  intro a0 a1 k
  have ih0 := flongref03_Same.mono_l k
  unfold flongref03_Same.f
  repeat' first
      | (with_reducible exact ih0 _ _ _)
      | (with_reducible exact LeO.refl _)
      | (with_reducible exact LeO.none _)
      | (with_reducible refine LeO.ite ?_ ?_)
      | (with_reducible refine LeO.bind ?_ (fun _ => ?_))
      | exact ih0 _ _ _
      | exact LeO.none _
      | refine LeO.ite ?_ ?_
      | refine LeO.bind ?_ (fun _ => ?_)
set_option maxHeartbeats 8000000 in
set_option maxRecDepth 100000 in
theorem flongref03_Same.calls (k : Nat) (A0 : Option Addr) (c0 : Nat) (l0 : List (S60)) (A1 : Option Addr) (c1 : Nat) (l1 : List (S60)) (r : Bool) (w : World) (hr0 : Kd.C k60 w A0 l0.length l0) (hc0 : l0.length ≤ c0) (hr1 : Kd.C k60 w A1 l1.length l1) (hc1 : l1.length ≤ c1) (h : flongref03_Same.f k l0 l1 = some r) :
    Calls Tryd.prog 34 #[.slice A0 l0.length c0, .slice A1 l1.length c1] w fun e w' => e = .returned (.bool r) ∧ Drawn0 w w' := by
  have hu60 := Tryd.underlying60
  have HR0 := qA hr0
  have HC0 := qA hc0
  clear hr0 hc0
  have HR1 := qA hr1
  have HC1 := qA hc1
  clear hr1 hc1
  have H : (if (l0.length : Int) = (l1.length : Int) then (flongref03_Same.l0 k l0 l1 0) else (some false)) = some r := h
  clear h
  by_cases c3 : (l0.length : Int) = (l1.length : Int)
  · rw [if_pos c3] at H
    have c3b0 : ((l0.length : Int) == (l1.length : Int)) = true := beq_iff_eq.mpr c3
    have c3b1 : ((l0.length : Int) != (l1.length : Int)) = false := bne_eq_false_iff_eq.mpr c3
    have c3b2 : (l0.length == l1.length) = true := by first | simpa using c3 | (simp at c3 ⊢; omega)
    clear c3
    have H' := qA H
    clear H
    go_enter Tryd.func34, Tryd.ntmps34
    go_wp2
    repeat (go_quiet (fail); try go_wp2)
    go_loopg [5] k (fun kq v5 w' => ∃ (x5_1 : Int), v5 = .int .i64 x5_1 ∧ Aside0 (flongref03_Same.l0 kq l0 l1 x5_1 = some r) ∧ Aside0 (kq ≤ k) ∧ Drawn0 w w')
    case atStart => exact ⟨(0), (by first | rfl | (simp; done) | (simp [*]; done)), H', ⟨Nat.le_refl _⟩, by repeat (first | exact Drawn0.refl _ | apply Drawn0.step)⟩
    case round =>
      clear H'
      try clear c1
      try clear p2
      try clear c3
      try clear c3b0
      try clear c3b1
      try clear c3b2
      obtain ⟨x5_1, rfl, HA, HK1, ⟨m1, rfl⟩⟩ := hrel
      cases gk with
      | zero => exact absurd HA.out (by simp [flongref03_Same.l0])
      | succ k1 =>
        have H := HA.out
        clear HA
        simp only [flongref03_Same.l0] at H
        by_cases c4 : x5_1 < (l0.length : Int)
        · rw [if_pos c4] at H
          have c4b0 : decide (x5_1 < (l0.length : Int)) = true := decide_eq_true c4
          clear c4
          by_cases c5 : 0 ≤ x5_1
          · rw [if_pos c5] at H
            have c5b0 : decide (0 ≤ x5_1) = true := decide_eq_true c5
            clear c5
            by_cases c6 : x5_1 < (l1.length : Int)
            · rw [if_pos c6] at H
              have c6b0 : decide (x5_1 < (l1.length : Int)) = true := decide_eq_true c6
              clear c6
              by_cases c7 : (!(((rd_T60 l0 x5_1).f0) == ((rd_T60 l1 x5_1).f0)) || (!(((rd_T60 l0 x5_1).f1) == ((rd_T60 l1 x5_1).f1)))) = true
              · rw [if_pos c7] at H
                have c7b0 : (!(((rd_T60 l0 x5_1).f0) == ((rd_T60 l1 x5_1).f0)) || (!(((rd_T60 l0 x5_1).f1) == ((rd_T60 l1 x5_1).f1)))) = true := c7
                clear c7
                obtain rfl := Option.some.inj H
                have p101 : 0 ≤ (x5_1 : Int) := of_decide_eq_true (by first | (with_reducible assumption) | assumption)
                have q101 : x5_1 < (l0.length : Int) := of_decide_eq_true (by first | (with_reducible assumption) | assumption)
                obtain ⟨ad101, e101, hx101_0, hx101_1⟩ := at_T60 HR0.out x5_1 p101 q101
                cases e101
                replace p101 := eq_true p101
                replace q101 := eq_true q101
                have p102 : 0 ≤ (x5_1 : Int) := of_decide_eq_true (by first | (with_reducible assumption) | assumption)
                have q102 : x5_1 < (l1.length : Int) := of_decide_eq_true (by first | (with_reducible assumption) | assumption)
                obtain ⟨ad102, e102, hx102_0, hx102_1⟩ := at_T60 HR1.out x5_1 p102 q102
                cases e102
                replace p102 := eq_true p102
                replace q102 := eq_true q102
                go_wp2
                repeat (go_quiet (fail); try go_wp2)
                go_ret
                exact ⟨by first | rfl | (simp; done) | (simp [*]; done), by repeat (first | exact Drawn0.refl _ | apply Drawn0.step)⟩
              · rw [if_neg c7] at H
                have c7b0 : (!(((rd_T60 l0 x5_1).f0) == ((rd_T60 l1 x5_1).f0)) || (!(((rd_T60 l0 x5_1).f1) == ((rd_T60 l1 x5_1).f1)))) = false := by simpa using c7
                clear c7
                have H' := qA H
                clear H
                have p101 : 0 ≤ (x5_1 : Int) := of_decide_eq_true (by first | (with_reducible assumption) | assumption)
                have q101 : x5_1 < (l0.length : Int) := of_decide_eq_true (by first | (with_reducible assumption) | assumption)
                obtain ⟨ad101, e101, hx101_0, hx101_1⟩ := at_T60 HR0.out x5_1 p101 q101
                cases e101
                replace p101 := eq_true p101
                replace q101 := eq_true q101
                have p102 : 0 ≤ (x5_1 : Int) := of_decide_eq_true (by first | (with_reducible assumption) | assumption)
                have q102 : x5_1 < (l1.length : Int) := of_decide_eq_true (by first | (with_reducible assumption) | assumption)
                obtain ⟨ad102, e102, hx102_0, hx102_1⟩ := at_T60 HR1.out x5_1 p102 q102
                cases e102
                replace p102 := eq_true p102
                replace q102 := eq_true q102
                go_wp2
                repeat (go_quiet (fail); try go_wp2)
                go_roundg k1
                case measure => have := HK1.out; omega
                case rel => exact ⟨(wrap64 (x5_1 + 1)), (by first | rfl | (simp; done) | (simp [*]; done)), H', ⟨by have := HK1.out; omega⟩, by repeat (first | exact Drawn0.refl _ | apply Drawn0.step)⟩
            · rw [if_neg c6] at H
              exact absurd H (by simp)
          · rw [if_neg c5] at H
            exact absurd H (by simp)
        · rw [if_neg c4] at H
          have c4b0 : decide (x5_1 < (l0.length : Int)) = false := decide_eq_false c4
          clear c4
          obtain rfl := Option.some.inj H
          go_wp2
          repeat (go_quiet (fail); try go_wp2)
          go_ret
          exact ⟨by first | rfl | (simp; done) | (simp [*]; done), by repeat (first | exact Drawn0.refl _ | apply Drawn0.step)⟩
  · rw [if_neg c3] at H
    have c3b0 : ((l0.length : Int) == (l1.length : Int)) = false := beq_eq_false_iff_ne.mpr c3
    have c3b1 : ((l0.length : Int) != (l1.length : Int)) = true := bne_iff_ne.mpr c3
    have c3b2 : (l0.length == l1.length) = false := by first | simpa using c3 | (simp at c3 ⊢; omega)
    obtain rfl := Option.some.inj H
    go_enter Tryd.func34, Tryd.ntmps34
    go_wp2
    repeat (go_quiet (fail); try go_wp2)
    go_ret
    exact ⟨by first | rfl | (simp; done) | (simp [*]; done), by repeat (first | exact Drawn0.refl _ | apply Drawn0.step)⟩
def runes_Valid.f (a0 : Int) : Option (Bool) := if a0 ≥ 0 then (if a0 ≤ 1114111 then (if a0 < 55296 then (some true) else (some (decide (a0 > 57343)))) else (some false)) else (some false)
set_option maxHeartbeats 8000000 in
set_option maxRecDepth 100000 in
theorem runes_Valid.calls (a0 : Int) (r : Bool) (w : World) (h : runes_Valid.f a0 = some r) :
    Calls Tryd.prog 60 #[.int .i32 a0] w fun e w' => e = .returned (.bool r) ∧ Drawn0 w w' := by
  have H : (if a0 ≥ 0 then (if a0 ≤ 1114111 then (if a0 < 55296 then (some true) else (some (decide (a0 > 57343)))) else (some false)) else (some false)) = some r := h
  clear h
  by_cases c2 : a0 ≥ 0
  · rw [if_pos c2] at H
    have c2b0 : decide (0 ≤ a0) = true := decide_eq_true c2
    clear c2
    by_cases c3 : a0 ≤ 1114111
    · rw [if_pos c3] at H
      have c3b0 : decide (a0 ≤ 1114111) = true := decide_eq_true c3
      clear c3
      by_cases c4 : a0 < 55296
      · rw [if_pos c4] at H
        have c4b0 : decide (a0 < 55296) = true := decide_eq_true c4
        clear c4
        obtain rfl := Option.some.inj H
        go_enter Tryd.func60, Tryd.ntmps60
        go_wp2
        go_ret
        exact ⟨by first | rfl | (simp; done) | (simp [*]; done), by repeat (first | exact Drawn0.refl _ | apply Drawn0.step)⟩
      · rw [if_neg c4] at H
        have c4b0 : decide (a0 < 55296) = false := decide_eq_false c4
        clear c4
        obtain rfl := Option.some.inj H
        go_enter Tryd.func60, Tryd.ntmps60
        go_wp2
        go_ret
        exact ⟨by first | rfl | (simp; done) | (simp [*]; done), by repeat (first | exact Drawn0.refl _ | apply Drawn0.step)⟩
    · rw [if_neg c3] at H
      have c3b0 : decide (a0 ≤ 1114111) = false := decide_eq_false c3
      clear c3
      obtain rfl := Option.some.inj H
      go_enter Tryd.func60, Tryd.ntmps60
      go_wp2
      go_ret
      exact ⟨by first | rfl | (simp; done) | (simp [*]; done), by repeat (first | exact Drawn0.refl _ | apply Drawn0.step)⟩
  · rw [if_neg c2] at H
    have c2b0 : decide (0 ≤ a0) = false := decide_eq_false c2
    clear c2
    obtain rfl := Option.some.inj H
    go_enter Tryd.func60, Tryd.ntmps60
    go_wp2
    go_ret
    exact ⟨by first | rfl | (simp; done) | (simp [*]; done), by repeat (first | exact Drawn0.refl _ | apply Drawn0.step)⟩
def runes_size.f (a0 : Int) : Option (Int) := if a0 < 128 then (some 1) else (if a0 < 2048 then (some 2) else (if a0 < 65536 then (some 3) else (some 4)))
set_option maxHeartbeats 8000000 in
set_option maxRecDepth 100000 in
theorem runes_size.calls (a0 : Int) (r : Int) (w : World) (h : runes_size.f a0 = some r) :
    Calls Tryd.prog 66 #[.int .i32 a0] w fun e w' => e = .returned (.int .i64 r) ∧ Drawn0 w w' := by
  have H : (if a0 < 128 then (some 1) else (if a0 < 2048 then (some 2) else (if a0 < 65536 then (some 3) else (some 4)))) = some r := h
  clear h
  by_cases c2 : a0 < 128
  · rw [if_pos c2] at H
    have c2b0 : decide (a0 < 128) = true := decide_eq_true c2
    clear c2
    obtain rfl := Option.some.inj H
    go_enter Tryd.func66, Tryd.ntmps66
    go_wp2
    go_ret
    exact ⟨by first | rfl | (simp; done) | (simp [*]; done), by repeat (first | exact Drawn0.refl _ | apply Drawn0.step)⟩
  · rw [if_neg c2] at H
    have c2b0 : decide (a0 < 128) = false := decide_eq_false c2
    clear c2
    by_cases c3 : a0 < 2048
    · rw [if_pos c3] at H
      have c3b0 : decide (a0 < 2048) = true := decide_eq_true c3
      clear c3
      obtain rfl := Option.some.inj H
      go_enter Tryd.func66, Tryd.ntmps66
      go_wp2
      go_ret
      exact ⟨by first | rfl | (simp; done) | (simp [*]; done), by repeat (first | exact Drawn0.refl _ | apply Drawn0.step)⟩
    · rw [if_neg c3] at H
      have c3b0 : decide (a0 < 2048) = false := decide_eq_false c3
      clear c3
      by_cases c4 : a0 < 65536
      · rw [if_pos c4] at H
        have c4b0 : decide (a0 < 65536) = true := decide_eq_true c4
        clear c4
        obtain rfl := Option.some.inj H
        go_enter Tryd.func66, Tryd.ntmps66
        go_wp2
        go_ret
        exact ⟨by first | rfl | (simp; done) | (simp [*]; done), by repeat (first | exact Drawn0.refl _ | apply Drawn0.step)⟩
      · rw [if_neg c4] at H
        have c4b0 : decide (a0 < 65536) = false := decide_eq_false c4
        clear c4
        obtain rfl := Option.some.inj H
        go_enter Tryd.func66, Tryd.ntmps66
        go_wp2
        go_ret
        exact ⟨by first | rfl | (simp; done) | (simp [*]; done), by repeat (first | exact Drawn0.refl _ | apply Drawn0.step)⟩
end Go.Proofs.YtdogljnddalgdaaDoor.A6
end
section
namespace Go.Proofs.YtdogljnddalgdaaDoor.A6
open Go.RowKit Go.Proofs.YtdogljnddalgdaaDoorW.PrintWords Go.Proofs.YtdogljnddalgdaaDoorW.PrintLast Go.Proofs.YtdogljnddalgdaaDoorW.PrintMore
open Go.Proofs.YtdogljnddalgdaaDoorW.PrintWords.Aside0 renaming mk → qA
attribute [local go_sem] max2_int min2_int max_two min_two max_three min_three max_four min_four   -- for this text's walks alone
set_option linter.unusedVariables false
set_option linter.unusedSimpArgs false
mutual
def runes_Control.j0 : Nat → Int → Bool → Option (Bool)
  | 0, _, _ => none
  | k + 1, x0, x3 => if x3 = true then (runes_Control.j1 k x0 x3) else (if x0 ≥ 127 then (runes_Control.j1 k x0 (decide (x0 ≤ 159))) else (runes_Control.j1 k x0 false))
def runes_Control.j1 : Nat → Int → Bool → Option (Bool)
  | 0, _, _ => none
  | k + 1, x0, x3 => if x3 = true then (some true) else (if x0 = 8232 then (some true) else (if x0 = 8233 then (some true) else (some false)))
end
def runes_Control.f (k : Nat) (a0 : Int) : Option (Bool) := if a0 ≥ 0 then (runes_Control.j0 k a0 (decide (a0 < 32))) else (runes_Control.j0 k a0 false)
theorem runes_Control.mono_l : ∀ k, (∀ y0 y1, LeO (runes_Control.j0 k y0 y1) (runes_Control.j0 (k + 1) y0 y1)) ∧ (∀ y0 y1, LeO (runes_Control.j1 k y0 y1) (runes_Control.j1 (k + 1) y0 y1))
  | 0 => ⟨fun _ _ r h => by simp [runes_Control.j0] at h, fun _ _ r h => by simp [runes_Control.j1] at h⟩
  | k + 1 => by
    obtain ⟨ih0, ih1⟩ := runes_Control.mono_l k
    refine ⟨?_, ?_⟩
    · intro y0 y1
      unfold runes_Control.j0
      repeat' first
      | (with_reducible exact ih0 _ _)
      | (with_reducible exact ih1 _ _)
      | (with_reducible exact LeO.refl _)
      | (with_reducible exact LeO.none _)
      | (with_reducible refine LeO.ite ?_ ?_)
      | (with_reducible refine LeO.bind ?_ (fun _ => ?_))
      | exact ih0 _ _
      | exact ih1 _ _
      | exact LeO.none _
      | refine LeO.ite ?_ ?_
      | refine LeO.bind ?_ (fun _ => ?_)
    · intro y0 y1
      unfold runes_Control.j1
      repeat' first
      | (with_reducible exact ih0 _ _)
      | (with_reducible exact ih1 _ _)
      | (with_reducible exact LeO.refl _)
      | (with_reducible exact LeO.none _)
      | (with_reducible refine LeO.ite ?_ ?_)
      | (with_reducible refine LeO.bind ?_ (fun _ => ?_))
      | exact ih0 _ _
      | exact ih1 _ _
      | exact LeO.none _
      | refine LeO.ite ?_ ?_
      | refine LeO.bind ?_ (fun _ => ?_)
theorem runes_Control.mono : ∀ a0 k, LeO (runes_Control.f k a0) (runes_Control.f (k + 1) a0) := by
  intro a0 k
  obtain ⟨ih0, ih1⟩ := runes_Control.mono_l k
  unfold runes_Control.f
  repeat' first
      | (with_reducible exact ih0 _ _)
      | (with_reducible exact ih1 _ _)
      | (with_reducible exact LeO.refl _)
      | (with_reducible exact LeO.none _)
      | (with_reducible refine LeO.ite ?_ ?_)
      | (with_reducible refine LeO.bind ?_ (fun _ => ?_))
      | exact ih0 _ _
      | exact ih1 _ _
      | exact LeO.none _
      | refine LeO.ite ?_ ?_
      | refine LeO.bind ?_ (fun _ => ?_)
set_option maxHeartbeats 8000000 in
set_option maxRecDepth 100000 in
theorem runes_Control.calls (k : Nat) (a0 : Int) (r : Bool) (w : World) (h : runes_Control.f k a0 = some r) :
    Calls Tryd.prog 42 #[.int .i32 a0] w fun e w' => e = .returned (.bool r) ∧ Drawn0 w w' := by
  have H : (if a0 ≥ 0 then (runes_Control.j0 k a0 (decide (a0 < 32))) else (runes_Control.j0 k a0 false)) = some r := h
  clear h
  have HC2 := qA H
  clear H
  go_enter Tryd.func42, Tryd.ntmps42
  go_upto_region 1 with (fail)
  go_cut [3] (fun v3 wc => ∃ (kq : Nat) (x3_1 : Bool), v3 = .bool x3_1 ∧ Aside0 (runes_Control.j0 kq a0 x3_1 = some r) ∧ Aside0 (kq ≤ k) ∧ Drawn0 w wc)
  case first =>
    have H := HC2.out
    clear HC2
    by_cases c3 : a0 ≥ 0
    · rw [if_pos c3] at H
      have c3b0 : decide (0 ≤ a0) = true := decide_eq_true c3
      clear c3
      (first | rw [c3b0] | (simp only [i64_w, i32_w]; rw [c3b0]) | skip)
      have H' := qA H
      clear H
      go_wp2
      go_meet
      case rel => exact ⟨_, (decide (a0 < 32)), (by first | rfl | (simp; done) | (simp [*]; done)), H', ⟨by first | omega | exact Nat.le_refl _⟩, by repeat (first | exact Drawn0.refl _ | apply Drawn0.step)⟩
    · rw [if_neg c3] at H
      have c3b0 : decide (0 ≤ a0) = false := decide_eq_false c3
      clear c3
      (first | rw [c3b0] | (simp only [i64_w, i32_w]; rw [c3b0]) | skip)
      have H' := qA H
      clear H
      go_wp2
      go_meet
      case rel => exact ⟨_, (false), (by first | rfl | (simp; done) | (simp [*]; done)), H', ⟨by first | omega | exact Nat.le_refl _⟩, by repeat (first | exact Drawn0.refl _ | apply Drawn0.step)⟩
  case rest =>
    clear HC2
    try clear p2
    try clear c3
    try clear c3b0
    obtain ⟨kq, x3_1, rfl, HA, HJ1, ⟨mc1, rfl⟩⟩ := hcut
    cases kq with
    | zero => exact absurd HA.out (by simp [runes_Control.j0])
    | succ kj1 =>
      have H := HA.out
      clear HA
      simp only [runes_Control.j0] at H
      have HC4 := qA H
      clear H
      go_upto_if 3 with (fail)
      go_cut [3] (fun v3 wc => ∃ (kq : Nat) (x3_3 : Bool), v3 = .bool x3_3 ∧ Aside0 (runes_Control.j1 kq a0 x3_3 = some r) ∧ Aside0 (kq ≤ kj1) ∧ Drawn0 w wc)
      case first =>
        have H := HC4.out
        clear HC4
        by_cases c5 : x3_1 = true
        · subst c5
          have H1 : (runes_Control.j1 kj1 a0 true) = some r := by rw [if_pos rfl] at H; exact H
          clear H
          have H := H1
          clear H1
          have H' := qA H
          clear H
          go_wp2
          go_meet
          case rel => exact ⟨_, (true), (by first | rfl | (simp; done) | (simp [*]; done)), H', ⟨by have := HJ1.out; first | omega | exact Nat.le_refl _⟩, by repeat (first | exact Drawn0.refl _ | apply Drawn0.step)⟩
        · replace c5 := Bool.eq_false_iff.mpr c5
          subst c5
          have H1 : (if a0 ≥ 127 then (runes_Control.j1 kj1 a0 (decide (a0 ≤ 159))) else (runes_Control.j1 kj1 a0 false)) = some r := by rw [if_neg (show ¬ (false = true) by decide)] at H; exact H
          clear H
          have H := H1
          clear H1
          by_cases c6 : a0 ≥ 127
          · rw [if_pos c6] at H
            have c6b0 : decide (127 ≤ a0) = true := decide_eq_true c6
            clear c6
            (first | rw [c6b0] | (simp only [i64_w, i32_w]; rw [c6b0]) | skip)
            have H' := qA H
            clear H
            go_wp2
            go_meet
            case rel => exact ⟨_, (decide (a0 ≤ 159)), (by first | rfl | (simp; done) | (simp [*]; done)), H', ⟨by have := HJ1.out; first | omega | exact Nat.le_refl _⟩, by repeat (first | exact Drawn0.refl _ | apply Drawn0.step)⟩
          · rw [if_neg c6] at H
            have c6b0 : decide (127 ≤ a0) = false := decide_eq_false c6
            clear c6
            (first | rw [c6b0] | (simp only [i64_w, i32_w]; rw [c6b0]) | skip)
            have H' := qA H
            clear H
            go_wp2
            go_meet
            case rel => exact ⟨_, (false), (by first | rfl | (simp; done) | (simp [*]; done)), H', ⟨by have := HJ1.out; first | omega | exact Nat.le_refl _⟩, by repeat (first | exact Drawn0.refl _ | apply Drawn0.step)⟩
      case rest =>
        clear HC4
        try clear c1
        try clear p2
        try clear c3
        try clear c3b0
        try clear c4
        try clear c5
        try clear c6
        try clear c6b0
        try clear p2
        obtain ⟨kq, x3_3, rfl, HA, HJ3, ⟨mc3, rfl⟩⟩ := hcut
        cases kq with
        | zero => exact absurd HA.out (by simp [runes_Control.j1])
        | succ kj3 =>
          have H := HA.out
          clear HA
          simp only [runes_Control.j1] at H
          by_cases c7 : x3_3 = true
          · subst c7
            have H1 : (some true) = some r := by rw [if_pos rfl] at H; exact H
            clear H
            have H := H1
            clear H1
            obtain rfl := Option.some.inj H
            go_wp2
            go_ret
            exact ⟨by first | rfl | (simp; done) | (simp [*]; done), by repeat (first | exact Drawn0.refl _ | apply Drawn0.step)⟩
          · replace c7 := Bool.eq_false_iff.mpr c7
            subst c7
            have H1 : (if a0 = 8232 then (some true) else (if a0 = 8233 then (some true) else (some false))) = some r := by rw [if_neg (show ¬ (false = true) by decide)] at H; exact H
            clear H
            have H := H1
            clear H1
            by_cases c8 : a0 = 8232
            · rw [if_pos c8] at H
              have c8b0 : (a0 == 8232) = true := beq_iff_eq.mpr c8
              have c8b1 : (a0 != 8232) = false := bne_eq_false_iff_eq.mpr c8
              clear c8
              obtain rfl := Option.some.inj H
              go_wp2
              go_ret
              exact ⟨by first | rfl | (simp; done) | (simp [*]; done), by repeat (first | exact Drawn0.refl _ | apply Drawn0.step)⟩
            · rw [if_neg c8] at H
              have c8b0 : (a0 == 8232) = false := beq_eq_false_iff_ne.mpr c8
              have c8b1 : (a0 != 8232) = true := bne_iff_ne.mpr c8
              by_cases c9 : a0 = 8233
              · rw [if_pos c9] at H
                have c9b0 : (a0 == 8233) = true := beq_iff_eq.mpr c9
                have c9b1 : (a0 != 8233) = false := bne_eq_false_iff_eq.mpr c9
                clear c9
                obtain rfl := Option.some.inj H
                go_wp2
                go_ret
                exact ⟨by first | rfl | (simp; done) | (simp [*]; done), by repeat (first | exact Drawn0.refl _ | apply Drawn0.step)⟩
              · rw [if_neg c9] at H
                have c9b0 : (a0 == 8233) = false := beq_eq_false_iff_ne.mpr c9
                have c9b1 : (a0 != 8233) = true := bne_iff_ne.mpr c9
                obtain rfl := Option.some.inj H
                go_wp2
                go_ret
                exact ⟨by first | rfl | (simp; done) | (simp [*]; done), by repeat (first | exact Drawn0.refl _ | apply Drawn0.step)⟩
def runes_Safe.f (k : Nat) (a0 : Int) : Option (Int) := (runes_Valid.f a0).bind fun t118 => (if t118 = true then ((runes_Control.f k a0).bind fun t119 => (if t119 = true then (some 65533) else (some a0))) else (some 65533))
theorem runes_Safe.mono : ∀ a0 k, LeO (runes_Safe.f k a0) (runes_Safe.f (k + 1) a0) := by
  intro a0 k
  unfold runes_Safe.f
  repeat' first
      | (with_reducible exact runes_Control.mono _ _)
      | (with_reducible exact LeO.refl _)
      | (with_reducible exact LeO.none _)
      | (with_reducible refine LeO.ite ?_ ?_)
      | (with_reducible refine LeO.bind ?_ (fun _ => ?_))
      | exact runes_Control.mono _ _
      | exact LeO.none _
      | refine LeO.ite ?_ ?_
      | refine LeO.bind ?_ (fun _ => ?_)
set_option maxHeartbeats 8000000 in
set_option maxRecDepth 100000 in
theorem runes_Safe.calls (k : Nat) (a0 : Int) (r : Int) (w : World) (h : runes_Safe.f k a0 = some r) :
    Calls Tryd.prog 48 #[.int .i32 a0] w fun e w' => e = .returned (.int .i32 r) ∧ Drawn0 w w' := by
  have H : ((runes_Valid.f a0).bind fun t118 => (if t118 = true then ((runes_Control.f k a0).bind fun t119 => (if t119 = true then (some 65533) else (some a0))) else (some 65533))) = some r := h
  clear h
  replace H := Option.bind_eq_some_iff.mp H
  obtain ⟨t118, A20, H⟩ := H
  replace H : (if t118 = true then ((runes_Control.f k a0).bind fun t119 => (if t119 = true then (some 65533) else (some a0))) else (some 65533)) = some r := H
  have A2 := qA A20
  clear A20
  by_cases c3 : t118 = true
  · subst c3
    have H1 : ((runes_Control.f k a0).bind fun t119 => (if t119 = true then (some 65533) else (some a0))) = some r := by rw [if_pos rfl] at H; exact H
    clear H
    have H := H1
    clear H1
    replace H := Option.bind_eq_some_iff.mp H
    obtain ⟨t119, A40, H⟩ := H
    replace H : (if t119 = true then (some 65533) else (some a0)) = some r := H
    have A4 := qA A40
    clear A40
    by_cases c5 : t119 = true
    · subst c5
      have H1 : (some 65533) = some r := by rw [if_pos rfl] at H; exact H
      clear H
      have H := H1
      clear H1
      obtain rfl := Option.some.inj H
      go_enter Tryd.func48, Tryd.ntmps48
      go_wp2_with (first | ((with_reducible refine gate_callee (f := 60) rfl ?_); refine goesL_ (some 4) rfl rfl Tryd.func60 (by kernel_rfl) rfl #[.int .i32 a0] rfl (by (try simp only [List.map_toArray, List.map_cons, List.map_nil]); first | done | rfl | (simp only [List.length_drop, List.length_take]; rfl)) ?_; (with_reducible refine (runes_Valid.calls a0 true _ A2.out).mono ?_); rintro e w' ⟨rfl, ⟨nd, rfl⟩⟩; refine ⟨_, rfl, ?_⟩) | (go_at_call 42; (with_reducible refine (runes_Control.calls k a0 true _ A4.out).mono ?_); rintro e w' ⟨rfl, ⟨nd, rfl⟩⟩))
      go_ret
      exact ⟨by first | rfl | (simp; done) | (simp [*]; done), by repeat (first | exact Drawn0.refl _ | apply Drawn0.step)⟩
    · replace c5 := Bool.eq_false_iff.mpr c5
      subst c5
      have H1 : (some a0) = some r := by rw [if_neg (show ¬ (false = true) by decide)] at H; exact H
      clear H
      have H := H1
      clear H1
      obtain rfl := Option.some.inj H
      go_enter Tryd.func48, Tryd.ntmps48
      go_wp2_with (first | ((with_reducible refine gate_callee (f := 60) rfl ?_); refine goesL_ (some 4) rfl rfl Tryd.func60 (by kernel_rfl) rfl #[.int .i32 a0] rfl (by (try simp only [List.map_toArray, List.map_cons, List.map_nil]); first | done | rfl | (simp only [List.length_drop, List.length_take]; rfl)) ?_; (with_reducible refine (runes_Valid.calls a0 true _ A2.out).mono ?_); rintro e w' ⟨rfl, ⟨nd, rfl⟩⟩; refine ⟨_, rfl, ?_⟩) | (go_at_call 42; (with_reducible refine (runes_Control.calls k a0 false _ A4.out).mono ?_); rintro e w' ⟨rfl, ⟨nd, rfl⟩⟩))
      go_ret
      exact ⟨by first | rfl | (simp; done) | (simp [*]; done), by repeat (first | exact Drawn0.refl _ | apply Drawn0.step)⟩
  · replace c3 := Bool.eq_false_iff.mpr c3
    subst c3
    have H1 : (some 65533) = some r := by rw [if_neg (show ¬ (false = true) by decide)] at H; exact H
    clear H
    have H := H1
    clear H1
    obtain rfl := Option.some.inj H
    go_enter Tryd.func48, Tryd.ntmps48
    go_wp2_with (first | ((with_reducible refine gate_callee (f := 60) rfl ?_); refine goesL_ (some 4) rfl rfl Tryd.func60 (by kernel_rfl) rfl #[.int .i32 a0] rfl (by (try simp only [List.map_toArray, List.map_cons, List.map_nil]); first | done | rfl | (simp only [List.length_drop, List.length_take]; rfl)) ?_; (with_reducible refine (runes_Valid.calls a0 false _ A2.out).mono ?_); rintro e w' ⟨rfl, ⟨nd, rfl⟩⟩; refine ⟨_, rfl, ?_⟩))
    go_ret
    exact ⟨by first | rfl | (simp; done) | (simp [*]; done), by repeat (first | exact Drawn0.refl _ | apply Drawn0.step)⟩
end Go.Proofs.YtdogljnddalgdaaDoor.A6
end
section
namespace Go.Proofs.YtdogljnddalgdaaDoor.A6
open Go.RowKit Go.Proofs.YtdogljnddalgdaaDoorW.PrintWords Go.Proofs.YtdogljnddalgdaaDoorW.PrintLast Go.Proofs.YtdogljnddalgdaaDoorW.PrintMore
open Go.Proofs.YtdogljnddalgdaaDoorW.PrintWords.Aside0 renaming mk → qA
attribute [local go_sem] max2_int min2_int max_two min_two max_three min_three max_four min_four   -- for this text's walks alone
set_option linter.unusedVariables false
set_option linter.unusedSimpArgs false
mutual
def flongref02_value.j0 : Nat → List Int → Int → Option (Int)
  | 0, _, _ => none
  | k + 1, x0, x3 => flongref02_value.l0 k x0 x3 1
def flongref02_value.l0 : Nat → List Int → Int → Int → Option (Int)
  | 0, _, _, _ => none
  | k + 1, x0, x3, x4 => if x4 < (x0.length : Int) then (if 0 ≤ x4 then (flongref02_value.l0 k x0 (wrap64 ((wrap64 ((wrap64 (x3 * 64)) + (wrap64 (rd x0 x4)))) - 128)) (wrap64 (x4 + 1))) else (none)) else (some x3)
end
def flongref02_value.f (k : Nat) (l0 : List Int) : Option (Int) := if 0 < (l0.length : Int) then (if (l0.length : Int) = 2 then (flongref02_value.j0 k l0 (wrap64 ((wrap64 (rd l0 0)) - 192))) else (if (l0.length : Int) = 3 then (flongref02_value.j0 k l0 (wrap64 ((wrap64 (rd l0 0)) - 224))) else (if (l0.length : Int) = 4 then (flongref02_value.j0 k l0 (wrap64 ((wrap64 (rd l0 0)) - 240))) else (flongref02_value.j0 k l0 (wrap64 (rd l0 0)))))) else (none)
set_option maxHeartbeats 8000000 in
set_option maxRecDepth 100000 in
theorem flongref02_value.calls (k : Nat) (A0 : Option Addr) (c0 : Nat) (l0 : List Int) (r : Int) (w : World) (hr0 : Kd.C (Kd.int .u8) w A0 l0.length l0) (hc0 : l0.length ≤ c0) (h : flongref02_value.f k l0 = some r) :
    Calls Tryd.prog 51 #[.slice A0 l0.length c0] w fun e w' => e = .returned (.int .i64 r) ∧ Drawn0 w w' := by
  have HR0 := qA hr0
  have HC0 := qA hc0
  clear hr0 hc0
  have H : (if 0 < (l0.length : Int) then (if (l0.length : Int) = 2 then (flongref02_value.j0 k l0 (wrap64 ((wrap64 (rd l0 0)) - 192))) else (if (l0.length : Int) = 3 then (flongref02_value.j0 k l0 (wrap64 ((wrap64 (rd l0 0)) - 224))) else (if (l0.length : Int) = 4 then (flongref02_value.j0 k l0 (wrap64 ((wrap64 (rd l0 0)) - 240))) else (flongref02_value.j0 k l0 (wrap64 (rd l0 0)))))) else (none)) = some r := h
  clear h
  by_cases c2 : 0 < (l0.length : Int)
  · rw [if_pos c2] at H
    have c2b0 : decide (0 < (l0.length : Int)) = true := decide_eq_true c2
    have c2b1 : decide (0 < l0.length) = true := decide_eq_true (by omega)
    clear c2
    have HC3 := qA H
    clear H
    have p202 : 0 ≤ (0 : Int) := (by omega)
    have q202 : 0 < (l0.length : Int) := of_decide_eq_true (by first | (with_reducible assumption) | assumption)
    obtain ⟨ad202, e202, hx202_0⟩ := Kd.at_int HR0.out 0 p202 q202
    cases e202
    have qi202 : (0 < l0.length) = True := eq_true (by omega)
    (try rw [show ((0 : Int)).toNat = 0 from rfl] at hx202_0)
    (try rw [Addr.add_zero'] at hx202_0)
    replace p202 := eq_true p202
    replace q202 := eq_true q202
    go_enter Tryd.func51, Tryd.ntmps51
    go_upto_block 0 with (fail)
    go_cut [3] (fun v3 wc => ∃ (kq : Nat) (x3_2 : Int), v3 = .int .i64 x3_2 ∧ Aside0 (flongref02_value.j0 kq l0 x3_2 = some r) ∧ Aside0 (kq ≤ k) ∧ Drawn0 w wc)
    case first =>
      have H := HC3.out
      clear HC3
      by_cases c4 : (l0.length : Int) = 2
      · rw [if_pos c4] at H
        have c4b0 : ((l0.length : Int) == 2) = true := beq_iff_eq.mpr c4
        have c4b1 : ((l0.length : Int) != 2) = false := bne_eq_false_iff_eq.mpr c4
        clear c4
        (first | rw [c4b0] | (simp only [i64_w, i32_w]; rw [c4b0]) | skip)
        have H' := qA H
        clear H
        go_wp2
        go_meet
        case rel => exact ⟨_, (wrap64 ((wrap64 (rd l0 0)) - 192)), (by first | rfl | (simp; done) | (simp [*]; done)), H', ⟨by first | omega | exact Nat.le_refl _⟩, by repeat (first | exact Drawn0.refl _ | apply Drawn0.step)⟩
      · rw [if_neg c4] at H
        have c4b0 : ((l0.length : Int) == 2) = false := beq_eq_false_iff_ne.mpr c4
        have c4b1 : ((l0.length : Int) != 2) = true := bne_iff_ne.mpr c4
        (first | rw [c4b0] | (simp only [i64_w, i32_w]; rw [c4b0]) | skip)
        by_cases c5 : (l0.length : Int) = 3
        · rw [if_pos c5] at H
          have c5b0 : ((l0.length : Int) == 3) = true := beq_iff_eq.mpr c5
          have c5b1 : ((l0.length : Int) != 3) = false := bne_eq_false_iff_eq.mpr c5
          clear c5
          have H' := qA H
          clear H
          go_wp2
          go_meet
          case rel => exact ⟨_, (wrap64 ((wrap64 (rd l0 0)) - 224)), (by first | rfl | (simp; done) | (simp [*]; done)), H', ⟨by first | omega | exact Nat.le_refl _⟩, by repeat (first | exact Drawn0.refl _ | apply Drawn0.step)⟩
        · rw [if_neg c5] at H
          have c5b0 : ((l0.length : Int) == 3) = false := beq_eq_false_iff_ne.mpr c5
          have c5b1 : ((l0.length : Int) != 3) = true := bne_iff_ne.mpr c5
          by_cases c6 : (l0.length : Int) = 4
          · rw [if_pos c6] at H
            have c6b0 : ((l0.length : Int) == 4) = true := beq_iff_eq.mpr c6
            have c6b1 : ((l0.length : Int) != 4) = false := bne_eq_false_iff_eq.mpr c6
            clear c6
            have H' := qA H
            clear H
            go_wp2
            go_meet
            case rel => exact ⟨_, (wrap64 ((wrap64 (rd l0 0)) - 240)), (by first | rfl | (simp; done) | (simp [*]; done)), H', ⟨by first | omega | exact Nat.le_refl _⟩, by repeat (first | exact Drawn0.refl _ | apply Drawn0.step)⟩
          · rw [if_neg c6] at H
            have c6b0 : ((l0.length : Int) == 4) = false := beq_eq_false_iff_ne.mpr c6
            have c6b1 : ((l0.length : Int) != 4) = true := bne_iff_ne.mpr c6
            have H' := qA H
            clear H
            go_wp2
            go_meet
            case rel => exact ⟨_, (wrap64 (rd l0 0)), (by first | rfl | (simp; done) | (simp [*]; done)), H', ⟨by first | omega | exact Nat.le_refl _⟩, by repeat (first | exact Drawn0.refl _ | apply Drawn0.step)⟩
    case rest =>
      clear HC3
      try clear c2
      try clear c2b0
      try clear c2b1
      try clear p2
      try clear q2
      try clear hx2
      try clear qi2
      try clear c4
      try clear c4b0
      try clear c4b1
      try clear c5
      try clear c5b0
      try clear c5b1
      try clear c6
      try clear c6b0
      try clear c6b1
      try clear p6
      try clear hx202_0
      try clear p202
      try clear q202
      obtain ⟨kq, x3_2, rfl, HA, HJ2, ⟨mc2, rfl⟩⟩ := hcut
      cases kq with
      | zero => exact absurd HA.out (by simp [flongref02_value.j0])
      | succ kj2 =>
        have H := HA.out
        clear HA
        simp only [flongref02_value.j0] at H
        have H' := qA H
        clear H
        go_wp2
        go_loopg [3, 4] kj2 (fun kq v3 v4 w' => ∃ (x3_2 : Int) (x4_2 : Int), v3 = .int .i64 x3_2 ∧ v4 = .int .i64 x4_2 ∧ Aside0 (flongref02_value.l0 kq l0 x3_2 x4_2 = some r) ∧ Aside0 (kq ≤ kj2) ∧ Drawn0 w w')
        case atStart => exact ⟨(x3_2), (1), (by first | rfl | (simp; done) | (simp [*]; done)), (by first | rfl | (simp; done) | (simp [*]; done)), H', ⟨Nat.le_refl _⟩, by repeat (first | exact Drawn0.refl _ | apply Drawn0.step)⟩
        case round =>
          clear H'
          try clear c2
          try clear c2b0
          try clear c2b1
          try clear p2
          try clear q2
          try clear hx2
          try clear qi2
          try clear c4
          try clear c4b0
          try clear c4b1
          try clear c5
          try clear c5b0
          try clear c5b1
          try clear c6
          try clear c6b0
          try clear c6b1
          try clear p6
          try clear hx202_0
          try clear p2
          try clear p202
          try clear p6
          try clear q2
          try clear q202
          obtain ⟨x3_2, x4_2, rfl, rfl, HA, HK2, ⟨m2, rfl⟩⟩ := hrel
          cases gk with
          | zero => exact absurd HA.out (by simp [flongref02_value.l0])
          | succ k2 =>
            have H := HA.out
            clear HA
            simp only [flongref02_value.l0] at H
            by_cases c7 : x4_2 < (l0.length : Int)
            · rw [if_pos c7] at H
              have c7b0 : decide (x4_2 < (l0.length : Int)) = true := decide_eq_true c7
              clear c7
              by_cases c8 : 0 ≤ x4_2
              · rw [if_pos c8] at H
                have c8b0 : decide (0 ≤ x4_2) = true := decide_eq_true c8
                clear c8
                have H' := qA H
                clear H
                have p203 : 0 ≤ (x4_2 : Int) := of_decide_eq_true (by first | (with_reducible assumption) | assumption)
                have q203 : x4_2 < (l0.length : Int) := of_decide_eq_true (by first | (with_reducible assumption) | assumption)
                obtain ⟨ad203, e203, hx203_0⟩ := Kd.at_int HR0.out x4_2 p203 q203
                obtain rfl : ad202 = ad203 := (by injection e203)
                replace p203 := eq_true p203
                replace q203 := eq_true q203
                go_wp2
                go_roundg k2
                case measure => have := HJ2.out; have := HK2.out; omega
                case rel => exact ⟨(wrap64 ((wrap64 ((wrap64 (x3_2 * 64)) + (wrap64 (rd l0 x4_2)))) - 128)), (wrap64 (x4_2 + 1)), (by first | rfl | (simp; done) | (simp [*]; done)), (by first | rfl | (simp; done) | (simp [*]; done)), H', ⟨by have := HJ2.out; have := HK2.out; omega⟩, by repeat (first | exact Drawn0.refl _ | apply Drawn0.step)⟩
              · rw [if_neg c8] at H
                exact absurd H (by simp)
            · rw [if_neg c7] at H
              have c7b0 : decide (x4_2 < (l0.length : Int)) = false := decide_eq_false c7
              clear c7
              obtain rfl := Option.some.inj H
              go_wp2
              go_ret
              exact ⟨by first | rfl | (simp; done) | (simp [*]; done), by repeat (first | exact Drawn0.refl _ | apply Drawn0.step)⟩
  · rw [if_neg c2] at H
    exact absurd H (by simp)
def flongref02_Valid.f (a0 : Int) : Option (Bool) := if a0 ≥ 0 then (if a0 < 1114112 then (if a0 < 55296 then (some true) else (some (decide (a0 > 57343)))) else (some false)) else (some false)
set_option maxHeartbeats 8000000 in
set_option maxRecDepth 100000 in
theorem flongref02_Valid.calls (a0 : Int) (r : Bool) (w : World) (h : flongref02_Valid.f a0 = some r) :
    Calls Tryd.prog 52 #[.int .i32 a0] w fun e w' => e = .returned (.bool r) ∧ Drawn0 w w' := by
  have H : (if a0 ≥ 0 then (if a0 < 1114112 then (if a0 < 55296 then (some true) else (some (decide (a0 > 57343)))) else (some false)) else (some false)) = some r := h
  clear h
  by_cases c2 : a0 ≥ 0
  · rw [if_pos c2] at H
    have c2b0 : decide (0 ≤ a0) = true := decide_eq_true c2
    clear c2
    by_cases c3 : a0 < 1114112
    · rw [if_pos c3] at H
      have c3b0 : decide (a0 < 1114112) = true := decide_eq_true c3
      clear c3
      by_cases c4 : a0 < 55296
      · rw [if_pos c4] at H
        have c4b0 : decide (a0 < 55296) = true := decide_eq_true c4
        clear c4
        obtain rfl := Option.some.inj H
        go_enter Tryd.func52, Tryd.ntmps52
        go_wp2
        go_ret
        exact ⟨by first | rfl | (simp; done) | (simp [*]; done), by repeat (first | exact Drawn0.refl _ | apply Drawn0.step)⟩
      · rw [if_neg c4] at H
        have c4b0 : decide (a0 < 55296) = false := decide_eq_false c4
        clear c4
        obtain rfl := Option.some.inj H
        go_enter Tryd.func52, Tryd.ntmps52
        go_wp2
        go_ret
        exact ⟨by first | rfl | (simp; done) | (simp [*]; done), by repeat (first | exact Drawn0.refl _ | apply Drawn0.step)⟩
    · rw [if_neg c3] at H
      have c3b0 : decide (a0 < 1114112) = false := decide_eq_false c3
      clear c3
      obtain rfl := Option.some.inj H
      go_enter Tryd.func52, Tryd.ntmps52
      go_wp2
      go_ret
      exact ⟨by first | rfl | (simp; done) | (simp [*]; done), by repeat (first | exact Drawn0.refl _ | apply Drawn0.step)⟩
  · rw [if_neg c2] at H
    have c2b0 : decide (0 ≤ a0) = false := decide_eq_false c2
    clear c2
    obtain rfl := Option.some.inj H
    go_enter Tryd.func52, Tryd.ntmps52
    go_wp2
    go_ret
    exact ⟨by first | rfl | (simp; done) | (simp [*]; done), by repeat (first | exact Drawn0.refl _ | apply Drawn0.step)⟩
end Go.Proofs.YtdogljnddalgdaaDoor.A6
end
section
namespace Go.Proofs.YtdogljnddalgdaaDoor.A6
open Go.RowKit Go.Proofs.YtdogljnddalgdaaDoorW.PrintWords Go.Proofs.YtdogljnddalgdaaDoorW.PrintLast Go.Proofs.YtdogljnddalgdaaDoorW.PrintMore
open Go.Proofs.YtdogljnddalgdaaDoorW.PrintWords.Aside0 renaming mk → qA
open Go.Proofs.YtdogljnddalgdaaDoorW.PrintWords renaming pw_below_drewN → qB, below_drew1 → qF, below_alloc → qG
open Go.Proofs.YtdogljnddalgdaaDoorW.PrintWords.Kd renaming R_drewN → qI, R_alloc → qJ, R_drew → qK, R_lower → qW
attribute [local go_sem] max2_int min2_int max_two min_two max_three min_three max_four min_four   -- for this text's walks alone
set_option linter.unusedVariables false
set_option linter.unusedSimpArgs false
def flongref02_Control.f (a0 : Int) : Option (Bool) := if a0 ≥ 0 then (if a0 ≤ 31 then (some true) else (if a0 ≥ 127 then (if a0 ≤ 159 then (some true) else (if a0 = 8232 then (some true) else (some (a0 == 8233)))) else (if a0 = 8232 then (some true) else (some (a0 == 8233))))) else (if a0 ≥ 127 then (if a0 ≤ 159 then (some true) else (if a0 = 8232 then (some true) else (some (a0 == 8233)))) else (if a0 = 8232 then (some true) else (some (a0 == 8233))))
set_option maxHeartbeats 8000000 in
set_option maxRecDepth 100000 in
theorem flongref02_Control.calls (a0 : Int) (r : Bool) (w : World) (h : flongref02_Control.f a0 = some r) :
    Calls Tryd.prog 27 #[.int .i32 a0] w fun e w' => e = .returned (.bool r) ∧ Drawn0 w w' := by
  have H : (if a0 ≥ 0 then (if a0 ≤ 31 then (some true) else (if a0 ≥ 127 then (if a0 ≤ 159 then (some true) else (if a0 = 8232 then (some true) else (some (a0 == 8233)))) else (if a0 = 8232 then (some true) else (some (a0 == 8233))))) else (if a0 ≥ 127 then (if a0 ≤ 159 then (some true) else (if a0 = 8232 then (some true) else (some (a0 == 8233)))) else (if a0 = 8232 then (some true) else (some (a0 == 8233))))) = some r := h
  clear h
  by_cases c2 : a0 ≥ 0
  · rw [if_pos c2] at H
    have c2b0 : decide (0 ≤ a0) = true := decide_eq_true c2
    clear c2
    by_cases c3 : a0 ≤ 31
    · rw [if_pos c3] at H
      have c3b0 : decide (a0 ≤ 31) = true := decide_eq_true c3
      clear c3
      obtain rfl := Option.some.inj H
      go_enter Tryd.func27, Tryd.ntmps27
      go_wp2
      go_ret
      exact ⟨by first | rfl | (simp; done) | (simp [*]; done), by repeat (first | exact Drawn0.refl _ | apply Drawn0.step)⟩
    · rw [if_neg c3] at H
      have c3b0 : decide (a0 ≤ 31) = false := decide_eq_false c3
      clear c3
      by_cases c4 : a0 ≥ 127
      · rw [if_pos c4] at H
        have c4b0 : decide (127 ≤ a0) = true := decide_eq_true c4
        clear c4
        by_cases c5 : a0 ≤ 159
        · rw [if_pos c5] at H
          have c5b0 : decide (a0 ≤ 159) = true := decide_eq_true c5
          clear c5
          obtain rfl := Option.some.inj H
          go_enter Tryd.func27, Tryd.ntmps27
          go_wp2
          go_ret
          exact ⟨by first | rfl | (simp; done) | (simp [*]; done), by repeat (first | exact Drawn0.refl _ | apply Drawn0.step)⟩
        · rw [if_neg c5] at H
          have c5b0 : decide (a0 ≤ 159) = false := decide_eq_false c5
          clear c5
          by_cases c6 : a0 = 8232
          · rw [if_pos c6] at H
            have c6b0 : (a0 == 8232) = true := beq_iff_eq.mpr c6
            have c6b1 : (a0 != 8232) = false := bne_eq_false_iff_eq.mpr c6
            clear c6
            obtain rfl := Option.some.inj H
            go_enter Tryd.func27, Tryd.ntmps27
            go_wp2
            go_ret
            exact ⟨by first | rfl | (simp; done) | (simp [*]; done), by repeat (first | exact Drawn0.refl _ | apply Drawn0.step)⟩
          · rw [if_neg c6] at H
            have c6b0 : (a0 == 8232) = false := beq_eq_false_iff_ne.mpr c6
            have c6b1 : (a0 != 8232) = true := bne_iff_ne.mpr c6
            obtain rfl := Option.some.inj H
            go_enter Tryd.func27, Tryd.ntmps27
            go_wp2
            go_ret
            exact ⟨by first | rfl | (simp; done) | (simp [*]; done), by repeat (first | exact Drawn0.refl _ | apply Drawn0.step)⟩
      · rw [if_neg c4] at H
        have c4b0 : decide (127 ≤ a0) = false := decide_eq_false c4
        clear c4
        by_cases c7 : a0 = 8232
        · rw [if_pos c7] at H
          have c7b0 : (a0 == 8232) = true := beq_iff_eq.mpr c7
          have c7b1 : (a0 != 8232) = false := bne_eq_false_iff_eq.mpr c7
          clear c7
          obtain rfl := Option.some.inj H
          go_enter Tryd.func27, Tryd.ntmps27
          go_wp2
          go_ret
          exact ⟨by first | rfl | (simp; done) | (simp [*]; done), by repeat (first | exact Drawn0.refl _ | apply Drawn0.step)⟩
        · rw [if_neg c7] at H
          have c7b0 : (a0 == 8232) = false := beq_eq_false_iff_ne.mpr c7
          have c7b1 : (a0 != 8232) = true := bne_iff_ne.mpr c7
          obtain rfl := Option.some.inj H
          go_enter Tryd.func27, Tryd.ntmps27
          go_wp2
          go_ret
          exact ⟨by first | rfl | (simp; done) | (simp [*]; done), by repeat (first | exact Drawn0.refl _ | apply Drawn0.step)⟩
  · rw [if_neg c2] at H
    have c2b0 : decide (0 ≤ a0) = false := decide_eq_false c2
    clear c2
    by_cases c8 : a0 ≥ 127
    · rw [if_pos c8] at H
      have c8b0 : decide (127 ≤ a0) = true := decide_eq_true c8
      clear c8
      by_cases c9 : a0 ≤ 159
      · rw [if_pos c9] at H
        have c9b0 : decide (a0 ≤ 159) = true := decide_eq_true c9
        clear c9
        obtain rfl := Option.some.inj H
        go_enter Tryd.func27, Tryd.ntmps27
        go_wp2
        go_ret
        exact ⟨by first | rfl | (simp; done) | (simp [*]; done), by repeat (first | exact Drawn0.refl _ | apply Drawn0.step)⟩
      · rw [if_neg c9] at H
        have c9b0 : decide (a0 ≤ 159) = false := decide_eq_false c9
        clear c9
        by_cases c10 : a0 = 8232
        · rw [if_pos c10] at H
          have c10b0 : (a0 == 8232) = true := beq_iff_eq.mpr c10
          have c10b1 : (a0 != 8232) = false := bne_eq_false_iff_eq.mpr c10
          clear c10
          obtain rfl := Option.some.inj H
          go_enter Tryd.func27, Tryd.ntmps27
          go_wp2
          go_ret
          exact ⟨by first | rfl | (simp; done) | (simp [*]; done), by repeat (first | exact Drawn0.refl _ | apply Drawn0.step)⟩
        · rw [if_neg c10] at H
          have c10b0 : (a0 == 8232) = false := beq_eq_false_iff_ne.mpr c10
          have c10b1 : (a0 != 8232) = true := bne_iff_ne.mpr c10
          obtain rfl := Option.some.inj H
          go_enter Tryd.func27, Tryd.ntmps27
          go_wp2
          go_ret
          exact ⟨by first | rfl | (simp; done) | (simp [*]; done), by repeat (first | exact Drawn0.refl _ | apply Drawn0.step)⟩
    · rw [if_neg c8] at H
      have c8b0 : decide (127 ≤ a0) = false := decide_eq_false c8
      clear c8
      by_cases c11 : a0 = 8232
      · rw [if_pos c11] at H
        have c11b0 : (a0 == 8232) = true := beq_iff_eq.mpr c11
        have c11b1 : (a0 != 8232) = false := bne_eq_false_iff_eq.mpr c11
        clear c11
        obtain rfl := Option.some.inj H
        go_enter Tryd.func27, Tryd.ntmps27
        go_wp2
        go_ret
        exact ⟨by first | rfl | (simp; done) | (simp [*]; done), by repeat (first | exact Drawn0.refl _ | apply Drawn0.step)⟩
      · rw [if_neg c11] at H
        have c11b0 : (a0 == 8232) = false := beq_eq_false_iff_ne.mpr c11
        have c11b1 : (a0 != 8232) = true := bne_iff_ne.mpr c11
        obtain rfl := Option.some.inj H
        go_enter Tryd.func27, Tryd.ntmps27
        go_wp2
        go_ret
        exact ⟨by first | rfl | (simp; done) | (simp [*]; done), by repeat (first | exact Drawn0.refl _ | apply Drawn0.step)⟩
def flongref02_Safe.f (a0 : Int) : Option (Int) := (flongref02_Valid.f a0).bind fun t232 => (if t232 = true then ((flongref02_Control.f a0).bind fun t233 => (if t233 = true then (some 65533) else (some a0))) else (some 65533))
set_option maxHeartbeats 8000000 in
set_option maxRecDepth 100000 in
theorem flongref02_Safe.calls (a0 : Int) (r : Int) (w : World) (h : flongref02_Safe.f a0 = some r) :
    Calls Tryd.prog 26 #[.int .i32 a0] w fun e w' => e = .returned (.int .i32 r) ∧ Drawn0 w w' := by
  have H : ((flongref02_Valid.f a0).bind fun t232 => (if t232 = true then ((flongref02_Control.f a0).bind fun t233 => (if t233 = true then (some 65533) else (some a0))) else (some 65533))) = some r := h
  clear h
  replace H := Option.bind_eq_some_iff.mp H
  obtain ⟨t232, A20, H⟩ := H
  replace H : (if t232 = true then ((flongref02_Control.f a0).bind fun t233 => (if t233 = true then (some 65533) else (some a0))) else (some 65533)) = some r := H
  have A2 := qA A20
  clear A20
  by_cases c3 : t232 = true
  · subst c3
    have H1 : ((flongref02_Control.f a0).bind fun t233 => (if t233 = true then (some 65533) else (some a0))) = some r := by rw [if_pos rfl] at H; exact H
    clear H
    have H := H1
    clear H1
    replace H := Option.bind_eq_some_iff.mp H
    obtain ⟨t233, A40, H⟩ := H
    replace H : (if t233 = true then (some 65533) else (some a0)) = some r := H
    have A4 := qA A40
    clear A40
    by_cases c5 : t233 = true
    · subst c5
      have H1 : (some 65533) = some r := by rw [if_pos rfl] at H; exact H
      clear H
      have H := H1
      clear H1
      obtain rfl := Option.some.inj H
      go_enter Tryd.func26, Tryd.ntmps26
      go_wp2_with (first | ((with_reducible refine gate_callee (f := 52) rfl ?_); refine goesL_ (some 4) rfl rfl Tryd.func52 (by kernel_rfl) rfl #[.int .i32 a0] rfl (by (try simp only [List.map_toArray, List.map_cons, List.map_nil]); first | done | rfl | (simp only [List.length_drop, List.length_take]; rfl)) ?_; (with_reducible refine (flongref02_Valid.calls a0 true _ A2.out).mono ?_); rintro e w' ⟨rfl, ⟨nd, rfl⟩⟩; refine ⟨_, rfl, ?_⟩) | (go_at_call 27; (with_reducible refine (flongref02_Control.calls a0 true _ A4.out).mono ?_); rintro e w' ⟨rfl, ⟨nd, rfl⟩⟩))
      go_ret
      exact ⟨by first | rfl | (simp; done) | (simp [*]; done), by repeat (first | exact Drawn0.refl _ | apply Drawn0.step)⟩
    · replace c5 := Bool.eq_false_iff.mpr c5
      subst c5
      have H1 : (some a0) = some r := by rw [if_neg (show ¬ (false = true) by decide)] at H; exact H
      clear H
      have H := H1
      clear H1
      obtain rfl := Option.some.inj H
      go_enter Tryd.func26, Tryd.ntmps26
      go_wp2_with (first | ((with_reducible refine gate_callee (f := 52) rfl ?_); refine goesL_ (some 4) rfl rfl Tryd.func52 (by kernel_rfl) rfl #[.int .i32 a0] rfl (by (try simp only [List.map_toArray, List.map_cons, List.map_nil]); first | done | rfl | (simp only [List.length_drop, List.length_take]; rfl)) ?_; (with_reducible refine (flongref02_Valid.calls a0 true _ A2.out).mono ?_); rintro e w' ⟨rfl, ⟨nd, rfl⟩⟩; refine ⟨_, rfl, ?_⟩) | (go_at_call 27; (with_reducible refine (flongref02_Control.calls a0 false _ A4.out).mono ?_); rintro e w' ⟨rfl, ⟨nd, rfl⟩⟩))
      go_ret
      exact ⟨by first | rfl | (simp; done) | (simp [*]; done), by repeat (first | exact Drawn0.refl _ | apply Drawn0.step)⟩
  · replace c3 := Bool.eq_false_iff.mpr c3
    subst c3
    have H1 : (some 65533) = some r := by rw [if_neg (show ¬ (false = true) by decide)] at H; exact H
    clear H
    have H := H1
    clear H1
    obtain rfl := Option.some.inj H
    go_enter Tryd.func26, Tryd.ntmps26
    go_wp2_with (first | ((with_reducible refine gate_callee (f := 52) rfl ?_); refine goesL_ (some 4) rfl rfl Tryd.func52 (by kernel_rfl) rfl #[.int .i32 a0] rfl (by (try simp only [List.map_toArray, List.map_cons, List.map_nil]); first | done | rfl | (simp only [List.length_drop, List.length_take]; rfl)) ?_; (with_reducible refine (flongref02_Valid.calls a0 false _ A2.out).mono ?_); rintro e w' ⟨rfl, ⟨nd, rfl⟩⟩; refine ⟨_, rfl, ?_⟩))
    go_ret
    exact ⟨by first | rfl | (simp; done) | (simp [*]; done), by repeat (first | exact Drawn0.refl _ | apply Drawn0.step)⟩
def flongref04_all.f  : Option (List ByteArray × List Int) := some ((([(⟨#[101, 109]⟩ : ByteArray), (⟨#[101, 110]⟩ : ByteArray), (⟨#[104, 121]⟩ : ByteArray), (⟨#[98, 117]⟩ : ByteArray), (⟨#[108, 113]⟩ : ByteArray), (⟨#[114, 113]⟩ : ByteArray), (⟨#[111, 113]⟩ : ByteArray), (⟨#[99, 113]⟩ : ByteArray), (⟨#[97, 113]⟩ : ByteArray), (⟨#[100, 113]⟩ : ByteArray), (⟨#[99, 111]⟩ : ByteArray), (⟨#[114, 103]⟩ : ByteArray), (⟨#[116, 109]⟩ : ByteArray), (⟨#[114, 115]⟩ : ByteArray), (⟨#[104, 97]⟩ : ByteArray), (⟨#[116, 105]⟩ : ByteArray), (⟨#[109, 117]⟩ : ByteArray), (⟨#[100, 105]⟩ : ByteArray), (⟨#[60, 45]⟩ : ByteArray), (⟨#[45, 62]⟩ : ByteArray), (⟨#[60, 61]⟩ : ByteArray), (⟨#[62, 61]⟩ : ByteArray), (⟨#[33, 61]⟩ : ByteArray), (⟨#[100, 101]⟩ : ByteArray), (⟨#[115, 99]⟩ : ByteArray), (⟨#[69, 117]⟩ : ByteArray), (⟨#[117, 58]⟩ : ByteArray), (⟨#[111, 58]⟩ : ByteArray), (⟨#[97, 58]⟩ : ByteArray), (⟨#[115, 115]⟩ : ByteArray)] : List ByteArray)), (([8212, 8211, 8208, 8226, 8220, 8221, 8216, 8217, 39, 34, 169, 174, 8482, 92, 94, 126, 215, 247, 8592, 8594, 8804, 8805, 8800, 176, 167, 8364, 252, 246, 228, 223] : List Int)))
set_option maxHeartbeats 8000000 in
set_option maxRecDepth 100000 in
theorem flongref04_all.calls  (r1 : List ByteArray) (r2 : List Int) (w : World) (h : flongref04_all.f  = some (r1, r2)) :
    Calls Tryd.prog 49 #[] w fun e w' => ∃ v0_ v1_ : Value, e = .returned (.tuple #[v0_, v1_]) ∧ Kd.R Kd.string 9 w' w.heap.size (fun _ => True) v0_ r1 ∧ Kd.R (Kd.int .i32) 21 w' w.heap.size (fun _ => True) v1_ r2 ∧ Below w.heap.size w w' := by
  have HB := qA (Below.refl w.heap.size w)
  have H : (some ((([(⟨#[101, 109]⟩ : ByteArray), (⟨#[101, 110]⟩ : ByteArray), (⟨#[104, 121]⟩ : ByteArray), (⟨#[98, 117]⟩ : ByteArray), (⟨#[108, 113]⟩ : ByteArray), (⟨#[114, 113]⟩ : ByteArray), (⟨#[111, 113]⟩ : ByteArray), (⟨#[99, 113]⟩ : ByteArray), (⟨#[97, 113]⟩ : ByteArray), (⟨#[100, 113]⟩ : ByteArray), (⟨#[99, 111]⟩ : ByteArray), (⟨#[114, 103]⟩ : ByteArray), (⟨#[116, 109]⟩ : ByteArray), (⟨#[114, 115]⟩ : ByteArray), (⟨#[104, 97]⟩ : ByteArray), (⟨#[116, 105]⟩ : ByteArray), (⟨#[109, 117]⟩ : ByteArray), (⟨#[100, 105]⟩ : ByteArray), (⟨#[60, 45]⟩ : ByteArray), (⟨#[45, 62]⟩ : ByteArray), (⟨#[60, 61]⟩ : ByteArray), (⟨#[62, 61]⟩ : ByteArray), (⟨#[33, 61]⟩ : ByteArray), (⟨#[100, 101]⟩ : ByteArray), (⟨#[115, 99]⟩ : ByteArray), (⟨#[69, 117]⟩ : ByteArray), (⟨#[117, 58]⟩ : ByteArray), (⟨#[111, 58]⟩ : ByteArray), (⟨#[97, 58]⟩ : ByteArray), (⟨#[115, 115]⟩ : ByteArray)] : List ByteArray)), (([8212, 8211, 8208, 8226, 8220, 8221, 8216, 8217, 39, 34, 169, 174, 8482, 92, 94, 126, 215, 247, 8592, 8594, 8804, 8805, 8800, 176, 167, 8364, 252, 246, 228, 223] : List Int)))) = some (r1, r2) := h
  clear h
  obtain ⟨y234, hy234⟩ : ∃ y_ : List ByteArray, y_ = (([(⟨#[101, 109]⟩ : ByteArray), (⟨#[101, 110]⟩ : ByteArray), (⟨#[104, 121]⟩ : ByteArray), (⟨#[98, 117]⟩ : ByteArray), (⟨#[108, 113]⟩ : ByteArray), (⟨#[114, 113]⟩ : ByteArray), (⟨#[111, 113]⟩ : ByteArray), (⟨#[99, 113]⟩ : ByteArray), (⟨#[97, 113]⟩ : ByteArray), (⟨#[100, 113]⟩ : ByteArray), (⟨#[99, 111]⟩ : ByteArray), (⟨#[114, 103]⟩ : ByteArray), (⟨#[116, 109]⟩ : ByteArray), (⟨#[114, 115]⟩ : ByteArray), (⟨#[104, 97]⟩ : ByteArray), (⟨#[116, 105]⟩ : ByteArray), (⟨#[109, 117]⟩ : ByteArray), (⟨#[100, 105]⟩ : ByteArray), (⟨#[60, 45]⟩ : ByteArray), (⟨#[45, 62]⟩ : ByteArray), (⟨#[60, 61]⟩ : ByteArray), (⟨#[62, 61]⟩ : ByteArray), (⟨#[33, 61]⟩ : ByteArray), (⟨#[100, 101]⟩ : ByteArray), (⟨#[115, 99]⟩ : ByteArray), (⟨#[69, 117]⟩ : ByteArray), (⟨#[117, 58]⟩ : ByteArray), (⟨#[111, 58]⟩ : ByteArray), (⟨#[97, 58]⟩ : ByteArray), (⟨#[115, 115]⟩ : ByteArray)] : List ByteArray)) := ⟨_, rfl⟩
  replace H : (some (y234, (([8212, 8211, 8208, 8226, 8220, 8221, 8216, 8217, 39, 34, 169, 174, 8482, 92, 94, 126, 215, 247, 8592, 8594, 8804, 8805, 8800, 176, 167, 8364, 252, 246, 228, 223] : List Int)))) = some (r1, r2) := by first | (rw [hy234]; with_reducible exact H) | (have H2_ := (Option.bind_some _ _).symm.trans H; rw [hy234]; with_reducible exact H2_) | (have H2_ := (Option.bind_some _ _).symm.trans H; with_reducible exact H2_) | with_reducible exact H | (rw [hy234]; exact H) | exact H
  have Ny234 := qA hy234
  clear hy234
  obtain ⟨y237, hy237⟩ : ∃ y_ : List Int, y_ = (([8212, 8211, 8208, 8226, 8220, 8221, 8216, 8217, 39, 34, 169, 174, 8482, 92, 94, 126, 215, 247, 8592, 8594, 8804, 8805, 8800, 176, 167, 8364, 252, 246, 228, 223] : List Int)) := ⟨_, rfl⟩
  replace H : (some (y234, y237)) = some (r1, r2) := by first | (rw [hy237]; with_reducible exact H) | (have H2_ := (Option.bind_some _ _).symm.trans H; rw [hy237]; with_reducible exact H2_) | (have H2_ := (Option.bind_some _ _).symm.trans H; with_reducible exact H2_) | with_reducible exact H | (rw [hy237]; exact H) | exact H
  have Ny237 := qA hy237
  clear hy237
  simp only [Option.some.injEq, Prod.mk.injEq] at H
  obtain ⟨rfl, rfl⟩ := H
  go_enter Tryd.func49, Tryd.ntmps49
  go_wp2_with (first | ((with_reducible refine gate_dst (N := 2) rfl ?_); refine Kd.R_lit Kd.string _ 9 ?hg (N := 2) ?hd (xs := ([(⟨#[101, 109]⟩ : ByteArray), (⟨#[101, 110]⟩ : ByteArray), (⟨#[104, 121]⟩ : ByteArray), (⟨#[98, 117]⟩ : ByteArray), (⟨#[108, 113]⟩ : ByteArray), (⟨#[114, 113]⟩ : ByteArray), (⟨#[111, 113]⟩ : ByteArray), (⟨#[99, 113]⟩ : ByteArray), (⟨#[97, 113]⟩ : ByteArray), (⟨#[100, 113]⟩ : ByteArray), (⟨#[99, 111]⟩ : ByteArray), (⟨#[114, 103]⟩ : ByteArray), (⟨#[116, 109]⟩ : ByteArray), (⟨#[114, 115]⟩ : ByteArray), (⟨#[104, 97]⟩ : ByteArray), (⟨#[116, 105]⟩ : ByteArray), (⟨#[109, 117]⟩ : ByteArray), (⟨#[100, 105]⟩ : ByteArray), (⟨#[60, 45]⟩ : ByteArray), (⟨#[45, 62]⟩ : ByteArray), (⟨#[60, 61]⟩ : ByteArray), (⟨#[62, 61]⟩ : ByteArray), (⟨#[33, 61]⟩ : ByteArray), (⟨#[100, 101]⟩ : ByteArray), (⟨#[115, 99]⟩ : ByteArray), (⟨#[69, 117]⟩ : ByteArray), (⟨#[117, 58]⟩ : ByteArray), (⟨#[111, 58]⟩ : ByteArray), (⟨#[97, 58]⟩ : ByteArray), (⟨#[115, 115]⟩ : ByteArray)] : List ByteArray)) (inner := [.string (⟨#[101, 109]⟩ : ByteArray), .string (⟨#[101, 110]⟩ : ByteArray), .string (⟨#[104, 121]⟩ : ByteArray), .string (⟨#[98, 117]⟩ : ByteArray), .string (⟨#[108, 113]⟩ : ByteArray), .string (⟨#[114, 113]⟩ : ByteArray), .string (⟨#[111, 113]⟩ : ByteArray), .string (⟨#[99, 113]⟩ : ByteArray), .string (⟨#[97, 113]⟩ : ByteArray), .string (⟨#[100, 113]⟩ : ByteArray), .string (⟨#[99, 111]⟩ : ByteArray), .string (⟨#[114, 103]⟩ : ByteArray), .string (⟨#[116, 109]⟩ : ByteArray), .string (⟨#[114, 115]⟩ : ByteArray), .string (⟨#[104, 97]⟩ : ByteArray), .string (⟨#[116, 105]⟩ : ByteArray), .string (⟨#[109, 117]⟩ : ByteArray), .string (⟨#[100, 105]⟩ : ByteArray), .string (⟨#[60, 45]⟩ : ByteArray), .string (⟨#[45, 62]⟩ : ByteArray), .string (⟨#[60, 61]⟩ : ByteArray), .string (⟨#[62, 61]⟩ : ByteArray), .string (⟨#[33, 61]⟩ : ByteArray), .string (⟨#[100, 101]⟩ : ByteArray), .string (⟨#[115, 99]⟩ : ByteArray), .string (⟨#[69, 117]⟩ : ByteArray), .string (⟨#[117, 58]⟩ : ByteArray), .string (⟨#[111, 58]⟩ : ByteArray), .string (⟨#[97, 58]⟩ : ByteArray), .string (⟨#[115, 115]⟩ : ByteArray)]) (ok := fun _ => True) (okp := fun _ => True) ?hr ?hp (fun _ hk => hk) trivial (Below.refl _ _) (Nat.le_refl _) (by simp) ?_; (case hd => rfl); (case hg => rfl); (case hr => first | (go_simp; done) | (go_simp; rfl)); (case hp => exact (Reps.one (show Kd.M Kd.string _ _ _ (⟨#[101, 109]⟩ : ByteArray) [.string (⟨#[101, 109]⟩ : ByteArray)] from rfl) (Reps.one (show Kd.M Kd.string _ _ _ (⟨#[101, 110]⟩ : ByteArray) [.string (⟨#[101, 110]⟩ : ByteArray)] from rfl) (Reps.one (show Kd.M Kd.string _ _ _ (⟨#[104, 121]⟩ : ByteArray) [.string (⟨#[104, 121]⟩ : ByteArray)] from rfl) (Reps.one (show Kd.M Kd.string _ _ _ (⟨#[98, 117]⟩ : ByteArray) [.string (⟨#[98, 117]⟩ : ByteArray)] from rfl) (Reps.one (show Kd.M Kd.string _ _ _ (⟨#[108, 113]⟩ : ByteArray) [.string (⟨#[108, 113]⟩ : ByteArray)] from rfl) (Reps.one (show Kd.M Kd.string _ _ _ (⟨#[114, 113]⟩ : ByteArray) [.string (⟨#[114, 113]⟩ : ByteArray)] from rfl) (Reps.one (show Kd.M Kd.string _ _ _ (⟨#[111, 113]⟩ : ByteArray) [.string (⟨#[111, 113]⟩ : ByteArray)] from rfl) (Reps.one (show Kd.M Kd.string _ _ _ (⟨#[99, 113]⟩ : ByteArray) [.string (⟨#[99, 113]⟩ : ByteArray)] from rfl) (Reps.one (show Kd.M Kd.string _ _ _ (⟨#[97, 113]⟩ : ByteArray) [.string (⟨#[97, 113]⟩ : ByteArray)] from rfl) (Reps.one (show Kd.M Kd.string _ _ _ (⟨#[100, 113]⟩ : ByteArray) [.string (⟨#[100, 113]⟩ : ByteArray)] from rfl) (Reps.one (show Kd.M Kd.string _ _ _ (⟨#[99, 111]⟩ : ByteArray) [.string (⟨#[99, 111]⟩ : ByteArray)] from rfl) (Reps.one (show Kd.M Kd.string _ _ _ (⟨#[114, 103]⟩ : ByteArray) [.string (⟨#[114, 103]⟩ : ByteArray)] from rfl) (Reps.one (show Kd.M Kd.string _ _ _ (⟨#[116, 109]⟩ : ByteArray) [.string (⟨#[116, 109]⟩ : ByteArray)] from rfl) (Reps.one (show Kd.M Kd.string _ _ _ (⟨#[114, 115]⟩ : ByteArray) [.string (⟨#[114, 115]⟩ : ByteArray)] from rfl) (Reps.one (show Kd.M Kd.string _ _ _ (⟨#[104, 97]⟩ : ByteArray) [.string (⟨#[104, 97]⟩ : ByteArray)] from rfl) (Reps.one (show Kd.M Kd.string _ _ _ (⟨#[116, 105]⟩ : ByteArray) [.string (⟨#[116, 105]⟩ : ByteArray)] from rfl) (Reps.one (show Kd.M Kd.string _ _ _ (⟨#[109, 117]⟩ : ByteArray) [.string (⟨#[109, 117]⟩ : ByteArray)] from rfl) (Reps.one (show Kd.M Kd.string _ _ _ (⟨#[100, 105]⟩ : ByteArray) [.string (⟨#[100, 105]⟩ : ByteArray)] from rfl) (Reps.one (show Kd.M Kd.string _ _ _ (⟨#[60, 45]⟩ : ByteArray) [.string (⟨#[60, 45]⟩ : ByteArray)] from rfl) (Reps.one (show Kd.M Kd.string _ _ _ (⟨#[45, 62]⟩ : ByteArray) [.string (⟨#[45, 62]⟩ : ByteArray)] from rfl) (Reps.one (show Kd.M Kd.string _ _ _ (⟨#[60, 61]⟩ : ByteArray) [.string (⟨#[60, 61]⟩ : ByteArray)] from rfl) (Reps.one (show Kd.M Kd.string _ _ _ (⟨#[62, 61]⟩ : ByteArray) [.string (⟨#[62, 61]⟩ : ByteArray)] from rfl) (Reps.one (show Kd.M Kd.string _ _ _ (⟨#[33, 61]⟩ : ByteArray) [.string (⟨#[33, 61]⟩ : ByteArray)] from rfl) (Reps.one (show Kd.M Kd.string _ _ _ (⟨#[100, 101]⟩ : ByteArray) [.string (⟨#[100, 101]⟩ : ByteArray)] from rfl) (Reps.one (show Kd.M Kd.string _ _ _ (⟨#[115, 99]⟩ : ByteArray) [.string (⟨#[115, 99]⟩ : ByteArray)] from rfl) (Reps.one (show Kd.M Kd.string _ _ _ (⟨#[69, 117]⟩ : ByteArray) [.string (⟨#[69, 117]⟩ : ByteArray)] from rfl) (Reps.one (show Kd.M Kd.string _ _ _ (⟨#[117, 58]⟩ : ByteArray) [.string (⟨#[117, 58]⟩ : ByteArray)] from rfl) (Reps.one (show Kd.M Kd.string _ _ _ (⟨#[111, 58]⟩ : ByteArray) [.string (⟨#[111, 58]⟩ : ByteArray)] from rfl) (Reps.one (show Kd.M Kd.string _ _ _ (⟨#[97, 58]⟩ : ByteArray) [.string (⟨#[97, 58]⟩ : ByteArray)] from rfl) (Reps.one (show Kd.M Kd.string _ _ _ (⟨#[115, 115]⟩ : ByteArray) [.string (⟨#[115, 115]⟩ : ByteArray)] from rfl) (Reps.none _ _)))))))))))))))))))))))))))))))); intro v235 w1 ho2 hb hg_ hnew_; clear hg_ hnew_; (first | rw [← Ny234.out] at ho2 | (simp only [Int.reduceToNat] at ho2; rw [← Ny234.out] at ho2)); have n0_ := qA (qW ho2 (below_size (by repeat (first | (with_reducible first | exact HB.out | apply qG | apply qB | apply qF) | exact HB.out)))); have n1_ := qA (below_step (by repeat (first | (with_reducible first | exact HB.out | apply qG | apply qB | apply qF) | exact HB.out)) hb); clear HB; have HO236 := n0_; have HB := n1_; clear n0_ n1_; clear hb ho2) | ((with_reducible refine gate_dst (N := 3) rfl ?_); refine Kd.R_lit (Kd.int .i32) _ 21 ?hg (N := 3) ?hd (xs := ([8212, 8211, 8208, 8226, 8220, 8221, 8216, 8217, 39, 34, 169, 174, 8482, 92, 94, 126, 215, 247, 8592, 8594, 8804, 8805, 8800, 176, 167, 8364, 252, 246, 228, 223] : List Int)) (inner := [.int .i32 8212, .int .i32 8211, .int .i32 8208, .int .i32 8226, .int .i32 8220, .int .i32 8221, .int .i32 8216, .int .i32 8217, .int .i32 39, .int .i32 34, .int .i32 169, .int .i32 174, .int .i32 8482, .int .i32 92, .int .i32 94, .int .i32 126, .int .i32 215, .int .i32 247, .int .i32 8592, .int .i32 8594, .int .i32 8804, .int .i32 8805, .int .i32 8800, .int .i32 176, .int .i32 167, .int .i32 8364, .int .i32 252, .int .i32 246, .int .i32 228, .int .i32 223]) (ok := fun _ => True) (okp := fun _ => True) ?hr ?hp (fun _ hk => hk) trivial (Below.refl _ _) (Nat.le_refl _) (by simp) ?_; (case hd => rfl); (case hg => rfl); (case hr => first | (go_simp; done) | (go_simp; rfl)); (case hp => exact (Reps.one (show Kd.M (Kd.int .i32) _ _ _ 8212 [.int .i32 8212] from rfl) (Reps.one (show Kd.M (Kd.int .i32) _ _ _ 8211 [.int .i32 8211] from rfl) (Reps.one (show Kd.M (Kd.int .i32) _ _ _ 8208 [.int .i32 8208] from rfl) (Reps.one (show Kd.M (Kd.int .i32) _ _ _ 8226 [.int .i32 8226] from rfl) (Reps.one (show Kd.M (Kd.int .i32) _ _ _ 8220 [.int .i32 8220] from rfl) (Reps.one (show Kd.M (Kd.int .i32) _ _ _ 8221 [.int .i32 8221] from rfl) (Reps.one (show Kd.M (Kd.int .i32) _ _ _ 8216 [.int .i32 8216] from rfl) (Reps.one (show Kd.M (Kd.int .i32) _ _ _ 8217 [.int .i32 8217] from rfl) (Reps.one (show Kd.M (Kd.int .i32) _ _ _ 39 [.int .i32 39] from rfl) (Reps.one (show Kd.M (Kd.int .i32) _ _ _ 34 [.int .i32 34] from rfl) (Reps.one (show Kd.M (Kd.int .i32) _ _ _ 169 [.int .i32 169] from rfl) (Reps.one (show Kd.M (Kd.int .i32) _ _ _ 174 [.int .i32 174] from rfl) (Reps.one (show Kd.M (Kd.int .i32) _ _ _ 8482 [.int .i32 8482] from rfl) (Reps.one (show Kd.M (Kd.int .i32) _ _ _ 92 [.int .i32 92] from rfl) (Reps.one (show Kd.M (Kd.int .i32) _ _ _ 94 [.int .i32 94] from rfl) (Reps.one (show Kd.M (Kd.int .i32) _ _ _ 126 [.int .i32 126] from rfl) (Reps.one (show Kd.M (Kd.int .i32) _ _ _ 215 [.int .i32 215] from rfl) (Reps.one (show Kd.M (Kd.int .i32) _ _ _ 247 [.int .i32 247] from rfl) (Reps.one (show Kd.M (Kd.int .i32) _ _ _ 8592 [.int .i32 8592] from rfl) (Reps.one (show Kd.M (Kd.int .i32) _ _ _ 8594 [.int .i32 8594] from rfl) (Reps.one (show Kd.M (Kd.int .i32) _ _ _ 8804 [.int .i32 8804] from rfl) (Reps.one (show Kd.M (Kd.int .i32) _ _ _ 8805 [.int .i32 8805] from rfl) (Reps.one (show Kd.M (Kd.int .i32) _ _ _ 8800 [.int .i32 8800] from rfl) (Reps.one (show Kd.M (Kd.int .i32) _ _ _ 176 [.int .i32 176] from rfl) (Reps.one (show Kd.M (Kd.int .i32) _ _ _ 167 [.int .i32 167] from rfl) (Reps.one (show Kd.M (Kd.int .i32) _ _ _ 8364 [.int .i32 8364] from rfl) (Reps.one (show Kd.M (Kd.int .i32) _ _ _ 252 [.int .i32 252] from rfl) (Reps.one (show Kd.M (Kd.int .i32) _ _ _ 246 [.int .i32 246] from rfl) (Reps.one (show Kd.M (Kd.int .i32) _ _ _ 228 [.int .i32 228] from rfl) (Reps.one (show Kd.M (Kd.int .i32) _ _ _ 223 [.int .i32 223] from rfl) (Reps.none _ _)))))))))))))))))))))))))))))))); intro v238 w3 ho4 hb hg_ hnew_; clear hg_ hnew_; (first | rw [← Ny237.out] at ho4 | (simp only [Int.reduceToNat] at ho4; rw [← Ny237.out] at ho4)); have n0_ := qA (Kd.R_below (by (with_reducible repeat (first | apply qJ | apply qI | apply qK)); exact HO236.out) hb); have n1_ := qA (qW ho4 (below_size (by repeat (first | (with_reducible first | exact HB.out | apply qG | apply qB | apply qF) | exact HB.out)))); have n2_ := qA (below_step (by repeat (first | (with_reducible first | exact HB.out | apply qG | apply qB | apply qF) | exact HB.out)) hb); clear HO236; clear HB; have HO236 := n0_; have HO239 := n1_; have HB := n2_; clear n0_ n1_ n2_; clear hb ho4))
  go_ret2
  exact ⟨_, _, by first | rfl | (simp [errW_none, errW_some] <;> rfl) | (simp [*, errW_none, errW_some] <;> rfl), by (with_reducible repeat (first | apply qJ | apply qI | apply qK)); exact HO236.out, by (with_reducible repeat (first | apply qJ | apply qI | apply qK)); exact HO239.out, by repeat (first | (with_reducible first | exact HB.out | apply qG | apply qB | apply qF) | exact HB.out)⟩
end Go.Proofs.YtdogljnddalgdaaDoor.A6
end
section
namespace Go.Proofs.YtdogljnddalgdaaDoor.A6
open Go.RowKit Go.Proofs.YtdogljnddalgdaaDoorW.PrintWords Go.Proofs.YtdogljnddalgdaaDoorW.PrintLast Go.Proofs.YtdogljnddalgdaaDoorW.PrintMore
open Go.Proofs.YtdogljnddalgdaaDoorW.PrintWords.Aside0 renaming mk → qA
attribute [local go_sem] max2_int min2_int max_two min_two max_three min_three max_four min_four   -- for this text's walks alone
set_option linter.unusedVariables false
set_option linter.unusedSimpArgs false
mutual
def runes_first.j0 : Nat → List Int → Int → Int → Option (Int × Int)
  | 0, _, _, _ => none
  | k + 1, x0, x4, x5 => if x4 = 0 then (runes_first.j1 k x0 x4 x5 true) else (runes_first.j1 k x0 x4 x5 (decide ((x0.length : Int) < x4)))
def runes_first.j1 : Nat → List Int → Int → Int → Bool → Option (Int × Int)
  | 0, _, _, _, _ => none
  | k + 1, x0, x4, x5, x45 => if x45 = true then (some (65533, 1)) else (if 1 ≤ x4 then (if x4 ≤ (x0.length : Int) then (runes_first.l0 k x4 x5 ((x0.take (x4 : Int).toNat).drop 1) (((x0.take (x4 : Int).toNat).drop 1).length : Int) 0) else (none)) else (none))
def runes_first.l0 : Nat → Int → Int → List Int → Int → Int → Option (Int × Int)
  | 0, _, _, _, _, _ => none
  | k + 1, x4, x5, x48, x49, x50 => if x50 < x49 then (if 0 ≤ x50 then (if x50 < (x48.length : Int) then (if (Go.bits .and .u8 (rd x48 x50) 192) = 128 then (runes_first.l0 k x4 (Go.bits .or .i32 (wrap32 (x5 * 64)) (wrap32 (Go.bits .and .u8 (rd x48 x50) 63))) x48 x49 (wrap64 (x50 + 1))) else (some (65533, 1))) else (none)) else (none)) else ((runes_Valid.f x5).bind fun t106 => (if t106 = true then ((runes_size.f x5).bind fun t107 => (if t107 = x4 then (some (x5, x4)) else (some (65533, 1)))) else (some (65533, 1))))
end
def runes_first.f (k : Nat) (l0 : List Int) : Option (Int × Int) := if 0 < (l0.length : Int) then (if (rd l0 0) < 128 then (some (wrap32 (rd l0 0), 1)) else (if (Go.bits .and .u8 (rd l0 0) 224) = 192 then (runes_first.j0 k l0 2 (wrap32 (Go.bits .and .u8 (rd l0 0) 31))) else (if (Go.bits .and .u8 (rd l0 0) 240) = 224 then (runes_first.j0 k l0 3 (wrap32 (Go.bits .and .u8 (rd l0 0) 15))) else (if (Go.bits .and .u8 (rd l0 0) 248) = 240 then (runes_first.j0 k l0 4 (wrap32 (Go.bits .and .u8 (rd l0 0) 7))) else (runes_first.j0 k l0 0 0))))) else (none)
theorem runes_first.mono_l : ∀ k, (∀ y0 y1 y2, LeO (runes_first.j0 k y0 y1 y2) (runes_first.j0 (k + 1) y0 y1 y2)) ∧ (∀ y0 y1 y2 y3, LeO (runes_first.j1 k y0 y1 y2 y3) (runes_first.j1 (k + 1) y0 y1 y2 y3)) ∧ (∀ y0 y1 y2 y3 y4, LeO (runes_first.l0 k y0 y1 y2 y3 y4) (runes_first.l0 (k + 1) y0 y1 y2 y3 y4))
  | 0 => ⟨fun _ _ _ r h => by simp [runes_first.j0] at h, fun _ _ _ _ r h => by simp [runes_first.j1] at h, fun _ _ _ _ _ r h => by simp [runes_first.l0] at h⟩
  | k + 1 => by
    obtain ⟨ih0, ih1, ih2⟩ := runes_first.mono_l k
    refine ⟨?_, ?_, ?_⟩
    · intro y0 y1 y2
      unfold runes_first.j0
      repeat' first
      | (with_reducible exact ih0 _ _ _)
      | (with_reducible exact ih1 _ _ _ _)
      | (with_reducible exact ih2 _ _ _ _ _)
      | (with_reducible exact LeO.refl _)
      | (with_reducible exact LeO.none _)
      | (with_reducible refine LeO.ite ?_ ?_)
      | (with_reducible refine LeO.bind ?_ (fun _ => ?_))
      | exact ih0 _ _ _
      | exact ih1 _ _ _ _
      | exact ih2 _ _ _ _ _
      | exact LeO.none _
      | refine LeO.ite ?_ ?_
      | refine LeO.bind ?_ (fun _ => ?_)
    · intro y0 y1 y2 y3
      unfold runes_first.j1
      repeat' first
      | (with_reducible exact ih0 _ _ _)
      | (with_reducible exact ih1 _ _ _ _)
      | (with_reducible exact ih2 _ _ _ _ _)
      | (with_reducible exact LeO.refl _)
      | (with_reducible exact LeO.none _)
      | (with_reducible refine LeO.ite ?_ ?_)
      | (with_reducible refine LeO.bind ?_ (fun _ => ?_))
      | exact ih0 _ _ _
      | exact ih1 _ _ _ _
      | exact ih2 _ _ _ _ _
      | exact LeO.none _
      | refine LeO.ite ?_ ?_
      | refine LeO.bind ?_ (fun _ => ?_)
    · intro y0 y1 y2 y3 y4
      unfold runes_first.l0
      repeat' first
      | (with_reducible exact ih0 _ _ _)
      | (with_reducible exact ih1 _ _ _ _)
      | (with_reducible exact ih2 _ _ _ _ _)
      | (with_reducible exact LeO.refl _)
      | (with_reducible exact LeO.none _)
      | (with_reducible refine LeO.ite ?_ ?_)
      | (with_reducible refine LeO.bind ?_ (fun _ => ?_))
      | exact ih0 _ _ _
      | exact ih1 _ _ _ _
      | exact ih2 _ _ _ _ _
      | exact LeO.none _
      | refine LeO.ite ?_ ?_
      | refine LeO.bind ?_ (fun _ => ?_)
theorem runes_first.mono : ∀ a0 k, LeO (runes_first.f k a0) (runes_first.f (k + 1) a0) := by
  intro a0 k
  obtain ⟨ih0, ih1, ih2⟩ := runes_first.mono_l k
  unfold runes_first.f
  repeat' first
      | (with_reducible exact ih0 _ _ _)
      | (with_reducible exact ih1 _ _ _ _)
      | (with_reducible exact ih2 _ _ _ _ _)
      | (with_reducible exact LeO.refl _)
      | (with_reducible exact LeO.none _)
      | (with_reducible refine LeO.ite ?_ ?_)
      | (with_reducible refine LeO.bind ?_ (fun _ => ?_))
      | exact ih0 _ _ _
      | exact ih1 _ _ _ _
      | exact ih2 _ _ _ _ _
      | exact LeO.none _
      | refine LeO.ite ?_ ?_
      | refine LeO.bind ?_ (fun _ => ?_)
set_option maxHeartbeats 8000000 in
set_option maxRecDepth 100000 in
theorem runes_first.calls (k : Nat) (A0 : Option Addr) (c0 : Nat) (l0 : List Int) (r1 : Int) (r2 : Int) (w : World) (hr0 : Kd.C (Kd.int .u8) w A0 l0.length l0) (hc0 : l0.length ≤ c0) (h : runes_first.f k l0 = some (r1, r2)) :
    Calls Tryd.prog 57 #[.slice A0 l0.length c0] w fun e w' => e = .returned (.tuple #[.int .i32 r1, .int .i64 r2]) ∧ Drawn0 w w' := by
  have HR0 := qA hr0
  have HC0 := qA hc0
  clear hr0 hc0
  have H : (if 0 < (l0.length : Int) then (if (rd l0 0) < 128 then (some (wrap32 (rd l0 0), 1)) else (if (Go.bits .and .u8 (rd l0 0) 224) = 192 then (runes_first.j0 k l0 2 (wrap32 (Go.bits .and .u8 (rd l0 0) 31))) else (if (Go.bits .and .u8 (rd l0 0) 240) = 224 then (runes_first.j0 k l0 3 (wrap32 (Go.bits .and .u8 (rd l0 0) 15))) else (if (Go.bits .and .u8 (rd l0 0) 248) = 240 then (runes_first.j0 k l0 4 (wrap32 (Go.bits .and .u8 (rd l0 0) 7))) else (runes_first.j0 k l0 0 0))))) else (none)) = some (r1, r2) := h
  clear h
  by_cases c2 : 0 < (l0.length : Int)
  · rw [if_pos c2] at H
    have c2b0 : decide (0 < (l0.length : Int)) = true := decide_eq_true c2
    have c2b1 : decide (0 < l0.length) = true := decide_eq_true (by omega)
    clear c2
    have HC3 := qA H
    clear H
    have p103 : 0 ≤ (0 : Int) := (by omega)
    have q103 : 0 < (l0.length : Int) := of_decide_eq_true (by first | (with_reducible assumption) | assumption)
    obtain ⟨ad103, e103, hx103_0⟩ := Kd.at_int HR0.out 0 p103 q103
    cases e103
    have qi103 : (0 < l0.length) = True := eq_true (by omega)
    (try rw [show ((0 : Int)).toNat = 0 from rfl] at hx103_0)
    (try rw [Addr.add_zero'] at hx103_0)
    replace p103 := eq_true p103
    replace q103 := eq_true q103
    go_enter Tryd.func57, Tryd.ntmps57
    go_upto_block 0 with (fail)
    go_cut [4, 5] (fun v4 v5 wc => ∃ (kq : Nat) (x4_2 : Int) (x5_2 : Int), v4 = .int .i64 x4_2 ∧ v5 = .int .i32 x5_2 ∧ Aside0 (runes_first.j0 kq l0 x4_2 x5_2 = some (r1, r2)) ∧ Aside0 (kq ≤ k) ∧ Drawn0 w wc)
    case first =>
      have H := HC3.out
      clear HC3
      by_cases c4 : (rd l0 0) < 128
      · rw [if_pos c4] at H
        have c4b0 : decide ((rd l0 0) < 128) = true := decide_eq_true c4
        clear c4
        (first | rw [c4b0] | (simp only [i64_w, i32_w]; rw [c4b0]) | skip)
        simp only [Option.some.injEq, Prod.mk.injEq] at H
        obtain ⟨rfl, rfl⟩ := H
        go_wp2
        go_ret2
        exact ⟨by first | rfl | (simp; done) | (simp [*]; done), by repeat (first | exact Drawn0.refl _ | apply Drawn0.step)⟩
      · rw [if_neg c4] at H
        have c4b0 : decide ((rd l0 0) < 128) = false := decide_eq_false c4
        clear c4
        (first | rw [c4b0] | (simp only [i64_w, i32_w]; rw [c4b0]) | skip)
        by_cases c5 : (Go.bits .and .u8 (rd l0 0) 224) = 192
        · rw [if_pos c5] at H
          have c5b0 : ((Go.bits .and .u8 (rd l0 0) 224) == 192) = true := beq_iff_eq.mpr c5
          have c5b1 : ((Go.bits .and .u8 (rd l0 0) 224) != 192) = false := bne_eq_false_iff_eq.mpr c5
          clear c5
          have H' := qA H
          clear H
          go_wp2
          go_meet
          case rel => exact ⟨_, (2), (wrap32 (Go.bits .and .u8 (rd l0 0) 31)), (by first | rfl | (simp; done) | (simp [*]; done)), (by first | rfl | (simp; done) | (simp [*]; done)), H', ⟨by first | omega | exact Nat.le_refl _⟩, by repeat (first | exact Drawn0.refl _ | apply Drawn0.step)⟩
        · rw [if_neg c5] at H
          have c5b0 : ((Go.bits .and .u8 (rd l0 0) 224) == 192) = false := beq_eq_false_iff_ne.mpr c5
          have c5b1 : ((Go.bits .and .u8 (rd l0 0) 224) != 192) = true := bne_iff_ne.mpr c5
          by_cases c6 : (Go.bits .and .u8 (rd l0 0) 240) = 224
          · rw [if_pos c6] at H
            have c6b0 : ((Go.bits .and .u8 (rd l0 0) 240) == 224) = true := beq_iff_eq.mpr c6
            have c6b1 : ((Go.bits .and .u8 (rd l0 0) 240) != 224) = false := bne_eq_false_iff_eq.mpr c6
            clear c6
            have H' := qA H
            clear H
            go_wp2
            go_meet
            case rel => exact ⟨_, (3), (wrap32 (Go.bits .and .u8 (rd l0 0) 15)), (by first | rfl | (simp; done) | (simp [*]; done)), (by first | rfl | (simp; done) | (simp [*]; done)), H', ⟨by first | omega | exact Nat.le_refl _⟩, by repeat (first | exact Drawn0.refl _ | apply Drawn0.step)⟩
          · rw [if_neg c6] at H
            have c6b0 : ((Go.bits .and .u8 (rd l0 0) 240) == 224) = false := beq_eq_false_iff_ne.mpr c6
            have c6b1 : ((Go.bits .and .u8 (rd l0 0) 240) != 224) = true := bne_iff_ne.mpr c6
            by_cases c7 : (Go.bits .and .u8 (rd l0 0) 248) = 240
            · rw [if_pos c7] at H
              have c7b0 : ((Go.bits .and .u8 (rd l0 0) 248) == 240) = true := beq_iff_eq.mpr c7
              have c7b1 : ((Go.bits .and .u8 (rd l0 0) 248) != 240) = false := bne_eq_false_iff_eq.mpr c7
              clear c7
              have H' := qA H
              clear H
              go_wp2
              go_meet
              case rel => exact ⟨_, (4), (wrap32 (Go.bits .and .u8 (rd l0 0) 7)), (by first | rfl | (simp; done) | (simp [*]; done)), (by first | rfl | (simp; done) | (simp [*]; done)), H', ⟨by first | omega | exact Nat.le_refl _⟩, by repeat (first | exact Drawn0.refl _ | apply Drawn0.step)⟩
            · rw [if_neg c7] at H
              have c7b0 : ((Go.bits .and .u8 (rd l0 0) 248) == 240) = false := beq_eq_false_iff_ne.mpr c7
              have c7b1 : ((Go.bits .and .u8 (rd l0 0) 248) != 240) = true := bne_iff_ne.mpr c7
              have H' := qA H
              clear H
              go_wp2
              go_meet
              case rel => exact ⟨_, (0), (0), (by first | rfl | (simp; done) | (simp [*]; done)), (by first | rfl | (simp; done) | (simp [*]; done)), H', ⟨by first | omega | exact Nat.le_refl _⟩, by repeat (first | exact Drawn0.refl _ | apply Drawn0.step)⟩
    case rest =>
      clear HC3
      try clear p1
      try clear q1
      try clear hx1
      try clear qi1
      try clear c2
      try clear c2b0
      try clear c2b1
      try clear p2
      try clear p3
      try clear c4
      try clear c4b0
      try clear c5
      try clear c5b0
      try clear c5b1
      try clear c6
      try clear c6b0
      try clear c6b1
      try clear c7
      try clear c7b0
      try clear c7b1
      try clear hx103_0
      try clear p103
      try clear q103
      obtain ⟨kq, x4_2, x5_2, rfl, rfl, HA, HJ2, ⟨mc2, rfl⟩⟩ := hcut
      cases kq with
      | zero => exact absurd HA.out (by simp [runes_first.j0])
      | succ kj2 =>
        have H := HA.out
        clear HA
        simp only [runes_first.j0] at H
        have HC8 := qA H
        clear H
        go_upto_region 11 with (fail)
        go_cut [45] (fun v45 wc => ∃ (kq : Nat) (x45_7 : Bool), v45 = .bool x45_7 ∧ Aside0 (runes_first.j1 kq l0 x4_2 x5_2 x45_7 = some (r1, r2)) ∧ Aside0 (kq ≤ kj2) ∧ Drawn0 w wc)
        case first =>
          have H := HC8.out
          clear HC8
          by_cases c9 : x4_2 = 0
          · rw [if_pos c9] at H
            have c9b0 : (x4_2 == 0) = true := beq_iff_eq.mpr c9
            have c9b1 : (x4_2 != 0) = false := bne_eq_false_iff_eq.mpr c9
            clear c9
            (first | rw [c9b0] | (simp only [i64_w, i32_w]; rw [c9b0]) | skip)
            have H' := qA H
            clear H
            go_wp2
            go_meet
            case rel => exact ⟨_, (true), (by first | rfl | (simp; done) | (simp [*]; done)), H', ⟨by have := HJ2.out; first | omega | exact Nat.le_refl _⟩, by repeat (first | exact Drawn0.refl _ | apply Drawn0.step)⟩
          · rw [if_neg c9] at H
            have c9b0 : (x4_2 == 0) = false := beq_eq_false_iff_ne.mpr c9
            have c9b1 : (x4_2 != 0) = true := bne_iff_ne.mpr c9
            (first | rw [c9b0] | (simp only [i64_w, i32_w]; rw [c9b0]) | skip)
            have H' := qA H
            clear H
            go_wp2
            go_meet
            case rel => exact ⟨_, (decide ((l0.length : Int) < x4_2)), (by first | rfl | (simp; done) | (simp [*]; done)), H', ⟨by have := HJ2.out; first | omega | exact Nat.le_refl _⟩, by repeat (first | exact Drawn0.refl _ | apply Drawn0.step)⟩
        case rest =>
          clear HC8
          try clear p1
          try clear q1
          try clear hx1
          try clear qi1
          try clear c2
          try clear c2b0
          try clear c2b1
          try clear p2
          try clear p3
          try clear c4
          try clear c4b0
          try clear c5
          try clear c5b0
          try clear c5b1
          try clear c6
          try clear c6b0
          try clear c6b1
          try clear c7
          try clear c7b0
          try clear c7b1
          try clear c9
          try clear c9b0
          try clear c9b1
          try clear hx103_0
          try clear p1
          try clear p103
          try clear p2
          try clear p3
          try clear q1
          try clear q103
          obtain ⟨kq, x45_7, rfl, HA, HJ7, ⟨mc7, rfl⟩⟩ := hcut
          cases kq with
          | zero => exact absurd HA.out (by simp [runes_first.j1])
          | succ kj7 =>
            have H := HA.out
            clear HA
            simp only [runes_first.j1] at H
            by_cases c10 : x45_7 = true
            · subst c10
              have H1 : (some (65533, 1)) = some (r1, r2) := by rw [if_pos rfl] at H; exact H
              clear H
              have H := H1
              clear H1
              simp only [Option.some.injEq, Prod.mk.injEq] at H
              obtain ⟨rfl, rfl⟩ := H
              go_wp2
              go_ret2
              exact ⟨by first | rfl | (simp; done) | (simp [*]; done), by repeat (first | exact Drawn0.refl _ | apply Drawn0.step)⟩
            · replace c10 := Bool.eq_false_iff.mpr c10
              subst c10
              have H1 : (if 1 ≤ x4_2 then (if x4_2 ≤ (l0.length : Int) then (runes_first.l0 kj7 x4_2 x5_2 ((l0.take (x4_2 : Int).toNat).drop 1) (((l0.take (x4_2 : Int).toNat).drop 1).length : Int) 0) else (none)) else (none)) = some (r1, r2) := by rw [if_neg (show ¬ (false = true) by decide)] at H; exact H
              clear H
              have H := H1
              clear H1
              by_cases c11 : 1 ≤ x4_2
              · rw [if_pos c11] at H
                have c11b0 := eq_true c11
                have c11b1 : decide (1 ≤ x4_2) = true := decide_eq_true c11
                clear c11
                by_cases c12 : x4_2 ≤ (l0.length : Int)
                · rw [if_pos c12] at H
                  have c12b0 := eq_true c12
                  have c12b1 : decide (x4_2 ≤ (l0.length : Int)) = true := decide_eq_true c12
                  clear c12
                  have H' := qA H
                  clear H
                  obtain ⟨i013, hi013, _, hsz13, _⟩ := info_parts info5
                  obtain ⟨A13, hcut13, hA13, hC13⟩ := print_mid_of (P := Tryd.prog) (Value.int .u8) 0 36 5 .i64 .i64 Tryd.underlying36 hi013 hsz13 (some ad103) c0 l0 1 x4_2 (by omega) (by first | omega | exact of_decide_eq_true (by first | (with_reducible assumption) | assumption)) (of_decide_eq_true (by first | (with_reducible assumption) | assumption)) HC0.out
                  have HR104 := qA (Kd.C_of_reads (h1 := fun _ => rfl) (hA13 _ (Kd.reads_of_C HR0.out)))
                  have HC104 := qA hC13
                  clear hA13 hC13 hi013 hsz13
                  obtain ⟨Lq104, hLq104⟩ : ∃ L_ : List Int, L_ = ((l0.take (x4_2 : Int).toNat).drop 1) := ⟨_, rfl⟩
                  (try simp only [show (Int.toNat 1) = 1 from rfl] at hcut13 HR104 HC104)
                  simp only [← hLq104] at hcut13 HR104 HC104 H'
                  clear hLq104
                  go_wp2
                  go_loopg [5, 50] kj7 (fun kq v5 v50 w' => ∃ (x5_3 : Int) (x50_3 : Int), v5 = .int .i32 x5_3 ∧ v50 = .int .i64 x50_3 ∧ Aside0 (runes_first.l0 kq x4_2 x5_3 Lq104 (Lq104.length : Int) x50_3 = some (r1, r2)) ∧ Aside0 (kq ≤ kj7) ∧ Drawn0 w w')
                  case atStart => exact ⟨(x5_2), (0), (by first | rfl | (simp; done) | (simp [*]; done)), (by first | rfl | (simp; done) | (simp [*]; done)), H', ⟨Nat.le_refl _⟩, by repeat (first | exact Drawn0.refl _ | apply Drawn0.step)⟩
                  case round =>
                    clear H'
                    try clear c1
                    try clear p1
                    try clear q1
                    try clear hx1
                    try clear qi1
                    try clear c2
                    try clear c2b0
                    try clear c2b1
                    try clear p2
                    try clear p3
                    try clear c4
                    try clear c4b0
                    try clear c5
                    try clear c5b0
                    try clear c5b1
                    try clear c6
                    try clear c6b0
                    try clear c6b1
                    try clear c7
                    try clear c7b0
                    try clear c7b1
                    try clear c9
                    try clear c9b0
                    try clear c9b1
                    try clear c10
                    try clear p10
                    try clear q10
                    try clear hx10
                    try clear qi10
                    try clear c11
                    try clear c11b0
                    try clear c11b1
                    try clear c12
                    try clear c12b0
                    try clear c12b1
                    try clear hx103_0
                    try clear p1
                    try clear p103
                    try clear p2
                    try clear p3
                    try clear q1
                    try clear q103
                    obtain ⟨x5_3, x50_3, rfl, rfl, HA, HK3, ⟨m3, rfl⟩⟩ := hrel
                    cases gk with
                    | zero => exact absurd HA.out (by simp [runes_first.l0])
                    | succ k3 =>
                      have H := HA.out
                      clear HA
                      simp only [runes_first.l0] at H
                      by_cases c14 : x50_3 < (Lq104.length : Int)
                      · rw [if_pos c14] at H
                        have c14b0 : decide (x50_3 < (Lq104.length : Int)) = true := decide_eq_true c14
                        clear c14
                        by_cases c15 : 0 ≤ x50_3
                        · rw [if_pos c15] at H
                          have c15b0 : decide (0 ≤ x50_3) = true := decide_eq_true c15
                          clear c15
                          by_cases c16 : x50_3 < (Lq104.length : Int)
                          · rw [if_pos c16] at H
                            have c16b0 : decide (x50_3 < (Lq104.length : Int)) = true := decide_eq_true c16
                            clear c16
                            by_cases c17 : (Go.bits .and .u8 (rd Lq104 x50_3) 192) = 128
                            · rw [if_pos c17] at H
                              have c17b0 : ((Go.bits .and .u8 (rd Lq104 x50_3) 192) == 128) = true := beq_iff_eq.mpr c17
                              have c17b1 : ((Go.bits .and .u8 (rd Lq104 x50_3) 192) != 128) = false := bne_eq_false_iff_eq.mpr c17
                              clear c17
                              have H' := qA H
                              clear H
                              have p105 : 0 ≤ (x50_3 : Int) := of_decide_eq_true (by first | (with_reducible assumption) | assumption)
                              have q105 : x50_3 < (Lq104.length : Int) := of_decide_eq_true (by first | (with_reducible assumption) | assumption)
                              obtain ⟨ad105, e105, hx105_0⟩ := Kd.at_int HR104.out x50_3 p105 q105
                              cases e105
                              replace p105 := eq_true p105
                              replace q105 := eq_true q105
                              go_wp2
                              go_roundg k3
                              case measure => have := HJ2.out; have := HJ7.out; have := HK3.out; omega
                              case rel => exact ⟨(Go.bits .or .i32 (wrap32 (x5_3 * 64)) (wrap32 (Go.bits .and .u8 (rd Lq104 x50_3) 63))), (wrap64 (x50_3 + 1)), (by first | rfl | (simp; done) | (simp [*]; done)), (by first | rfl | (simp; done) | (simp [*]; done)), H', ⟨by have := HJ2.out; have := HJ7.out; have := HK3.out; omega⟩, by repeat (first | exact Drawn0.refl _ | apply Drawn0.step)⟩
                            · rw [if_neg c17] at H
                              have c17b0 : ((Go.bits .and .u8 (rd Lq104 x50_3) 192) == 128) = false := beq_eq_false_iff_ne.mpr c17
                              have c17b1 : ((Go.bits .and .u8 (rd Lq104 x50_3) 192) != 128) = true := bne_iff_ne.mpr c17
                              simp only [Option.some.injEq, Prod.mk.injEq] at H
                              obtain ⟨rfl, rfl⟩ := H
                              have p105 : 0 ≤ (x50_3 : Int) := of_decide_eq_true (by first | (with_reducible assumption) | assumption)
                              have q105 : x50_3 < (Lq104.length : Int) := of_decide_eq_true (by first | (with_reducible assumption) | assumption)
                              obtain ⟨ad105, e105, hx105_0⟩ := Kd.at_int HR104.out x50_3 p105 q105
                              cases e105
                              replace p105 := eq_true p105
                              replace q105 := eq_true q105
                              go_wp2
                              go_ret2
                              exact ⟨by first | rfl | (simp; done) | (simp [*]; done), by repeat (first | exact Drawn0.refl _ | apply Drawn0.step)⟩
                          · rw [if_neg c16] at H
                            exact absurd H (by simp)
                        · rw [if_neg c15] at H
                          exact absurd H (by simp)
                      · rw [if_neg c14] at H
                        have c14b0 : decide (x50_3 < (Lq104.length : Int)) = false := decide_eq_false c14
                        clear c14
                        replace H := Option.bind_eq_some_iff.mp H
                        obtain ⟨t106, A180, H⟩ := H
                        replace H : (if t106 = true then ((runes_size.f x5_3).bind fun t107 => (if t107 = x4_2 then (some (x5_3, x4_2)) else (some (65533, 1)))) else (some (65533, 1))) = some (r1, r2) := H
                        have A18 := qA A180
                        clear A180
                        by_cases c19 : t106 = true
                        · subst c19
                          have H1 : ((runes_size.f x5_3).bind fun t107 => (if t107 = x4_2 then (some (x5_3, x4_2)) else (some (65533, 1)))) = some (r1, r2) := by rw [if_pos rfl] at H; exact H
                          clear H
                          have H := H1
                          clear H1
                          replace H := Option.bind_eq_some_iff.mp H
                          obtain ⟨t107, A200, H⟩ := H
                          replace H : (if t107 = x4_2 then (some (x5_3, x4_2)) else (some (65533, 1))) = some (r1, r2) := H
                          have A20 := qA A200
                          clear A200
                          by_cases c21 : t107 = x4_2
                          · rw [if_pos c21] at H
                            have c21b0 : (t107 == x4_2) = true := beq_iff_eq.mpr c21
                            have c21b1 : (t107 != x4_2) = false := bne_eq_false_iff_eq.mpr c21
                            clear c21
                            simp only [Option.some.injEq, Prod.mk.injEq] at H
                            obtain ⟨rfl, rfl⟩ := H
                            go_wp2_with (first | ((with_reducible refine gate_callee (f := 60) rfl ?_); refine goesL_ (some 65) rfl rfl Tryd.func60 (by kernel_rfl) rfl #[.int .i32 x5_3] rfl (by (try simp only [List.map_toArray, List.map_cons, List.map_nil]); first | done | rfl | (simp only [List.length_drop, List.length_take]; rfl)) ?_; (with_reducible refine (runes_Valid.calls x5_3 true _ A18.out).mono ?_); rintro e w' ⟨rfl, ⟨nd, rfl⟩⟩; refine ⟨_, rfl, ?_⟩) | (go_at_call 66; (with_reducible refine (runes_size.calls x5_3 t107 _ A20.out).mono ?_); rintro e w' ⟨rfl, ⟨nd, rfl⟩⟩))
                            go_ret2
                            exact ⟨by first | rfl | (simp; done) | (simp [*]; done), by repeat (first | exact Drawn0.refl _ | apply Drawn0.step)⟩
                          · rw [if_neg c21] at H
                            have c21b0 : (t107 == x4_2) = false := beq_eq_false_iff_ne.mpr c21
                            have c21b1 : (t107 != x4_2) = true := bne_iff_ne.mpr c21
                            simp only [Option.some.injEq, Prod.mk.injEq] at H
                            obtain ⟨rfl, rfl⟩ := H
                            go_wp2_with (first | ((with_reducible refine gate_callee (f := 60) rfl ?_); refine goesL_ (some 65) rfl rfl Tryd.func60 (by kernel_rfl) rfl #[.int .i32 x5_3] rfl (by (try simp only [List.map_toArray, List.map_cons, List.map_nil]); first | done | rfl | (simp only [List.length_drop, List.length_take]; rfl)) ?_; (with_reducible refine (runes_Valid.calls x5_3 true _ A18.out).mono ?_); rintro e w' ⟨rfl, ⟨nd, rfl⟩⟩; refine ⟨_, rfl, ?_⟩) | (go_at_call 66; (with_reducible refine (runes_size.calls x5_3 t107 _ A20.out).mono ?_); rintro e w' ⟨rfl, ⟨nd, rfl⟩⟩))
                            go_ret2
                            exact ⟨by first | rfl | (simp; done) | (simp [*]; done), by repeat (first | exact Drawn0.refl _ | apply Drawn0.step)⟩
                        · replace c19 := Bool.eq_false_iff.mpr c19
                          subst c19
                          have H1 : (some (65533, 1)) = some (r1, r2) := by rw [if_neg (show ¬ (false = true) by decide)] at H; exact H
                          clear H
                          have H := H1
                          clear H1
                          simp only [Option.some.injEq, Prod.mk.injEq] at H
                          obtain ⟨rfl, rfl⟩ := H
                          go_wp2_with (first | ((with_reducible refine gate_callee (f := 60) rfl ?_); refine goesL_ (some 65) rfl rfl Tryd.func60 (by kernel_rfl) rfl #[.int .i32 x5_3] rfl (by (try simp only [List.map_toArray, List.map_cons, List.map_nil]); first | done | rfl | (simp only [List.length_drop, List.length_take]; rfl)) ?_; (with_reducible refine (runes_Valid.calls x5_3 false _ A18.out).mono ?_); rintro e w' ⟨rfl, ⟨nd, rfl⟩⟩; refine ⟨_, rfl, ?_⟩))
                          go_ret2
                          exact ⟨by first | rfl | (simp; done) | (simp [*]; done), by repeat (first | exact Drawn0.refl _ | apply Drawn0.step)⟩
                · rw [if_neg c12] at H
                  exact absurd H (by simp)
              · rw [if_neg c11] at H
                exact absurd H (by simp)
  · rw [if_neg c2] at H
    exact absurd H (by simp)
end Go.Proofs.YtdogljnddalgdaaDoor.A6
end
section
namespace Go.Proofs.YtdogljnddalgdaaDoor.A6
open Go.RowKit Go.Proofs.YtdogljnddalgdaaDoorW.PrintWords Go.Proofs.YtdogljnddalgdaaDoorW.PrintLast Go.Proofs.YtdogljnddalgdaaDoorW.PrintMore
open Go.Proofs.YtdogljnddalgdaaDoorW.PrintWords.Aside0 renaming mk → qA
open Go.Proofs.YtdogljnddalgdaaDoorW.PrintWords renaming pw_below_drewN → qB, below_drew1 → qF, below_alloc → qG, blk_frozen → qL, blk_cell → qQ
open Go.Proofs.YtdogljnddalgdaaDoorW.PrintWords.Kd renaming R_drewN → qI, R_alloc → qJ, R_drew → qK
attribute [local go_sem] max2_int min2_int max_two min_two max_three min_three max_four min_four   -- for this text's walks alone
set_option linter.unusedVariables false
set_option linter.unusedSimpArgs false
def runes_Decode.l0 : Nat → List Int → List Int → Option (List Int)
  | 0, _, _ => none
  | k + 1, x0, x3 => if (x0.length : Int) > 0 then ((runes_first.f k x0).bind fun bt108 => (if x3.length < 35184372088832 then (if 0 ≤ bt108.2 then (if bt108.2 ≤ (x0.length : Int) then (runes_Decode.l0 k (x0.drop (bt108.2 : Int).toNat) (x3 ++ [bt108.1])) else (none)) else (none)) else (none))) else (some x3)
def runes_Decode.f (k : Nat) (l0 : List Int) : Option (List Int) := runes_Decode.l0 k l0 ([] : List Int)
theorem runes_Decode.mono_l : ∀ k, (∀ y0 y1, LeO (runes_Decode.l0 k y0 y1) (runes_Decode.l0 (k + 1) y0 y1))
  | 0 => fun _ _ r h => by simp [runes_Decode.l0] at h
  | k + 1 => by
    have ih0 := runes_Decode.mono_l k
    · intro y0 y1
      unfold runes_Decode.l0
      repeat' first
      | (with_reducible exact ih0 _ _)
      | (with_reducible exact runes_first.mono _ _)
      | (with_reducible exact LeO.refl _)
      | (with_reducible exact LeO.none _)
      | (with_reducible refine LeO.ite ?_ ?_)
      | (with_reducible refine LeO.bind ?_ (fun _ => ?_))
      | exact ih0 _ _
      | exact runes_first.mono _ _
      | exact LeO.none _
      | refine LeO.ite ?_ ?_
      | refine LeO.bind ?_ (fun _ => ?_)
theorem runes_Decode.mono : ∀ a0 k, LeO (runes_Decode.f k a0) (runes_Decode.f (k + 1) a0) := by
  intro a0 k
  have ih0 := runes_Decode.mono_l k
  unfold runes_Decode.f
  repeat' first
      | (with_reducible exact ih0 _ _)
      | (with_reducible exact runes_first.mono _ _)
      | (with_reducible exact LeO.refl _)
      | (with_reducible exact LeO.none _)
      | (with_reducible refine LeO.ite ?_ ?_)
      | (with_reducible refine LeO.bind ?_ (fun _ => ?_))
      | exact ih0 _ _
      | exact runes_first.mono _ _
      | exact LeO.none _
      | refine LeO.ite ?_ ?_
      | refine LeO.bind ?_ (fun _ => ?_)
set_option maxHeartbeats 8000000 in
set_option maxRecDepth 100000 in
theorem runes_Decode.calls (k : Nat) (P0_ : Nat → Prop) (A0 : Option Addr) (c0 : Nat) (l0 : List Int) (r : List Int) (w : World) (hs0 : Kd.V (Kd.int .u8) 5 w w.heap.size (fun k_ => P0_ k_) (.slice A0 l0.length c0) l0) (h : runes_Decode.f k l0 = some r) :
    Calls Tryd.prog 39 #[.slice A0 l0.length c0] w fun e w' => ∃ v0_ : Value, e = .returned (v0_) ∧ Kd.R (Kd.int .i32) 21 w' w.heap.size (fun k_ => (w.heap.size ≤ k_)) v0_ r ∧ Below w.heap.size w w' := by
  have HO0 := qA (show Kd.V (Kd.int .u8) 5 w w.heap.size (fun k_ => (P0_ k_ ∨ w.heap.size ≤ k_)) (.slice A0 l0.length c0) l0 from Kd.V_mono hs0 (fun k_ hk => .inl hk))
  have HB := qA (Below.refl w.heap.size w)
  have H : (runes_Decode.l0 k l0 ([] : List Int)) = some r := h
  clear h
  have H' := qA H
  clear H
  go_enter Tryd.func39, Tryd.ntmps39
  go_wp2
  go_loopg [0, 3] k (fun kq v0 v3 w' => ∃ (x0_1 : List Int) (x3_1 : List Int), Aside0 (runes_Decode.l0 kq x0_1 x3_1 = some r) ∧ Aside0 (kq ≤ k) ∧ Aside0 (Kd.V (Kd.int .u8) 5 w' w.heap.size (fun k_ => (P0_ k_ ∨ w.heap.size ≤ k_) ∧ some k_ ≠ (v3 : Value).ownBlock) v0 x0_1) ∧ Aside0 (Kd.R (Kd.int .i32) 21 w' w.heap.size (fun k_ => (w.heap.size ≤ k_)) v3 x3_1) ∧ Aside0 (Below w.heap.size w w'))
  case atStart => exact ⟨(l0), (([] : List Int)), H', ⟨Nat.le_refl _⟩, ⟨by (with_reducible repeat (first | apply Kd.V_alloc | apply Kd.V_drewN | apply Kd.V_drew)); exact Kd.V_mono HO0.out (fun _ hk => ⟨hk, (by simp [Value.ownBlock])⟩)⟩, ⟨by first | exact Kd.R_nil _ _ _ _ _ | exact Kd.N_nil _ _ _ _ _ | exact Kd.V_nil _ _ _ _ _ | exact Kd.Q_nil _ _ _ _ _ | exact Kd.S_nil _ _ _ _ _⟩, ⟨by repeat (first | (with_reducible first | exact HB.out | apply qG | apply qB | apply qF) | exact HB.out)⟩⟩
  case round =>
    clear H'
    obtain ⟨x0_1, x3_1, HA, HK1, HO_0, HO_3, HB⟩ := hrel
    cases gk with
    | zero => exact absurd HA.out (by simp [runes_Decode.l0])
    | succ k1 =>
      have H := HA.out
      clear HA
      simp only [runes_Decode.l0] at H
      by_cases c2 : (x0_1.length : Int) > 0
      · rw [if_pos c2] at H
        have c2b0 : decide (0 < (x0_1.length : Int)) = true := decide_eq_true c2
        have c2b1 : decide (0 < x0_1.length) = true := decide_eq_true (by omega)
        clear c2
        replace H := Option.bind_eq_some_iff.mp H
        obtain ⟨⟨t108, t109⟩, A30, H⟩ := H
        replace H : (if x3_1.length < 35184372088832 then (if 0 ≤ t109 then (if t109 ≤ (x0_1.length : Int) then (runes_Decode.l0 k1 (x0_1.drop (t109 : Int).toNat) (x3_1 ++ [t108])) else (none)) else (none)) else (none)) = some r := H
        have A3 := qA A30
        clear A30
        by_cases c4 : x3_1.length < 35184372088832
        · rw [if_pos c4] at H
          have LMc4 := qA c4
          clear c4
          obtain ⟨y110, hy110⟩ : ∃ y_ : List Int, y_ = (x3_1 ++ [t108]) := ⟨_, rfl⟩
          replace H : (if 0 ≤ t109 then (if t109 ≤ (x0_1.length : Int) then (runes_Decode.l0 k1 (x0_1.drop (t109 : Int).toNat) y110) else (none)) else (none)) = some r := by first | (rw [hy110]; with_reducible exact H) | (have H2_ := (Option.bind_some _ _).symm.trans H; rw [hy110]; with_reducible exact H2_) | (have H2_ := (Option.bind_some _ _).symm.trans H; with_reducible exact H2_) | with_reducible exact H | (rw [hy110]; exact H) | exact H
          have Ny110 := qA hy110
          clear hy110
          by_cases c5 : 0 ≤ t109
          · rw [if_pos c5] at H
            have c5b0 := eq_true c5
            have c5b1 : decide (0 ≤ t109) = true := decide_eq_true c5
            clear c5
            by_cases c6 : t109 ≤ (x0_1.length : Int)
            · rw [if_pos c6] at H
              have c6b0 := eq_true c6
              have c6b1 : decide (t109 ≤ (x0_1.length : Int)) = true := decide_eq_true c6
              clear c6
              obtain ⟨y113, hy113⟩ : ∃ y_ : List Int, y_ = (x0_1.drop (t109 : Int).toNat) := ⟨_, rfl⟩
              replace H : (runes_Decode.l0 k1 y113 y110) = some r := by first | (rw [hy113]; with_reducible exact H) | (have H2_ := (Option.bind_some _ _).symm.trans H; rw [hy113]; with_reducible exact H2_) | (have H2_ := (Option.bind_some _ _).symm.trans H; with_reducible exact H2_) | with_reducible exact H | (rw [hy113]; exact H) | exact H
              have Ny113 := qA hy113
              clear hy113
              have H' := qA H
              clear H
              obtain ⟨Ao7, co7, eo7⟩ := Kd.V_slice HO_0.out
              subst eo7
              go_wp2_with (first | ((with_reducible refine gate_callee (f := 57) rfl ?_); refine goesL_ (some 11) rfl rfl Tryd.func57 (by kernel_rfl) rfl #[.slice Ao7 x0_1.length co7] rfl (by (try simp only [List.map_toArray, List.map_cons, List.map_nil]); first | done | rfl | (simp only [List.length_drop, List.length_take]; rfl)) ?_; (with_reducible refine (runes_first.calls k1 _ _ x0_1 t108 t109 _ ?side1 ?side2 A3.out).mono ?_); (case side1 => repeat (first | exact (Kd.V_reads' HO_0.out).2.2 | (with_reducible refine Kd.C_alloc ?_ _) | (with_reducible refine Kd.C_drewN ?_ _) | (with_reducible refine Kd.C_drew ?_))); (case side2 => exact (Kd.V_reads' HO_0.out).2.1); rintro e w' ⟨rfl, ⟨nd, rfl⟩⟩; refine ⟨_, rfl, ?_⟩) | ((with_reducible refine gate_builtin (b := .append) (xs := #[.tmp 14, .tmp 16]) rfl ?_); at_builtin; refine Kd.R_append (Kd.int .i32) (w0 := w) w.heap.size rfl (.tmp 14) (.tmp 16) 34 21 (.int .i32 0) 4 rfl Tryd.underlying34 info21 rfl (by decide) (by omega) u3 x3_1 t108 [.int .i32 t108] (fun k_ => (w.heap.size ≤ k_)) (fun _ => False) rfl rfl ?aP (fun _ hk => hk.elim) ?aF ?aO ?aB ?aS ?aL ?_; (case aP => exact rfl); (case aB => exact (by repeat (first | (with_reducible first | exact HB.out | apply qG | apply qB | apply qF) | exact HB.out))); (case aF => exact (fun k_ hk => (Nat.le_trans (below_size (by repeat (first | (with_reducible first | exact HB.out | apply qG | apply qB | apply qF) | exact HB.out))) hk))); (case aO => exact (by (with_reducible repeat (first | apply qJ | apply qI | apply qK)); exact HO_3.out)); (case aS => exact (below_size (by repeat (first | (with_reducible first | exact HB.out | apply qG | apply qB | apply qF) | exact HB.out)))); (case aL => have := LMc4.out; omega); intro v111 w8 ho hb hg hat; rw [← Ny110.out] at ho; have n0_ := qA (Kd.V_afterv (ok := (fun k_ => (P0_ k_ ∨ w.heap.size ≤ k_))) (by (with_reducible repeat (first | apply Kd.V_alloc | apply Kd.V_drewN | apply Kd.V_drew)); exact HO_0.out) hg hat); have n1_ := qA (hb); have n2_ := qA (ho); clear HO_0; clear HB; clear HO_3; have HO_0 := n0_; have HB := n1_; have HO112 := n2_; clear n0_ n1_ n2_; clear ho hb hg hat; have q9 : (t109 : Int) ≤ ((x0_1.length : Int) : Int) := of_decide_eq_true (by first | (with_reducible assumption) | assumption); obtain ⟨i09, hi09, _, hsz9, _⟩ := info_parts info5; have hroom9 : x0_1.length ≤ co7 := (Kd.V_reads' HO_0.out).2.1; have hC9 : Kd.F (Kd.int .u8) _ _ Ao7 x0_1.length x0_1 := (Kd.V_at (base := w.heap.size) HO_0.out).2.2; have q09 : (0 : Int) ≤ (t109 : Int) := of_decide_eq_true (by first | (with_reducible assumption) | assumption); have hcut9 := cut_from (P := Tryd.prog) 36 5 .i64 Tryd.underlying36 hi09 1 hsz9 Ao7 x0_1.length co7 t109 q09 q9; have hr9 := Kd.F_cut (m := (t109 : Int).toNat) (c := co7) hC9 (by omega) hroom9; obtain ⟨A9, hA9⟩ : ∃ A1, A1 = (if co7 = (t109 : Int).toNat then Ao7 else (Ao7 : Option Addr).map (·.add ((t109 : Int).toNat * 1))) := ⟨_, rfl⟩; obtain ⟨c9, hc9⟩ : ∃ c1, c1 = co7 - (t109 : Int).toNat := ⟨_, rfl⟩; have hy9 : y113.length = x0_1.length - (t109 : Int).toNat := (by rw [Ny113.out, List.length_drop] <;> omega); rw [show (x0_1).drop (t109 : Int).toNat = y113 from Ny113.out.symm] at hr9; replace hr9 : Kd.F (Kd.int .u8) _ _ A9 y113.length y113 := (by rw [hA9]; exact hr9); rw [← hy9, ← hA9, ← hc9] at hcut9; have HO117 := qA (show Kd.V (Kd.int .u8) 5 _ w.heap.size _ (.slice A9 y113.length c9) y113 from Kd.V_mk (by rw [hy9, hc9]; exact Nat.sub_le_sub_right hroom9 _) hr9); have HC117 := qA (show y113.length ≤ c9 from by rw [hy9, hc9]; exact Nat.sub_le_sub_right hroom9 _); clear hr9 hC9 hroom9 hi09 hsz9 hc9; have KY9 := qA hy9; have KA9 := qA hA9; clear hy9 hA9; replace q9 := eq_true q9))
              go_roundg k1
              case measure => have := HK1.out; omega
              case rel => exact ⟨(y113), (y110), H', ⟨by have := HK1.out; omega⟩, ⟨by (with_reducible repeat (first | apply Kd.V_alloc | apply Kd.V_drewN | apply Kd.V_drew)); exact HO117.out⟩, ⟨by (with_reducible repeat (first | apply qJ | apply qI | apply qK)); exact HO112.out⟩, ⟨by repeat (first | (with_reducible first | exact HB.out | apply qG | apply qB | apply qF) | exact HB.out)⟩⟩
            · rw [if_neg c6] at H
              exact absurd H (by simp)
          · rw [if_neg c5] at H
            exact absurd H (by simp)
        · rw [if_neg c4] at H
          exact absurd H (by simp)
      · rw [if_neg c2] at H
        have c2b0 : decide (0 < (x0_1.length : Int)) = false := decide_eq_false c2
        have c2b1 : decide (0 < x0_1.length) = false := decide_eq_false (by omega)
        clear c2
        obtain rfl := Option.some.inj H
        obtain ⟨Ao10, co10, eo10⟩ := Kd.V_slice HO_0.out
        subst eo10
        go_wp2
        go_ret
        exact ⟨_, by first | rfl | (simp [errW_none, errW_some] <;> rfl) | (simp [*, errW_none, errW_some] <;> rfl), by (with_reducible repeat (first | apply qJ | apply qI | apply qK)); exact HO_3.out, by repeat (first | (with_reducible first | exact HB.out | apply qG | apply qB | apply qF) | exact HB.out)⟩
structure RD (W : World) (base g : Nat) (vl : Value) (l : List Int) (at_ : Int) (vo : Value) (xs : List S38) (vb : Value) (ys : List S41) : Prop where
  blk : W.heap[g]? = some (.cells #[vl, .int .i64 at_, vo, vb] 65 (0, 0))
  ge : base ≤ g
  l : Kd.R (Kd.int .i32) 21 W base (fun _ => True) vl l
  o : Kd.R k38 38 W base (fun _ => True) vo xs
  b : Kd.R k41 41 W base (fun _ => True) vb ys
set_option maxHeartbeats 8000000 in
set_option maxRecDepth 100000 in
theorem say_calls {w0 w : World} {base g : Nat} {vl : Value} {l : List Int} {at_ : Int} {vo : Value} {xs : List S38} {vb : Value} {ys : List S41} (kind x : Int)
    (hB : Below base w0 w) (hb : base ≤ w.heap.size) (h : RD w base g vl l at_ vo xs vb ys) (hn : xs.length < 8796093022208) :
    Calls Tryd.prog 40 #[.pointer (some ⟨g, 0, none⟩), .int .i64 kind, .int .i32 x] w fun e w' => e = .returned (.tuple #[]) ∧
      ∃ vo', RD w' base g vl l at_ vo' (xs ++ [⟨kind, x⟩]) vb ys ∧ Below base w0 w' ∧ w.heap.size ≤ w'.heap.size := by
  obtain ⟨hblk, hge, hl, ho, hbb⟩ := h
  have hcz2 : w.cell? ⟨g, 2, none⟩ = some vo := (qQ hblk 2).trans rfl
  have hfz2 := qL hblk 2
  have HBLK := qA hblk
  have HGE := qA hge
  have HL := qA hl
  have HO := qA ho
  have HBB := qA hbb
  have HB := qA hB
  have HBS := qA hb
  have HN := qA hn
  clear hblk hge hl ho hbb hB hb hn
  obtain ⟨y, hy⟩ : ∃ y, y = xs ++ [(⟨kind, x⟩ : S38)] := ⟨_, rfl⟩
  have NY := qA hy
  clear hy
  have hu65 := Tryd.underlying65
  have hu38 := Tryd.underlying38
  go_enter Tryd.func40, Tryd.ntmps40
  go_wp2_with (first | ((with_reducible refine gate_builtin (b := .append) (xs := #[.tmp 10, .tmp 14]) rfl ?_); at_builtin; refine Kd.R_append k38 (w0 := w0) base rfl (.tmp 10) (.tmp 14) 23 38 (.agg #[(.int .i64 0), (.int .i32 0)]) 16 rfl Tryd.underlying23 info38 rfl (by decide) (by omega) vo xs (⟨kind, x⟩ : S38) [.int .i64 kind, .int .i32 x] (fun _ => True) (fun _ => False) rfl rfl ?aP (fun _ hk => hk.elim) (fun _ _ => trivial) ?aO ?aB ?aS ?aL ?_; (case aP => exact k38_mkM _ _ _ (⟨kind, x⟩ : S38)); (case aO => exact HO.out); (case aB => exact HB.out); (case aS => exact HBS.out); (case aL => have := HN.out; omega); intro v1 w1 ho1 hb1 hg1 hat1; rw [← NY.out] at ho1; have BK := qA (blk_grown HBLK.out hg1 (Kd.R_ne HO.out HBLK.out (by decide))); have hcz2' : w1.cell? ⟨g, 2, none⟩ = some vo := (qQ BK.out 2).trans rfl; have hfz2' := qL BK.out 2; have HG1 := qA hg1; have HO1 := qA ho1; have HB1 := qA hb1; clear hg1 ho1 hb1 hat1; obtain ⟨Ao2, co2, eo2⟩ := Kd.R_slice HO1.out; subst eo2))
  go_end0
  rw [← NY.out]
  refine ⟨rfl, .slice Ao2 y.length co2, ⟨?_, HGE.out, ?_, ?_, ?_⟩, ?_, ?_⟩
  · exact blk_put (cs := #[vl, .int .i64 at_, vo, vb]) BK.out 2 _ rfl
  · exact Kd.R_set (Kd.R_over' HL.out (Kd.R_typed HO.out) (by decide) HG1.out) BK.out (by decide) 2 _
  · exact Kd.R_set HO1.out BK.out (by decide) 2 _
  · exact Kd.R_set (Kd.R_over' HBB.out (Kd.R_typed HO.out) (by decide) HG1.out) BK.out (by decide) 2 _
  · exact HB1.out.setCell HGE.out _
  · have := HG1.out.size
    simpa [World.setCell] using this
set_option maxHeartbeats 8000000 in
set_option maxRecDepth 100000 in
theorem tell_calls {w0 w : World} {base g : Nat} {vl : Value} {l : List Int} {at_ : Int} {vo : Value} {xs : List S38} {vb : Value} {ys : List S41} (kind p : Int)
    (hB : Below base w0 w) (hb : base ≤ w.heap.size) (h : RD w base g vl l at_ vo xs vb ys) (hn : ys.length < 5864062014805) :
    Calls Tryd.prog 43 #[.pointer (some ⟨g, 0, none⟩), .int .i64 kind, .int .i64 p] w fun e w' => e = .returned (.tuple #[]) ∧
      ∃ vb', RD w' base g vl l at_ vo xs vb' (ys ++ [⟨kind, 0, wrap64 (p + 1)⟩]) ∧ Below base w0 w' ∧ w.heap.size ≤ w'.heap.size := by
  obtain ⟨hblk, hge, hl, ho, hbb⟩ := h
  have hcz3 : w.cell? ⟨g, 3, none⟩ = some vb := (qQ hblk 3).trans rfl
  have hfz3 := qL hblk 3
  have HBLK := qA hblk
  have HGE := qA hge
  have HL := qA hl
  have HO := qA ho
  have HBB := qA hbb
  have HB := qA hB
  have HBS := qA hb
  have HN := qA hn
  clear hblk hge hl ho hbb hB hb hn
  obtain ⟨y, hy⟩ : ∃ y, y = ys ++ [(⟨kind, 0, wrap64 (p + 1)⟩ : S41)] := ⟨_, rfl⟩
  have NY := qA hy
  clear hy
  have hu65 := Tryd.underlying65
  have hu41 := Tryd.underlying41
  go_enter Tryd.func43, Tryd.ntmps43
  go_wp2_with (first | ((with_reducible refine gate_builtin (b := .append) (xs := #[.tmp 10, .tmp 15]) rfl ?_); at_builtin; refine Kd.R_append k41 (w0 := w0) base rfl (.tmp 10) (.tmp 15) 24 41 (.agg #[(.int .i64 0), (.int .i64 0), (.int .i64 0)]) 24 rfl Tryd.underlying24 info41 rfl (by decide) (by omega) vb ys (⟨kind, 0, wrap64 (p + 1)⟩ : S41) [.int .i64 kind, .int .i64 0, .int .i64 (wrap64 (p + 1))] (fun _ => True) (fun _ => False) rfl rfl ?aP (fun _ hk => hk.elim) (fun _ _ => trivial) ?aO ?aB ?aS ?aL ?_; (case aP => exact k41_mkM _ _ _ (⟨kind, 0, wrap64 (p + 1)⟩ : S41)); (case aO => exact HBB.out); (case aB => exact HB.out); (case aS => exact HBS.out); (case aL => have := HN.out; omega); intro v1 w1 ho1 hb1 hg1 hat1; rw [← NY.out] at ho1; have BK := qA (blk_grown HBLK.out hg1 (Kd.R_ne HBB.out HBLK.out (by decide))); have hcz3' : w1.cell? ⟨g, 3, none⟩ = some vb := (qQ BK.out 3).trans rfl; have hfz3' := qL BK.out 3; have HG1 := qA hg1; have HO1 := qA ho1; have HB1 := qA hb1; clear hg1 ho1 hb1 hat1; obtain ⟨Ao2, co2, eo2⟩ := Kd.R_slice HO1.out; subst eo2))
  go_end0
  rw [← NY.out]
  refine ⟨rfl, .slice Ao2 y.length co2, ⟨?_, HGE.out, ?_, ?_, ?_⟩, ?_, ?_⟩
  · exact blk_put (cs := #[vl, .int .i64 at_, vo, vb]) BK.out 3 _ rfl
  · exact Kd.R_set (Kd.R_over' HL.out (Kd.R_typed HBB.out) (by decide) HG1.out) BK.out (by decide) 3 _
  · exact Kd.R_set (Kd.R_over' HO.out (Kd.R_typed HBB.out) (by decide) HG1.out) BK.out (by decide) 3 _
  · exact Kd.R_set HO1.out BK.out (by decide) 3 _
  · exact HB1.out.setCell HGE.out _
  · have := HG1.out.size
    simpa [World.setCell] using this
def escape_digit.j0 : Nat → Int → Bool → Option (Int × Bool)
  | 0, _, _ => none
  | k + 1, x0, x4 => if x4 = true then (some ((x0 - 48) % 256, true)) else (if x0 ≥ 65 then (if x0 ≤ 70 then (some (((x0 - 65) % 256) + 10, true)) else (some (0, false))) else (some (0, false)))
def escape_digit.f (k : Nat) (a0 : Int) : Option (Int × Bool) := if a0 ≥ 48 then (escape_digit.j0 k a0 (decide (a0 ≤ 57))) else (escape_digit.j0 k a0 false)
theorem escape_digit.mono_l : ∀ k, (∀ y0 y1, LeO (escape_digit.j0 k y0 y1) (escape_digit.j0 (k + 1) y0 y1))
  | 0 => fun _ _ r h => by simp [escape_digit.j0] at h
  | k + 1 => by
    have ih0 := escape_digit.mono_l k
    · intro y0 y1
      unfold escape_digit.j0
      repeat' first
      | (with_reducible exact ih0 _ _)
      | (with_reducible exact LeO.refl _)
      | (with_reducible exact LeO.none _)
      | (with_reducible refine LeO.ite ?_ ?_)
      | (with_reducible refine LeO.bind ?_ (fun _ => ?_))
      | exact ih0 _ _
      | exact LeO.none _
      | refine LeO.ite ?_ ?_
      | refine LeO.bind ?_ (fun _ => ?_)
theorem escape_digit.mono : ∀ a0 k, LeO (escape_digit.f k a0) (escape_digit.f (k + 1) a0) := by
  intro a0 k
  have ih0 := escape_digit.mono_l k
  unfold escape_digit.f
  repeat' first
      | (with_reducible exact ih0 _ _)
      | (with_reducible exact LeO.refl _)
      | (with_reducible exact LeO.none _)
      | (with_reducible refine LeO.ite ?_ ?_)
      | (with_reducible refine LeO.bind ?_ (fun _ => ?_))
      | exact ih0 _ _
      | exact LeO.none _
      | refine LeO.ite ?_ ?_
      | refine LeO.bind ?_ (fun _ => ?_)
set_option maxHeartbeats 8000000 in
set_option maxRecDepth 100000 in
theorem escape_digit.calls (k : Nat) (a0 : Int) (r1 : Int) (r2 : Bool) (w : World) (h : escape_digit.f k a0 = some (r1, r2)) :
    Calls Tryd.prog 47 #[.int .u8 a0] w fun e w' => e = .returned (.tuple #[.int .i32 r1, .bool r2]) ∧ Drawn0 w w' := by
  have H : (if a0 ≥ 48 then (escape_digit.j0 k a0 (decide (a0 ≤ 57))) else (escape_digit.j0 k a0 false)) = some (r1, r2) := h
  clear h
  have HC2 := qA H
  clear H
  go_enter Tryd.func47, Tryd.ntmps47
  go_upto_region 1 with (fail)
  go_cut [4] (fun v4 wc => ∃ (kq : Nat) (x4_1 : Bool), v4 = .bool x4_1 ∧ Aside0 (escape_digit.j0 kq a0 x4_1 = some (r1, r2)) ∧ Aside0 (kq ≤ k) ∧ Drawn0 w wc)
  case first =>
    have H := HC2.out
    clear HC2
    by_cases c3 : a0 ≥ 48
    · rw [if_pos c3] at H
      have c3b0 : decide (48 ≤ a0) = true := decide_eq_true c3
      clear c3
      (first | rw [c3b0] | (simp only [i64_w, i32_w]; rw [c3b0]) | skip)
      have H' := qA H
      clear H
      go_wp2
      go_meet
      case rel => exact ⟨_, (decide (a0 ≤ 57)), (by first | rfl | (simp; done) | (simp [*]; done)), H', ⟨by first | omega | exact Nat.le_refl _⟩, by repeat (first | exact Drawn0.refl _ | apply Drawn0.step)⟩
    · rw [if_neg c3] at H
      have c3b0 : decide (48 ≤ a0) = false := decide_eq_false c3
      clear c3
      (first | rw [c3b0] | (simp only [i64_w, i32_w]; rw [c3b0]) | skip)
      have H' := qA H
      clear H
      go_wp2
      go_meet
      case rel => exact ⟨_, (false), (by first | rfl | (simp; done) | (simp [*]; done)), H', ⟨by first | omega | exact Nat.le_refl _⟩, by repeat (first | exact Drawn0.refl _ | apply Drawn0.step)⟩
  case rest =>
    clear HC2
    try clear p2
    try clear c3
    try clear c3b0
    obtain ⟨kq, x4_1, rfl, HA, HJ1, ⟨mc1, rfl⟩⟩ := hcut
    cases kq with
    | zero => exact absurd HA.out (by simp [escape_digit.j0])
    | succ kj1 =>
      have H := HA.out
      clear HA
      simp only [escape_digit.j0] at H
      by_cases c4 : x4_1 = true
      · subst c4
        have H1 : (some ((a0 - 48) % 256, true)) = some (r1, r2) := by rw [if_pos rfl] at H; exact H
        clear H
        have H := H1
        clear H1
        simp only [Option.some.injEq, Prod.mk.injEq] at H
        obtain ⟨rfl, rfl⟩ := H
        go_wp2
        go_ret2
        exact ⟨by first | rfl | (simp; done) | (simp [*]; done), by repeat (first | exact Drawn0.refl _ | apply Drawn0.step)⟩
      · replace c4 := Bool.eq_false_iff.mpr c4
        subst c4
        have H1 : (if a0 ≥ 65 then (if a0 ≤ 70 then (some (((a0 - 65) % 256) + 10, true)) else (some (0, false))) else (some (0, false))) = some (r1, r2) := by rw [if_neg (show ¬ (false = true) by decide)] at H; exact H
        clear H
        have H := H1
        clear H1
        by_cases c5 : a0 ≥ 65
        · rw [if_pos c5] at H
          have c5b0 : decide (65 ≤ a0) = true := decide_eq_true c5
          clear c5
          by_cases c6 : a0 ≤ 70
          · rw [if_pos c6] at H
            have c6b0 : decide (a0 ≤ 70) = true := decide_eq_true c6
            clear c6
            simp only [Option.some.injEq, Prod.mk.injEq] at H
            obtain ⟨rfl, rfl⟩ := H
            go_wp2
            go_ret2
            exact ⟨by first | rfl | (simp; done) | (simp [*]; done), by repeat (first | exact Drawn0.refl _ | apply Drawn0.step)⟩
          · rw [if_neg c6] at H
            have c6b0 : decide (a0 ≤ 70) = false := decide_eq_false c6
            clear c6
            simp only [Option.some.injEq, Prod.mk.injEq] at H
            obtain ⟨rfl, rfl⟩ := H
            go_wp2
            go_ret2
            exact ⟨by first | rfl | (simp; done) | (simp [*]; done), by repeat (first | exact Drawn0.refl _ | apply Drawn0.step)⟩
        · rw [if_neg c5] at H
          have c5b0 : decide (65 ≤ a0) = false := decide_eq_false c5
          clear c5
          simp only [Option.some.injEq, Prod.mk.injEq] at H
          obtain ⟨rfl, rfl⟩ := H
          go_wp2
          go_ret2
          exact ⟨by first | rfl | (simp; done) | (simp [*]; done), by repeat (first | exact Drawn0.refl _ | apply Drawn0.step)⟩
end Go.Proofs.YtdogljnddalgdaaDoor.A6
end
section
namespace Go.Proofs.YtdogljnddalgdaaDoor.A6
open Go.RowKit Go.Proofs.YtdogljnddalgdaaDoorW.PrintWords Go.Proofs.YtdogljnddalgdaaDoorW.PrintLast Go.Proofs.YtdogljnddalgdaaDoorW.PrintMore
open Go.Proofs.YtdogljnddalgdaaDoorW.PrintWords.Aside0 renaming mk → qA
attribute [local go_sem] max2_int min2_int max_two min_two max_three min_three max_four min_four   -- for this text's walks alone
set_option linter.unusedVariables false
set_option linter.unusedSimpArgs false
mutual
def escape_Name.j0 : Nat → ByteArray → Bool → Option (Int × Bool)
  | 0, _, _ => none
  | k + 1, x0, x30 => if x30 = true then (some (0, false)) else (escape_Name.l0 k x0 0 1)
def escape_Name.l0 : Nat → ByteArray → Int → Int → Option (Int × Bool)
  | 0, _, _, _ => none
  | k + 1, x0, x6, x7 => if x7 < (x0.size : Int) then (if 0 ≤ x7 then ((escape_digit.f k (bt x0 x7)).bind fun bt121 => (if bt121.2 = true then (escape_Name.l0 k x0 (Go.bits .or .i32 (wrap32 (x6 * 16)) bt121.1) (wrap64 (x7 + 1))) else (some (0, false)))) else (none)) else ((runes_Safe.f k x6).bind fun t123 => (if t123 = x6 then (some (x6, true)) else (some (0, false))))
end
def escape_Name.f (k : Nat) (a0 : ByteArray) : Option (Int × Bool) := if a0.size ≤ 9223372036854775807 then (if (look namesT a0).isSome = true then (some ((look namesT a0).getD 0, true)) else (if (a0.size : Int) < 5 then (escape_Name.j0 k a0 true) else (if (a0.size : Int) > 7 then (escape_Name.j0 k a0 true) else (if 0 < (a0.size : Int) then (escape_Name.j0 k a0 ((bt a0 0) != 117)) else (none))))) else (none)
theorem escape_Name.mono_l : ∀ k, (∀ y0 y1, LeO (escape_Name.j0 k y0 y1) (escape_Name.j0 (k + 1) y0 y1)) ∧ (∀ y0 y1 y2, LeO (escape_Name.l0 k y0 y1 y2) (escape_Name.l0 (k + 1) y0 y1 y2))
  | 0 => ⟨fun _ _ r h => by simp [escape_Name.j0] at h, fun _ _ _ r h => by simp [escape_Name.l0] at h⟩
  | k + 1 => by
    obtain ⟨ih0, ih1⟩ := escape_Name.mono_l k
    refine ⟨?_, ?_⟩
    · intro y0 y1
      unfold escape_Name.j0
      repeat' first
      | (with_reducible exact ih0 _ _)
      | (with_reducible exact ih1 _ _ _)
      | (with_reducible exact escape_digit.mono _ _)
      | (with_reducible exact runes_Safe.mono _ _)
      | (with_reducible exact LeO.refl _)
      | (with_reducible exact LeO.none _)
      | (with_reducible refine LeO.ite ?_ ?_)
      | (with_reducible refine LeO.bind ?_ (fun _ => ?_))
      | exact ih0 _ _
      | exact ih1 _ _ _
      | exact escape_digit.mono _ _
      | exact runes_Safe.mono _ _
      | exact LeO.none _
      | refine LeO.ite ?_ ?_
      | refine LeO.bind ?_ (fun _ => ?_)
    · intro y0 y1 y2
      unfold escape_Name.l0
      repeat' first
      | (with_reducible exact ih0 _ _)
      | (with_reducible exact ih1 _ _ _)
      | (with_reducible exact escape_digit.mono _ _)
      | (with_reducible exact runes_Safe.mono _ _)
      | (with_reducible exact LeO.refl _)
      | (with_reducible exact LeO.none _)
      | (with_reducible refine LeO.ite ?_ ?_)
      | (with_reducible refine LeO.bind ?_ (fun _ => ?_))
      | exact ih0 _ _
      | exact ih1 _ _ _
      | exact escape_digit.mono _ _
      | exact runes_Safe.mono _ _
      | exact LeO.none _
      | refine LeO.ite ?_ ?_
      | refine LeO.bind ?_ (fun _ => ?_)
theorem escape_Name.mono : ∀ a0 k, LeO (escape_Name.f k a0) (escape_Name.f (k + 1) a0) := by
  intro a0 k
  obtain ⟨ih0, ih1⟩ := escape_Name.mono_l k
  unfold escape_Name.f
  repeat' first
      | (with_reducible exact ih0 _ _)
      | (with_reducible exact ih1 _ _ _)
      | (with_reducible exact escape_digit.mono _ _)
      | (with_reducible exact runes_Safe.mono _ _)
      | (with_reducible exact LeO.refl _)
      | (with_reducible exact LeO.none _)
      | (with_reducible refine LeO.ite ?_ ?_)
      | (with_reducible refine LeO.bind ?_ (fun _ => ?_))
      | exact ih0 _ _
      | exact ih1 _ _ _
      | exact escape_digit.mono _ _
      | exact runes_Safe.mono _ _
      | exact LeO.none _
      | refine LeO.ite ?_ ?_
      | refine LeO.bind ?_ (fun _ => ?_)
set_option maxHeartbeats 8000000 in
set_option maxRecDepth 100000 in
theorem escape_Name.calls (k : Nat) (a0 : ByteArray) (r1 : Int) (r2 : Bool) (w : World) (hG : GL w) (h : escape_Name.f k a0 = some (r1, r2)) :
    Calls Tryd.prog 19 #[.string a0] w fun e w' => e = .returned (.tuple #[.int .i32 r1, .bool r2]) ∧ Drawn0 w w' := by
  have HG := qA hG
  clear hG
  have H : (if a0.size ≤ 9223372036854775807 then (if (look namesT a0).isSome = true then (some ((look namesT a0).getD 0, true)) else (if (a0.size : Int) < 5 then (escape_Name.j0 k a0 true) else (if (a0.size : Int) > 7 then (escape_Name.j0 k a0 true) else (if 0 < (a0.size : Int) then (escape_Name.j0 k a0 ((bt a0 0) != 117)) else (none))))) else (none)) = some (r1, r2) := h
  clear h
  by_cases c2 : a0.size ≤ 9223372036854775807
  · rw [if_pos c2] at H
    have c2b0 := eq_true c2
    have c2b1 : decide (a0.size ≤ 9223372036854775807) = true := decide_eq_true c2
    try have c2b2 : (9223372036854775807 < a0.size) = False := eq_false (Nat.not_lt.2 c2)
    clear c2
    obtain ⟨bgl120, hcgl120, hrgl120⟩ := GL.look_namesT HG.out a0 (of_decide_eq_true (by first | (with_reducible assumption) | assumption))
    by_cases c3 : (look namesT a0).isSome = true
    · rw [if_pos c3] at H
      have c3b0 : (look namesT a0).isSome = true := c3
      clear c3
      simp only [Option.some.injEq, Prod.mk.injEq] at H
      obtain ⟨rfl, rfl⟩ := H
      go_enter Tryd.func19, Tryd.ntmps19
      go_wp2
      go_ret2
      exact ⟨by first | rfl | (simp; done) | (simp [*]; done), by repeat (first | exact Drawn0.refl _ | apply Drawn0.step)⟩
    · rw [if_neg c3] at H
      have c3b0 : (look namesT a0).isSome = false := by simpa using c3
      clear c3
      have HC4 := qA H
      clear H
      go_enter Tryd.func19, Tryd.ntmps19
      go_upto_region 4 with (fail)
      go_cut [30] (fun v30 wc => ∃ (kq : Nat) (x30_3 : Bool), v30 = .bool x30_3 ∧ Aside0 (escape_Name.j0 kq a0 x30_3 = some (r1, r2)) ∧ Aside0 (kq ≤ k) ∧ Drawn0 w wc)
      case first =>
        have H := HC4.out
        clear HC4
        by_cases c5 : (a0.size : Int) < 5
        · rw [if_pos c5] at H
          have c5b0 : decide ((a0.size : Int) < 5) = true := decide_eq_true c5
          have c5b1 : decide (a0.size < 5) = true := decide_eq_true (by omega)
          clear c5
          (first | rw [c5b0] | (simp only [i64_w, i32_w]; rw [c5b0]) | skip)
          have H' := qA H
          clear H
          go_wp2
          go_meet
          case rel => exact ⟨_, (true), (by first | rfl | (simp; done) | (simp [*]; done)), H', ⟨by first | omega | exact Nat.le_refl _⟩, by repeat (first | exact Drawn0.refl _ | apply Drawn0.step)⟩
        · rw [if_neg c5] at H
          have c5b0 : decide ((a0.size : Int) < 5) = false := decide_eq_false c5
          have c5b1 : decide (a0.size < 5) = false := decide_eq_false (by omega)
          clear c5
          (first | rw [c5b0] | (simp only [i64_w, i32_w]; rw [c5b0]) | skip)
          by_cases c6 : (a0.size : Int) > 7
          · rw [if_pos c6] at H
            have c6b0 : decide (7 < (a0.size : Int)) = true := decide_eq_true c6
            have c6b1 : decide (7 < a0.size) = true := decide_eq_true (by omega)
            clear c6
            have H' := qA H
            clear H
            go_wp2
            go_meet
            case rel => exact ⟨_, (true), (by first | rfl | (simp; done) | (simp [*]; done)), H', ⟨by first | omega | exact Nat.le_refl _⟩, by repeat (first | exact Drawn0.refl _ | apply Drawn0.step)⟩
          · rw [if_neg c6] at H
            have c6b0 : decide (7 < (a0.size : Int)) = false := decide_eq_false c6
            have c6b1 : decide (7 < a0.size) = false := decide_eq_false (by omega)
            clear c6
            by_cases c7 : 0 < (a0.size : Int)
            · rw [if_pos c7] at H
              have c7b0 : decide (0 < (a0.size : Int)) = true := decide_eq_true c7
              have c7b1 : decide (0 < a0.size) = true := decide_eq_true (by omega)
              clear c7
              have H' := qA H
              clear H
              have p8 : 0 ≤ (0 : Int) := (by omega)
              have q8 : 0 < a0.size := (by have : (0 : Int) < (a0.size : Int) := of_decide_eq_true (by first | (with_reducible assumption) | assumption); omega)
              have hx8 : ∀ h : 0 < a0.size, ((a0[0]'h).toNat : Int) = bt a0 0 := bt_at a0 0
              clear p8
              have qi8 : (0 < (a0.size : Int)) = True := eq_true (of_decide_eq_true (by first | (with_reducible assumption) | assumption))
              replace q8 := eq_true q8
              go_wp2
              go_meet
              case rel => exact ⟨_, (((bt a0 0) != 117)), (by first | rfl | (simp; done) | (simp [*]; done)), H', ⟨by first | omega | exact Nat.le_refl _⟩, by repeat (first | exact Drawn0.refl _ | apply Drawn0.step)⟩
            · rw [if_neg c7] at H
              exact absurd H (by simp)
      case rest =>
        clear HC4
        try clear c1
        try clear c2
        try clear c2b0
        try clear c2b1
        try clear c2b2
        try clear p2
        try clear c3
        try clear c3b0
        try clear c5
        try clear c5b0
        try clear c5b1
        try clear c6
        try clear c6b0
        try clear c6b1
        try clear c7
        try clear c7b0
        try clear c7b1
        try clear p8
        try clear q8
        try clear hx8
        try clear qi8
        try clear p8
        try clear q8
        obtain ⟨kq, x30_3, rfl, HA, HJ3, ⟨mc3, rfl⟩⟩ := hcut
        cases kq with
        | zero => exact absurd HA.out (by simp [escape_Name.j0])
        | succ kj3 =>
          have H := HA.out
          clear HA
          simp only [escape_Name.j0] at H
          by_cases c9 : x30_3 = true
          · subst c9
            have H1 : (some (0, false)) = some (r1, r2) := by rw [if_pos rfl] at H; exact H
            clear H
            have H := H1
            clear H1
            simp only [Option.some.injEq, Prod.mk.injEq] at H
            obtain ⟨rfl, rfl⟩ := H
            go_wp2
            go_ret2
            exact ⟨by first | rfl | (simp; done) | (simp [*]; done), by repeat (first | exact Drawn0.refl _ | apply Drawn0.step)⟩
          · replace c9 := Bool.eq_false_iff.mpr c9
            subst c9
            have H1 : (escape_Name.l0 kj3 a0 0 1) = some (r1, r2) := by rw [if_neg (show ¬ (false = true) by decide)] at H; exact H
            clear H
            have H := H1
            clear H1
            have H' := qA H
            clear H
            go_wp2
            go_loopg [6, 7] kj3 (fun kq v6 v7 w' => ∃ (x6_2 : Int) (x7_2 : Int), v6 = .int .i32 x6_2 ∧ v7 = .int .i64 x7_2 ∧ Aside0 (escape_Name.l0 kq a0 x6_2 x7_2 = some (r1, r2)) ∧ Aside0 (kq ≤ kj3) ∧ Drawn0 w w')
            case atStart => exact ⟨(0), (1), (by first | rfl | (simp; done) | (simp [*]; done)), (by first | rfl | (simp; done) | (simp [*]; done)), H', ⟨Nat.le_refl _⟩, by repeat (first | exact Drawn0.refl _ | apply Drawn0.step)⟩
            case round =>
              clear H'
              try clear c1
              try clear c2
              try clear c2b0
              try clear c2b1
              try clear c2b2
              try clear p2
              try clear c3
              try clear c3b0
              try clear c5
              try clear c5b0
              try clear c5b1
              try clear c6
              try clear c6b0
              try clear c6b1
              try clear c7
              try clear c7b0
              try clear c7b1
              try clear p8
              try clear q8
              try clear hx8
              try clear qi8
              try clear c9
              try clear p2
              try clear p8
              try clear q8
              obtain ⟨x6_2, x7_2, rfl, rfl, HA, HK2, ⟨m2, rfl⟩⟩ := hrel
              cases gk with
              | zero => exact absurd HA.out (by simp [escape_Name.l0])
              | succ k2 =>
                have H := HA.out
                clear HA
                simp only [escape_Name.l0] at H
                by_cases c10 : x7_2 < (a0.size : Int)
                · rw [if_pos c10] at H
                  have c10b0 : decide (x7_2 < (a0.size : Int)) = true := decide_eq_true c10
                  clear c10
                  by_cases c11 : 0 ≤ x7_2
                  · rw [if_pos c11] at H
                    have c11b0 : decide (0 ≤ x7_2) = true := decide_eq_true c11
                    clear c11
                    replace H := Option.bind_eq_some_iff.mp H
                    obtain ⟨⟨t121, t122⟩, A130, H⟩ := H
                    replace H : (if t122 = true then (escape_Name.l0 k2 a0 (Go.bits .or .i32 (wrap32 (x6_2 * 16)) t121) (wrap64 (x7_2 + 1))) else (some (0, false))) = some (r1, r2) := H
                    have A13 := qA A130
                    clear A130
                    by_cases c14 : t122 = true
                    · subst c14
                      have H1 : (escape_Name.l0 k2 a0 (Go.bits .or .i32 (wrap32 (x6_2 * 16)) t121) (wrap64 (x7_2 + 1))) = some (r1, r2) := by rw [if_pos rfl] at H; exact H
                      clear H
                      have H := H1
                      clear H1
                      have H' := qA H
                      clear H
                      have p12 : 0 ≤ (x7_2 : Int) := of_decide_eq_true (by first | (with_reducible assumption) | assumption)
                      have q12 : x7_2 < (a0.size : Int) := of_decide_eq_true (by first | (with_reducible assumption) | assumption)
                      have hx12 := bt_at a0 x7_2
                      replace p12 := eq_true p12
                      replace q12 := eq_true q12
                      go_wp2_with (first | ((with_reducible refine gate_callee (f := 47) rfl ?_); refine goesL_ (some 41) rfl rfl Tryd.func47 (by kernel_rfl) rfl #[.int .u8 (bt a0 x7_2)] rfl (by (try simp only [List.map_toArray, List.map_cons, List.map_nil]); first | done | rfl | (simp only [List.length_drop, List.length_take]; rfl)) ?_; (with_reducible refine (escape_digit.calls k2 (bt a0 x7_2) t121 true _ A13.out).mono ?_); rintro e w' ⟨rfl, ⟨nd, rfl⟩⟩; refine ⟨_, rfl, ?_⟩))
                      go_roundg k2
                      case measure => have := HJ3.out; have := HK2.out; omega
                      case rel => exact ⟨(Go.bits .or .i32 (wrap32 (x6_2 * 16)) t121), (wrap64 (x7_2 + 1)), (by first | rfl | (simp; done) | (simp [*]; done)), (by first | rfl | (simp; done) | (simp [*]; done)), H', ⟨by have := HJ3.out; have := HK2.out; omega⟩, by repeat (first | exact Drawn0.refl _ | apply Drawn0.step)⟩
                    · replace c14 := Bool.eq_false_iff.mpr c14
                      subst c14
                      have H1 : (some (0, false)) = some (r1, r2) := by rw [if_neg (show ¬ (false = true) by decide)] at H; exact H
                      clear H
                      have H := H1
                      clear H1
                      simp only [Option.some.injEq, Prod.mk.injEq] at H
                      obtain ⟨rfl, rfl⟩ := H
                      have p12 : 0 ≤ (x7_2 : Int) := of_decide_eq_true (by first | (with_reducible assumption) | assumption)
                      have q12 : x7_2 < (a0.size : Int) := of_decide_eq_true (by first | (with_reducible assumption) | assumption)
                      have hx12 := bt_at a0 x7_2
                      replace p12 := eq_true p12
                      replace q12 := eq_true q12
                      go_wp2_with (first | ((with_reducible refine gate_callee (f := 47) rfl ?_); refine goesL_ (some 41) rfl rfl Tryd.func47 (by kernel_rfl) rfl #[.int .u8 (bt a0 x7_2)] rfl (by (try simp only [List.map_toArray, List.map_cons, List.map_nil]); first | done | rfl | (simp only [List.length_drop, List.length_take]; rfl)) ?_; (with_reducible refine (escape_digit.calls k2 (bt a0 x7_2) t121 false _ A13.out).mono ?_); rintro e w' ⟨rfl, ⟨nd, rfl⟩⟩; refine ⟨_, rfl, ?_⟩))
                      go_ret2
                      exact ⟨by first | rfl | (simp; done) | (simp [*]; done), by repeat (first | exact Drawn0.refl _ | apply Drawn0.step)⟩
                  · rw [if_neg c11] at H
                    exact absurd H (by simp)
                · rw [if_neg c10] at H
                  have c10b0 : decide (x7_2 < (a0.size : Int)) = false := decide_eq_false c10
                  clear c10
                  replace H := Option.bind_eq_some_iff.mp H
                  obtain ⟨t123, A150, H⟩ := H
                  replace H : (if t123 = x6_2 then (some (x6_2, true)) else (some (0, false))) = some (r1, r2) := H
                  have A15 := qA A150
                  clear A150
                  by_cases c16 : t123 = x6_2
                  · rw [if_pos c16] at H
                    have c16b0 : (t123 == x6_2) = true := beq_iff_eq.mpr c16
                    have c16b1 : (t123 != x6_2) = false := bne_eq_false_iff_eq.mpr c16
                    clear c16
                    simp only [Option.some.injEq, Prod.mk.injEq] at H
                    obtain ⟨rfl, rfl⟩ := H
                    go_wp2_with (first | ((with_reducible refine gate_callee (f := 48) rfl ?_); refine goesL_ (some 51) rfl rfl Tryd.func48 (by kernel_rfl) rfl #[.int .i32 x6_2] rfl (by (try simp only [List.map_toArray, List.map_cons, List.map_nil]); first | done | rfl | (simp only [List.length_drop, List.length_take]; rfl)) ?_; (with_reducible refine (runes_Safe.calls k2 x6_2 t123 _ A15.out).mono ?_); rintro e w' ⟨rfl, ⟨nd, rfl⟩⟩; refine ⟨_, rfl, ?_⟩))
                    go_ret2
                    exact ⟨by first | rfl | (simp; done) | (simp [*]; done), by repeat (first | exact Drawn0.refl _ | apply Drawn0.step)⟩
                  · rw [if_neg c16] at H
                    have c16b0 : (t123 == x6_2) = false := beq_eq_false_iff_ne.mpr c16
                    have c16b1 : (t123 != x6_2) = true := bne_iff_ne.mpr c16
                    simp only [Option.some.injEq, Prod.mk.injEq] at H
                    obtain ⟨rfl, rfl⟩ := H
                    go_wp2_with (first | ((with_reducible refine gate_callee (f := 48) rfl ?_); refine goesL_ (some 51) rfl rfl Tryd.func48 (by kernel_rfl) rfl #[.int .i32 x6_2] rfl (by (try simp only [List.map_toArray, List.map_cons, List.map_nil]); first | done | rfl | (simp only [List.length_drop, List.length_take]; rfl)) ?_; (with_reducible refine (runes_Safe.calls k2 x6_2 t123 _ A15.out).mono ?_); rintro e w' ⟨rfl, ⟨nd, rfl⟩⟩; refine ⟨_, rfl, ?_⟩))
                    go_ret2
                    exact ⟨by first | rfl | (simp; done) | (simp [*]; done), by repeat (first | exact Drawn0.refl _ | apply Drawn0.step)⟩
  · rw [if_neg c2] at H
    exact absurd H (by simp)
def escape_Font.f (a0 : ByteArray) : Option (Int × Bool) := if a0.size ≤ 9223372036854775807 then (some ((look fontsT a0).getD 0, (look fontsT a0).isSome)) else (none)
set_option maxHeartbeats 8000000 in
set_option maxRecDepth 100000 in
theorem escape_Font.calls (a0 : ByteArray) (r1 : Int) (r2 : Bool) (w : World) (hG : GL w) (h : escape_Font.f a0 = some (r1, r2)) :
    Calls Tryd.prog 20 #[.string a0] w fun e w' => e = .returned (.tuple #[.int .i32 r1, .bool r2]) ∧ Drawn0 w w' := by
  have HG := qA hG
  clear hG
  have H : (if a0.size ≤ 9223372036854775807 then (some ((look fontsT a0).getD 0, (look fontsT a0).isSome)) else (none)) = some (r1, r2) := h
  clear h
  by_cases c2 : a0.size ≤ 9223372036854775807
  · rw [if_pos c2] at H
    have c2b0 := eq_true c2
    have c2b1 : decide (a0.size ≤ 9223372036854775807) = true := decide_eq_true c2
    try have c2b2 : (9223372036854775807 < a0.size) = False := eq_false (Nat.not_lt.2 c2)
    clear c2
    obtain ⟨bgl124, hcgl124, hrgl124⟩ := GL.look_fontsT HG.out a0 (of_decide_eq_true (by first | (with_reducible assumption) | assumption))
    simp only [Option.some.injEq, Prod.mk.injEq] at H
    obtain ⟨rfl, rfl⟩ := H
    go_enter Tryd.func20, Tryd.ntmps20
    go_wp2
    go_ret2
    exact ⟨by first | rfl | (simp; done) | (simp [*]; done), by repeat (first | exact Drawn0.refl _ | apply Drawn0.step)⟩
  · rw [if_neg c2] at H
    exact absurd H (by simp)
end Go.Proofs.YtdogljnddalgdaaDoor.A6
end
section
namespace Go.Proofs.YtdogljnddalgdaaDoor.A6
open Go.RowKit Go.Proofs.YtdogljnddalgdaaDoorW.PrintWords Go.Proofs.YtdogljnddalgdaaDoorW.PrintLast Go.Proofs.YtdogljnddalgdaaDoorW.PrintMore
open Go.Proofs.YtdogljnddalgdaaDoorW.PrintWords.Aside0 renaming mk → qA
open Go.Proofs.YtdogljnddalgdaaDoorW.PrintWords renaming pw_below_drewN → qB, below_drew1 → qF, below_alloc → qG
open Go.Proofs.YtdogljnddalgdaaDoorW.PrintWords.Kd renaming R_drewN → qI, R_alloc → qJ, R_drew → qK, R_lower → qW
attribute [local go_sem] max2_int min2_int max_two min_two max_three min_three max_four min_four   -- for this text's walks alone
set_option linter.unusedVariables false
set_option linter.unusedSimpArgs false
mutual
def flongref04_Name.l0 : Nat → ByteArray → List ByteArray → List Int → Int → Option (Int)
  | 0, _, _, _, _ => none
  | k + 1, x0, x3, x4, x5 => if x5 < (x3.length : Int) then (if 0 ≤ x5 then (if (rdOf ByteArray.empty x3 x5).toList = x0.toList then (if x5 < (x4.length : Int) then (some (wrap64 (rd x4 x5))) else (none)) else (flongref04_Name.l0 k x0 x3 x4 (wrap64 (x5 + 1)))) else (none)) else (if (x0.size : Int) < 5 then (flongref04_Name.j1 k x0 true) else (if (x0.size : Int) > 7 then (flongref04_Name.j1 k x0 true) else (if 0 < (x0.size : Int) then (flongref04_Name.j1 k x0 ((bt x0 0) != 117)) else (none))))
def flongref04_Name.j1 : Nat → ByteArray → Bool → Option (Int)
  | 0, _, _ => none
  | k + 1, x0, x42 => if x42 = true then (some (-1)) else (flongref04_Name.l1 k x0 0 1)
def flongref04_Name.l1 : Nat → ByteArray → Int → Int → Option (Int)
  | 0, _, _, _ => none
  | k + 1, x0, x6, x7 => if x7 < (x0.size : Int) then (if 0 ≤ x7 then (if (wrap64 (bt x0 x7)) ≥ 48 then (flongref04_Name.j3 k x0 x6 x7 (wrap64 (bt x0 x7)) (decide ((wrap64 (bt x0 x7)) ≤ 57))) else (flongref04_Name.j3 k x0 x6 x7 (wrap64 (bt x0 x7)) false)) else (none)) else (if x6 > 1114111 then (some (-1)) else ((flongref02_Safe.f (wrap32 (x6))).bind fun t248 => (if t248 = (wrap32 (x6)) then (some x6) else (some (-1)))))
def flongref04_Name.j3 : Nat → ByteArray → Int → Int → Int → Bool → Option (Int)
  | 0, _, _, _, _, _ => none
  | k + 1, x0, x6, x7, x8, x58 => if x58 = true then (flongref04_Name.l1 k x0 (wrap64 ((wrap64 ((wrap64 (16 * x6)) + x8)) - 48)) (wrap64 (x7 + 1))) else (if x8 ≥ 65 then (if x8 ≤ 70 then (flongref04_Name.l1 k x0 (wrap64 ((wrap64 ((wrap64 (16 * x6)) + x8)) - 55)) (wrap64 (x7 + 1))) else (some (-1))) else (some (-1)))
end
def flongref04_Name.f (k : Nat) (a0 : ByteArray) : Option (Int) := (flongref04_all.f).bind fun bt240 => (flongref04_Name.l0 k a0 bt240.1 bt240.2 0)
set_option maxHeartbeats 8000000 in
set_option maxRecDepth 100000 in
theorem flongref04_Name.calls (k : Nat) (a0 : ByteArray) (r : Int) (w : World) (h : flongref04_Name.f k a0 = some r) :
    Calls Tryd.prog 21 #[.string a0] w fun e w' => e = .returned (.int .i64 r) ∧ Below w.heap.size w w' := by
  have HB := qA (Below.refl w.heap.size w)
  have H : ((flongref04_all.f).bind fun bt240 => (flongref04_Name.l0 k a0 bt240.1 bt240.2 0)) = some r := h
  clear h
  replace H := Option.bind_eq_some_iff.mp H
  obtain ⟨⟨t240, t241⟩, A20, H⟩ := H
  replace H : (flongref04_Name.l0 k a0 t240 t241 0) = some r := H
  have A2 := qA A20
  clear A20
  have H' := qA H
  clear H
  go_enter Tryd.func21, Tryd.ntmps21
  go_wp2_with (first | ((with_reducible refine gate_callee (f := 49) rfl ?_); refine goesL_ (some 10) rfl rfl Tryd.func49 (by kernel_rfl) rfl #[] rfl (by (try simp only [List.map_toArray, List.map_cons, List.map_nil]); first | done | rfl | (simp only [List.length_drop, List.length_take]; rfl)) ?_; (with_reducible refine (flongref04_all.calls  t240 t241 _ A2.out).mono ?_); rintro e w3 ⟨v242, v244, rfl, ho0, ho1, hb⟩; refine ⟨_, rfl, ?_⟩; have n0_ := qA (qW ho0 (below_size (by repeat (first | (with_reducible first | exact HB.out | apply qG | apply qB | apply qF) | exact HB.out)))); have n1_ := qA (qW ho1 (below_size (by repeat (first | (with_reducible first | exact HB.out | apply qG | apply qB | apply qF) | exact HB.out)))); have n2_ := qA (below_step (by repeat (first | (with_reducible first | exact HB.out | apply qG | apply qB | apply qF) | exact HB.out)) hb); clear HB; have HO243 := n0_; have HO245 := n1_; have HB := n2_; clear n0_ n1_ n2_; (try clear hb); (try clear hb2); (try clear hk); (try clear hi); (try clear ho0); (try clear ho1)))
  go_loopg [5] k (fun kq v5 w' => ∃ (x5_1 : Int), v5 = .int .i64 x5_1 ∧ Aside0 (flongref04_Name.l0 kq a0 t240 t241 x5_1 = some r) ∧ Aside0 (kq ≤ k) ∧ Aside0 (Kd.R Kd.string 9 w' w.heap.size (fun _ => True) v242 t240) ∧ Aside0 (Kd.R (Kd.int .i32) 21 w' w.heap.size (fun _ => True) v244 t241) ∧ Aside0 (Below w.heap.size w w'))
  case atStart => exact ⟨(0), (by first | rfl | (simp; done) | (simp [*]; done)), H', ⟨Nat.le_refl _⟩, ⟨by (with_reducible repeat (first | apply qJ | apply qI | apply qK)); exact HO243.out⟩, ⟨by (with_reducible repeat (first | apply qJ | apply qI | apply qK)); exact HO245.out⟩, ⟨by repeat (first | (with_reducible first | exact HB.out | apply qG | apply qB | apply qF) | exact HB.out)⟩⟩
  case round =>
    clear H'
    try clear c2
    try clear p2
    obtain ⟨x5_1, rfl, HA, HK1, HO_3, HO_4, HB⟩ := hrel
    cases gk with
    | zero => exact absurd HA.out (by simp [flongref04_Name.l0])
    | succ k1 =>
      have H := HA.out
      clear HA
      simp only [flongref04_Name.l0] at H
      by_cases c4 : x5_1 < (t240.length : Int)
      · rw [if_pos c4] at H
        have c4b0 : decide (x5_1 < (t240.length : Int)) = true := decide_eq_true c4
        clear c4
        by_cases c5 : 0 ≤ x5_1
        · rw [if_pos c5] at H
          have c5b0 : decide (0 ≤ x5_1) = true := decide_eq_true c5
          clear c5
          by_cases c6 : (rdOf ByteArray.empty t240 x5_1).toList = a0.toList
          · rw [if_pos c6] at H
            have c6b0 : ((rdOf ByteArray.empty t240 x5_1).toList == a0.toList) = true := beq_iff_eq.mpr c6
            have c6b1 : ((rdOf ByteArray.empty t240 x5_1).toList != a0.toList) = false := bne_eq_false_iff_eq.mpr c6
            clear c6
            by_cases c7 : x5_1 < (t241.length : Int)
            · rw [if_pos c7] at H
              have c7b0 : decide (x5_1 < (t241.length : Int)) = true := decide_eq_true c7
              clear c7
              obtain rfl := Option.some.inj H
              obtain ⟨Ao8, co8, eo8⟩ := Kd.R_slice HO_3.out
              subst eo8
              have p246 : 0 ≤ (x5_1 : Int) := of_decide_eq_true (by first | (with_reducible assumption) | assumption)
              have q246 : x5_1 < (t240.length : Int) := of_decide_eq_true (by first | (with_reducible assumption) | assumption)
              obtain ⟨ad246, e246, hx246_0⟩ := Kd.at_string (Kd.R_reads' HO_3.out).2.2 x5_1 p246 q246
              cases e246
              replace p246 := eq_true p246
              replace q246 := eq_true q246
              obtain ⟨Ao9, co9, eo9⟩ := Kd.R_slice HO_4.out
              subst eo9
              have p247 : 0 ≤ (x5_1 : Int) := of_decide_eq_true (by first | (with_reducible assumption) | assumption)
              have q247 : x5_1 < (t241.length : Int) := of_decide_eq_true (by first | (with_reducible assumption) | assumption)
              obtain ⟨ad247, e247, hx247_0⟩ := Kd.at_int (Kd.R_reads' HO_4.out).2.2 x5_1 p247 q247
              cases e247
              replace p247 := eq_true p247
              replace q247 := eq_true q247
              go_wp2
              go_ret
              exact ⟨by first | rfl | (simp [errW_none, errW_some] <;> rfl) | (simp [*, errW_none, errW_some] <;> rfl), by repeat (first | (with_reducible first | exact HB.out | apply qG | apply qB | apply qF) | exact HB.out)⟩
            · rw [if_neg c7] at H
              exact absurd H (by simp)
          · rw [if_neg c6] at H
            have c6b0 : ((rdOf ByteArray.empty t240 x5_1).toList == a0.toList) = false := beq_eq_false_iff_ne.mpr c6
            have c6b1 : ((rdOf ByteArray.empty t240 x5_1).toList != a0.toList) = true := bne_iff_ne.mpr c6
            have H' := qA H
            clear H
            obtain ⟨Ao10, co10, eo10⟩ := Kd.R_slice HO_3.out
            subst eo10
            have p246 : 0 ≤ (x5_1 : Int) := of_decide_eq_true (by first | (with_reducible assumption) | assumption)
            have q246 : x5_1 < (t240.length : Int) := of_decide_eq_true (by first | (with_reducible assumption) | assumption)
            obtain ⟨ad246, e246, hx246_0⟩ := Kd.at_string (Kd.R_reads' HO_3.out).2.2 x5_1 p246 q246
            cases e246
            replace p246 := eq_true p246
            replace q246 := eq_true q246
            go_wp2
            go_roundg k1
            case measure => have := HK1.out; omega
            case rel => exact ⟨(wrap64 (x5_1 + 1)), (by first | rfl | (simp; done) | (simp [*]; done)), H', ⟨by have := HK1.out; omega⟩, ⟨by (with_reducible repeat (first | apply qJ | apply qI | apply qK)); exact HO_3.out⟩, ⟨by (with_reducible repeat (first | apply qJ | apply qI | apply qK)); exact HO_4.out⟩, ⟨by repeat (first | (with_reducible first | exact HB.out | apply qG | apply qB | apply qF) | exact HB.out)⟩⟩
        · rw [if_neg c5] at H
          exact absurd H (by simp)
      · rw [if_neg c4] at H
        have c4b0 : decide (x5_1 < (t240.length : Int)) = false := decide_eq_false c4
        clear c4
        have HC11 := qA H
        clear H
        obtain ⟨Ao12, co12, eo12⟩ := Kd.R_slice HO_3.out
        subst eo12
        go_upto_region 7 with (fail)
        go_cut [42] (fun v42 wc => ∃ (kq : Nat) (x42_10 : Bool), v42 = .bool x42_10 ∧ Aside0 (flongref04_Name.j1 kq a0 x42_10 = some r) ∧ Aside0 (kq ≤ k1) ∧ Aside0 (Below w.heap.size w wc))
        case first =>
          have H := HC11.out
          clear HC11
          by_cases c13 : (a0.size : Int) < 5
          · rw [if_pos c13] at H
            have c13b0 : decide ((a0.size : Int) < 5) = true := decide_eq_true c13
            have c13b1 : decide (a0.size < 5) = true := decide_eq_true (by omega)
            clear c13
            (first | rw [c13b0] | (simp only [i64_w, i32_w]; rw [c13b0]) | skip)
            have H' := qA H
            clear H
            go_wp2
            go_meet
            case rel => exact ⟨_, (true), (by first | rfl | (simp; done) | (simp [*]; done)), H', ⟨by have := HK1.out; first | omega | exact Nat.le_refl _⟩, ⟨by repeat (first | (with_reducible first | exact HB.out | apply qG | apply qB | apply qF) | exact HB.out)⟩⟩
          · rw [if_neg c13] at H
            have c13b0 : decide ((a0.size : Int) < 5) = false := decide_eq_false c13
            have c13b1 : decide (a0.size < 5) = false := decide_eq_false (by omega)
            clear c13
            (first | rw [c13b0] | (simp only [i64_w, i32_w]; rw [c13b0]) | skip)
            by_cases c14 : (a0.size : Int) > 7
            · rw [if_pos c14] at H
              have c14b0 : decide (7 < (a0.size : Int)) = true := decide_eq_true c14
              have c14b1 : decide (7 < a0.size) = true := decide_eq_true (by omega)
              clear c14
              have H' := qA H
              clear H
              go_wp2
              go_meet
              case rel => exact ⟨_, (true), (by first | rfl | (simp; done) | (simp [*]; done)), H', ⟨by have := HK1.out; first | omega | exact Nat.le_refl _⟩, ⟨by repeat (first | (with_reducible first | exact HB.out | apply qG | apply qB | apply qF) | exact HB.out)⟩⟩
            · rw [if_neg c14] at H
              have c14b0 : decide (7 < (a0.size : Int)) = false := decide_eq_false c14
              have c14b1 : decide (7 < a0.size) = false := decide_eq_false (by omega)
              clear c14
              by_cases c15 : 0 < (a0.size : Int)
              · rw [if_pos c15] at H
                have c15b0 : decide (0 < (a0.size : Int)) = true := decide_eq_true c15
                have c15b1 : decide (0 < a0.size) = true := decide_eq_true (by omega)
                clear c15
                have H' := qA H
                clear H
                have p16 : 0 ≤ (0 : Int) := (by omega)
                have q16 : 0 < a0.size := (by have : (0 : Int) < (a0.size : Int) := of_decide_eq_true (by first | (with_reducible assumption) | assumption); omega)
                have hx16 : ∀ h : 0 < a0.size, ((a0[0]'h).toNat : Int) = bt a0 0 := bt_at a0 0
                clear p16
                have qi16 : (0 < (a0.size : Int)) = True := eq_true (of_decide_eq_true (by first | (with_reducible assumption) | assumption))
                replace q16 := eq_true q16
                go_wp2
                go_meet
                case rel => exact ⟨_, (((bt a0 0) != 117)), (by first | rfl | (simp; done) | (simp [*]; done)), H', ⟨by have := HK1.out; first | omega | exact Nat.le_refl _⟩, ⟨by repeat (first | (with_reducible first | exact HB.out | apply qG | apply qB | apply qF) | exact HB.out)⟩⟩
              · rw [if_neg c15] at H
                exact absurd H (by simp)
        case rest =>
          clear HC11
          try clear c1
          try clear p1
          try clear q1
          try clear hx1
          try clear qi1
          try clear c2
          try clear p2
          try clear q2
          try clear hx2
          try clear c4
          try clear c4b0
          try clear c5
          try clear c5b0
          try clear c6
          try clear c6b0
          try clear c6b1
          try clear p6
          try clear c7
          try clear c7b0
          try clear c13
          try clear c13b0
          try clear c13b1
          try clear c14
          try clear c14b0
          try clear c14b1
          try clear c15
          try clear c15b0
          try clear c15b1
          try clear p16
          try clear q16
          try clear hx16
          try clear qi16
          try clear hx246_0
          try clear hx247_0
          try clear p16
          try clear p2
          try clear p246
          try clear p247
          try clear q16
          try clear q246
          try clear q247
          obtain ⟨kq, x42_10, rfl, HA, HJ10, HB⟩ := hcut
          cases kq with
          | zero => exact absurd HA.out (by simp [flongref04_Name.j1])
          | succ kj10 =>
            have H := HA.out
            clear HA
            simp only [flongref04_Name.j1] at H
            by_cases c17 : x42_10 = true
            · subst c17
              have H1 : (some (-1)) = some r := by rw [if_pos rfl] at H; exact H
              clear H
              have H := H1
              clear H1
              obtain rfl := Option.some.inj H
              go_wp2
              go_ret
              exact ⟨by first | rfl | (simp [errW_none, errW_some] <;> rfl) | (simp [*, errW_none, errW_some] <;> rfl), by repeat (first | (with_reducible first | exact HB.out | apply qG | apply qB | apply qF) | exact HB.out)⟩
            · replace c17 := Bool.eq_false_iff.mpr c17
              subst c17
              have H1 : (flongref04_Name.l1 kj10 a0 0 1) = some r := by rw [if_neg (show ¬ (false = true) by decide)] at H; exact H
              clear H
              have H := H1
              clear H1
              have H' := qA H
              clear H
              go_wp2
              go_loopg [6, 7] kj10 (fun kq v6 v7 w' => ∃ (x6_3 : Int) (x7_3 : Int), v6 = .int .i64 x6_3 ∧ v7 = .int .i64 x7_3 ∧ Aside0 (flongref04_Name.l1 kq a0 x6_3 x7_3 = some r) ∧ Aside0 (kq ≤ kj10) ∧ Aside0 (Below w.heap.size w w'))
              case atStart => exact ⟨(0), (1), (by first | rfl | (simp; done) | (simp [*]; done)), (by first | rfl | (simp; done) | (simp [*]; done)), H', ⟨Nat.le_refl _⟩, ⟨by repeat (first | (with_reducible first | exact HB.out | apply qG | apply qB | apply qF) | exact HB.out)⟩⟩
              case round =>
                clear H'
                try clear c1
                try clear p1
                try clear q1
                try clear hx1
                try clear qi1
                try clear c2
                try clear p2
                try clear q2
                try clear hx2
                try clear c4
                try clear c4b0
                try clear c5
                try clear c5b0
                try clear c6
                try clear c6b0
                try clear c6b1
                try clear p6
                try clear c7
                try clear c7b0
                try clear c13
                try clear c13b0
                try clear c13b1
                try clear c14
                try clear c14b0
                try clear c14b1
                try clear c15
                try clear c15b0
                try clear c15b1
                try clear p16
                try clear q16
                try clear hx16
                try clear qi16
                try clear c17
                try clear hx246_0
                try clear hx247_0
                try clear p1
                try clear p16
                try clear p2
                try clear p246
                try clear p247
                try clear p6
                try clear q1
                try clear q16
                try clear q2
                try clear q246
                try clear q247
                obtain ⟨x6_3, x7_3, rfl, rfl, HA, HK3, HB⟩ := hrel
                cases gk with
                | zero => exact absurd HA.out (by simp [flongref04_Name.l1])
                | succ k3 =>
                  have H := HA.out
                  clear HA
                  simp only [flongref04_Name.l1] at H
                  by_cases c18 : x7_3 < (a0.size : Int)
                  · rw [if_pos c18] at H
                    have c18b0 : decide (x7_3 < (a0.size : Int)) = true := decide_eq_true c18
                    clear c18
                    by_cases c19 : 0 ≤ x7_3
                    · rw [if_pos c19] at H
                      have c19b0 : decide (0 ≤ x7_3) = true := decide_eq_true c19
                      clear c19
                      have HC21 := qA H
                      clear H
                      have p20 : 0 ≤ (x7_3 : Int) := of_decide_eq_true (by first | (with_reducible assumption) | assumption)
                      have q20 : x7_3 < (a0.size : Int) := of_decide_eq_true (by first | (with_reducible assumption) | assumption)
                      have hx20 := bt_at a0 x7_3
                      replace p20 := eq_true p20
                      replace q20 := eq_true q20
                      go_upto_region 14 with (fail)
                      go_cut [58] (fun v58 wc => ∃ (kq : Nat) (x58_20 : Bool), v58 = .bool x58_20 ∧ Aside0 (flongref04_Name.j3 kq a0 x6_3 x7_3 (wrap64 (bt a0 x7_3)) x58_20 = some r) ∧ Aside0 (kq ≤ k3) ∧ Aside0 (Below w.heap.size w wc))
                      case first =>
                        have H := HC21.out
                        clear HC21
                        by_cases c22 : (wrap64 (bt a0 x7_3)) ≥ 48
                        · rw [if_pos c22] at H
                          have c22b0 : decide (48 ≤ (wrap64 (bt a0 x7_3))) = true := decide_eq_true c22
                          clear c22
                          (first | rw [c22b0] | (simp only [i64_w, i32_w]; rw [c22b0]) | skip)
                          have H' := qA H
                          clear H
                          go_wp2
                          go_meet
                          case rel => exact ⟨_, (decide ((wrap64 (bt a0 x7_3)) ≤ 57)), (by first | rfl | (simp; done) | (simp [*]; done)), H', ⟨by have := HK1.out; have := HJ10.out; have := HK3.out; first | omega | exact Nat.le_refl _⟩, ⟨by repeat (first | (with_reducible first | exact HB.out | apply qG | apply qB | apply qF) | exact HB.out)⟩⟩
                        · rw [if_neg c22] at H
                          have c22b0 : decide (48 ≤ (wrap64 (bt a0 x7_3))) = false := decide_eq_false c22
                          clear c22
                          (first | rw [c22b0] | (simp only [i64_w, i32_w]; rw [c22b0]) | skip)
                          have H' := qA H
                          clear H
                          go_wp2
                          go_meet
                          case rel => exact ⟨_, (false), (by first | rfl | (simp; done) | (simp [*]; done)), H', ⟨by have := HK1.out; have := HJ10.out; have := HK3.out; first | omega | exact Nat.le_refl _⟩, ⟨by repeat (first | (with_reducible first | exact HB.out | apply qG | apply qB | apply qF) | exact HB.out)⟩⟩
                      case rest =>
                        clear HC21
                        try clear c1
                        try clear p1
                        try clear q1
                        try clear hx1
                        try clear qi1
                        try clear c2
                        try clear p2
                        try clear q2
                        try clear hx2
                        try clear c4
                        try clear c4b0
                        try clear c5
                        try clear c5b0
                        try clear c6
                        try clear c6b0
                        try clear c6b1
                        try clear p6
                        try clear c7
                        try clear c7b0
                        try clear c13
                        try clear c13b0
                        try clear c13b1
                        try clear c14
                        try clear c14b0
                        try clear c14b1
                        try clear c15
                        try clear c15b0
                        try clear c15b1
                        try clear p16
                        try clear q16
                        try clear hx16
                        try clear qi16
                        try clear c17
                        try clear c18
                        try clear c18b0
                        try clear c19
                        try clear c19b0
                        try clear p20
                        try clear q20
                        try clear hx20
                        try clear c21
                        try clear c22
                        try clear c22b0
                        try clear hx246_0
                        try clear hx247_0
                        try clear p1
                        try clear p16
                        try clear p2
                        try clear p20
                        try clear p246
                        try clear p247
                        try clear p6
                        try clear q1
                        try clear q16
                        try clear q2
                        try clear q20
                        try clear q246
                        try clear q247
                        obtain ⟨kq, x58_20, rfl, HA, HJ20, HB⟩ := hcut
                        cases kq with
                        | zero => exact absurd HA.out (by simp [flongref04_Name.j3])
                        | succ kj20 =>
                          have H := HA.out
                          clear HA
                          simp only [flongref04_Name.j3] at H
                          by_cases c23 : x58_20 = true
                          · subst c23
                            have H1 : (flongref04_Name.l1 kj20 a0 (wrap64 ((wrap64 ((wrap64 (16 * x6_3)) + (wrap64 (bt a0 x7_3)))) - 48)) (wrap64 (x7_3 + 1))) = some r := by rw [if_pos rfl] at H; exact H
                            clear H
                            have H := H1
                            clear H1
                            have H' := qA H
                            clear H
                            go_wp2
                            go_roundg kj20
                            case measure => have := HK1.out; have := HJ10.out; have := HK3.out; have := HJ20.out; omega
                            case rel => exact ⟨(wrap64 ((wrap64 ((wrap64 (16 * x6_3)) + (wrap64 (bt a0 x7_3)))) - 48)), (wrap64 (x7_3 + 1)), (by first | rfl | (simp; done) | (simp [*]; done)), (by first | rfl | (simp; done) | (simp [*]; done)), H', ⟨by have := HK1.out; have := HJ10.out; have := HK3.out; have := HJ20.out; omega⟩, ⟨by repeat (first | (with_reducible first | exact HB.out | apply qG | apply qB | apply qF) | exact HB.out)⟩⟩
                          · replace c23 := Bool.eq_false_iff.mpr c23
                            subst c23
                            have H1 : (if (wrap64 (bt a0 x7_3)) ≥ 65 then (if (wrap64 (bt a0 x7_3)) ≤ 70 then (flongref04_Name.l1 kj20 a0 (wrap64 ((wrap64 ((wrap64 (16 * x6_3)) + (wrap64 (bt a0 x7_3)))) - 55)) (wrap64 (x7_3 + 1))) else (some (-1))) else (some (-1))) = some r := by rw [if_neg (show ¬ (false = true) by decide)] at H; exact H
                            clear H
                            have H := H1
                            clear H1
                            by_cases c24 : (wrap64 (bt a0 x7_3)) ≥ 65
                            · rw [if_pos c24] at H
                              have c24b0 : decide (65 ≤ (wrap64 (bt a0 x7_3))) = true := decide_eq_true c24
                              clear c24
                              by_cases c25 : (wrap64 (bt a0 x7_3)) ≤ 70
                              · rw [if_pos c25] at H
                                have c25b0 : decide ((wrap64 (bt a0 x7_3)) ≤ 70) = true := decide_eq_true c25
                                clear c25
                                have H' := qA H
                                clear H
                                go_wp2
                                go_roundg kj20
                                case measure => have := HK1.out; have := HJ10.out; have := HK3.out; have := HJ20.out; omega
                                case rel => exact ⟨(wrap64 ((wrap64 ((wrap64 (16 * x6_3)) + (wrap64 (bt a0 x7_3)))) - 55)), (wrap64 (x7_3 + 1)), (by first | rfl | (simp; done) | (simp [*]; done)), (by first | rfl | (simp; done) | (simp [*]; done)), H', ⟨by have := HK1.out; have := HJ10.out; have := HK3.out; have := HJ20.out; omega⟩, ⟨by repeat (first | (with_reducible first | exact HB.out | apply qG | apply qB | apply qF) | exact HB.out)⟩⟩
                              · rw [if_neg c25] at H
                                have c25b0 : decide ((wrap64 (bt a0 x7_3)) ≤ 70) = false := decide_eq_false c25
                                clear c25
                                obtain rfl := Option.some.inj H
                                go_wp2
                                go_ret
                                exact ⟨by first | rfl | (simp [errW_none, errW_some] <;> rfl) | (simp [*, errW_none, errW_some] <;> rfl), by repeat (first | (with_reducible first | exact HB.out | apply qG | apply qB | apply qF) | exact HB.out)⟩
                            · rw [if_neg c24] at H
                              have c24b0 : decide (65 ≤ (wrap64 (bt a0 x7_3))) = false := decide_eq_false c24
                              clear c24
                              obtain rfl := Option.some.inj H
                              go_wp2
                              go_ret
                              exact ⟨by first | rfl | (simp [errW_none, errW_some] <;> rfl) | (simp [*, errW_none, errW_some] <;> rfl), by repeat (first | (with_reducible first | exact HB.out | apply qG | apply qB | apply qF) | exact HB.out)⟩
                    · rw [if_neg c19] at H
                      exact absurd H (by simp)
                  · rw [if_neg c18] at H
                    have c18b0 : decide (x7_3 < (a0.size : Int)) = false := decide_eq_false c18
                    clear c18
                    by_cases c26 : x6_3 > 1114111
                    · rw [if_pos c26] at H
                      have c26b0 : decide (1114111 < x6_3) = true := decide_eq_true c26
                      clear c26
                      obtain rfl := Option.some.inj H
                      go_wp2
                      go_ret
                      exact ⟨by first | rfl | (simp [errW_none, errW_some] <;> rfl) | (simp [*, errW_none, errW_some] <;> rfl), by repeat (first | (with_reducible first | exact HB.out | apply qG | apply qB | apply qF) | exact HB.out)⟩
                    · rw [if_neg c26] at H
                      have c26b0 : decide (1114111 < x6_3) = false := decide_eq_false c26
                      clear c26
                      replace H := Option.bind_eq_some_iff.mp H
                      obtain ⟨t248, A270, H⟩ := H
                      replace H : (if t248 = (wrap32 (x6_3)) then (some x6_3) else (some (-1))) = some r := H
                      have A27 := qA A270
                      clear A270
                      by_cases c28 : t248 = (wrap32 (x6_3))
                      · rw [if_pos c28] at H
                        have c28b0 : (t248 == (wrap32 (x6_3))) = true := beq_iff_eq.mpr c28
                        have c28b1 : (t248 != (wrap32 (x6_3))) = false := bne_eq_false_iff_eq.mpr c28
                        clear c28
                        obtain rfl := Option.some.inj H
                        go_wp2_with (first | (go_at_call 26; (with_reducible refine (flongref02_Safe.calls (wrap32 (x6_3)) t248 _ A27.out).mono ?_); rintro e w' ⟨rfl, ⟨nd, rfl⟩⟩))
                        go_ret
                        exact ⟨by first | rfl | (simp [errW_none, errW_some] <;> rfl) | (simp [*, errW_none, errW_some] <;> rfl), by repeat (first | (with_reducible first | exact HB.out | apply qG | apply qB | apply qF) | exact HB.out)⟩
                      · rw [if_neg c28] at H
                        have c28b0 : (t248 == (wrap32 (x6_3))) = false := beq_eq_false_iff_ne.mpr c28
                        have c28b1 : (t248 != (wrap32 (x6_3))) = true := bne_iff_ne.mpr c28
                        obtain rfl := Option.some.inj H
                        go_wp2_with (first | (go_at_call 26; (with_reducible refine (flongref02_Safe.calls (wrap32 (x6_3)) t248 _ A27.out).mono ?_); rintro e w' ⟨rfl, ⟨nd, rfl⟩⟩))
                        go_ret
                        exact ⟨by first | rfl | (simp [errW_none, errW_some] <;> rfl) | (simp [*, errW_none, errW_some] <;> rfl), by repeat (first | (with_reducible first | exact HB.out | apply qG | apply qB | apply qF) | exact HB.out)⟩
end Go.Proofs.YtdogljnddalgdaaDoor.A6
end
section
namespace Go.Proofs.YtdogljnddalgdaaDoor.A6
open Go.RowKit Go.Proofs.YtdogljnddalgdaaDoorW.PrintWords Go.Proofs.YtdogljnddalgdaaDoorW.PrintLast Go.Proofs.YtdogljnddalgdaaDoorW.PrintMore
open Go.Proofs.YtdogljnddalgdaaDoorW.PrintWords.Aside0 renaming mk → qA
open Go.Proofs.YtdogljnddalgdaaDoorW.PrintWords renaming pw_below_drewN → qB, below_set → qC, blk_alloc → qD, blk_drewN → qE, below_drew1 → qF, below_alloc → qG, blk_drew → qH, blk_frozen → qL, blk_cell → qQ, below_step → qR, below_size → qS, blk_put → qY
open Go.Proofs.YtdogljnddalgdaaDoorW.PrintWords.Kd renaming R_drewN → qI, R_alloc → qJ, R_drew → qK, R_far → qP, R_below → qT, R_mono → qU, R_types → qV
attribute [local go_sem] max2_int min2_int max_two min_two max_three min_three max_four min_four   -- for this text's walks alone
set_option linter.unusedVariables false
set_option linter.unusedSimpArgs false
def flongref04_Font.l0 : Nat → ByteArray → List ByteArray → Int → Option (Int)
  | 0, _, _, _ => none
  | k + 1, x0, x3, x4 => if x4 < (x3.length : Int) then (if 0 ≤ x4 then (if (rdOf ByteArray.empty x3 x4).toList = x0.toList then (some x4) else (flongref04_Font.l0 k x0 x3 (wrap64 (x4 + 1)))) else (none)) else (if (x0.size : Int) = 1 then (if 0 < (x0.size : Int) then (if (bt x0 0) ≥ 49 then (if (bt x0 0) ≤ 52 then (some (wrap64 ((wrap64 (bt x0 0)) - 49))) else (some (-1))) else (some (-1))) else (none)) else (some (-1)))
def flongref04_Font.f (k : Nat) (a0 : ByteArray) : Option (Int) := flongref04_Font.l0 k a0 (([(⟨#[82]⟩ : ByteArray), (⟨#[66]⟩ : ByteArray), (⟨#[73]⟩ : ByteArray), (⟨#[66, 73]⟩ : ByteArray), (⟨#[80]⟩ : ByteArray)] : List ByteArray)) 0
set_option maxHeartbeats 8000000 in
set_option maxRecDepth 100000 in
theorem flongref04_Font.calls (k : Nat) (a0 : ByteArray) (r : Int) (w : World) (h : flongref04_Font.f k a0 = some r) :
    Calls Tryd.prog 22 #[.string a0] w fun e w' => e = .returned (.int .i64 r) ∧ Below w.heap.size w w' := by
  have HB := qA (Below.refl w.heap.size w)
  have H : (flongref04_Font.l0 k a0 (([(⟨#[82]⟩ : ByteArray), (⟨#[66]⟩ : ByteArray), (⟨#[73]⟩ : ByteArray), (⟨#[66, 73]⟩ : ByteArray), (⟨#[80]⟩ : ByteArray)] : List ByteArray)) 0) = some r := h
  clear h
  obtain ⟨y249, hy249⟩ : ∃ y_ : List ByteArray, y_ = (([(⟨#[82]⟩ : ByteArray), (⟨#[66]⟩ : ByteArray), (⟨#[73]⟩ : ByteArray), (⟨#[66, 73]⟩ : ByteArray), (⟨#[80]⟩ : ByteArray)] : List ByteArray)) := ⟨_, rfl⟩
  replace H : (flongref04_Font.l0 k a0 y249 0) = some r := by first | (rw [hy249]; with_reducible exact H) | (have H2_ := (Option.bind_some _ _).symm.trans H; rw [hy249]; with_reducible exact H2_) | (have H2_ := (Option.bind_some _ _).symm.trans H; with_reducible exact H2_) | with_reducible exact H | (rw [hy249]; exact H) | exact H
  have Ny249 := qA hy249
  clear hy249
  have H' := qA H
  clear H
  go_enter Tryd.func22, Tryd.ntmps22
  go_wp2_with (first | ((with_reducible refine gate_dst (N := 5) rfl ?_); refine Kd.R_lit Kd.string _ 9 ?hg (N := 5) ?hd (xs := ([(⟨#[82]⟩ : ByteArray), (⟨#[66]⟩ : ByteArray), (⟨#[73]⟩ : ByteArray), (⟨#[66, 73]⟩ : ByteArray), (⟨#[80]⟩ : ByteArray)] : List ByteArray)) (inner := [.string (⟨#[82]⟩ : ByteArray), .string (⟨#[66]⟩ : ByteArray), .string (⟨#[73]⟩ : ByteArray), .string (⟨#[66, 73]⟩ : ByteArray), .string (⟨#[80]⟩ : ByteArray)]) (ok := fun _ => True) (okp := fun _ => True) ?hr ?hp (fun _ hk => hk) trivial (Below.refl _ _) (Nat.le_refl _) (by simp) ?_; (case hd => rfl); (case hg => rfl); (case hr => first | (go_simp; done) | (go_simp; rfl)); (case hp => exact (Reps.one (show Kd.M Kd.string _ _ _ (⟨#[82]⟩ : ByteArray) [.string (⟨#[82]⟩ : ByteArray)] from rfl) (Reps.one (show Kd.M Kd.string _ _ _ (⟨#[66]⟩ : ByteArray) [.string (⟨#[66]⟩ : ByteArray)] from rfl) (Reps.one (show Kd.M Kd.string _ _ _ (⟨#[73]⟩ : ByteArray) [.string (⟨#[73]⟩ : ByteArray)] from rfl) (Reps.one (show Kd.M Kd.string _ _ _ (⟨#[66, 73]⟩ : ByteArray) [.string (⟨#[66, 73]⟩ : ByteArray)] from rfl) (Reps.one (show Kd.M Kd.string _ _ _ (⟨#[80]⟩ : ByteArray) [.string (⟨#[80]⟩ : ByteArray)] from rfl) (Reps.none _ _))))))); intro v250 w2 ho3 hb hg_ hnew_; clear hg_ hnew_; (first | rw [← Ny249.out] at ho3 | (simp only [Int.reduceToNat] at ho3; rw [← Ny249.out] at ho3)); have n0_ := qA (Kd.R_lower ho3 (qS (by repeat (first | (with_reducible first | exact HB.out | apply qG | apply qB | apply qF) | exact HB.out)))); have n1_ := qA (qR (by repeat (first | (with_reducible first | exact HB.out | apply qG | apply qB | apply qF) | exact HB.out)) hb); clear HB; have HO251 := n0_; have HB := n1_; clear n0_ n1_; clear hb ho3))
  go_loopg [4] k (fun kq v4 w' => ∃ (x4_1 : Int), v4 = .int .i64 x4_1 ∧ Aside0 (flongref04_Font.l0 kq a0 y249 x4_1 = some r) ∧ Aside0 (kq ≤ k) ∧ Aside0 (Kd.R Kd.string 9 w' w.heap.size (fun _ => True) v250 y249) ∧ Aside0 (Below w.heap.size w w'))
  case atStart => exact ⟨(0), (by first | rfl | (simp; done) | (simp [*]; done)), H', ⟨Nat.le_refl _⟩, ⟨by (with_reducible repeat (first | apply qJ | apply qI | apply qK)); exact HO251.out⟩, ⟨by repeat (first | (with_reducible first | exact HB.out | apply qG | apply qB | apply qF) | exact HB.out)⟩⟩
  case round =>
    clear H'
    try clear c2
    try clear p2
    obtain ⟨x4_1, rfl, HA, HK1, HO_3, HB⟩ := hrel
    cases gk with
    | zero => exact absurd HA.out (by simp [flongref04_Font.l0])
    | succ k1 =>
      have H := HA.out
      clear HA
      simp only [flongref04_Font.l0] at H
      by_cases c4 : x4_1 < (y249.length : Int)
      · rw [if_pos c4] at H
        have c4b0 : decide (x4_1 < (y249.length : Int)) = true := decide_eq_true c4
        clear c4
        by_cases c5 : 0 ≤ x4_1
        · rw [if_pos c5] at H
          have c5b0 : decide (0 ≤ x4_1) = true := decide_eq_true c5
          clear c5
          by_cases c6 : (rdOf ByteArray.empty y249 x4_1).toList = a0.toList
          · rw [if_pos c6] at H
            have c6b0 : ((rdOf ByteArray.empty y249 x4_1).toList == a0.toList) = true := beq_iff_eq.mpr c6
            have c6b1 : ((rdOf ByteArray.empty y249 x4_1).toList != a0.toList) = false := bne_eq_false_iff_eq.mpr c6
            clear c6
            obtain rfl := Option.some.inj H
            obtain ⟨Ao7, co7, eo7⟩ := Kd.R_slice HO_3.out
            subst eo7
            have p252 : 0 ≤ (x4_1 : Int) := of_decide_eq_true (by first | (with_reducible assumption) | assumption)
            have q252 : x4_1 < (y249.length : Int) := of_decide_eq_true (by first | (with_reducible assumption) | assumption)
            obtain ⟨ad252, e252, hx252_0⟩ := Kd.at_string (Kd.R_reads' HO_3.out).2.2 x4_1 p252 q252
            cases e252
            replace p252 := eq_true p252
            replace q252 := eq_true q252
            go_wp2
            go_ret
            exact ⟨by first | rfl | (simp [errW_none, errW_some] <;> rfl) | (simp [*, errW_none, errW_some] <;> rfl), by repeat (first | (with_reducible first | exact HB.out | apply qG | apply qB | apply qF) | exact HB.out)⟩
          · rw [if_neg c6] at H
            have c6b0 : ((rdOf ByteArray.empty y249 x4_1).toList == a0.toList) = false := beq_eq_false_iff_ne.mpr c6
            have c6b1 : ((rdOf ByteArray.empty y249 x4_1).toList != a0.toList) = true := bne_iff_ne.mpr c6
            have H' := qA H
            clear H
            obtain ⟨Ao8, co8, eo8⟩ := Kd.R_slice HO_3.out
            subst eo8
            have p252 : 0 ≤ (x4_1 : Int) := of_decide_eq_true (by first | (with_reducible assumption) | assumption)
            have q252 : x4_1 < (y249.length : Int) := of_decide_eq_true (by first | (with_reducible assumption) | assumption)
            obtain ⟨ad252, e252, hx252_0⟩ := Kd.at_string (Kd.R_reads' HO_3.out).2.2 x4_1 p252 q252
            cases e252
            replace p252 := eq_true p252
            replace q252 := eq_true q252
            go_wp2
            go_roundg k1
            case measure => have := HK1.out; omega
            case rel => exact ⟨(wrap64 (x4_1 + 1)), (by first | rfl | (simp; done) | (simp [*]; done)), H', ⟨by have := HK1.out; omega⟩, ⟨by (with_reducible repeat (first | apply qJ | apply qI | apply qK)); exact HO_3.out⟩, ⟨by repeat (first | (with_reducible first | exact HB.out | apply qG | apply qB | apply qF) | exact HB.out)⟩⟩
        · rw [if_neg c5] at H
          exact absurd H (by simp)
      · rw [if_neg c4] at H
        have c4b0 : decide (x4_1 < (y249.length : Int)) = false := decide_eq_false c4
        clear c4
        by_cases c9 : (a0.size : Int) = 1
        · rw [if_pos c9] at H
          have c9b0 : ((a0.size : Int) == 1) = true := beq_iff_eq.mpr c9
          have c9b1 : ((a0.size : Int) != 1) = false := bne_eq_false_iff_eq.mpr c9
          clear c9
          by_cases c10 : 0 < (a0.size : Int)
          · rw [if_pos c10] at H
            have c10b0 : decide (0 < (a0.size : Int)) = true := decide_eq_true c10
            have c10b1 : decide (0 < a0.size) = true := decide_eq_true (by omega)
            clear c10
            by_cases c12 : (bt a0 0) ≥ 49
            · rw [if_pos c12] at H
              have c12b0 : decide (49 ≤ (bt a0 0)) = true := decide_eq_true c12
              clear c12
              by_cases c14 : (bt a0 0) ≤ 52
              · rw [if_pos c14] at H
                have c14b0 : decide ((bt a0 0) ≤ 52) = true := decide_eq_true c14
                clear c14
                obtain rfl := Option.some.inj H
                obtain ⟨Ao16, co16, eo16⟩ := Kd.R_slice HO_3.out
                subst eo16
                have p11 : 0 ≤ (0 : Int) := (by omega)
                have q11 : 0 < a0.size := (by have : (0 : Int) < (a0.size : Int) := of_decide_eq_true (by first | (with_reducible assumption) | assumption); omega)
                have hx11 : ∀ h : 0 < a0.size, ((a0[0]'h).toNat : Int) = bt a0 0 := bt_at a0 0
                clear p11
                have qi11 : (0 < (a0.size : Int)) = True := eq_true (of_decide_eq_true (by first | (with_reducible assumption) | assumption))
                replace q11 := eq_true q11
                have p13 : 0 ≤ (0 : Int) := (by omega)
                have q13 : 0 < a0.size := (by have : (0 : Int) < (a0.size : Int) := of_decide_eq_true (by first | (with_reducible assumption) | assumption); omega)
                have hx13 : ∀ h : 0 < a0.size, ((a0[0]'h).toNat : Int) = bt a0 0 := bt_at a0 0
                clear p13
                have qi13 : (0 < (a0.size : Int)) = True := eq_true (of_decide_eq_true (by first | (with_reducible assumption) | assumption))
                replace q13 := eq_true q13
                have p15 : 0 ≤ (0 : Int) := (by omega)
                have q15 : 0 < a0.size := (by have : (0 : Int) < (a0.size : Int) := of_decide_eq_true (by first | (with_reducible assumption) | assumption); omega)
                have hx15 : ∀ h : 0 < a0.size, ((a0[0]'h).toNat : Int) = bt a0 0 := bt_at a0 0
                clear p15
                have qi15 : (0 < (a0.size : Int)) = True := eq_true (of_decide_eq_true (by first | (with_reducible assumption) | assumption))
                replace q15 := eq_true q15
                go_wp2
                go_ret
                exact ⟨by first | rfl | (simp [errW_none, errW_some] <;> rfl) | (simp [*, errW_none, errW_some] <;> rfl), by repeat (first | (with_reducible first | exact HB.out | apply qG | apply qB | apply qF) | exact HB.out)⟩
              · rw [if_neg c14] at H
                have c14b0 : decide ((bt a0 0) ≤ 52) = false := decide_eq_false c14
                clear c14
                obtain rfl := Option.some.inj H
                obtain ⟨Ao17, co17, eo17⟩ := Kd.R_slice HO_3.out
                subst eo17
                have p11 : 0 ≤ (0 : Int) := (by omega)
                have q11 : 0 < a0.size := (by have : (0 : Int) < (a0.size : Int) := of_decide_eq_true (by first | (with_reducible assumption) | assumption); omega)
                have hx11 : ∀ h : 0 < a0.size, ((a0[0]'h).toNat : Int) = bt a0 0 := bt_at a0 0
                clear p11
                have qi11 : (0 < (a0.size : Int)) = True := eq_true (of_decide_eq_true (by first | (with_reducible assumption) | assumption))
                replace q11 := eq_true q11
                have p13 : 0 ≤ (0 : Int) := (by omega)
                have q13 : 0 < a0.size := (by have : (0 : Int) < (a0.size : Int) := of_decide_eq_true (by first | (with_reducible assumption) | assumption); omega)
                have hx13 : ∀ h : 0 < a0.size, ((a0[0]'h).toNat : Int) = bt a0 0 := bt_at a0 0
                clear p13
                have qi13 : (0 < (a0.size : Int)) = True := eq_true (of_decide_eq_true (by first | (with_reducible assumption) | assumption))
                replace q13 := eq_true q13
                go_wp2
                go_ret
                exact ⟨by first | rfl | (simp [errW_none, errW_some] <;> rfl) | (simp [*, errW_none, errW_some] <;> rfl), by repeat (first | (with_reducible first | exact HB.out | apply qG | apply qB | apply qF) | exact HB.out)⟩
            · rw [if_neg c12] at H
              have c12b0 : decide (49 ≤ (bt a0 0)) = false := decide_eq_false c12
              clear c12
              obtain rfl := Option.some.inj H
              obtain ⟨Ao18, co18, eo18⟩ := Kd.R_slice HO_3.out
              subst eo18
              have p11 : 0 ≤ (0 : Int) := (by omega)
              have q11 : 0 < a0.size := (by have : (0 : Int) < (a0.size : Int) := of_decide_eq_true (by first | (with_reducible assumption) | assumption); omega)
              have hx11 : ∀ h : 0 < a0.size, ((a0[0]'h).toNat : Int) = bt a0 0 := bt_at a0 0
              clear p11
              have qi11 : (0 < (a0.size : Int)) = True := eq_true (of_decide_eq_true (by first | (with_reducible assumption) | assumption))
              replace q11 := eq_true q11
              go_wp2
              go_ret
              exact ⟨by first | rfl | (simp [errW_none, errW_some] <;> rfl) | (simp [*, errW_none, errW_some] <;> rfl), by repeat (first | (with_reducible first | exact HB.out | apply qG | apply qB | apply qF) | exact HB.out)⟩
          · rw [if_neg c10] at H
            exact absurd H (by simp)
        · rw [if_neg c9] at H
          have c9b0 : ((a0.size : Int) == 1) = false := beq_eq_false_iff_ne.mpr c9
          have c9b1 : ((a0.size : Int) != 1) = true := bne_iff_ne.mpr c9
          obtain rfl := Option.some.inj H
          obtain ⟨Ao19, co19, eo19⟩ := Kd.R_slice HO_3.out
          subst eo19
          go_wp2
          go_ret
          exact ⟨by first | rfl | (simp [errW_none, errW_some] <;> rfl) | (simp [*, errW_none, errW_some] <;> rfl), by repeat (first | (with_reducible first | exact HB.out | apply qG | apply qB | apply qF) | exact HB.out)⟩
def flongref04_say.f (l0_0 : List (S38)) (l0_1 : List (S41)) (a1 : Int) (a2 : Int) : Option ((List (S38)) × (List (S41))) := if l0_0.length < 8796093022208 then (some ((l0_0 ++ [(⟨a1, a2⟩ : S38)]), l0_1)) else (none)
set_option maxHeartbeats 8000000 in
set_option maxRecDepth 100000 in
theorem flongref04_say.calls (P0_0_ : Nat → Prop) (u9000_ : Value) (l0_0 : List (S38)) (P0_1_ : Nat → Prop) (u9001_ : Value) (l0_1 : List (S41)) (a1 : Int) (a2 : Int) (r1 : List (S38)) (r2 : List (S41)) (w0 w : World) (hB : Below w0.heap.size w0 w) (ho0_0 : Kd.R k38 38 w w0.heap.size P0_0_ u9000_ l0_0) (ho0_1 : Kd.R k41 41 w w0.heap.size P0_1_ u9001_ l0_1) (h : flongref04_say.f l0_0 l0_1 a1 a2 = some (r1, r2)) :
    Calls Tryd.prog 45 #[.agg #[u9000_, u9001_], .int .i64 a1, .int .i32 a2] w fun e w' => ∃ v0_ v1_ : Value, e = .returned (.agg #[v0_, v1_]) ∧ Kd.R k38 38 w' w0.heap.size (fun k_ => ((P0_0_ k_ ∨ P0_1_ k_) ∨ w.heap.size ≤ k_)) v0_ r1 ∧ Kd.R k41 41 w' w0.heap.size (fun k_ => ((P0_0_ k_ ∨ P0_1_ k_) ∨ w.heap.size ≤ k_)) v1_ r2 ∧ Below w0.heap.size w0 w' ∧ Kept w w' (fun k_ => P0_0_ k_ ∨ P0_1_ k_) := by
  have hu70 := Tryd.underlying70
  have hu38 := Tryd.underlying38
  have HO0_0 := qA (show Kd.R k38 38 w w0.heap.size (fun k_ => ((P0_0_ k_ ∨ P0_1_ k_) ∨ w.heap.size ≤ k_)) u9000_ l0_0 from qU ho0_0 (fun k_ hk => (.inl (.inl hk))))
  have HO0_1 := qA (show Kd.R k41 41 w w0.heap.size (fun k_ => ((P0_0_ k_ ∨ P0_1_ k_) ∨ w.heap.size ≤ k_)) u9001_ l0_1 from qU ho0_1 (fun k_ hk => (.inl (.inr hk))))
  have HK := qA (Kept.refl w (fun k_ => P0_0_ k_ ∨ P0_1_ k_))
  have HW0 := qA hB.size
  have HB := qA hB
  clear hB
  have H : (if l0_0.length < 8796093022208 then (some ((l0_0 ++ [(⟨a1, a2⟩ : S38)]), l0_1)) else (none)) = some (r1, r2) := h
  clear h
  by_cases c4 : l0_0.length < 8796093022208
  · rw [if_pos c4] at H
    have LMc4 := qA c4
    clear c4
    obtain ⟨y255, hy255⟩ : ∃ y_ : List (S38), y_ = (l0_0 ++ [(⟨a1, a2⟩ : S38)]) := ⟨_, rfl⟩
    replace H : (some (y255, l0_1)) = some (r1, r2) := by first | (rw [hy255]; with_reducible exact H) | (have H2_ := (Option.bind_some _ _).symm.trans H; rw [hy255]; with_reducible exact H2_) | (have H2_ := (Option.bind_some _ _).symm.trans H; with_reducible exact H2_) | with_reducible exact H | (rw [hy255]; exact H) | exact H
    have Ny255 := qA hy255
    clear hy255
    simp only [Option.some.injEq, Prod.mk.injEq] at H
    obtain ⟨rfl, rfl⟩ := H
    obtain ⟨Ao5, co5, eo5⟩ := Kd.R_slice HO0_0.out
    subst eo5
    obtain ⟨Ao6, co6, eo6⟩ := Kd.R_slice HO0_1.out
    subst eo6
    go_enter Tryd.func45, Tryd.ntmps45
    go_wp2_with (first | ((with_reducible refine gate_dst (N := 3) rfl ?_); refine box_event ?hg (N := 3) ?hd (cs := #[.slice Ao5 l0_0.length co5, .slice Ao6 l0_1.length co6]) (t := 70) ?hr ?_; (case hd => rfl); (case hg => rfl); (case hr => first | (go_simp; done) | (go_simp; rfl)); intro gb253 hg w7 hbox hb; have n0_ := qA (qT (by (with_reducible repeat (first | apply qJ | apply qI | apply qK)); exact HO0_0.out) hb); have n1_ := qA (qT (by (with_reducible repeat (first | apply qJ | apply qI | apply qK)); exact HO0_1.out) hb); have n2_ := qA (Kept.below (S := (fun k_ => P0_0_ k_ ∨ P0_1_ k_)) (by repeat (first | (with_reducible first | exact HK.out | apply Kept.alloc | apply Kept.drewN | apply Kept.drew) | exact HK.out)) hb); have n3_ := qA (qR (by repeat (first | (with_reducible first | exact HB.out | apply qG | apply qB | apply qF) | exact HB.out)) hb); have n4_ := qA (hbox); have n5_ := qA ((by rw [hg]; exact (by first | exact HK.out.1 | exact (show Kept w _ (fun k_ => P0_0_ k_ ∨ P0_1_ k_) from by repeat (first | (with_reducible first | exact HK.out | apply Kept.alloc | apply Kept.drewN | apply Kept.drew) | exact HK.out)).1) : w.heap.size ≤ gb253)); have n6_ := qA ((by rw [hg]; exact (qS (by repeat (first | (with_reducible first | exact HB.out | apply qG | apply qB | apply qF) | exact HB.out))) : w0.heap.size ≤ gb253)); clear HO0_0; clear HO0_1; clear HK; clear HB; have HO0_0 := n0_; have HO0_1 := n1_; have HK := n2_; have HB := n3_; have BK253 := n4_; have GW253 := n5_; have GE253 := n6_; clear n0_ n1_ n2_ n3_ n4_ n5_ n6_; clear hb hbox hg) | ((with_reducible refine gate_dst (N := 6) rfl ?_); refine box_event ?hg (N := 6) ?hd (cs := #[.slice none 0 0, .slice none 0 0]) (t := 70) ?hr ?_; (case hd => rfl); (case hg => rfl); (case hr => first | (go_simp; done) | (go_simp; rfl)); intro gb254 hg w8 hbox hb; have n0_ := qA (qT (by (with_reducible repeat (first | apply qJ | apply qI | apply qK)); exact HO0_0.out) hb); have n1_ := qA (qT (by (with_reducible repeat (first | apply qJ | apply qI | apply qK)); exact HO0_1.out) hb); have n2_ := qA (blk_below (g := gb253) (o := .cells #[.slice Ao5 l0_0.length co5, .slice Ao6 l0_1.length co6] 70 (0, 0)) (by (with_reducible repeat (first | refine qE ?_ _ | refine qH ?_ | refine qD ?_ _)); exact BK253.out) hb); have n3_ := qA (Kept.below (S := (fun k_ => P0_0_ k_ ∨ P0_1_ k_)) (by repeat (first | (with_reducible first | exact HK.out | apply Kept.alloc | apply Kept.drewN | apply Kept.drew | refine Kept.setCell ?_ (.inr GW253.out) _) | exact HK.out)) hb); have n4_ := qA (qR (by repeat (first | (with_reducible first | exact HB.out | apply qG | apply qB | apply qF | refine qC ?_ GE253.out) | exact HB.out)) hb); have n5_ := qA (hbox); have n6_ := qA ((by rw [hg]; exact (by first | exact HK.out.1 | exact (show Kept w _ (fun k_ => P0_0_ k_ ∨ P0_1_ k_) from by repeat (first | (with_reducible first | exact HK.out | apply Kept.alloc | apply Kept.drewN | apply Kept.drew | refine Kept.setCell ?_ (.inr GW253.out) _) | exact HK.out)).1) : w.heap.size ≤ gb254)); have n7_ := qA ((by rw [hg]; exact (qS (by repeat (first | (with_reducible first | exact HB.out | apply qG | apply qB | apply qF | refine qC ?_ GE253.out) | exact HB.out))) : w0.heap.size ≤ gb254)); have n8_ := qA ((by rw [hg]; exact Nat.ne_of_lt (blk_lt (g := gb253) (o := .cells #[.slice Ao5 l0_0.length co5, .slice Ao6 l0_1.length co6] 70 (0, 0)) (by (with_reducible repeat (first | refine qE ?_ _ | refine qH ?_ | refine qD ?_ _)); exact BK253.out)) : gb253 ≠ gb254)); have n9_ := qA ((by rw [hg]; exact Nat.ne_of_gt (blk_lt (g := gb253) (o := .cells #[.slice Ao5 l0_0.length co5, .slice Ao6 l0_1.length co6] 70 (0, 0)) (by (with_reducible repeat (first | refine qE ?_ _ | refine qH ?_ | refine qD ?_ _)); exact BK253.out)) : gb254 ≠ gb253)); clear HO0_0; clear HO0_1; clear BK253; clear HK; clear HB; have HO0_0 := n0_; have HO0_1 := n1_; have BK253 := n2_; have HK := n3_; have HB := n4_; have BK254 := n5_; have GW254 := n6_; have GE254 := n7_; have NB253_254 := n8_; have NB254_253 := n9_; clear n0_ n1_ n2_ n3_ n4_ n5_ n6_ n7_ n8_ n9_; clear hb hbox hg; have hnb9 := NB253_254.out; have hnc9 := NB254_253.out; have hcz10_0 : w8.cell? ⟨gb253, 0, none⟩ = some (.slice Ao5 l0_0.length co5) := (qQ BK253.out 0).trans rfl; have hcz10_1 : w8.cell? ⟨gb253, 1, none⟩ = some (.slice Ao6 l0_1.length co6) := (qQ BK253.out 1).trans rfl; have hfz10_0 := qL BK253.out 0; have hfz10_1 := qL BK253.out 1) | ((with_reducible refine gate_builtin (b := .append) (xs := #[.tmp 8, .tmp 12]) rfl ?_); at_builtin; refine Kd.R_append k38 (w0 := w0) w0.heap.size rfl (.tmp 8) (.tmp 12) 23 38 (.agg #[(.int .i64 0), (.int .i32 0)]) 16 rfl Tryd.underlying23 info38 rfl (by decide) (by omega) (.slice Ao5 l0_0.length co5) l0_0 (⟨a1, a2⟩ : S38) [.int .i64 a1, .int .i32 a2] (fun k_ => ((P0_0_ k_ ∨ P0_1_ k_) ∨ w.heap.size ≤ k_)) (fun _ => False) rfl rfl ?aP (fun _ hk => hk.elim) ?aF ?aO ?aB ?aS ?aL ?_; (case aP => exact k38_mkM _ _ _ (⟨a1, a2⟩ : S38)); (case aB => exact (by repeat (first | (with_reducible first | exact HB.out | apply qG | apply qB | apply qF | refine qC ?_ GE253.out | refine qC ?_ GE254.out) | exact HB.out))); (case aF => exact (fun k_ hk => (.inr (Nat.le_trans (by first | exact HK.out.1 | exact (show Kept w _ (fun k_ => P0_0_ k_ ∨ P0_1_ k_) from by repeat (first | (with_reducible first | exact HK.out | apply Kept.alloc | apply Kept.drewN | apply Kept.drew | refine Kept.setCell ?_ (.inr GW253.out) _ | refine Kept.setCell ?_ (.inr GW254.out) _) | exact HK.out)).1) hk)))); (case aO => exact (by (with_reducible repeat (first | apply qJ | apply qI | apply qK)); exact HO0_0.out)); (case aS => exact (qS (by repeat (first | (with_reducible first | exact HB.out | apply qG | apply qB | apply qF | refine qC ?_ GE253.out | refine qC ?_ GE254.out) | exact HB.out)))); (case aL => have := LMc4.out; omega); intro v256 w11 ho hb hg hat; rw [← Ny255.out] at ho; have n0_ := qA (Kd.R_over' (by (with_reducible repeat (first | apply qJ | apply qI | apply qK)); exact HO0_1.out) (Kd.R_typed (by (with_reducible repeat (first | apply qJ | apply qI | apply qK)); exact HO0_0.out)) (by decide) hg); have n1_ := qA (blk_grown (g := gb253) (o := .cells #[.slice Ao5 l0_0.length co5, .slice Ao6 l0_1.length co6] 70 (0, 0)) (by (with_reducible repeat (first | refine qE ?_ _ | refine qH ?_ | refine qD ?_ _)); exact BK253.out) hg (Kd.R_ne HO0_0.out BK253.out (by decide))); have n2_ := qA (blk_grown (g := gb254) (o := .cells #[.slice none 0 0, .slice none 0 0] 70 (0, 0)) (by (with_reducible repeat (first | refine qE ?_ _ | refine qH ?_ | refine qD ?_ _)); exact BK254.out) hg (Kd.R_ne HO0_0.out BK254.out (by decide))); have n3_ := qA (hb); have n4_ := qA (Kept.of_grown (S := (fun k_ => P0_0_ k_ ∨ P0_1_ k_)) hg (by repeat (first | (with_reducible first | exact HK.out | apply Kept.alloc | apply Kept.drewN | apply Kept.drew | refine Kept.setCell ?_ (.inr GW253.out) _ | refine Kept.setCell ?_ (.inr GW254.out) _) | exact HK.out)) (fun k_ e_ => (HO0_0.out.1 k_ e_))); have n5_ := qA (ho); clear HO0_1; clear BK253; clear BK254; clear HB; clear HK; clear HO0_0; have HO0_1 := n0_; have BK253 := n1_; have BK254 := n2_; have HB := n3_; have HK := n4_; have HO257 := n5_; clear n0_ n1_ n2_ n3_ n4_ n5_; clear ho hb hg hat; obtain ⟨Ao12, co12, eo12⟩ := Kd.R_slice HO257.out; subst eo12; have hcz13_0 : w11.cell? ⟨gb253, 0, none⟩ = some (.slice Ao5 l0_0.length co5) := (qQ BK253.out 0).trans rfl; have hcz13_1 : w11.cell? ⟨gb253, 1, none⟩ = some (.slice Ao6 l0_1.length co6) := (qQ BK253.out 1).trans rfl; have hfz13_0 := qL BK253.out 0; have hfz13_1 := qL BK253.out 1; have hcz14_0 : w11.cell? ⟨gb254, 0, none⟩ = some (.slice none 0 0) := (qQ BK254.out 0).trans rfl; have hcz14_1 : w11.cell? ⟨gb254, 1, none⟩ = some (.slice none 0 0) := (qQ BK254.out 1).trans rfl; have hfz14_0 := qL BK254.out 0; have hfz14_1 := qL BK254.out 1))
    refine bodyPost_ret (results_cell_row rfl _ _ gb254 70 #[.slice Ao12 y255.length co12, .slice Ao6 l0_1.length co6] (0, 0) _ rfl (by (with_reducible repeat (first | refine qE ?_ _ | refine qH ?_ | refine qD ?_ _)); refine qY (cs := #[.slice Ao12 y255.length co12, .slice none 0 0]) ?_ 1 _ rfl; (with_reducible repeat (first | refine qE ?_ _ | refine qH ?_ | refine qD ?_ _)); refine qY (cs := #[.slice none 0 0, .slice none 0 0]) ?_ 0 _ rfl; (with_reducible repeat (first | refine qE ?_ _ | refine qH ?_ | refine qD ?_ _)); refine blk_far ?_ NB254_253.out _; (with_reducible repeat (first | refine qE ?_ _ | refine qH ?_ | refine qD ?_ _)); exact BK254.out) Tryd.underlying70 rfl (by kernel_rfl)) rfl ?_
    exact ⟨_, _, by first | rfl | (simp [errW_none, errW_some] <;> rfl) | (simp [*, errW_none, errW_some] <;> rfl), by (with_reducible repeat (first | apply qJ | apply qI | apply qK)); exact qU (qP (p := ⟨gb254, 1, none⟩) (qP (p := ⟨gb254, 0, none⟩) (qP (p := ⟨gb253, 0, none⟩) (qV (qV HO257.out BK253.out (by decide)) BK254.out (by decide)) (fun _ hk => hk.1.2) (.slice Ao12 y255.length co12)) (fun _ hk => hk.2) (.slice Ao12 y255.length co12)) (fun _ hk => hk.2) (.slice Ao6 l0_1.length co6)) (fun _ hk => hk.1.1), by (with_reducible repeat (first | apply qJ | apply qI | apply qK)); exact qU (qP (p := ⟨gb254, 1, none⟩) (qP (p := ⟨gb254, 0, none⟩) (qP (p := ⟨gb253, 0, none⟩) (qV (qV HO0_1.out BK253.out (by decide)) BK254.out (by decide)) (fun _ hk => hk.1.2) (.slice Ao12 y255.length co12)) (fun _ hk => hk.2) (.slice Ao12 y255.length co12)) (fun _ hk => hk.2) (.slice Ao6 l0_1.length co6)) (fun _ hk => hk.1.1), by repeat (first | (with_reducible first | exact HB.out | apply qG | apply qB | apply qF | refine qC ?_ GE253.out | refine qC ?_ GE254.out) | exact HB.out), by repeat (first | (with_reducible first | exact HK.out | apply Kept.alloc | apply Kept.drewN | apply Kept.drew | refine Kept.setCell ?_ (.inr GW253.out) _ | refine Kept.setCell ?_ (.inr GW254.out) _) | exact HK.out)⟩
  · rw [if_neg c4] at H
    exact absurd H (by simp)
def flongref04_tell.f (l0_0 : List (S38)) (l0_1 : List (S41)) (a1 : Int) (a2 : Int) : Option ((List (S38)) × (List (S41))) := if l0_1.length < 5864062014805 then (some (l0_0, (l0_1 ++ [(⟨a1, 0, wrap64 (a2 + 1)⟩ : S41)]))) else (none)
set_option maxHeartbeats 8000000 in
set_option maxRecDepth 100000 in
theorem flongref04_tell.calls (P0_0_ : Nat → Prop) (u9000_ : Value) (l0_0 : List (S38)) (P0_1_ : Nat → Prop) (u9001_ : Value) (l0_1 : List (S41)) (a1 : Int) (a2 : Int) (r1 : List (S38)) (r2 : List (S41)) (w0 w : World) (hB : Below w0.heap.size w0 w) (ho0_0 : Kd.R k38 38 w w0.heap.size P0_0_ u9000_ l0_0) (ho0_1 : Kd.R k41 41 w w0.heap.size P0_1_ u9001_ l0_1) (h : flongref04_tell.f l0_0 l0_1 a1 a2 = some (r1, r2)) :
    Calls Tryd.prog 46 #[.agg #[u9000_, u9001_], .int .i64 a1, .int .i64 a2] w fun e w' => ∃ v0_ v1_ : Value, e = .returned (.agg #[v0_, v1_]) ∧ Kd.R k38 38 w' w0.heap.size (fun k_ => ((P0_0_ k_ ∨ P0_1_ k_) ∨ w.heap.size ≤ k_)) v0_ r1 ∧ Kd.R k41 41 w' w0.heap.size (fun k_ => ((P0_0_ k_ ∨ P0_1_ k_) ∨ w.heap.size ≤ k_)) v1_ r2 ∧ Below w0.heap.size w0 w' ∧ Kept w w' (fun k_ => P0_0_ k_ ∨ P0_1_ k_) := by
  have hu70 := Tryd.underlying70
  have hu41 := Tryd.underlying41
  have HO0_0 := qA (show Kd.R k38 38 w w0.heap.size (fun k_ => ((P0_0_ k_ ∨ P0_1_ k_) ∨ w.heap.size ≤ k_)) u9000_ l0_0 from qU ho0_0 (fun k_ hk => (.inl (.inl hk))))
  have HO0_1 := qA (show Kd.R k41 41 w w0.heap.size (fun k_ => ((P0_0_ k_ ∨ P0_1_ k_) ∨ w.heap.size ≤ k_)) u9001_ l0_1 from qU ho0_1 (fun k_ hk => (.inl (.inr hk))))
  have HK := qA (Kept.refl w (fun k_ => P0_0_ k_ ∨ P0_1_ k_))
  have HW0 := qA hB.size
  have HB := qA hB
  clear hB
  have H : (if l0_1.length < 5864062014805 then (some (l0_0, (l0_1 ++ [(⟨a1, 0, wrap64 (a2 + 1)⟩ : S41)]))) else (none)) = some (r1, r2) := h
  clear h
  by_cases c4 : l0_1.length < 5864062014805
  · rw [if_pos c4] at H
    have LMc4 := qA c4
    clear c4
    obtain ⟨y260, hy260⟩ : ∃ y_ : List (S41), y_ = (l0_1 ++ [(⟨a1, 0, wrap64 (a2 + 1)⟩ : S41)]) := ⟨_, rfl⟩
    replace H : (some (l0_0, y260)) = some (r1, r2) := by first | (rw [hy260]; with_reducible exact H) | (have H2_ := (Option.bind_some _ _).symm.trans H; rw [hy260]; with_reducible exact H2_) | (have H2_ := (Option.bind_some _ _).symm.trans H; with_reducible exact H2_) | with_reducible exact H | (rw [hy260]; exact H) | exact H
    have Ny260 := qA hy260
    clear hy260
    simp only [Option.some.injEq, Prod.mk.injEq] at H
    obtain ⟨rfl, rfl⟩ := H
    obtain ⟨Ao5, co5, eo5⟩ := Kd.R_slice HO0_0.out
    subst eo5
    obtain ⟨Ao6, co6, eo6⟩ := Kd.R_slice HO0_1.out
    subst eo6
    go_enter Tryd.func46, Tryd.ntmps46
    go_wp2_with (first | ((with_reducible refine gate_dst (N := 3) rfl ?_); refine box_event ?hg (N := 3) ?hd (cs := #[.slice Ao5 l0_0.length co5, .slice Ao6 l0_1.length co6]) (t := 70) ?hr ?_; (case hd => rfl); (case hg => rfl); (case hr => first | (go_simp; done) | (go_simp; rfl)); intro gb258 hg w7 hbox hb; have n0_ := qA (qT (by (with_reducible repeat (first | apply qJ | apply qI | apply qK)); exact HO0_0.out) hb); have n1_ := qA (qT (by (with_reducible repeat (first | apply qJ | apply qI | apply qK)); exact HO0_1.out) hb); have n2_ := qA (Kept.below (S := (fun k_ => P0_0_ k_ ∨ P0_1_ k_)) (by repeat (first | (with_reducible first | exact HK.out | apply Kept.alloc | apply Kept.drewN | apply Kept.drew) | exact HK.out)) hb); have n3_ := qA (qR (by repeat (first | (with_reducible first | exact HB.out | apply qG | apply qB | apply qF) | exact HB.out)) hb); have n4_ := qA (hbox); have n5_ := qA ((by rw [hg]; exact (by first | exact HK.out.1 | exact (show Kept w _ (fun k_ => P0_0_ k_ ∨ P0_1_ k_) from by repeat (first | (with_reducible first | exact HK.out | apply Kept.alloc | apply Kept.drewN | apply Kept.drew) | exact HK.out)).1) : w.heap.size ≤ gb258)); have n6_ := qA ((by rw [hg]; exact (qS (by repeat (first | (with_reducible first | exact HB.out | apply qG | apply qB | apply qF) | exact HB.out))) : w0.heap.size ≤ gb258)); clear HO0_0; clear HO0_1; clear HK; clear HB; have HO0_0 := n0_; have HO0_1 := n1_; have HK := n2_; have HB := n3_; have BK258 := n4_; have GW258 := n5_; have GE258 := n6_; clear n0_ n1_ n2_ n3_ n4_ n5_ n6_; clear hb hbox hg) | ((with_reducible refine gate_dst (N := 6) rfl ?_); refine box_event ?hg (N := 6) ?hd (cs := #[.slice none 0 0, .slice none 0 0]) (t := 70) ?hr ?_; (case hd => rfl); (case hg => rfl); (case hr => first | (go_simp; done) | (go_simp; rfl)); intro gb259 hg w8 hbox hb; have n0_ := qA (qT (by (with_reducible repeat (first | apply qJ | apply qI | apply qK)); exact HO0_0.out) hb); have n1_ := qA (qT (by (with_reducible repeat (first | apply qJ | apply qI | apply qK)); exact HO0_1.out) hb); have n2_ := qA (blk_below (g := gb258) (o := .cells #[.slice Ao5 l0_0.length co5, .slice Ao6 l0_1.length co6] 70 (0, 0)) (by (with_reducible repeat (first | refine qE ?_ _ | refine qH ?_ | refine qD ?_ _)); exact BK258.out) hb); have n3_ := qA (Kept.below (S := (fun k_ => P0_0_ k_ ∨ P0_1_ k_)) (by repeat (first | (with_reducible first | exact HK.out | apply Kept.alloc | apply Kept.drewN | apply Kept.drew | refine Kept.setCell ?_ (.inr GW258.out) _) | exact HK.out)) hb); have n4_ := qA (qR (by repeat (first | (with_reducible first | exact HB.out | apply qG | apply qB | apply qF | refine qC ?_ GE258.out) | exact HB.out)) hb); have n5_ := qA (hbox); have n6_ := qA ((by rw [hg]; exact (by first | exact HK.out.1 | exact (show Kept w _ (fun k_ => P0_0_ k_ ∨ P0_1_ k_) from by repeat (first | (with_reducible first | exact HK.out | apply Kept.alloc | apply Kept.drewN | apply Kept.drew | refine Kept.setCell ?_ (.inr GW258.out) _) | exact HK.out)).1) : w.heap.size ≤ gb259)); have n7_ := qA ((by rw [hg]; exact (qS (by repeat (first | (with_reducible first | exact HB.out | apply qG | apply qB | apply qF | refine qC ?_ GE258.out) | exact HB.out))) : w0.heap.size ≤ gb259)); have n8_ := qA ((by rw [hg]; exact Nat.ne_of_lt (blk_lt (g := gb258) (o := .cells #[.slice Ao5 l0_0.length co5, .slice Ao6 l0_1.length co6] 70 (0, 0)) (by (with_reducible repeat (first | refine qE ?_ _ | refine qH ?_ | refine qD ?_ _)); exact BK258.out)) : gb258 ≠ gb259)); have n9_ := qA ((by rw [hg]; exact Nat.ne_of_gt (blk_lt (g := gb258) (o := .cells #[.slice Ao5 l0_0.length co5, .slice Ao6 l0_1.length co6] 70 (0, 0)) (by (with_reducible repeat (first | refine qE ?_ _ | refine qH ?_ | refine qD ?_ _)); exact BK258.out)) : gb259 ≠ gb258)); clear HO0_0; clear HO0_1; clear BK258; clear HK; clear HB; have HO0_0 := n0_; have HO0_1 := n1_; have BK258 := n2_; have HK := n3_; have HB := n4_; have BK259 := n5_; have GW259 := n6_; have GE259 := n7_; have NB258_259 := n8_; have NB259_258 := n9_; clear n0_ n1_ n2_ n3_ n4_ n5_ n6_ n7_ n8_ n9_; clear hb hbox hg; have hnb9 := NB258_259.out; have hnc9 := NB259_258.out; have hcz10_0 : w8.cell? ⟨gb258, 0, none⟩ = some (.slice Ao5 l0_0.length co5) := (qQ BK258.out 0).trans rfl; have hcz10_1 : w8.cell? ⟨gb258, 1, none⟩ = some (.slice Ao6 l0_1.length co6) := (qQ BK258.out 1).trans rfl; have hfz10_0 := qL BK258.out 0; have hfz10_1 := qL BK258.out 1) | ((with_reducible refine gate_builtin (b := .append) (xs := #[.tmp 8, .tmp 13]) rfl ?_); at_builtin; refine Kd.R_append k41 (w0 := w0) w0.heap.size rfl (.tmp 8) (.tmp 13) 24 41 (.agg #[(.int .i64 0), (.int .i64 0), (.int .i64 0)]) 24 rfl Tryd.underlying24 info41 rfl (by decide) (by omega) (.slice Ao6 l0_1.length co6) l0_1 (⟨a1, 0, wrap64 (a2 + 1)⟩ : S41) [.int .i64 a1, .int .i64 0, .int .i64 (wrap64 (a2 + 1))] (fun k_ => ((P0_0_ k_ ∨ P0_1_ k_) ∨ w.heap.size ≤ k_)) (fun _ => False) rfl rfl ?aP (fun _ hk => hk.elim) ?aF ?aO ?aB ?aS ?aL ?_; (case aP => exact k41_mkM _ _ _ (⟨a1, 0, wrap64 (a2 + 1)⟩ : S41)); (case aB => exact (by repeat (first | (with_reducible first | exact HB.out | apply qG | apply qB | apply qF | refine qC ?_ GE258.out | refine qC ?_ GE259.out) | exact HB.out))); (case aF => exact (fun k_ hk => (.inr (Nat.le_trans (by first | exact HK.out.1 | exact (show Kept w _ (fun k_ => P0_0_ k_ ∨ P0_1_ k_) from by repeat (first | (with_reducible first | exact HK.out | apply Kept.alloc | apply Kept.drewN | apply Kept.drew | refine Kept.setCell ?_ (.inr GW258.out) _ | refine Kept.setCell ?_ (.inr GW259.out) _) | exact HK.out)).1) hk)))); (case aO => exact (by (with_reducible repeat (first | apply qJ | apply qI | apply qK)); exact HO0_1.out)); (case aS => exact (qS (by repeat (first | (with_reducible first | exact HB.out | apply qG | apply qB | apply qF | refine qC ?_ GE258.out | refine qC ?_ GE259.out) | exact HB.out)))); (case aL => have := LMc4.out; omega); intro v261 w11 ho hb hg hat; rw [← Ny260.out] at ho; have n0_ := qA (Kd.R_over' (by (with_reducible repeat (first | apply qJ | apply qI | apply qK)); exact HO0_0.out) (Kd.R_typed (by (with_reducible repeat (first | apply qJ | apply qI | apply qK)); exact HO0_1.out)) (by decide) hg); have n1_ := qA (blk_grown (g := gb258) (o := .cells #[.slice Ao5 l0_0.length co5, .slice Ao6 l0_1.length co6] 70 (0, 0)) (by (with_reducible repeat (first | refine qE ?_ _ | refine qH ?_ | refine qD ?_ _)); exact BK258.out) hg (Kd.R_ne HO0_1.out BK258.out (by decide))); have n2_ := qA (blk_grown (g := gb259) (o := .cells #[.slice none 0 0, .slice none 0 0] 70 (0, 0)) (by (with_reducible repeat (first | refine qE ?_ _ | refine qH ?_ | refine qD ?_ _)); exact BK259.out) hg (Kd.R_ne HO0_1.out BK259.out (by decide))); have n3_ := qA (hb); have n4_ := qA (Kept.of_grown (S := (fun k_ => P0_0_ k_ ∨ P0_1_ k_)) hg (by repeat (first | (with_reducible first | exact HK.out | apply Kept.alloc | apply Kept.drewN | apply Kept.drew | refine Kept.setCell ?_ (.inr GW258.out) _ | refine Kept.setCell ?_ (.inr GW259.out) _) | exact HK.out)) (fun k_ e_ => (HO0_1.out.1 k_ e_))); have n5_ := qA (ho); clear HO0_0; clear BK258; clear BK259; clear HB; clear HK; clear HO0_1; have HO0_0 := n0_; have BK258 := n1_; have BK259 := n2_; have HB := n3_; have HK := n4_; have HO262 := n5_; clear n0_ n1_ n2_ n3_ n4_ n5_; clear ho hb hg hat; obtain ⟨Ao12, co12, eo12⟩ := Kd.R_slice HO262.out; subst eo12; have hcz13_0 : w11.cell? ⟨gb258, 0, none⟩ = some (.slice Ao5 l0_0.length co5) := (qQ BK258.out 0).trans rfl; have hcz13_1 : w11.cell? ⟨gb258, 1, none⟩ = some (.slice Ao6 l0_1.length co6) := (qQ BK258.out 1).trans rfl; have hfz13_0 := qL BK258.out 0; have hfz13_1 := qL BK258.out 1; have hcz14_0 : w11.cell? ⟨gb259, 0, none⟩ = some (.slice none 0 0) := (qQ BK259.out 0).trans rfl; have hcz14_1 : w11.cell? ⟨gb259, 1, none⟩ = some (.slice none 0 0) := (qQ BK259.out 1).trans rfl; have hfz14_0 := qL BK259.out 0; have hfz14_1 := qL BK259.out 1))
    refine bodyPost_ret (results_cell_row rfl _ _ gb259 70 #[.slice Ao5 l0_0.length co5, .slice Ao12 y260.length co12] (0, 0) _ rfl (by (with_reducible repeat (first | refine qE ?_ _ | refine qH ?_ | refine qD ?_ _)); refine qY (cs := #[.slice Ao5 l0_0.length co5, .slice none 0 0]) ?_ 1 _ rfl; (with_reducible repeat (first | refine qE ?_ _ | refine qH ?_ | refine qD ?_ _)); refine qY (cs := #[.slice none 0 0, .slice none 0 0]) ?_ 0 _ rfl; (with_reducible repeat (first | refine qE ?_ _ | refine qH ?_ | refine qD ?_ _)); refine blk_far ?_ NB259_258.out _; (with_reducible repeat (first | refine qE ?_ _ | refine qH ?_ | refine qD ?_ _)); exact BK259.out) Tryd.underlying70 rfl (by kernel_rfl)) rfl ?_
    exact ⟨_, _, by first | rfl | (simp [errW_none, errW_some] <;> rfl) | (simp [*, errW_none, errW_some] <;> rfl), by (with_reducible repeat (first | apply qJ | apply qI | apply qK)); exact qU (qP (p := ⟨gb259, 1, none⟩) (qP (p := ⟨gb259, 0, none⟩) (qP (p := ⟨gb258, 1, none⟩) (qV (qV HO0_0.out BK258.out (by decide)) BK259.out (by decide)) (fun _ hk => hk.1.2) (.slice Ao12 y260.length co12)) (fun _ hk => hk.2) (.slice Ao5 l0_0.length co5)) (fun _ hk => hk.2) (.slice Ao12 y260.length co12)) (fun _ hk => hk.1.1), by (with_reducible repeat (first | apply qJ | apply qI | apply qK)); exact qU (qP (p := ⟨gb259, 1, none⟩) (qP (p := ⟨gb259, 0, none⟩) (qP (p := ⟨gb258, 1, none⟩) (qV (qV HO262.out BK258.out (by decide)) BK259.out (by decide)) (fun _ hk => hk.1.2) (.slice Ao12 y260.length co12)) (fun _ hk => hk.2) (.slice Ao5 l0_0.length co5)) (fun _ hk => hk.2) (.slice Ao12 y260.length co12)) (fun _ hk => hk.1.1), by repeat (first | (with_reducible first | exact HB.out | apply qG | apply qB | apply qF | refine qC ?_ GE258.out | refine qC ?_ GE259.out) | exact HB.out), by repeat (first | (with_reducible first | exact HK.out | apply Kept.alloc | apply Kept.drewN | apply Kept.drew | refine Kept.setCell ?_ (.inr GW258.out) _ | refine Kept.setCell ?_ (.inr GW259.out) _) | exact HK.out)⟩
  · rw [if_neg c4] at H
    exact absurd H (by simp)
def flongref04_close.l0 : Nat → List Int → Int → Option (Int)
  | 0, _, _ => none
  | k + 1, x0, x5 => if x5 < (x0.length : Int) then (if 0 ≤ x5 then (if (rd x0 x5) = 93 then (some x5) else (flongref04_close.l0 k x0 (wrap64 (x5 + 1)))) else (none)) else (some (-1))
def flongref04_close.f (k : Nat) (l0 : List Int) (a1 : Int) : Option (Int) := flongref04_close.l0 k l0 a1
set_option maxHeartbeats 8000000 in
set_option maxRecDepth 100000 in
theorem flongref04_close.calls (k : Nat) (A0 : Option Addr) (c0 : Nat) (l0 : List Int) (a1 : Int) (r : Int) (w : World) (hr0 : Kd.C (Kd.int .i32) w A0 l0.length l0) (hc0 : l0.length ≤ c0) (h : flongref04_close.f k l0 a1 = some r) :
    Calls Tryd.prog 68 #[.slice A0 l0.length c0, .int .i64 a1] w fun e w' => e = .returned (.int .i64 r) ∧ Drawn0 w w' := by
  have HR0 := qA hr0
  have HC0 := qA hc0
  clear hr0 hc0
  have H : (flongref04_close.l0 k l0 a1) = some r := h
  clear h
  have H' := qA H
  clear H
  go_enter Tryd.func68, Tryd.ntmps68
  go_wp2
  go_loopg [5] k (fun kq v5 w' => ∃ (x5_1 : Int), v5 = .int .i64 x5_1 ∧ Aside0 (flongref04_close.l0 kq l0 x5_1 = some r) ∧ Aside0 (kq ≤ k) ∧ Drawn0 w w')
  case atStart => exact ⟨(a1), (by first | rfl | (simp; done) | (simp [*]; done)), H', ⟨Nat.le_refl _⟩, by repeat (first | exact Drawn0.refl _ | apply Drawn0.step)⟩
  case round =>
    clear H'
    try clear p2
    obtain ⟨x5_1, rfl, HA, HK1, ⟨m1, rfl⟩⟩ := hrel
    cases gk with
    | zero => exact absurd HA.out (by simp [flongref04_close.l0])
    | succ k1 =>
      have H := HA.out
      clear HA
      simp only [flongref04_close.l0] at H
      by_cases c3 : x5_1 < (l0.length : Int)
      · rw [if_pos c3] at H
        have c3b0 : decide (x5_1 < (l0.length : Int)) = true := decide_eq_true c3
        clear c3
        by_cases c4 : 0 ≤ x5_1
        · rw [if_pos c4] at H
          have c4b0 : decide (0 ≤ x5_1) = true := decide_eq_true c4
          clear c4
          by_cases c5 : (rd l0 x5_1) = 93
          · rw [if_pos c5] at H
            have c5b0 : ((rd l0 x5_1) == 93) = true := beq_iff_eq.mpr c5
            have c5b1 : ((rd l0 x5_1) != 93) = false := bne_eq_false_iff_eq.mpr c5
            clear c5
            obtain rfl := Option.some.inj H
            have p263 : 0 ≤ (x5_1 : Int) := of_decide_eq_true (by first | (with_reducible assumption) | assumption)
            have q263 : x5_1 < (l0.length : Int) := of_decide_eq_true (by first | (with_reducible assumption) | assumption)
            obtain ⟨ad263, e263, hx263_0⟩ := Kd.at_int HR0.out x5_1 p263 q263
            cases e263
            replace p263 := eq_true p263
            replace q263 := eq_true q263
            go_wp2
            go_ret
            exact ⟨by first | rfl | (simp; done) | (simp [*]; done), by repeat (first | exact Drawn0.refl _ | apply Drawn0.step)⟩
          · rw [if_neg c5] at H
            have c5b0 : ((rd l0 x5_1) == 93) = false := beq_eq_false_iff_ne.mpr c5
            have c5b1 : ((rd l0 x5_1) != 93) = true := bne_iff_ne.mpr c5
            have H' := qA H
            clear H
            have p263 : 0 ≤ (x5_1 : Int) := of_decide_eq_true (by first | (with_reducible assumption) | assumption)
            have q263 : x5_1 < (l0.length : Int) := of_decide_eq_true (by first | (with_reducible assumption) | assumption)
            obtain ⟨ad263, e263, hx263_0⟩ := Kd.at_int HR0.out x5_1 p263 q263
            cases e263
            replace p263 := eq_true p263
            replace q263 := eq_true q263
            go_wp2
            go_roundg k1
            case measure => have := HK1.out; omega
            case rel => exact ⟨(wrap64 (x5_1 + 1)), (by first | rfl | (simp; done) | (simp [*]; done)), H', ⟨by have := HK1.out; omega⟩, by repeat (first | exact Drawn0.refl _ | apply Drawn0.step)⟩
        · rw [if_neg c4] at H
          exact absurd H (by simp)
      · rw [if_neg c3] at H
        have c3b0 : decide (x5_1 < (l0.length : Int)) = false := decide_eq_false c3
        clear c3
        obtain rfl := Option.some.inj H
        go_wp2
        go_ret
        exact ⟨by first | rfl | (simp; done) | (simp [*]; done), by repeat (first | exact Drawn0.refl _ | apply Drawn0.step)⟩
end Go.Proofs.YtdogljnddalgdaaDoor.A6
end
section
namespace Go.Proofs.YtdogljnddalgdaaDoor.A6
open Go Go.RowKit Go.Proofs.YtdogljnddalgdaaDoor Go.Proofs.YtdogljnddalgdaaDoorW.PrintWords Go.Proofs.YtdogljnddalgdaaDoorW.PrintLast Go.Proofs.YtdogljnddalgdaaDoorW.PrintMore
theorem Ev_eq {α : Type} {g : Nat → Option α} {a b : α} (h : Ev g a) (e : a = b) : Ev g b := e ▸ h
def ctl (c : Int) : Bool := decide ((0 ≤ c ∧ c ≤ 31) ∨ (127 ≤ c ∧ c ≤ 159) ∨ c = 8232 ∨ c = 8233)
def val (c : Int) : Bool := decide (0 ≤ c ∧ c ≤ 1114111 ∧ (c < 55296 ∨ 57343 < c))
def safe (c : Int) : Int := if val c = true ∧ ctl c = false then c else 65533
theorem runes_Valid_is (c : Int) : runes_Valid.f c = some (val c) := by
  unfold runes_Valid.f val
  repeat' split
  all_goals (congr 1; rw [Bool.eq_iff_iff]; simp; try omega)
theorem ref_Valid_is (c : Int) : flongref02_Valid.f c = some (val c) := by
  unfold flongref02_Valid.f val
  repeat' split
  all_goals (congr 1; rw [Bool.eq_iff_iff]; simp; try omega)
theorem ref_Control_is (c : Int) : flongref02_Control.f c = some (ctl c) := by
  unfold flongref02_Control.f ctl
  repeat' split
  all_goals (congr 1; rw [Bool.eq_iff_iff]; simp; try omega)
theorem Ev_Control (c : Int) : Ev (fun k => runes_Control.f k c) (ctl c) := by
  have j1 : ∀ b, Ev (fun k => runes_Control.j1 k c b) (b || decide (c = 8232 ∨ c = 8233)) := by
    intro b
    refine Ev.succ ?_
    simp only [runes_Control.j1]
    by_cases h1 : b = true
    · exact Ev.pos h1 (Ev.val (by simp [h1]))
    refine Ev.neg h1 ?_
    by_cases h2 : c = 8232
    · exact Ev.pos h2 (Ev.val (by simp [h2]))
    refine Ev.neg h2 ?_
    by_cases h3 : c = 8233
    · exact Ev.pos h3 (Ev.val (by simp [h3]))
    · exact Ev.neg h3 (Ev.val (by simp [h1, h2, h3]))
  have j0 : ∀ b, Ev (fun k => runes_Control.j0 k c b) (b || decide (127 ≤ c ∧ c ≤ 159) || decide (c = 8232 ∨ c = 8233)) := by
    intro b
    refine Ev.succ ?_
    simp only [runes_Control.j0]
    by_cases h1 : b = true
    · exact Ev.pos h1 (Ev_eq (j1 b) (by simp [h1]))
    refine Ev.neg h1 ?_
    by_cases h2 : c ≥ 127
    · exact Ev.pos h2 (Ev_eq (j1 _) (by simp [h1, show 127 ≤ c from h2]))
    · exact Ev.neg h2 (Ev_eq (j1 _) (by simp [h1, h2]))
  unfold runes_Control.f ctl
  by_cases h : c ≥ 0
  · refine Ev.pos h (Ev_eq (j0 _) ?_)
    rw [Bool.eq_iff_iff]; simp; omega
  · refine Ev.neg h (Ev_eq (j0 _) ?_)
    rw [Bool.eq_iff_iff]; simp; omega
theorem Ev_Safe (c : Int) : Ev (fun k => runes_Safe.f k c) (safe c) := by
  unfold runes_Safe.f safe
  refine Ev.const_bind (runes_Valid_is c) ?_
  by_cases h : val c = true
  · refine Ev.pos h (Ev.bind (Ev_Control c) ?_)
    by_cases h2 : ctl c = true
    · exact Ev.pos h2 (Ev.val (by simp [h2]))
    · exact Ev.neg h2 (Ev.val (by simp [h, h2]))
  · exact Ev.neg h (Ev.val (by simp [h]))
theorem ref_Safe_is (c : Int) : flongref02_Safe.f c = some (safe c) := by
  unfold flongref02_Safe.f safe
  rw [ref_Valid_is]
  simp only [Option.bind_some]
  by_cases h : val c = true
  · rw [if_pos h, ref_Control_is]
    simp only [Option.bind_some]
    by_cases h2 : ctl c = true
    · rw [if_pos h2]; simp [h2]
    · rw [if_neg h2]; simp [h, h2]
  · rw [if_neg h]; simp [h]
def hexd (c : Int) : Option Int := if 48 ≤ c ∧ c ≤ 57 then some (c - 48) else if 65 ≤ c ∧ c ≤ 70 then some (c - 55) else none
theorem Ev_digit (c : Int) (h0 : 0 ≤ c) (h1 : c ≤ 255) : Ev (fun k => escape_digit.f k c) (match hexd c with | some d => (d, true) | none => (0, false)) := by
  have j0 : ∀ b : Bool, b = decide (48 ≤ c ∧ c ≤ 57) → Ev (fun k => escape_digit.j0 k c b) (match hexd c with | some d => (d, true) | none => (0, false)) := by
    intro b hb
    refine Ev.succ ?_
    simp only [escape_digit.j0]
    by_cases h : b = true
    · refine Ev.pos h (Ev.val ?_)
      have : 48 ≤ c ∧ c ≤ 57 := by rw [hb] at h; simpa using h
      simp [hexd, this]
      omega
    · refine Ev.neg h ?_
      have hn : ¬ (48 ≤ c ∧ c ≤ 57) := by rw [hb] at h; simpa using h
      by_cases h2 : c ≥ 65
      · refine Ev.pos h2 ?_
        by_cases h3 : c ≤ 70
        · refine Ev.pos h3 (Ev.val ?_)
          simp only [hexd, if_neg hn, if_pos (show 65 ≤ c ∧ c ≤ 70 from ⟨h2, h3⟩)]
          congr 1
          omega
        · refine Ev.neg h3 (Ev.val ?_)
          simp only [hexd, if_neg hn, if_neg (show ¬ (65 ≤ c ∧ c ≤ 70) by omega)]
      · refine Ev.neg h2 (Ev.val ?_)
        simp only [hexd, if_neg hn, if_neg (show ¬ (65 ≤ c ∧ c ≤ 70) by omega)]
  unfold escape_digit.f
  by_cases h : c ≥ 48
  · exact Ev.pos h (j0 _ (by rw [Bool.eq_iff_iff]; simp; omega))
  · exact Ev.neg h (j0 _ (by rw [Bool.eq_iff_iff]; simp; omega))
end Go.Proofs.YtdogljnddalgdaaDoor.A6
end
section
namespace Go.Proofs.YtdogljnddalgdaaDoor.A6
open Go Go.RowKit Go.Proofs.YtdogljnddalgdaaDoor Go.Proofs.YtdogljnddalgdaaDoorW.PrintWords Go.Proofs.YtdogljnddalgdaaDoorW.PrintLast Go.Proofs.YtdogljnddalgdaaDoorW.PrintMore
theorem find_same {T1 T2 : List (List UInt8 × Int)} (h1 : ∀ p ∈ T1, (T2.find? fun q => q.1 == p.1) = some p) (h2 : ∀ p ∈ T2, (T1.find? fun q => q.1 == p.1) = some p) (key : List UInt8) :
    (T1.find? fun q => q.1 == key) = T2.find? fun q => q.1 == key := by
  cases e1 : T1.find? fun q => q.1 == key with
  | some p =>
    have hp := List.find?_some e1
    simp at hp
    have := h1 p (List.mem_of_find?_eq_some e1)
    rw [hp] at this
    exact this.symm
  | none =>
    cases e2 : T2.find? fun q => q.1 == key with
    | none => rfl
    | some p =>
      have hp := List.find?_some e2
      simp at hp
      have := h2 p (List.mem_of_find?_eq_some e2)
      rw [hp] at this
      rw [this] at e1
      cases e1
theorem rdOf_get (l : List ByteArray) (i : Nat) (h : i < l.length) : rdOf ByteArray.empty l (i : Int) = l[i] := by simp [rdOf, List.getD, List.getElem?_eq_getElem h]
def hexfrom (s : ByteArray) : Nat → Int → Int → Option Int
  | 0, _, x => some x
  | n + 1, i, x => (hexd (bt s i)).bind fun d => hexfrom s n (i + 1) (16 * x + d)
def hexName (s : ByteArray) : Int :=
  if (s.size : Int) < 5 ∨ (s.size : Int) > 7 ∨ bt s 0 ≠ 117 then -1 else match hexfrom s (s.size - 1) 1 0 with
    | none => -1
    | some x => if safe x = x then x else -1
def nameSpec (s : ByteArray) : Int := match look namesT s with
  | some r => r
  | none => hexName s
theorem hexd_range {c d : Int} (h : hexd c = some d) : 0 ≤ d ∧ d ≤ 15 := by
  unfold hexd at h
  split at h
  · cases h; omega
  · split at h
    · cases h; omega
    · cases h
theorem or16 {x d : Int} (h0 : 0 ≤ x) (h1 : x < 16777216) (d0 : 0 ≤ d) (d1 : d ≤ 15) : Go.bits .or .i32 (wrap32 (x * 16)) d = 16 * x + d := by
  rw [w32 (by omega) (by omega)]
  have := bits_join .i32 31 (by decide) wraps_i32 4 (x * 16) d (by omega) (by omega) (by omega) d0 (by omega) (by omega)
  rw [this]; omega
def hb : Nat → Int
  | 0 => 16777216
  | n + 1 => hb n / 16
theorem hb_le : ∀ n, 0 ≤ hb n ∧ hb n ≤ 16777216
  | 0 => by simp [hb]
  | n + 1 => by have := hb_le n; simp only [hb]; omega
theorem Ev_Name_l0 (s : ByteArray) (hs : s.size ≤ 7) : ∀ (n : Nat) (i x : Int), 0 ≤ i → i + n = s.size → 0 ≤ x → x < hb n →
    Ev (fun k => escape_Name.l0 k s x i) (match hexfrom s n i x with | none => (0, false) | some v => if safe v = v then (v, true) else (0, false))
  | 0, i, x, hi, he, h0, h1 => by
    refine Ev.succ ?_
    simp only [escape_Name.l0]
    refine Ev.neg (by omega) (Ev.bind (Ev_Safe x) ?_)
    simp only [hexfrom]
    by_cases h : safe x = x <;> simp only [h, reduceIte] <;> exact Ev.now _
  | n + 1, i, x, hi, he, h0, h1 => by
    have hl := hb_le n
    simp only [hb] at h1
    refine Ev.succ ?_
    simp only [escape_Name.l0]
    have hr := bt_range s i
    refine Ev.pos (by omega) (Ev.pos hi (Ev.bind (Ev_digit _ hr.1 hr.2) ?_))
    simp only [hexfrom]
    cases hd : hexd (bt s i) with
    | none => exact Ev.neg (by simp) (Ev.now _)
    | some d =>
      have hdr := hexd_range hd
      refine Ev.pos rfl ?_
      simp only [Option.bind_some]
      rw [or16 h0 (by omega) hdr.1 hdr.2, w64 (by omega) (by omega)]
      exact Ev_Name_l0 s hs n (i + 1) (16 * x + d) (by omega) (by omega) (by omega) (by omega)
theorem Ev_Name (s : ByteArray) (hs : s.size ≤ 9223372036854775807) : Ev (fun k => escape_Name.f k s) (if 0 ≤ nameSpec s then (nameSpec s, true) else (0, false)) := by
  unfold escape_Name.f
  refine Ev.pos hs ?_
  cases hk : look namesT s with
  | some r =>
    refine Ev.pos rfl (Ev.val ?_)
    have h0 : 0 ≤ r := by
      unfold look at hk
      obtain ⟨p, hp, rfl⟩ := Option.map_eq_some_iff.mp hk
      have hm := List.mem_of_find?_eq_some hp
      exact (show ∀ q ∈ namesT, 0 ≤ q.2 by decide) p hm
    have e : nameSpec s = r := by unfold nameSpec; rw [hk]
    rw [e, if_pos h0]
    rfl
  | none =>
    refine Ev.neg (by simp) ?_
    have e : nameSpec s = hexName s := by unfold nameSpec; rw [hk]
    rw [e]
    have j0 : Ev (fun k => escape_Name.j0 k s true) (0, false) := by
      refine Ev.succ ?_
      simp only [escape_Name.j0, reduceIte]
      exact Ev.now _
    have bad : (s.size : Int) < 5 ∨ (s.size : Int) > 7 ∨ bt s 0 ≠ 117 → (if 0 ≤ hexName s then (hexName s, true) else ((0 : Int), false)) = (0, false) := by
      intro h
      have : hexName s = -1 := if_pos h
      rw [this]; rfl
    by_cases h5 : (s.size : Int) < 5
    · rw [bad (.inl h5)]
      exact Ev.pos h5 j0
    refine Ev.neg h5 ?_
    by_cases h7 : (s.size : Int) > 7
    · rw [bad (.inr (.inl h7))]
      exact Ev.pos h7 j0
    refine Ev.neg h7 (Ev.pos (by omega) ?_)
    by_cases hu : bt s 0 = 117
    · have en : ¬ ((s.size : Int) < 5 ∨ (s.size : Int) > 7 ∨ bt s 0 ≠ 117) := by rintro (h | h | h) <;> first | omega | exact h hu
      have eh : hexName s = match hexfrom s (s.size - 1) 1 0 with
        | none => -1
        | some x => if safe x = x then x else -1 := if_neg en
      rw [eh, show (bt s 0 != 117) = false by simp [hu]]
      refine Ev.succ ?_
      simp only [escape_Name.j0, Bool.false_eq_true, reduceIte]
      refine Ev_eq (Ev_Name_l0 s (by omega) (s.size - 1) 1 0 (by omega) (by omega) (by omega) ?_) ?_
      · have : s.size - 1 = 4 ∨ s.size - 1 = 5 ∨ s.size - 1 = 6 := by omega
        rcases this with e | e | e <;> rw [e] <;> decide
      · cases hf : hexfrom s (s.size - 1) 1 0 with
        | none => rfl
        | some v =>
          by_cases hv : safe v = v
          · have h0 : 0 ≤ v := by
              unfold safe at hv
              split at hv
              · rename_i hc
                have := hc.1
                unfold val at this
                simp at this
                exact this.1
              · omega
            simp only [if_pos hv, if_pos h0]
          · simp only [if_neg hv]
            rfl
    · rw [bad (.inr (.inr hu)), show (bt s 0 != 117) = true by simpa using hu]
      exact j0
end Go.Proofs.YtdogljnddalgdaaDoor.A6
end
section
namespace Go.Proofs.YtdogljnddalgdaaDoor.A6
open Go Go.RowKit Go.Proofs.YtdogljnddalgdaaDoor Go.Proofs.YtdogljnddalgdaaDoorW.PrintWords Go.Proofs.YtdogljnddalgdaaDoorW.PrintLast Go.Proofs.YtdogljnddalgdaaDoorW.PrintMore
theorem Ev_RName_l0 (s : ByteArray) (A : List ByteArray) (V : List Int) (hl : A.length = V.length) (hA : A.length ≤ 1000) (hV : ∀ v ∈ V, wrap64 v = v)
    {r : Int} (hr : Ev (fun k => if (s.size : Int) < 5 then flongref04_Name.j1 k s true else if (s.size : Int) > 7 then flongref04_Name.j1 k s true else if 0 < (s.size : Int) then flongref04_Name.j1 k s (bt s 0 != 117) else none) r) :
    ∀ (n i : Nat), i + n = A.length → Ev (fun k => flongref04_Name.l0 k s A V (i : Int)) ((((A.map fun a => a.data.toList).zip V).drop i |>.find? fun p => p.1 == s.data.toList).elim r fun p => p.2)
  | 0, i, h => by
    refine Ev.succ ?_
    simp only [flongref04_Name.l0]
    refine Ev.neg (by omega) ?_
    rw [List.drop_eq_nil_of_le (by simp; omega)]
    exact hr
  | n + 1, i, h => by
    refine Ev.succ ?_
    simp only [flongref04_Name.l0]
    refine Ev.pos (by omega) (Ev.pos (by omega) ?_)
    have hi : i < A.length := by omega
    rw [List.drop_eq_getElem_cons (by simp; omega), List.find?_cons]
    rw [rdOf_get A i hi, toList_data, toList_data]
    simp only [List.getElem_zip, List.getElem_map]
    by_cases hc : A[i].data.toList = s.data.toList
    · refine Ev.pos hc (Ev.pos (by omega) (Ev.val ?_))
      rw [rd_get V i (by omega), hV _ (List.getElem_mem _)]
      simp [hc]
    · refine Ev.neg hc ?_
      rw [show (A[i].data.toList == s.data.toList) = false by simpa using hc]
      rw [w64 (by omega) (by omega)]
      exact Ev_RName_l0 s A V hl hA hV hr n (i + 1) (by omega)
theorem Ev_RName_l1 (s : ByteArray) (hs : s.size ≤ 7) : ∀ (n : Nat) (i x : Int), 0 ≤ i → i + n = s.size → 0 ≤ x → x < hb n →
    Ev (fun k => flongref04_Name.l1 k s x i) (match hexfrom s n i x with | none => -1 | some v => if safe v = v then v else -1)
  | 0, i, x, hi, he, h0, h1 => by
    simp only [hb] at h1
    refine Ev.succ ?_
    simp only [flongref04_Name.l1, hexfrom]
    refine Ev.neg (by omega) ?_
    by_cases hx : x > 1114111
    · refine Ev.pos hx (Ev.val ?_)
      have : safe x = 65533 := by
        unfold safe val
        rw [if_neg (by simp; omega)]
      rw [if_neg (by omega)]
    · refine Ev.neg hx (Ev.const_bind (ref_Safe_is _) ?_)
      rw [w32 (by omega) (by omega)]
      by_cases h : safe x = x
      · refine Ev.pos h (Ev.val ?_); rw [if_pos h]
      · refine Ev.neg h (Ev.val ?_); rw [if_neg h]
  | n + 1, i, x, hi, he, h0, h1 => by
    have hl := hb_le n
    simp only [hb] at h1
    refine Ev.succ ?_
    simp only [flongref04_Name.l1]
    have hr := bt_range s i
    rw [w64 (n := bt s i) (by omega) (by omega)]
    refine Ev.pos (by omega) (Ev.pos hi ?_)
    simp only [hexfrom]
    have low : ∀ (b : Bool), b = decide (48 ≤ bt s i ∧ bt s i ≤ 57) → Ev (fun k => flongref04_Name.j3 k s x i (bt s i) b) (match (hexd (bt s i)).bind fun d => hexfrom s n (i + 1) (16 * x + d) with | none => -1 | some v => if safe v = v then v else -1) := by
      intro b hb'
      refine Ev.succ ?_
      simp only [flongref04_Name.j3]
      by_cases hd : 48 ≤ bt s i ∧ bt s i ≤ 57
      · refine Ev.pos (by simp [hb', hd]) ?_
        have e : hexd (bt s i) = some (bt s i - 48) := if_pos hd
        rw [e]
        simp only [Option.bind_some]
        rw [w64 (n := 16 * x) (by omega) (by omega), w64 (n := 16 * x + bt s i) (by omega) (by omega), w64 (n := 16 * x + bt s i - 48) (by omega) (by omega), w64 (n := i + 1) (by omega) (by omega), show 16 * x + bt s i - 48 = 16 * x + (bt s i - 48) by omega]
        exact Ev_RName_l1 s hs n (i + 1) _ (by omega) (by omega) (by omega) (by omega)
      · refine Ev.neg (by simp [hb']; omega) ?_
        by_cases he : 65 ≤ bt s i ∧ bt s i ≤ 70
        · refine Ev.pos he.1 (Ev.pos he.2 ?_)
          have e : hexd (bt s i) = some (bt s i - 55) := by unfold hexd; rw [if_neg hd, if_pos he]
          rw [e]
          simp only [Option.bind_some]
          rw [w64 (n := 16 * x) (by omega) (by omega), w64 (n := 16 * x + bt s i) (by omega) (by omega), w64 (n := 16 * x + bt s i - 55) (by omega) (by omega), w64 (n := i + 1) (by omega) (by omega), show 16 * x + bt s i - 55 = 16 * x + (bt s i - 55) by omega]
          exact Ev_RName_l1 s hs n (i + 1) _ (by omega) (by omega) (by omega) (by omega)
        · have e : hexd (bt s i) = none := by unfold hexd; rw [if_neg hd, if_neg he]
          rw [e]
          by_cases h65 : bt s i ≥ 65
          · exact Ev.pos h65 (Ev.neg (by omega) (Ev.now _))
          · exact Ev.neg h65 (Ev.now _)
    by_cases h48 : bt s i ≥ 48
    · refine Ev.pos h48 (low _ ?_)
      simp [h48]
    · refine Ev.neg h48 (low _ ?_)
      simp [h48]
theorem Ev_RName_hex (s : ByteArray) : Ev (fun k => if (s.size : Int) < 5 then flongref04_Name.j1 k s true else if (s.size : Int) > 7 then flongref04_Name.j1 k s true else if 0 < (s.size : Int) then flongref04_Name.j1 k s (bt s 0 != 117) else none) (hexName s) := by
  have j1 : Ev (fun k => flongref04_Name.j1 k s true) (-1) := by
    refine Ev.succ ?_
    simp only [flongref04_Name.j1, reduceIte]
    exact Ev.now _
  have bad : (s.size : Int) < 5 ∨ (s.size : Int) > 7 ∨ bt s 0 ≠ 117 → hexName s = -1 := fun h => if_pos h
  by_cases h5 : (s.size : Int) < 5
  · rw [bad (.inl h5)]
    exact Ev.pos h5 j1
  refine Ev.neg h5 ?_
  by_cases h7 : (s.size : Int) > 7
  · rw [bad (.inr (.inl h7))]
    exact Ev.pos h7 j1
  refine Ev.neg h7 (Ev.pos (by omega) ?_)
  by_cases hu : bt s 0 = 117
  · have en : ¬ ((s.size : Int) < 5 ∨ (s.size : Int) > 7 ∨ bt s 0 ≠ 117) := by rintro (h | h | h) <;> first | omega | exact h hu
    have eh : hexName s = match hexfrom s (s.size - 1) 1 0 with
      | none => -1
      | some x => if safe x = x then x else -1 := if_neg en
    rw [eh, show (bt s 0 != 117) = false by simp [hu]]
    refine Ev.succ ?_
    simp only [flongref04_Name.j1, Bool.false_eq_true, reduceIte]
    refine Ev_RName_l1 s (by omega) (s.size - 1) 1 0 (by omega) (by omega) (by omega) ?_
    have : s.size - 1 = 4 ∨ s.size - 1 = 5 ∨ s.size - 1 = 6 := by omega
    rcases this with e | e | e <;> rw [e] <;> decide
  · rw [bad (.inr (.inr hu)), show (bt s 0 != 117) = true by simpa using hu]
    exact j1
theorem Ev_RName (s : ByteArray) : Ev (fun k => flongref04_Name.f k s) (nameSpec s) := by
  unfold flongref04_Name.f
  refine Ev.const_bind rfl ?_
  simp only
  refine Ev_eq (Ev_RName_l0 s _ _ (by decide) (by decide) (by intro v hv; simp only [List.mem_cons, List.not_mem_nil, or_false] at hv; exact w64 (by omega) (by omega)) (Ev_RName_hex s) 30 0 (by decide)) ?_
  rw [List.drop_zero]
  unfold nameSpec look
  rw [← find_same (T1 := namesT) (by decide) (by decide)]
  cases (namesT.find? fun q => q.1 == s.data.toList) <;> rfl
def fontSpec (s : ByteArray) : Int := (look fontsT s).getD (-1)
theorem fonts_nonneg (s : ByteArray) {r : Int} (hk : look fontsT s = some r) : 0 ≤ r := by
  unfold look at hk
  obtain ⟨p, hp, rfl⟩ := Option.map_eq_some_iff.mp hk
  have hm := List.mem_of_find?_eq_some hp
  exact (show ∀ q ∈ fontsT, 0 ≤ q.2 by decide) p hm
theorem Font_is (s : ByteArray) (hs : s.size ≤ 9223372036854775807) : escape_Font.f s = some (if 0 ≤ fontSpec s then (fontSpec s, true) else (0, false)) := by
  unfold escape_Font.f
  rw [if_pos hs]
  cases hk : look fontsT s with
  | none =>
    have e : fontSpec s = -1 := by unfold fontSpec; rw [hk]; rfl
    rw [e]; rfl
  | some r =>
    have h0 := fonts_nonneg s hk
    have e : fontSpec s = r := by unfold fontSpec; rw [hk]; rfl
    rw [e, if_pos h0]; rfl
theorem one_byte (s : ByteArray) (h : s.size = 1) : s.data.toList = [UInt8.ofNat (bt s 0).toNat] := by
  obtain ⟨⟨l⟩⟩ := s
  match l, h with
  | [x], _ =>
    have e : bt ⟨⟨[x]⟩⟩ 0 = (x.toNat : Int) := bt_get ⟨⟨[x]⟩⟩ 0 (by simp)
    rw [e]
    simp
theorem Ev_RFont_l0 (s : ByteArray) (A : List ByteArray) (hA : A.length ≤ 1000)
    {r : Int} (hr : Ev (fun _ => if (s.size : Int) = 1 then if 0 < (s.size : Int) then if bt s 0 ≥ 49 then if bt s 0 ≤ 52 then some (wrap64 (wrap64 (bt s 0) - 49)) else some (-1) else some (-1) else none else some (-1)) r) :
    ∀ (n i : Nat), i + n = A.length → Ev (fun k => flongref04_Font.l0 k s A (i : Int)) ((((A.map fun a => a.data.toList).zipIdx).drop i |>.find? fun p => p.1 == s.data.toList).elim r fun p => (p.2 : Int))
  | 0, i, h => by
    refine Ev.succ ?_
    simp only [flongref04_Font.l0]
    refine Ev.neg (by omega) ?_
    rw [List.drop_eq_nil_of_le (by simp; omega)]
    exact hr
  | n + 1, i, h => by
    refine Ev.succ ?_
    simp only [flongref04_Font.l0]
    refine Ev.pos (by omega) (Ev.pos (by omega) ?_)
    have hi : i < A.length := by omega
    rw [List.drop_eq_getElem_cons (by simp; omega), List.find?_cons]
    rw [rdOf_get A i hi, toList_data, toList_data]
    simp only [List.getElem_zipIdx, List.getElem_map]
    by_cases hc : A[i].data.toList = s.data.toList
    · refine Ev.pos hc (Ev.val ?_)
      simp [hc]
    · refine Ev.neg hc ?_
      rw [show (A[i].data.toList == s.data.toList) = false by simpa using hc]
      rw [w64 (by omega) (by omega)]
      exact Ev_RFont_l0 s A hA hr n (i + 1) (by omega)
def fonts2 : List (List UInt8 × Int) := [([82], 0), ([66], 1), ([73], 2), ([66, 73], 3), ([80], 4), ([49], 0), ([50], 1), ([51], 2), ([52], 3)]
theorem fontSpec_eq (s : ByteArray) : fontSpec s = ((fonts2.find? fun q => q.1 == s.data.toList).map fun p => p.2).getD (-1) := by
  unfold fontSpec look
  rw [find_same (T1 := fontsT) (T2 := fonts2) (by decide) (by decide)]
theorem Ev_RFont (s : ByteArray) : Ev (fun k => flongref04_Font.f k s) (fontSpec s) := by
  unfold flongref04_Font.f
  have hb := bt_range s 0
  have last : Ev (fun _ => if (s.size : Int) = 1 then if 0 < (s.size : Int) then if bt s 0 ≥ 49 then if bt s 0 ≤ 52 then some (wrap64 (wrap64 (bt s 0) - 49)) else some (-1) else some (-1) else none else some (-1))
      (if (s.size : Int) = 1 ∧ 49 ≤ bt s 0 ∧ bt s 0 ≤ 52 then bt s 0 - 49 else -1) := by
    by_cases h1 : (s.size : Int) = 1
    · refine Ev.pos h1 (Ev.pos (by omega) ?_)
      by_cases h2 : bt s 0 ≥ 49
      · refine Ev.pos h2 ?_
        by_cases h3 : bt s 0 ≤ 52
        · refine Ev.pos h3 (Ev.val ?_)
          rw [if_pos ⟨h1, h2, h3⟩, w64 (n := bt s 0) (by omega) (by omega), w64 (by omega) (by omega)]
        · refine Ev.neg h3 (Ev.val ?_)
          rw [if_neg (by omega)]
      · refine Ev.neg h2 (Ev.val ?_)
        rw [if_neg (by omega)]
    · refine Ev.neg h1 (Ev.val ?_)
      rw [if_neg (by omega)]
  refine Ev_eq (Ev_RFont_l0 s _ (by decide) last 5 0 (by decide)) ?_
  rw [List.drop_zero, fontSpec_eq]
  have z : (([(⟨#[82]⟩ : ByteArray), ⟨#[66]⟩, ⟨#[73]⟩, ⟨#[66, 73]⟩, ⟨#[80]⟩] : List ByteArray).map fun a => a.data.toList).zipIdx = [([82], 0), ([66], 1), ([73], 2), ([66, 73], 3), ([80], 4)] := rfl
  rw [z]
  by_cases h1 : s.size = 1
  · have e := one_byte s h1
    rw [e]
    obtain ⟨m, hm⟩ := Int.eq_ofNat_of_zero_le hb.1
    have hm2 : m < 256 := by omega
    rw [hm]
    have h1' : (s.size : Int) = 1 := by omega
    simp only [h1', true_and]
    have key : ∀ m : Nat, m < 256 → (([([82], 0), ([66], 1), ([73], 2), ([66, 73], 3), ([80], 4)] : List (List UInt8 × Nat)).find? fun p => p.1 == [UInt8.ofNat (m : Int).toNat]).elim (if 49 ≤ (m : Int) ∧ (m : Int) ≤ 52 then (m : Int) - 49 else -1) (fun p => (p.2 : Int)) = ((fonts2.find? fun q => q.1 == [UInt8.ofNat (m : Int).toNat]).map fun p => p.2).getD (-1) := by decide +kernel
    exact key m hm2
  · rw [if_neg (by omega)]
    have ne : ∀ x : UInt8, ([x] == s.data.toList) = false := by
      intro x
      rw [beq_eq_false_iff_ne]
      intro h
      apply h1
      have := congrArg List.length h
      rw [Array.length_toList] at this
      exact this.symm
    simp only [fonts2, List.find?_cons, List.find?_nil, ne]
    cases ([66, 73] == s.data.toList) <;> rfl
theorem nameSpec_range (s : ByteArray) : -1 ≤ nameSpec s ∧ nameSpec s ≤ 1114111 := by
  unfold nameSpec
  cases hk : look namesT s with
  | some r =>
    unfold look at hk
    obtain ⟨p, hp, rfl⟩ := Option.map_eq_some_iff.mp hk
    have hm := List.mem_of_find?_eq_some hp
    exact (show ∀ q ∈ namesT, -1 ≤ q.2 ∧ q.2 ≤ 1114111 by decide) p hm
  | none =>
    simp only
    unfold hexName
    split
    · omega
    · split
      · omega
      · split
        · rename_i v _ hv
          unfold safe at hv
          split at hv
          · rename_i hc
            have := hc.1
            unfold val at this
            simp at this
            omega
          · omega
        · omega
theorem fontSpec_range (s : ByteArray) : -1 ≤ fontSpec s ∧ fontSpec s ≤ 4 := by
  unfold fontSpec
  cases hk : look fontsT s with
  | some r =>
    unfold look at hk
    obtain ⟨p, hp, rfl⟩ := Option.map_eq_some_iff.mp hk
    have hm := List.mem_of_find?_eq_some hp
    exact (show ∀ q ∈ fontsT, -1 ≤ q.2 ∧ q.2 ≤ 4 by decide) p hm
  | none => simp
end Go.Proofs.YtdogljnddalgdaaDoor.A6
end
section
namespace Go.Proofs.YtdogljnddalgdaaDoor.A6
open Go.RowKit Go.Proofs.YtdogljnddalgdaaDoorW.PrintWords Go.Proofs.YtdogljnddalgdaaDoorW.PrintLast Go.Proofs.YtdogljnddalgdaaDoorW.PrintMore
open Go.Proofs.YtdogljnddalgdaaDoorW.PrintWords.Aside0 renaming mk → qA
open Go.Proofs.YtdogljnddalgdaaDoorW.PrintWords renaming pw_below_drewN → qB, below_drew1 → qF, below_alloc → qG, below_step → qR, below_size → qS
open Go.Proofs.YtdogljnddalgdaaDoorW.PrintWords.Kd renaming R_drewN → qI, R_alloc → qJ, R_drew → qK, R_lower → qW
open List renaming setIfInBounds_toArray → qM, set_cons_succ → qN, set_cons_zero → qO
attribute [local go_sem] max2_int min2_int max_two min_two max_three min_three max_four min_four   -- for this text's walks alone
set_option linter.unusedVariables false
set_option linter.unusedSimpArgs false
def flongref02_One.j0 : Nat → Int → Option (List Int)
  | 0, _ => none
  | k + 1, x3 => if x3 < 128 then (some (([(x3) % 256] : List Int))) else (if x3 < 2048 then (some (([(wrap64 (192 + (wrap64 (Int.tdiv x3 64)))) % 256, (wrap64 (128 + (Int.tmod x3 64))) % 256] : List Int))) else (if x3 < 65536 then (some (([(wrap64 (224 + (wrap64 (Int.tdiv x3 4096)))) % 256, (wrap64 (128 + (Int.tmod (wrap64 (Int.tdiv x3 64)) 64))) % 256, (wrap64 (128 + (Int.tmod x3 64))) % 256] : List Int))) else (some (([(wrap64 (240 + (wrap64 (Int.tdiv x3 262144)))) % 256, (wrap64 (128 + (Int.tmod (wrap64 (Int.tdiv x3 4096)) 64))) % 256, (wrap64 (128 + (Int.tmod (wrap64 (Int.tdiv x3 64)) 64))) % 256, (wrap64 (128 + (Int.tmod x3 64))) % 256] : List Int)))))
def flongref02_One.f (k : Nat) (a0 : Int) : Option (List Int) := (flongref02_Valid.f a0).bind fun t204 => (if t204 = true then (flongref02_One.j0 k (wrap64 (a0))) else (flongref02_One.j0 k 65533))
set_option maxHeartbeats 8000000 in
set_option maxRecDepth 100000 in
theorem flongref02_One.calls (k : Nat) (a0 : Int) (r : List Int) (w : World) (h : flongref02_One.f k a0 = some r) :
    Calls Tryd.prog 61 #[.int .i32 a0] w fun e w' => ∃ v0_ : Value, e = .returned (v0_) ∧ Kd.R (Kd.int .u8) 5 w' w.heap.size (fun _ => True) v0_ r ∧ Below w.heap.size w w' := by
  have HB := qA (Below.refl w.heap.size w)
  have H : ((flongref02_Valid.f a0).bind fun t204 => (if t204 = true then (flongref02_One.j0 k (wrap64 (a0))) else (flongref02_One.j0 k 65533))) = some r := h
  clear h
  replace H := Option.bind_eq_some_iff.mp H
  obtain ⟨t204, A20, H⟩ := H
  replace H : (if t204 = true then (flongref02_One.j0 k (wrap64 (a0))) else (flongref02_One.j0 k 65533)) = some r := H
  have A2 := qA A20
  clear A20
  have HC3 := qA H
  clear H
  go_enter Tryd.func61, Tryd.ntmps61
  go_upto_if 8 with (first | ((with_reducible refine gate_callee (f := 52) rfl ?_); refine goesL_ (some 7) rfl rfl Tryd.func52 (by kernel_rfl) rfl #[.int .i32 a0] rfl (by (try simp only [List.map_toArray, List.map_cons, List.map_nil]); first | done | rfl | (simp only [List.length_drop, List.length_take]; rfl)) ?_; (with_reducible refine (flongref02_Valid.calls a0 t204 _ A2.out).mono ?_); rintro e w' ⟨rfl, ⟨nd, rfl⟩⟩; refine ⟨_, rfl, ?_⟩))
  (try simp only [Act.put, qM, qO, qN])
  go_cut [3] (fun v3 wc => ∃ (kq : Nat) (x3_2 : Int), v3 = .int .i64 x3_2 ∧ Aside0 (flongref02_One.j0 kq x3_2 = some r) ∧ Aside0 (kq ≤ k) ∧ Aside0 (Below w.heap.size w wc))
  case first =>
    have H := HC3.out
    clear HC3
    by_cases c4 : t204 = true
    · subst c4
      have H1 : (flongref02_One.j0 k (wrap64 (a0))) = some r := by rw [if_pos rfl] at H; exact H
      clear H
      have H := H1
      clear H1
      have H' := qA H
      clear H
      go_wp2
      go_meet
      case rel => exact ⟨_, (wrap64 (a0)), (by first | rfl | (simp; done) | (simp [*]; done)), H', ⟨by first | omega | exact Nat.le_refl _⟩, ⟨by repeat (first | (with_reducible first | exact HB.out | apply qG | apply qB | apply qF) | exact HB.out)⟩⟩
    · replace c4 := Bool.eq_false_iff.mpr c4
      subst c4
      have H1 : (flongref02_One.j0 k 65533) = some r := by rw [if_neg (show ¬ (false = true) by decide)] at H; exact H
      clear H
      have H := H1
      clear H1
      have H' := qA H
      clear H
      go_wp2
      go_meet
      case rel => exact ⟨_, (65533), (by first | rfl | (simp; done) | (simp [*]; done)), H', ⟨by first | omega | exact Nat.le_refl _⟩, ⟨by repeat (first | (with_reducible first | exact HB.out | apply qG | apply qB | apply qF) | exact HB.out)⟩⟩
  case rest =>
    clear HC3
    try clear p2
    try clear c4
    obtain ⟨kq, x3_2, rfl, HA, HJ2, HB⟩ := hcut
    cases kq with
    | zero => exact absurd HA.out (by simp [flongref02_One.j0])
    | succ kj2 =>
      have H := HA.out
      clear HA
      simp only [flongref02_One.j0] at H
      by_cases c5 : x3_2 < 128
      · rw [if_pos c5] at H
        have c5b0 : decide (x3_2 < 128) = true := decide_eq_true c5
        clear c5
        obtain ⟨y205, hy205⟩ : ∃ y_ : List Int, y_ = (([(x3_2) % 256] : List Int)) := ⟨_, rfl⟩
        replace H : (some y205) = some r := by first | (rw [hy205]; with_reducible exact H) | (have H2_ := (Option.bind_some _ _).symm.trans H; rw [hy205]; with_reducible exact H2_) | (have H2_ := (Option.bind_some _ _).symm.trans H; with_reducible exact H2_) | with_reducible exact H | (rw [hy205]; exact H) | exact H
        have Ny205 := qA hy205
        clear hy205
        obtain rfl := Option.some.inj H
        go_wp2_with (first | ((with_reducible refine gate_dst (N := 13) rfl ?_); refine Kd.R_lit (Kd.int .u8) _ 5 ?hg (N := 13) ?hd (xs := ([(x3_2) % 256] : List Int)) (inner := [.int .u8 ((x3_2) % 256)]) (ok := fun _ => True) (okp := fun _ => True) ?hr ?hp (fun _ hk => hk) trivial (Below.refl _ _) (Nat.le_refl _) (by simp) ?_; (case hd => rfl); (case hg => rfl); (case hr => first | (go_simp; done) | (go_simp; rfl)); (case hp => exact (Reps.one (show Kd.M (Kd.int .u8) _ _ _ ((x3_2) % 256) [.int .u8 ((x3_2) % 256)] from rfl) (Reps.none _ _))); intro v206 w6 ho7 hb hg_ hnew_; clear hg_ hnew_; (first | rw [← Ny205.out] at ho7 | (simp only [Int.reduceToNat] at ho7; rw [← Ny205.out] at ho7)); have n0_ := qA (qW ho7 (qS (by repeat (first | (with_reducible first | exact HB.out | apply qG | apply qB | apply qF) | exact HB.out)))); have n1_ := qA (qR (by repeat (first | (with_reducible first | exact HB.out | apply qG | apply qB | apply qF) | exact HB.out)) hb); clear HB; have HO207 := n0_; have HB := n1_; clear n0_ n1_; clear hb ho7))
        go_ret
        exact ⟨_, by first | rfl | (simp [errW_none, errW_some] <;> rfl) | (simp [*, errW_none, errW_some] <;> rfl), by (with_reducible repeat (first | apply qJ | apply qI | apply qK)); exact HO207.out, by repeat (first | (with_reducible first | exact HB.out | apply qG | apply qB | apply qF) | exact HB.out)⟩
      · rw [if_neg c5] at H
        have c5b0 : decide (x3_2 < 128) = false := decide_eq_false c5
        clear c5
        by_cases c8 : x3_2 < 2048
        · rw [if_pos c8] at H
          have c8b0 : decide (x3_2 < 2048) = true := decide_eq_true c8
          clear c8
          obtain ⟨y208, hy208⟩ : ∃ y_ : List Int, y_ = (([(wrap64 (192 + (wrap64 (Int.tdiv x3_2 64)))) % 256, (wrap64 (128 + (Int.tmod x3_2 64))) % 256] : List Int)) := ⟨_, rfl⟩
          replace H : (some y208) = some r := by first | (rw [hy208]; with_reducible exact H) | (have H2_ := (Option.bind_some _ _).symm.trans H; rw [hy208]; with_reducible exact H2_) | (have H2_ := (Option.bind_some _ _).symm.trans H; with_reducible exact H2_) | with_reducible exact H | (rw [hy208]; exact H) | exact H
          have Ny208 := qA hy208
          clear hy208
          obtain rfl := Option.some.inj H
          go_wp2_with (first | ((with_reducible refine gate_dst (N := 24) rfl ?_); refine Kd.R_lit (Kd.int .u8) _ 5 ?hg (N := 24) ?hd (xs := ([(wrap64 (192 + (wrap64 (Int.tdiv x3_2 64)))) % 256, (wrap64 (128 + (Int.tmod x3_2 64))) % 256] : List Int)) (inner := [.int .u8 ((wrap64 (192 + (wrap64 (Int.tdiv x3_2 64)))) % 256), .int .u8 ((wrap64 (128 + (Int.tmod x3_2 64))) % 256)]) (ok := fun _ => True) (okp := fun _ => True) ?hr ?hp (fun _ hk => hk) trivial (Below.refl _ _) (Nat.le_refl _) (by simp) ?_; (case hd => rfl); (case hg => rfl); (case hr => first | (go_simp; done) | (go_simp; rfl)); (case hp => exact (Reps.one (show Kd.M (Kd.int .u8) _ _ _ ((wrap64 (192 + (wrap64 (Int.tdiv x3_2 64)))) % 256) [.int .u8 ((wrap64 (192 + (wrap64 (Int.tdiv x3_2 64)))) % 256)] from rfl) (Reps.one (show Kd.M (Kd.int .u8) _ _ _ ((wrap64 (128 + (Int.tmod x3_2 64))) % 256) [.int .u8 ((wrap64 (128 + (Int.tmod x3_2 64))) % 256)] from rfl) (Reps.none _ _)))); intro v209 w9 ho10 hb hg_ hnew_; clear hg_ hnew_; (first | rw [← Ny208.out] at ho10 | (simp only [Int.reduceToNat] at ho10; rw [← Ny208.out] at ho10)); have n0_ := qA (qW ho10 (qS (by repeat (first | (with_reducible first | exact HB.out | apply qG | apply qB | apply qF) | exact HB.out)))); have n1_ := qA (qR (by repeat (first | (with_reducible first | exact HB.out | apply qG | apply qB | apply qF) | exact HB.out)) hb); clear HB; have HO210 := n0_; have HB := n1_; clear n0_ n1_; clear hb ho10))
          go_ret
          exact ⟨_, by first | rfl | (simp [errW_none, errW_some] <;> rfl) | (simp [*, errW_none, errW_some] <;> rfl), by (with_reducible repeat (first | apply qJ | apply qI | apply qK)); exact HO210.out, by repeat (first | (with_reducible first | exact HB.out | apply qG | apply qB | apply qF) | exact HB.out)⟩
        · rw [if_neg c8] at H
          have c8b0 : decide (x3_2 < 2048) = false := decide_eq_false c8
          clear c8
          by_cases c11 : x3_2 < 65536
          · rw [if_pos c11] at H
            have c11b0 : decide (x3_2 < 65536) = true := decide_eq_true c11
            clear c11
            obtain ⟨y211, hy211⟩ : ∃ y_ : List Int, y_ = (([(wrap64 (224 + (wrap64 (Int.tdiv x3_2 4096)))) % 256, (wrap64 (128 + (Int.tmod (wrap64 (Int.tdiv x3_2 64)) 64))) % 256, (wrap64 (128 + (Int.tmod x3_2 64))) % 256] : List Int)) := ⟨_, rfl⟩
            replace H : (some y211) = some r := by first | (rw [hy211]; with_reducible exact H) | (have H2_ := (Option.bind_some _ _).symm.trans H; rw [hy211]; with_reducible exact H2_) | (have H2_ := (Option.bind_some _ _).symm.trans H; with_reducible exact H2_) | with_reducible exact H | (rw [hy211]; exact H) | exact H
            have Ny211 := qA hy211
            clear hy211
            obtain rfl := Option.some.inj H
            go_wp2_with (first | ((with_reducible refine gate_dst (N := 40) rfl ?_); refine Kd.R_lit (Kd.int .u8) _ 5 ?hg (N := 40) ?hd (xs := ([(wrap64 (224 + (wrap64 (Int.tdiv x3_2 4096)))) % 256, (wrap64 (128 + (Int.tmod (wrap64 (Int.tdiv x3_2 64)) 64))) % 256, (wrap64 (128 + (Int.tmod x3_2 64))) % 256] : List Int)) (inner := [.int .u8 ((wrap64 (224 + (wrap64 (Int.tdiv x3_2 4096)))) % 256), .int .u8 ((wrap64 (128 + (Int.tmod (wrap64 (Int.tdiv x3_2 64)) 64))) % 256), .int .u8 ((wrap64 (128 + (Int.tmod x3_2 64))) % 256)]) (ok := fun _ => True) (okp := fun _ => True) ?hr ?hp (fun _ hk => hk) trivial (Below.refl _ _) (Nat.le_refl _) (by simp) ?_; (case hd => rfl); (case hg => rfl); (case hr => first | (go_simp; done) | (go_simp; rfl)); (case hp => exact (Reps.one (show Kd.M (Kd.int .u8) _ _ _ ((wrap64 (224 + (wrap64 (Int.tdiv x3_2 4096)))) % 256) [.int .u8 ((wrap64 (224 + (wrap64 (Int.tdiv x3_2 4096)))) % 256)] from rfl) (Reps.one (show Kd.M (Kd.int .u8) _ _ _ ((wrap64 (128 + (Int.tmod (wrap64 (Int.tdiv x3_2 64)) 64))) % 256) [.int .u8 ((wrap64 (128 + (Int.tmod (wrap64 (Int.tdiv x3_2 64)) 64))) % 256)] from rfl) (Reps.one (show Kd.M (Kd.int .u8) _ _ _ ((wrap64 (128 + (Int.tmod x3_2 64))) % 256) [.int .u8 ((wrap64 (128 + (Int.tmod x3_2 64))) % 256)] from rfl) (Reps.none _ _))))); intro v212 w12 ho13 hb hg_ hnew_; clear hg_ hnew_; (first | rw [← Ny211.out] at ho13 | (simp only [Int.reduceToNat] at ho13; rw [← Ny211.out] at ho13)); have n0_ := qA (qW ho13 (qS (by repeat (first | (with_reducible first | exact HB.out | apply qG | apply qB | apply qF) | exact HB.out)))); have n1_ := qA (qR (by repeat (first | (with_reducible first | exact HB.out | apply qG | apply qB | apply qF) | exact HB.out)) hb); clear HB; have HO213 := n0_; have HB := n1_; clear n0_ n1_; clear hb ho13))
            go_ret
            exact ⟨_, by first | rfl | (simp [errW_none, errW_some] <;> rfl) | (simp [*, errW_none, errW_some] <;> rfl), by (with_reducible repeat (first | apply qJ | apply qI | apply qK)); exact HO213.out, by repeat (first | (with_reducible first | exact HB.out | apply qG | apply qB | apply qF) | exact HB.out)⟩
          · rw [if_neg c11] at H
            have c11b0 : decide (x3_2 < 65536) = false := decide_eq_false c11
            clear c11
            obtain ⟨y214, hy214⟩ : ∃ y_ : List Int, y_ = (([(wrap64 (240 + (wrap64 (Int.tdiv x3_2 262144)))) % 256, (wrap64 (128 + (Int.tmod (wrap64 (Int.tdiv x3_2 4096)) 64))) % 256, (wrap64 (128 + (Int.tmod (wrap64 (Int.tdiv x3_2 64)) 64))) % 256, (wrap64 (128 + (Int.tmod x3_2 64))) % 256] : List Int)) := ⟨_, rfl⟩
            replace H : (some y214) = some r := by first | (rw [hy214]; with_reducible exact H) | (have H2_ := (Option.bind_some _ _).symm.trans H; rw [hy214]; with_reducible exact H2_) | (have H2_ := (Option.bind_some _ _).symm.trans H; with_reducible exact H2_) | with_reducible exact H | (rw [hy214]; exact H) | exact H
            have Ny214 := qA hy214
            clear hy214
            obtain rfl := Option.some.inj H
            go_wp2_with (first | ((with_reducible refine gate_dst (N := 59) rfl ?_); refine Kd.R_lit (Kd.int .u8) _ 5 ?hg (N := 59) ?hd (xs := ([(wrap64 (240 + (wrap64 (Int.tdiv x3_2 262144)))) % 256, (wrap64 (128 + (Int.tmod (wrap64 (Int.tdiv x3_2 4096)) 64))) % 256, (wrap64 (128 + (Int.tmod (wrap64 (Int.tdiv x3_2 64)) 64))) % 256, (wrap64 (128 + (Int.tmod x3_2 64))) % 256] : List Int)) (inner := [.int .u8 ((wrap64 (240 + (wrap64 (Int.tdiv x3_2 262144)))) % 256), .int .u8 ((wrap64 (128 + (Int.tmod (wrap64 (Int.tdiv x3_2 4096)) 64))) % 256), .int .u8 ((wrap64 (128 + (Int.tmod (wrap64 (Int.tdiv x3_2 64)) 64))) % 256), .int .u8 ((wrap64 (128 + (Int.tmod x3_2 64))) % 256)]) (ok := fun _ => True) (okp := fun _ => True) ?hr ?hp (fun _ hk => hk) trivial (Below.refl _ _) (Nat.le_refl _) (by simp) ?_; (case hd => rfl); (case hg => rfl); (case hr => first | (go_simp; done) | (go_simp; rfl)); (case hp => exact (Reps.one (show Kd.M (Kd.int .u8) _ _ _ ((wrap64 (240 + (wrap64 (Int.tdiv x3_2 262144)))) % 256) [.int .u8 ((wrap64 (240 + (wrap64 (Int.tdiv x3_2 262144)))) % 256)] from rfl) (Reps.one (show Kd.M (Kd.int .u8) _ _ _ ((wrap64 (128 + (Int.tmod (wrap64 (Int.tdiv x3_2 4096)) 64))) % 256) [.int .u8 ((wrap64 (128 + (Int.tmod (wrap64 (Int.tdiv x3_2 4096)) 64))) % 256)] from rfl) (Reps.one (show Kd.M (Kd.int .u8) _ _ _ ((wrap64 (128 + (Int.tmod (wrap64 (Int.tdiv x3_2 64)) 64))) % 256) [.int .u8 ((wrap64 (128 + (Int.tmod (wrap64 (Int.tdiv x3_2 64)) 64))) % 256)] from rfl) (Reps.one (show Kd.M (Kd.int .u8) _ _ _ ((wrap64 (128 + (Int.tmod x3_2 64))) % 256) [.int .u8 ((wrap64 (128 + (Int.tmod x3_2 64))) % 256)] from rfl) (Reps.none _ _)))))); intro v215 w14 ho15 hb hg_ hnew_; clear hg_ hnew_; (first | rw [← Ny214.out] at ho15 | (simp only [Int.reduceToNat] at ho15; rw [← Ny214.out] at ho15)); have n0_ := qA (qW ho15 (qS (by repeat (first | (with_reducible first | exact HB.out | apply qG | apply qB | apply qF) | exact HB.out)))); have n1_ := qA (qR (by repeat (first | (with_reducible first | exact HB.out | apply qG | apply qB | apply qF) | exact HB.out)) hb); clear HB; have HO216 := n0_; have HB := n1_; clear n0_ n1_; clear hb ho15))
            go_ret
            exact ⟨_, by first | rfl | (simp [errW_none, errW_some] <;> rfl) | (simp [*, errW_none, errW_some] <;> rfl), by (with_reducible repeat (first | apply qJ | apply qI | apply qK)); exact HO216.out, by repeat (first | (with_reducible first | exact HB.out | apply qG | apply qB | apply qF) | exact HB.out)⟩
def flongref02_is.f (k : Nat) (l0 : List Int) : Option (Bool) := (flongref02_value.f k l0).bind fun t217 => (if t217 < 0 then (some false) else (if t217 > 1114111 then (some false) else ((flongref02_Valid.f (wrap32 (t217))).bind fun t218 => (if t218 = true then ((flongref02_One.f k (wrap32 (t217))).bind fun t219 => (some ((strOfNums t219).toList == (strOfNums l0).toList))) else (some false)))))
def flongref02_is.T4 : Bool × List (List Nat × List Nat) := (true, [([], []), ([0], [0]), ([1], [1]), ([2], [2]), ([], []), ([4], [4]), ([3, 5], [3, 5]), ([6, 2, 0, 1, 2, 3, 4, 5, 6], [6])])
def flongref02_is.B4 : List Nat := [0, 1, 3, 7, 0, 16, 63, 127]
theorem flongref02_is.tab4 : rtab .any (opsOf Tryd.f50 4) = flongref02_is.T4 := by kernel_rfl
theorem flongref02_is.bits4 : waitsOk flongref02_is.T4.2 flongref02_is.B4 = true := by kernel_rfl
set_option maxHeartbeats 8000000 in
set_option maxRecDepth 100000 in
theorem flongref02_is.calls (k : Nat) (A0 : Option Addr) (c0 : Nat) (l0 : List Int) (r : Bool) (w : World) (hr0 : Kd.C (Kd.int .u8) w A0 l0.length l0) (hc0 : l0.length ≤ c0) (h : flongref02_is.f k l0 = some r) :
    Calls Tryd.prog 50 #[.slice A0 l0.length c0] w fun e w' => e = .returned (.bool r) ∧ Below w.heap.size w w' := by
  have HR0 := qA hr0
  have HC0 := qA hc0
  clear hr0 hc0
  have HB := qA (Below.refl w.heap.size w)
  have H : ((flongref02_value.f k l0).bind fun t217 => (if t217 < 0 then (some false) else (if t217 > 1114111 then (some false) else ((flongref02_Valid.f (wrap32 (t217))).bind fun t218 => (if t218 = true then ((flongref02_One.f k (wrap32 (t217))).bind fun t219 => (some ((strOfNums t219).toList == (strOfNums l0).toList))) else (some false)))))) = some r := h
  clear h
  replace H := Option.bind_eq_some_iff.mp H
  obtain ⟨t217, A20, H⟩ := H
  replace H : (if t217 < 0 then (some false) else (if t217 > 1114111 then (some false) else ((flongref02_Valid.f (wrap32 (t217))).bind fun t218 => (if t218 = true then ((flongref02_One.f k (wrap32 (t217))).bind fun t219 => (some ((strOfNums t219).toList == (strOfNums l0).toList))) else (some false))))) = some r := H
  have A2 := qA A20
  clear A20
  by_cases c3 : t217 < 0
  · rw [if_pos c3] at H
    have c3b0 : decide (t217 < 0) = true := decide_eq_true c3
    clear c3
    obtain rfl := Option.some.inj H
    go_enter Tryd.func50, Tryd.ntmps50
    go_wp2_with (first | ((with_reducible refine gate_callee (f := 51) rfl ?_); refine goesL_ (some 5) rfl rfl Tryd.func51 (by kernel_rfl) rfl #[.slice A0 l0.length c0] rfl (by (try simp only [List.map_toArray, List.map_cons, List.map_nil]); first | done | rfl | (simp only [List.length_drop, List.length_take]; rfl)) ?_; (with_reducible refine (flongref02_value.calls k _ _ l0 t217 _ ?side1 ?side2 A2.out).mono ?_); (case side1 => repeat (first | exact HR0.out | (with_reducible refine Kd.C_alloc ?_ _) | (with_reducible refine Kd.C_drewN ?_ _) | (with_reducible refine Kd.C_drew ?_))); (case side2 => exact HC0.out); rintro e w' ⟨rfl, ⟨nd, rfl⟩⟩; refine ⟨_, rfl, ?_⟩))
    go_ret
    exact ⟨by first | rfl | (simp [errW_none, errW_some] <;> rfl) | (simp [*, errW_none, errW_some] <;> rfl), by repeat (first | (with_reducible first | exact HB.out | apply qG | apply qB | apply qF) | exact HB.out)⟩
  · rw [if_neg c3] at H
    have c3b0 : decide (t217 < 0) = false := decide_eq_false c3
    clear c3
    by_cases c4 : t217 > 1114111
    · rw [if_pos c4] at H
      have c4b0 : decide (1114111 < t217) = true := decide_eq_true c4
      clear c4
      obtain rfl := Option.some.inj H
      go_enter Tryd.func50, Tryd.ntmps50
      go_wp2_with (first | ((with_reducible refine gate_callee (f := 51) rfl ?_); refine goesL_ (some 5) rfl rfl Tryd.func51 (by kernel_rfl) rfl #[.slice A0 l0.length c0] rfl (by (try simp only [List.map_toArray, List.map_cons, List.map_nil]); first | done | rfl | (simp only [List.length_drop, List.length_take]; rfl)) ?_; (with_reducible refine (flongref02_value.calls k _ _ l0 t217 _ ?side1 ?side2 A2.out).mono ?_); (case side1 => repeat (first | exact HR0.out | (with_reducible refine Kd.C_alloc ?_ _) | (with_reducible refine Kd.C_drewN ?_ _) | (with_reducible refine Kd.C_drew ?_))); (case side2 => exact HC0.out); rintro e w' ⟨rfl, ⟨nd, rfl⟩⟩; refine ⟨_, rfl, ?_⟩))
      go_ret
      exact ⟨by first | rfl | (simp [errW_none, errW_some] <;> rfl) | (simp [*, errW_none, errW_some] <;> rfl), by repeat (first | (with_reducible first | exact HB.out | apply qG | apply qB | apply qF) | exact HB.out)⟩
    · rw [if_neg c4] at H
      have c4b0 : decide (1114111 < t217) = false := decide_eq_false c4
      clear c4
      replace H := Option.bind_eq_some_iff.mp H
      obtain ⟨t218, A50, H⟩ := H
      replace H : (if t218 = true then ((flongref02_One.f k (wrap32 (t217))).bind fun t219 => (some ((strOfNums t219).toList == (strOfNums l0).toList))) else (some false)) = some r := H
      have A5 := qA A50
      clear A50
      by_cases c6 : t218 = true
      · subst c6
        have H1 : ((flongref02_One.f k (wrap32 (t217))).bind fun t219 => (some ((strOfNums t219).toList == (strOfNums l0).toList))) = some r := by rw [if_pos rfl] at H; exact H
        clear H
        have H := H1
        clear H1
        replace H := Option.bind_eq_some_iff.mp H
        obtain ⟨t219, A70, H⟩ := H
        replace H : (some ((strOfNums t219).toList == (strOfNums l0).toList)) = some r := H
        have A7 := qA A70
        clear A70
        obtain rfl := Option.some.inj H
        go_enter Tryd.func50, Tryd.ntmps50
        try go_wp2_with (first | ((with_reducible refine gate_callee (f := 51) rfl ?_); refine goesL_ (some 5) rfl rfl Tryd.func51 (by kernel_rfl) rfl #[.slice A0 l0.length c0] rfl (by (try simp only [List.map_toArray, List.map_cons, List.map_nil]); first | done | rfl | (simp only [List.length_drop, List.length_take]; rfl)) ?_; (with_reducible refine (flongref02_value.calls k _ _ l0 t217 _ ?side1 ?side2 A2.out).mono ?_); (case side1 => repeat (first | exact HR0.out | (with_reducible refine Kd.C_alloc ?_ _) | (with_reducible refine Kd.C_drewN ?_ _) | (with_reducible refine Kd.C_drew ?_))); (case side2 => exact HC0.out); rintro e w' ⟨rfl, ⟨nd, rfl⟩⟩; refine ⟨_, rfl, ?_⟩) | (go_at_call 52; (with_reducible refine (flongref02_Valid.calls (wrap32 (t217)) true _ A5.out).mono ?_); rintro e w' ⟨rfl, ⟨nd, rfl⟩⟩))
        have n0_ := qA (qF HB.out)
        clear HB
        have HB := n0_
        clear n0_
        refine start_ (n := 8) (S := fun w' => Below w.heap.size w w' ∧ Kd.C (Kd.int .u8) w' A0 l0.length l0) (ds := []) #[false, false, false, false, false, false, false, false] (by kernel_rfl) rfl rfl ⟨by repeat (first | exact Below.refl _ _ | apply qF | apply qB), Kd.C_below HR0.out (by repeat (first | exact Below.refl _ _ | apply qF | apply qB))⟩ (fun hHeld => ?_); refine with_tabW flongref02_is.tab4 flongref02_is.bits4 (fun HT_ HW_ => ?_)
        clear HB
        have HB := qA hHeld.1
        refine pure_ (i := 0) (N := some 18) (v := ?_) (a' := ?_) #[true, false, false, false, false, false, false, false] rfl rfl (any_of HT_.out (by kernel_rfl)) (fun _ _ _ h => h) (Or.inl ⟨by rfl, ?_⟩) ?_ ?_
        rotate_left
        · intro w'
          go_simp
          with_reducible rfl
        rotate_left
        · simp only [Act.put, qM, qO, qN, i64_w, i32_w]
          rfl
        refine pure_ (i := 1) (N := some 19) (v := ?_) (a' := ?_) #[true, true, false, false, false, false, false, false] rfl rfl (any_of HT_.out (by kernel_rfl)) (fun _ _ _ h => h) (Or.inl ⟨by rfl, ?_⟩) ?_ ?_
        rotate_left
        · intro w'
          go_simp
          with_reducible rfl
        rotate_left
        · simp only [Act.put, qM, qO, qN, i64_w, i32_w]
          rfl
        refine pure_ (i := 4) (N := some 22) (v := ?_) (a' := ?_) #[true, true, false, false, true, false, false, false] rfl rfl (any_of HT_.out (by kernel_rfl)) (fun _ _ _ h => h) (Or.inl ⟨by rfl, ?_⟩) ?_ ?_
        rotate_left
        · intro w'
          go_simp
          with_reducible rfl
        rotate_left
        · simp only [Act.put, qM, qO, qN, i64_w, i32_w]
          rfl
        refine take_ (i := 5) (N := some 23) (v := ?_) (a' := ?_) #[true, true, false, false, true, true, false, false] rfl rfl (take_ofW HT_.out HW_.out (by kernel_rfl)) (fun _ _ _ h => h) (Or.inl ⟨by rfl, ?_⟩) hHeld ?_ ?_
        rotate_left
        · intro w' hs_
          have hcv_ := Kd.C_string (P := Tryd.prog) (A := A0) (c := c0) Tryd.underlying36 Tryd.underlying5 Tryd.underlying9 hs_.2
          go_simp
          with_reducible rfl
        rotate_left
        · simp only [Act.put, qM, qO, qN, i64_w, i32_w]
          rfl
        refine one_ (i := 2) (N := some 20) #[true, true, true, false, true, true, false, false] rfl rfl (one_of HT_.out (by kernel_rfl)) (by decide) (fun K hK => ?_)
        refine goes_ Tryd.func61 (by kernel_rfl) rfl #[.int .i32 (wrap32 (t217))] (by rfl) rfl rfl (by (try simp only [List.map_toArray, List.map_cons, List.map_nil]); first | done | rfl | (simp only [List.length_drop, List.length_take]; rfl)) ?_
        with_reducible refine (flongref02_One.calls k (wrap32 (t217)) t219 _ A7.out).mono ?_
        rintro e w9 ⟨v220, rfl, ho0, hb⟩
        refine ⟨_, rfl, ?_⟩
        have n0_ := qA (qW ho0 (qS (by repeat (first | (with_reducible first | exact HB.out | apply qG | apply qB | apply qF) | exact HB.out))))
        have n1_ := qA (qR (by repeat (first | (with_reducible first | exact HB.out | apply qG | apply qB | apply qF) | exact HB.out)) hb)
        clear HB
        have HO221 := n0_
        have HB := n1_
        clear n0_ n1_
        (try clear hb)
        (try clear hb2)
        (try clear hk)
        (try clear hi)
        (try clear ho0)
        have hcv11 := Kd.C_string (P := Tryd.prog) (A := A0) (c := c0) Tryd.underlying36 Tryd.underlying5 Tryd.underlying9 (Kd.C_below HR0.out HB.out)
        refine hK.out _ _ ⟨HB.out, Kd.C_below HR0.out HB.out⟩ (fun hHeld => ?_)
        clear hK K
        refine norm_ (a' := ?_) ?_ ?_
        rotate_left
        · show Act.put _ (some 20) _ = _
          simp only [Act.put, qM, qO, qN, i64_w, i32_w]
          rfl
        refine one_ (i := 3) (N := some 21) #[true, true, true, true, true, true, false, false] rfl rfl (one_of HT_.out (by kernel_rfl)) (by decide) (fun K hK => ?_)
        have hcv10 := own_string (P := Tryd.prog) Tryd.underlying36 Tryd.underlying5 Tryd.underlying9 (Kd.own_of_R HO221.out)
        refine value_ (w1 := ?_) (v := ?_) (by rfl) rfl ?_ ?_
        rotate_left 2
        · go_simp
          constructor
          · rfl
          · rfl
        clear hcv10
        refine hK.out _ _ ⟨HB.out, Kd.C_below HR0.out HB.out⟩ (fun hHeld => ?_)
        clear hK K
        refine norm_ (a' := ?_) ?_ ?_
        rotate_left
        · show Act.put _ (some 21) _ = _
          simp only [Act.put, qM, qO, qN, i64_w, i32_w]
          rfl
        refine pure_ (i := 6) (N := some 24) (v := ?_) (a' := ?_) #[true, true, true, true, true, true, true, false] rfl rfl (any_of HT_.out (by kernel_rfl)) (fun _ _ _ h => h) (Or.inl ⟨by rfl, ?_⟩) ?_ ?_
        rotate_left
        · intro w'
          go_simp
          with_reducible rfl
        rotate_left
        · simp only [Act.put, qM, qO, qN, i64_w, i32_w]
          rfl
        refine pure_ (i := 7) (N := some 2) (v := ?_) (a' := ?_) #[true, true, true, true, true, true, true, true] rfl rfl (any_of HT_.out (by kernel_rfl)) (fun _ _ _ h => h) (Or.inl ⟨by rfl, ?_⟩) ?_ ?_
        rotate_left
        · intro w'
          go_simp
          with_reducible rfl
        rotate_left
        · simp only [Act.put, qM, qO, qN, i64_w, i32_w]
          rfl
        refine done_ (done_of HT_.out (by kernel_rfl)) ?_
        try go_wp2
        go_ret
        exact ⟨by first | rfl | (simp [errW_none, errW_some] <;> rfl) | (simp [*, errW_none, errW_some] <;> rfl), by repeat (first | (with_reducible first | exact HB.out | apply qG | apply qB | apply qF) | exact HB.out)⟩
      · replace c6 := Bool.eq_false_iff.mpr c6
        subst c6
        have H1 : (some false) = some r := by rw [if_neg (show ¬ (false = true) by decide)] at H; exact H
        clear H
        have H := H1
        clear H1
        obtain rfl := Option.some.inj H
        go_enter Tryd.func50, Tryd.ntmps50
        go_wp2_with (first | ((with_reducible refine gate_callee (f := 51) rfl ?_); refine goesL_ (some 5) rfl rfl Tryd.func51 (by kernel_rfl) rfl #[.slice A0 l0.length c0] rfl (by (try simp only [List.map_toArray, List.map_cons, List.map_nil]); first | done | rfl | (simp only [List.length_drop, List.length_take]; rfl)) ?_; (with_reducible refine (flongref02_value.calls k _ _ l0 t217 _ ?side1 ?side2 A2.out).mono ?_); (case side1 => repeat (first | exact HR0.out | (with_reducible refine Kd.C_alloc ?_ _) | (with_reducible refine Kd.C_drewN ?_ _) | (with_reducible refine Kd.C_drew ?_))); (case side2 => exact HC0.out); rintro e w' ⟨rfl, ⟨nd, rfl⟩⟩; refine ⟨_, rfl, ?_⟩) | (go_at_call 52; (with_reducible refine (flongref02_Valid.calls (wrap32 (t217)) false _ A5.out).mono ?_); rintro e w' ⟨rfl, ⟨nd, rfl⟩⟩))
        go_ret
        exact ⟨by first | rfl | (simp [errW_none, errW_some] <;> rfl) | (simp [*, errW_none, errW_some] <;> rfl), by repeat (first | (with_reducible first | exact HB.out | apply qG | apply qB | apply qF) | exact HB.out)⟩
end Go.Proofs.YtdogljnddalgdaaDoor.A6
end
