/- Of what the law StylesBack needs: part 13. -/
import Derived.ArgAppend
import Derived.Below
import Derived.BigQuiet
import Derived.Deep.AppendLies
import Derived.Deep.CutBlock
import Derived.Deep.DeepCutAuto
import Derived.Deep.Draws
import Derived.Deep.LoopGhost
import Derived.Deep.OwnRows
import Derived.Deep.QuietTactic
import Derived.Deep.RegionHeld3
import Derived.KernelRfl
import Derived.Laws.BitsLemmas
import Derived.Laws.BytesArg
import Derived.Laws.Cover4
import Derived.Laws.IdiomCopy
import Derived.Laws.MakeOwn
import Derived.Laws.OwnMore
import Derived.Laws.Rows
import Derived.Laws.Slices
import Derived.Laws.StructEq
import Derived.Lib.AppendStr
import Derived.Lib.ConvBytes
import Derived.Maps.AppendAt
import Derived.Maps.Own
import Derived.Maps.OwnOps
import Derived.Maps.OwnSet
import Derived.OrdersHeld
import Derived.Outline
import Derived.OwnWalk
import Derived.RowKit
import Derived.RowKit3
import Derived.StringKeys
import Derived.Tactics
import Derived.Test.YtdogljnddalgdaaDoorProg
import Derived.WalkKit
import Derived.WalkMore
import Derived.WideLaws
import Derived.Test.YtdogljnddalgdaaDoorBBack8
import Derived.Test.YtdogljnddalgdaaDoorBBack12
namespace Go.Proofs.YtdogljnddalgdaaDoorW.PrintLast
end Go.Proofs.YtdogljnddalgdaaDoorW.PrintLast
namespace Go.Proofs.YtdogljnddalgdaaDoorW.PrintMore
end Go.Proofs.YtdogljnddalgdaaDoorW.PrintMore
namespace Go.Proofs.YtdogljnddalgdaaDoorW.PrintWords
end Go.Proofs.YtdogljnddalgdaaDoorW.PrintWords
section
namespace Go.Proofs.YtdogljnddalgdaaDoor.A6
open Go.RowKit Go.Proofs.YtdogljnddalgdaaDoorW.PrintWords Go.Proofs.YtdogljnddalgdaaDoorW.PrintLast Go.Proofs.YtdogljnddalgdaaDoorW.PrintMore
attribute [local go_sem] max2_int min2_int max_two min_two max_three min_three max_four min_four   -- for this text's walks alone
set_option linter.unusedVariables false
set_option linter.unusedSimpArgs false
def turn_at (a b i : Int) : Int := if i % 2 = 0 then a else b
set_option maxHeartbeats 8000000 in
set_option maxRecDepth 100000 in
theorem turns1_calls (a b i : Int) (g : Nat) (w : World) (hb : w.heap[g]? = some (.cells #[.int .u8 a, .int .u8 b] 92 (0, 0))) (hi : 0 ≤ i) :
    Calls Tryd.prog 63 #[.int .i64 i, .pointer (some ⟨g, 0, none⟩)] w fun e w' => e = .returned (.int .u8 (turn_at a b i)) ∧ w' = w := by
  have hu92 := Tryd.underlying92
  have hc0 : w.cell? ⟨g, 0, none⟩ = some (.int .u8 a) := (blk_cell hb 0).trans rfl
  have hc1 : w.cell? ⟨g, 1, none⟩ = some (.int .u8 b) := (blk_cell hb 1).trans rfl
  have HI := Aside0.mk hi
  clear hi hb
  by_cases hm : Int.tmod i 2 = 0
  · have e : turn_at a b i = a := by unfold turn_at; rw [Int.tmod_eq_emod_of_nonneg HI.out] at hm; rw [if_pos hm]
    rw [e]
    go_enter Tryd.func63, Tryd.ntmps63
    go_wp2
    go_ret
    exact ⟨rfl, rfl⟩
  · have h1 : Int.tmod i 2 = 1 := by rw [Int.tmod_eq_emod_of_nonneg HI.out] at hm ⊢; omega
    have e : turn_at a b i = b := by unfold turn_at; rw [Int.tmod_eq_emod_of_nonneg HI.out] at hm; rw [if_neg hm]
    rw [e]
    clear hm
    go_enter Tryd.func63, Tryd.ntmps63
    go_wp2
    go_ret
    exact ⟨rfl, rfl⟩
set_option maxHeartbeats 8000000 in
set_option maxRecDepth 100000 in
theorem turns2_calls {w0 w : World} {base b2 : Nat} {x y : Value} {xs ys : List S60} {oky : Nat → Prop} (hB : Below base w0 w) (hbase : base ≤ w.heap.size) (hx : Kd.R k60 60 w base (fun k => some k ≠ y.ownBlock) x xs) (hy : Kd.R k60 60 w b2 oky y ys)
    (hl : (xs.length + ys.length) * 8 ≤ 140737488355328) :
    Calls Tryd.prog 64 #[x, y] w fun e w' => ∃ v, e = .returned v ∧ Kd.R k60 60 w' base (fun k => some k ≠ y.ownBlock) v (xs ++ ys) ∧ Below base w0 w' ∧ w.grownBy w' x.ownBlock := by
  have hu48 := Tryd.underlying48
  obtain ⟨Ay, cy, ey⟩ := Kd.R_slice hy
  subst ey
  have HB := Aside0.mk hB
  have HS := Aside0.mk hbase
  have HX := Aside0.mk hx
  have HY := Aside0.mk hy
  have HL := Aside0.mk hl
  clear hB hbase hx hy hl
  go_enter Tryd.func64, Tryd.ntmps64
  go_wp2_with (((with_reducible refine gate_builtin (b := .append) (xs := #[.tmp 5, .tmp 6]) rfl ?_); at_builtin; refine Kd.R_append_rows k60 (w0 := w0) base rfl (.tmp 5) (.tmp 6) 48 60 (.agg #[(.int .i32 0), (.int .u8 0)]) 8 rfl Tryd.underlying48 info60 rfl (by decide) (by omega) x xs ys _ _ _ (fun k_ => some k_ ≠ (.slice Ay ys.length cy : Value).ownBlock) (fun _ => False) rfl rfl ?aO ?aR (fun _ _ h => h) (fun _ h => h.elim) ?aF ?aB ?aS ?aL ?_; (case aR => exact (Kd.R_reads' HY.out).2.2); (case aB => exact HB.out); (case aF => exact (fun k_ hk => Kd.fresh' (Kd.R_lt HY.out) k_ hk)); (case aO => exact HX.out); (case aS => exact HS.out); (case aL => exact HL.out); intro v4 w4 ho hb hg hat; have HO := Aside0.mk ho; have HB4 := Aside0.mk hb; have HGR := Aside0.mk hg; clear ho hb hg hat))
  go_ret
  exact ⟨_, rfl, HO.out, HB4.out, HGR.out⟩
def turns_l0 : Nat → List ByteArray → Int → Int → Int → List S60 → List S41 → Option (List S60 × List S41)
  | 0, _, _, _, _, _, _ => none
  | k + 1, l, a, b, i, xs, ys => if i < (l.length : Int) then (if 0 ≤ i then (styles_Line.f k (turn_at a b i) (turn_at a b i) (rdOf ByteArray.empty l i)).bind fun t =>
      if xs.length + t.1.length < 17592186044416 ∧ ys.length + t.2.2.2.length < 5864062014805 then turns_l0 k l a b (i + 1) (xs ++ t.1) (ys ++ t.2.2.2) else none else none) else some (xs, ys)
set_option maxHeartbeats 8000000 in
set_option maxRecDepth 100000 in
theorem each_calls (k : Nat) (a b : Int) (l : List ByteArray) (A0 : Option Addr) (c0 g : Nat) (r1 : List S60) (r2 : List S41) (w : World) (hG : GL w) (hp : w.heap[g]? = some (.cells #[.int .u8 a, .int .u8 b] 92 (0, 0))) (hr : Kd.string.C w A0 l.length l) (hc : l.length ≤ c0)
    (hll : l.length ≤ 1000000) (h : turns_l0 k l a b 0 [] [] = some (r1, r2)) :
    Calls Tryd.prog 62 #[.slice A0 l.length c0, .func (.func 63) #[] #[.pointer (some ⟨g, 0, none⟩)], .func (.func 64) #[] #[]] w fun e w' => ∃ v0 v1 : Value, e = .returned (.tuple #[v0, v1]) ∧ Kd.R k60 60 w' w.heap.size (fun _ => True) v0 r1 ∧ Kd.R k41 41 w' w.heap.size (fun _ => True) v1 r2 ∧ Below w.heap.size w w' := by
  have hu48 := Tryd.underlying48
  have hu47 := Tryd.underlying47
  have hu24 := Tryd.underlying24
  have hu43 := Tryd.underlying43
  have HG := Aside0.mk hG
  have HP := Aside0.mk hp
  have HR := Aside0.mk hr
  have HC := Aside0.mk hc
  have H := Aside0.mk h
  have HLL := Aside0.mk hll
  clear hG hp hr hc h hll
  go_enter Tryd.func62, Tryd.ntmps62
  go_wp2
  go_loopg [8, 9, 18] k (fun kq v8 v9 v18 w' => ∃ (i : Int) (xs : List S60) (ys : List S41), v18 = .int .i64 i ∧ Aside0 (turns_l0 kq l a b i xs ys = some (r1, r2)) ∧ Aside0 (kq ≤ k) ∧ Aside0 (0 ≤ i) ∧ Aside0 (Kd.R k60 60 w' w.heap.size (fun _ => True) v8 xs) ∧ Aside0 (Kd.R k41 41 w' w.heap.size (fun _ => True) v9 ys) ∧ Aside0 (Below w.heap.size w w'))
  case atStart => exact ⟨0, [], [], rfl, H, ⟨Nat.le_refl _⟩, ⟨Int.le_refl _⟩, ⟨Kd.R_nil _ _ _ _ _⟩, ⟨Kd.R_nil _ _ _ _ _⟩, ⟨Below.refl _ _⟩⟩
  case round =>
    clear H
    obtain ⟨i, xs, ys, rfl, H, HK, HI, HX, HY, HB⟩ := hrel
    cases gk with
    | zero => exact absurd H.out (by simp [turns_l0])
    | succ k1 =>
      have h := H.out
      clear H
      simp only [turns_l0] at h
      by_cases d0 : i < (l.length : Int)
      · rw [if_pos d0, if_pos HI.out] at h
        obtain ⟨⟨t1, t2, t3, t4⟩, ht, h⟩ := Option.bind_eq_some_iff.mp h
        by_cases d1 : xs.length + t1.length < 17592186044416 ∧ ys.length + t4.length < 5864062014805
        · rw [if_pos d1] at h
          have H' := Aside0.mk h
          have HT := Aside0.mk ht
          have D1 := Aside0.mk d1
          have D0 := Aside0.mk d0
          have hq2 : decide (i < (l.length : Int)) = true := decide_eq_true d0
          obtain ⟨ad, ead, hx0⟩ := Kd.at_string HR.out i HI.out d0
          subst ead
          replace hx0 := (HB.out.cell (World.block_lt_of_cell? w _ hx0)).trans hx0
          have hi0 := HI.out
          have hi1 : i + 1 ≤ 9223372036854775807 := by have := HLL.out; omega
          clear h ht d1
          go_wp2_with (first
            | (go_at_call 63; refine (turns1_calls a b i g _ (blk_below HP.out HB.out) HI.out).mono ?_; rintro e w2 ⟨rfl, hw2⟩; subst hw2)
            | (go_at_call 32; refine (styles_Line.calls k1 _ _ _ t1 t2 t3 t4 _ (GL.below HG.out HB.out) HT.out).mono ?_; rintro e w3 ⟨v0, v3, rfl, ho0, ho3, hb⟩; obtain ⟨A3, c3, e3⟩ := Kd.R_slice ho3; subst e3; have HX3 := Aside0.mk (Kd.R_below (Kd.R_mono (Kd.R_bound HX.out) (fun k hk => (fun he => by have := ((Kd.R_bound ho0).1 k he.symm).2.1; have := hk.2.2.1; omega : some k ≠ v0.ownBlock))) hb); have HY3 := Aside0.mk (Kd.R_below (Kd.R_mono (Kd.R_bound HY.out) (fun k hk => (fun he => by have := ((Kd.R_bound ho3).1 k he.symm).2.1; have := hk.2.2.1; omega : some k ≠ (.slice A3 t4.length c3 : Value).ownBlock))) hb); have HN3 := Aside0.mk ho0; have HD3 := Aside0.mk ho3; have HB3 := Aside0.mk (below_step HB.out hb); clear ho0 ho3 hb hx0)
            | ((with_reducible refine gate_dst (N := 14) rfl ?_); refine box_event ?hg (N := 14) ?hd (cs := #[.int .u8 0, .int .u8 0]) (t := 47) ?hr ?_; (case hd => rfl); (case hg => rfl); (case hr => first | (go_simp; done) | (go_simp; rfl)); intro gb hg w4 hbox hb; have GE4 := Aside0.mk (show w.heap.size ≤ gb by rw [hg]; exact below_size HB3.out); have HX4 := Aside0.mk (Kd.R_types (Kd.R_below HX3.out hb) hbox (by decide)); have HY4 := Aside0.mk (Kd.R_types (Kd.R_below HY3.out hb) hbox (by decide)); have HN4 := Aside0.mk (Kd.R_types (Kd.R_below HN3.out hb) hbox (by decide)); have HD4 := Aside0.mk (Kd.R_types (Kd.R_below HD3.out hb) hbox (by decide)); have HB4 := Aside0.mk (below_step HB3.out hb); have hcz0 : w4.cell? ⟨gb, 0, none⟩ = some (.int .u8 0) := (blk_cell hbox 0).trans rfl; have hcz1 : w4.cell? ⟨gb, 1, none⟩ = some (.int .u8 0) := (blk_cell hbox 1).trans rfl; have hfz0 := blk_frozen hbox 0; have hfz1 := blk_frozen hbox 1; clear hbox hb hg)
            | (go_at_call 64; have HX8 := Aside0.mk (Kd.R_mono (Kd.R_far (p := ⟨gb, 1, none⟩) (Kd.R_far (p := ⟨gb, 0, none⟩) HX4.out (fun _ hk => hk.2) (.int .u8 t2)) (fun _ hk => hk.2) (.int .u8 t3)) (fun _ hk => hk.1)); have HY8 := Aside0.mk (Kd.R_mono (Kd.R_far (p := ⟨gb, 1, none⟩) (Kd.R_far (p := ⟨gb, 0, none⟩) HY4.out (fun _ hk => hk.2) (.int .u8 t2)) (fun _ hk => hk.2) (.int .u8 t3)) (fun _ hk => hk.1)); have HN8 := Aside0.mk (Kd.R_mono (Kd.R_far (p := ⟨gb, 1, none⟩) (Kd.R_far (p := ⟨gb, 0, none⟩) HN4.out (fun _ hk => hk.2) (.int .u8 t2)) (fun _ hk => hk.2) (.int .u8 t3)) (fun _ hk => hk.1)); have HD8 := Aside0.mk (Kd.R_mono (Kd.R_far (p := ⟨gb, 1, none⟩) (Kd.R_far (p := ⟨gb, 0, none⟩) HD4.out (fun _ hk => hk.2) (.int .u8 t2)) (fun _ hk => hk.2) (.int .u8 t3)) (fun _ hk => hk.1)); refine (turns2_calls (w0 := w) (base := w.heap.size) (xs := xs) (ys := t1) (below_set (below_set HB4.out GE4.out) GE4.out) (below_size (below_set (below_set HB4.out GE4.out) GE4.out)) HX8.out HN8.out (by have := D1.out; omega)).mono ?_; rintro e w5 ⟨v5, rfl, ho5, hb5, hg5⟩; have HY5 := Aside0.mk (Kd.R_over' HY8.out (Kd.R_typed HX8.out) (by decide) hg5); have HD5 := Aside0.mk (Kd.R_over' HD8.out (Kd.R_typed HX8.out) (by decide) hg5); have HX5 := Aside0.mk ho5; have HB5 := Aside0.mk hb5; clear ho5 hb5 hg5)
            | ((with_reducible refine gate_builtin (b := .append) (xs := #[.tmp 39, .tmp 40]) rfl ?_); (try (refine gate_guard (by rfl) ?_; dsimp only)); at_builtin; refine Kd.R_append_rows k41 (w0 := w) w.heap.size rfl (.tmp 39) (.tmp 40) 24 41 (.agg #[(.int .i64 0), (.int .i64 0), (.int .i64 0)]) 24 rfl Tryd.underlying24 info41 rfl (by decide) (by omega) _ ys t4 _ _ _ (fun k_ => some k_ ≠ (.slice A3 t4.length c3 : Value).ownBlock) (fun _ => False) rfl rfl ?aO ?aR (fun _ _ h => h) (fun _ h => h.elim) ?aF ?aB ?aS ?aL ?_; (case aR => exact (Kd.R_reads' HD5.out).2.2); (case aB => exact HB5.out); (case aF => exact (fun k_ hk => Kd.fresh' (Kd.R_lt HD5.out) k_ hk)); (case aO => exact HY5.out); (case aS => exact below_size HB5.out); (case aL => have := D1.out; omega); intro v6 w6 ho hb hg hat; have HX6 := Aside0.mk (Kd.R_over' HX5.out (Kd.R_typed HY5.out) (by decide) hg); have HY6 := Aside0.mk ho; have HB6 := Aside0.mk hb; clear ho hb hg hat))
          go_roundg k1
          case measure => have := HK.out; omega
          case rel => exact ⟨_, _, _, rfl, H', ⟨by have := HK.out; omega⟩, ⟨by have := HI.out; omega⟩, ⟨Kd.R_mono HX6.out (fun _ _ => trivial)⟩, ⟨Kd.R_mono HY6.out (fun _ _ => trivial)⟩, HB6⟩
        · rw [if_neg d1] at h
          cases h
      · rw [if_neg d0] at h
        simp only [Option.some.injEq, Prod.mk.injEq] at h
        obtain ⟨rfl, rfl⟩ := h
        have hq2 : decide (i < (l.length : Int)) = false := decide_eq_false d0
        clear d0
        go_wp2
        go_ret2
        exact ⟨_, _, rfl, HX.out, HY.out, HB.out⟩
def styles_Turns.f (k : Nat) (a b : Int) (l : List ByteArray) : Option (List S60 × List S41) := if l.length ≤ 1000000 then turns_l0 k l a b 0 [] [] else none
set_option maxHeartbeats 8000000 in
set_option maxRecDepth 100000 in
theorem styles_Turns.calls (k : Nat) (a b : Int) (A0 : Option Addr) (c0 : Nat) (l : List ByteArray) (r1 : List S60) (r2 : List S41) (w : World) (hG : GL w) (hr : Kd.string.C w A0 l.length l) (hc : l.length ≤ c0)
    (h : styles_Turns.f k a b l = some (r1, r2)) :
    Calls Tryd.prog 54 #[.int .u8 a, .int .u8 b, .slice A0 l.length c0] w fun e w' => ∃ v0 v1 : Value, e = .returned (.tuple #[v0, v1]) ∧ Kd.R k60 60 w' w.heap.size (fun _ => True) v0 r1 ∧ Kd.R k41 41 w' w.heap.size (fun _ => True) v1 r2 ∧ Below w.heap.size w w' := by
  unfold styles_Turns.f at h
  by_cases hll : l.length ≤ 1000000
  · rw [if_pos hll] at h
    have hu92 := Tryd.underlying92
    have HG := Aside0.mk hG
    have HR := Aside0.mk hr
    have HC := Aside0.mk hc
    have H := Aside0.mk h
    have HLL := Aside0.mk hll
    clear hG hr hc h hll
    go_enter Tryd.func54, Tryd.ntmps54
    go_wp2_with (first
      | ((with_reducible refine gate_dst (N := 8) rfl ?_); refine box_event ?hg (N := 8) ?hd (cs := #[.int .u8 0, .int .u8 0]) (t := 92) ?hr ?_; (case hd => rfl); (case hg => rfl); (case hr => first | (go_simp; done) | (go_simp; rfl)); intro gb hg w4 hbox hb; have GE4 := Aside0.mk (show w.heap.size ≤ gb by rw [hg]; exact Nat.le_refl _); have HB4 := Aside0.mk hb; have HBX := Aside0.mk hbox; have hcz0 : w4.cell? ⟨gb, 0, none⟩ = some (.int .u8 0) := (blk_cell hbox 0).trans rfl; have hcz1 : w4.cell? ⟨gb, 1, none⟩ = some (.int .u8 0) := (blk_cell hbox 1).trans rfl; have hfz0 := blk_frozen hbox 0; have hfz1 := blk_frozen hbox 1; clear hbox hb hg)
      | (go_at_call 62; have HB8 := Aside0.mk (below_set (j := 1) (v := .int .u8 b) (below_set (j := 0) (v := .int .u8 a) HB4.out GE4.out) GE4.out); refine (each_calls k a b l A0 c0 gb r1 r2 _ (GL.below HG.out HB8.out) (blk_put (cs := #[.int .u8 a, .int .u8 0]) (blk_put (cs := #[.int .u8 0, .int .u8 0]) HBX.out 0 _ rfl) 1 _ rfl) (Kd.C_below HR.out HB8.out) HC.out HLL.out H.out).mono ?_; rintro e w5 ⟨v0, v1, rfl, ho0, ho1, hb⟩; have HO := Aside0.mk (Kd.R_lower ho0 (below_size HB8.out)); have HD := Aside0.mk (Kd.R_lower ho1 (below_size HB8.out)); have HB5 := Aside0.mk (below_step HB8.out hb); clear ho0 ho1 hb))
    go_ret2
    exact ⟨_, _, rfl, HO.out, HD.out, HB5.out⟩
  · rw [if_neg hll] at h
    cases h
theorem turns_l0_mono (l : List ByteArray) (a b : Int) : ∀ (k : Nat) (i : Int) (xs : List S60) (ys : List S41), LeO (turns_l0 k l a b i xs ys) (turns_l0 (k + 1) l a b i xs ys)
  | 0, _, _, _ => LeO.none _
  | k + 1, i, xs, ys => by
    simp only [turns_l0]
    refine LeO.ite (LeO.ite (LeO.bind (styles_Line.mono _ _ _ _) fun t => LeO.ite (turns_l0_mono l a b k _ _ _) (LeO.none _)) (LeO.none _)) (LeO.refl _)
theorem styles_Turns.mono (k : Nat) (a b : Int) (l : List ByteArray) : LeO (styles_Turns.f k a b l) (styles_Turns.f (k + 1) a b l) := by
  unfold styles_Turns.f
  exact LeO.ite (turns_l0_mono l a b k _ _ _) (LeO.none _)
def flonglaw06_known.f (k : Nat)  : Option (Bool) := (styles_Turns.f k 1 0 (([(⟨#[97]⟩ : ByteArray), (⟨#[98]⟩ : ByteArray)] : List ByteArray))).bind fun bt157 => ((flongref03_Same.f k bt157.1 (([(⟨97, 1⟩ : S60), (⟨98, 0⟩ : S60)] : List (S60)))).bind fun t166 => (if t166 = true then (some ((bt157.2.length : Int) == 0)) else (some false)))
theorem flonglaw06_known.mono : ∀ k, LeO (flonglaw06_known.f k ) (flonglaw06_known.f (k + 1) ) := by
  intro  k
  unfold flonglaw06_known.f
  repeat' first
      | (with_reducible exact flongref03_Same.mono _ _ _)
      | (with_reducible exact styles_Turns.mono _ _ _ _)
      | (with_reducible exact LeO.refl _)
      | (with_reducible exact LeO.none _)
      | (with_reducible refine LeO.ite ?_ ?_)
      | (with_reducible refine LeO.bind ?_ (fun _ => ?_))
      | exact flongref03_Same.mono _ _ _
      | exact styles_Turns.mono _ _ _ _
      | exact LeO.none _
      | refine LeO.ite ?_ ?_
      | refine LeO.bind ?_ (fun _ => ?_)
set_option maxHeartbeats 8000000 in
set_option maxRecDepth 100000 in
theorem flonglaw06_known.calls (k : Nat)  (r : Bool) (w : World) (hG : GL w) (h : flonglaw06_known.f k  = some r) :
    Calls Tryd.prog 29 #[] w fun e w' => e = .returned (.bool r) ∧ Below w.heap.size w w' := by
  have hu60 := Tryd.underlying60
  have HG := Aside0.mk hG
  clear hG
  have HB := Aside0.mk (Below.refl w.heap.size w)
  have H : ((styles_Turns.f k 1 0 (([(⟨#[97]⟩ : ByteArray), (⟨#[98]⟩ : ByteArray)] : List ByteArray))).bind fun bt157 => ((flongref03_Same.f k bt157.1 (([(⟨97, 1⟩ : S60), (⟨98, 0⟩ : S60)] : List (S60)))).bind fun t166 => (if t166 = true then (some ((bt157.2.length : Int) == 0)) else (some false)))) = some r := h
  clear h
  obtain ⟨y154, hy154⟩ : ∃ y_ : List ByteArray, y_ = (([(⟨#[97]⟩ : ByteArray), (⟨#[98]⟩ : ByteArray)] : List ByteArray)) := ⟨_, rfl⟩
  replace H : ((styles_Turns.f k 1 0 y154).bind fun bt157 => ((flongref03_Same.f k bt157.1 (([(⟨97, 1⟩ : S60), (⟨98, 0⟩ : S60)] : List (S60)))).bind fun t166 => (if t166 = true then (some ((bt157.2.length : Int) == 0)) else (some false)))) = some r := by first | (rw [hy154]; with_reducible exact H) | (have H2_ := (Option.bind_some _ _).symm.trans H; rw [hy154]; with_reducible exact H2_) | (have H2_ := (Option.bind_some _ _).symm.trans H; with_reducible exact H2_) | with_reducible exact H | (rw [hy154]; exact H) | exact H
  have Ny154 := Aside0.mk hy154
  clear hy154
  replace H := Option.bind_eq_some_iff.mp H
  obtain ⟨⟨t157, t158⟩, A10, H⟩ := H
  replace H : ((flongref03_Same.f k t157 (([(⟨97, 1⟩ : S60), (⟨98, 0⟩ : S60)] : List (S60)))).bind fun t166 => (if t166 = true then (some ((t158.length : Int) == 0)) else (some false))) = some r := H
  have A1 := Aside0.mk A10
  clear A10
  obtain ⟨y163, hy163⟩ : ∃ y_ : List (S60), y_ = (([(⟨97, 1⟩ : S60), (⟨98, 0⟩ : S60)] : List (S60))) := ⟨_, rfl⟩
  replace H : ((flongref03_Same.f k t157 y163).bind fun t166 => (if t166 = true then (some ((t158.length : Int) == 0)) else (some false))) = some r := by first | (rw [hy163]; with_reducible exact H) | (have H2_ := (Option.bind_some _ _).symm.trans H; rw [hy163]; with_reducible exact H2_) | (have H2_ := (Option.bind_some _ _).symm.trans H; with_reducible exact H2_) | with_reducible exact H | (rw [hy163]; exact H) | exact H
  have Ny163 := Aside0.mk hy163
  clear hy163
  replace H := Option.bind_eq_some_iff.mp H
  obtain ⟨t166, A20, H⟩ := H
  replace H : (if t166 = true then (some ((t158.length : Int) == 0)) else (some false)) = some r := H
  have A2 := Aside0.mk A20
  clear A20
  by_cases c3 : t166 = true
  · subst c3
    have H1 : (some ((t158.length : Int) == 0)) = some r := by rw [if_pos rfl] at H; exact H
    clear H
    have H := H1
    clear H1
    obtain rfl := Option.some.inj H
    go_enter Tryd.func29, Tryd.ntmps29
    go_wp2_with (first | ((with_reducible refine gate_dst (N := 4) rfl ?_); (try (refine gate_guard (by rfl) ?_; dsimp only)); refine Kd.R_lit Kd.string _ 9 ?hg (N := 4) ?hd (xs := ([(⟨#[97]⟩ : ByteArray), (⟨#[98]⟩ : ByteArray)] : List ByteArray)) (inner := [.string (⟨#[97]⟩ : ByteArray), .string (⟨#[98]⟩ : ByteArray)]) (ok := fun _ => True) (okp := fun _ => True) ?hr ?hp (fun _ hk => hk) trivial (Below.refl _ _) (Nat.le_refl _) (by simp) ?_; (case hd => rfl); (case hg => rfl); (case hr => first | (go_simp; done) | (go_simp; rfl)); (case hp => exact (Reps.one (show Kd.M Kd.string _ _ _ (⟨#[97]⟩ : ByteArray) [.string (⟨#[97]⟩ : ByteArray)] from rfl) (Reps.one (show Kd.M Kd.string _ _ _ (⟨#[98]⟩ : ByteArray) [.string (⟨#[98]⟩ : ByteArray)] from rfl) (Reps.none _ _)))); intro v155 w4 ho5 hb hg_ hnew_; clear hg_ hnew_; (first | rw [← Ny154.out] at ho5 | (simp only [Int.reduceToNat] at ho5; rw [← Ny154.out] at ho5)); have n0_ := Aside0.mk (Kd.R_lower ho5 (below_size (by repeat (first | (with_reducible first | exact HB.out | apply below_alloc | apply pw_below_drewN | apply below_drew1) | exact HB.out)))); have n1_ := Aside0.mk (below_step (by repeat (first | (with_reducible first | exact HB.out | apply below_alloc | apply pw_below_drewN | apply below_drew1) | exact HB.out)) hb); clear HB; have HO156 := n0_; have HB := n1_; clear n0_ n1_; clear hb ho5; obtain ⟨Ao6, co6, eo6⟩ := Kd.R_slice HO156.out; subst eo6) | ((with_reducible refine gate_callee (f := 54) rfl ?_); refine goesL_ (some 5) rfl rfl Tryd.func54 (by kernel_rfl) rfl #[.int .u8 1, .int .u8 0, .slice Ao6 y154.length co6] rfl (by (try simp only [List.map_toArray, List.map_cons, List.map_nil]); first | done | rfl | (simp only [List.length_drop, List.length_take]; rfl)) ?_; (with_reducible refine (styles_Turns.calls k 1 0 _ _ y154 t157 t158 _ ?side1 ?side2 ?side3 A1.out).mono ?_); (case side1 => exact GL.below HG.out (by repeat (first | (with_reducible first | exact HB.out | apply below_alloc | apply pw_below_drewN | apply below_drew1) | exact HB.out))); (case side2 => repeat (first | exact (Kd.R_reads' HO156.out).2.2 | (with_reducible refine Kd.C_alloc ?_ _) | (with_reducible refine Kd.C_drewN ?_ _) | (with_reducible refine Kd.C_drew ?_))); (case side3 => exact (Kd.R_reads' HO156.out).2.1); rintro e w7 ⟨v159, v161, rfl, ho0, ho1, hb⟩; refine ⟨_, rfl, ?_⟩; have n0_ := Aside0.mk (Kd.R_below (by (with_reducible repeat (first | apply Kd.R_alloc | apply Kd.R_drewN | apply Kd.R_drew)); exact HO156.out) hb); have n1_ := Aside0.mk (Kd.R_lower ho0 (below_size (by repeat (first | (with_reducible first | exact HB.out | apply below_alloc | apply pw_below_drewN | apply below_drew1) | exact HB.out)))); have n2_ := Aside0.mk (Kd.R_lower ho1 (below_size (by repeat (first | (with_reducible first | exact HB.out | apply below_alloc | apply pw_below_drewN | apply below_drew1) | exact HB.out)))); have n3_ := Aside0.mk (below_step (by repeat (first | (with_reducible first | exact HB.out | apply below_alloc | apply pw_below_drewN | apply below_drew1) | exact HB.out)) hb); clear HO156; clear HB; have HO156 := n0_; have HO160 := n1_; have HO162 := n2_; have HB := n3_; clear n0_ n1_ n2_ n3_; (try clear hb); (try clear hb2); (try clear hk); (try clear hi); (try clear ho0); (try clear ho1)) | ((with_reducible refine gate_dst (N := 11) rfl ?_); (try (refine gate_guard (by rfl) ?_; dsimp only)); refine Kd.R_lit k60 _ 60 ?hg (N := 11) ?hd (xs := ([(⟨97, 1⟩ : S60), (⟨98, 0⟩ : S60)] : List (S60))) (inner := [.int .i32 97, .int .u8 1, .int .i32 98, .int .u8 0]) (ok := fun _ => True) (okp := fun _ => True) ?hr ?hp (fun _ hk => hk) trivial (Below.refl _ _) (Nat.le_refl _) (by simp) ?_; (case hd => rfl); (case hg => rfl); (case hr => first | (go_simp; done) | (go_simp; rfl)); (case hp => exact (Reps.c2 (show Kd.M k60 _ _ _ (⟨97, 1⟩ : S60) [.int .i32 97, .int .u8 1] from (k60_mkM _ _ _ (⟨97, 1⟩ : S60) )) (Reps.c2 (show Kd.M k60 _ _ _ (⟨98, 0⟩ : S60) [.int .i32 98, .int .u8 0] from (k60_mkM _ _ _ (⟨98, 0⟩ : S60) )) (Reps.none _ _)))); intro v164 w8 ho9 hb hg_ hnew_; clear hg_ hnew_; (first | rw [← Ny163.out] at ho9 | (simp only [Int.reduceToNat] at ho9; rw [← Ny163.out] at ho9)); have n0_ := Aside0.mk (Kd.R_below (by (with_reducible repeat (first | apply Kd.R_alloc | apply Kd.R_drewN | apply Kd.R_drew)); exact HO156.out) hb); have n1_ := Aside0.mk (Kd.R_elder' (by (with_reducible repeat (first | apply Kd.R_alloc | apply Kd.R_drewN | apply Kd.R_drew)); exact HO160.out) (Kd.R_base ho9) hb); have n2_ := Aside0.mk (Kd.R_below (by (with_reducible repeat (first | apply Kd.R_alloc | apply Kd.R_drewN | apply Kd.R_drew)); exact HO162.out) hb); have n3_ := Aside0.mk (Kd.R_lower (Kd.R_new' ho9 (Kd.R_lt (by (with_reducible repeat (first | apply Kd.R_alloc | apply Kd.R_drewN | apply Kd.R_drew)); exact HO160.out))) (below_size (by repeat (first | (with_reducible first | exact HB.out | apply below_alloc | apply pw_below_drewN | apply below_drew1) | exact HB.out)))); have n4_ := Aside0.mk (below_step (by repeat (first | (with_reducible first | exact HB.out | apply below_alloc | apply pw_below_drewN | apply below_drew1) | exact HB.out)) hb); clear HO156; clear HO160; clear HO162; clear HB; have HO156 := n0_; have HO160 := n1_; have HO162 := n2_; have HO165 := n3_; have HB := n4_; clear n0_ n1_ n2_ n3_ n4_; clear hb ho9; obtain ⟨Ao10, co10, eo10⟩ := Kd.R_slice HO160.out; subst eo10; obtain ⟨Ao11, co11, eo11⟩ := Kd.R_slice HO165.out; subst eo11) | ((with_reducible refine gate_callee (f := 34) rfl ?_); refine goesL_ (some 12) rfl rfl Tryd.func34 (by kernel_rfl) rfl #[.slice Ao10 t157.length co10, .slice Ao11 y163.length co11] rfl (by (try simp only [List.map_toArray, List.map_cons, List.map_nil]); first | done | rfl | (simp only [List.length_drop, List.length_take]; rfl)) ?_; (with_reducible refine (flongref03_Same.calls k _ _ t157 _ _ y163 true _ ?side1 ?side2 ?side3 ?side4 A2.out).mono ?_); (case side1 => repeat (first | exact (Kd.R_reads' HO160.out).2.2 | (with_reducible refine Kd.C_alloc ?_ _) | (with_reducible refine Kd.C_drewN ?_ _) | (with_reducible refine Kd.C_drew ?_))); (case side2 => exact (Kd.R_reads' HO160.out).2.1); (case side3 => repeat (first | exact (Kd.R_reads' HO165.out).2.2 | (with_reducible refine Kd.C_alloc ?_ _) | (with_reducible refine Kd.C_drewN ?_ _) | (with_reducible refine Kd.C_drew ?_))); (case side4 => exact (Kd.R_reads' HO165.out).2.1); rintro e w' ⟨rfl, ⟨nd, rfl⟩⟩; refine ⟨_, rfl, ?_⟩; obtain ⟨Ao12, co12, eo12⟩ := Kd.R_slice HO162.out; subst eo12))
    go_ret
    exact ⟨by first | rfl | (simp [errW_none, errW_some] <;> rfl) | (simp [*, errW_none, errW_some] <;> rfl), by repeat (first | (with_reducible first | exact HB.out | apply below_alloc | apply pw_below_drewN | apply below_drew1) | exact HB.out)⟩
  · replace c3 := Bool.eq_false_iff.mpr c3
    subst c3
    have H1 : (some false) = some r := by rw [if_neg (show ¬ (false = true) by decide)] at H; exact H
    clear H
    have H := H1
    clear H1
    obtain rfl := Option.some.inj H
    go_enter Tryd.func29, Tryd.ntmps29
    go_wp2_with (first | ((with_reducible refine gate_dst (N := 4) rfl ?_); (try (refine gate_guard (by rfl) ?_; dsimp only)); refine Kd.R_lit Kd.string _ 9 ?hg (N := 4) ?hd (xs := ([(⟨#[97]⟩ : ByteArray), (⟨#[98]⟩ : ByteArray)] : List ByteArray)) (inner := [.string (⟨#[97]⟩ : ByteArray), .string (⟨#[98]⟩ : ByteArray)]) (ok := fun _ => True) (okp := fun _ => True) ?hr ?hp (fun _ hk => hk) trivial (Below.refl _ _) (Nat.le_refl _) (by simp) ?_; (case hd => rfl); (case hg => rfl); (case hr => first | (go_simp; done) | (go_simp; rfl)); (case hp => exact (Reps.one (show Kd.M Kd.string _ _ _ (⟨#[97]⟩ : ByteArray) [.string (⟨#[97]⟩ : ByteArray)] from rfl) (Reps.one (show Kd.M Kd.string _ _ _ (⟨#[98]⟩ : ByteArray) [.string (⟨#[98]⟩ : ByteArray)] from rfl) (Reps.none _ _)))); intro v155 w13 ho14 hb hg_ hnew_; clear hg_ hnew_; (first | rw [← Ny154.out] at ho14 | (simp only [Int.reduceToNat] at ho14; rw [← Ny154.out] at ho14)); have n0_ := Aside0.mk (Kd.R_lower ho14 (below_size (by repeat (first | (with_reducible first | exact HB.out | apply below_alloc | apply pw_below_drewN | apply below_drew1) | exact HB.out)))); have n1_ := Aside0.mk (below_step (by repeat (first | (with_reducible first | exact HB.out | apply below_alloc | apply pw_below_drewN | apply below_drew1) | exact HB.out)) hb); clear HB; have HO156 := n0_; have HB := n1_; clear n0_ n1_; clear hb ho14; obtain ⟨Ao15, co15, eo15⟩ := Kd.R_slice HO156.out; subst eo15) | ((with_reducible refine gate_callee (f := 54) rfl ?_); refine goesL_ (some 5) rfl rfl Tryd.func54 (by kernel_rfl) rfl #[.int .u8 1, .int .u8 0, .slice Ao15 y154.length co15] rfl (by (try simp only [List.map_toArray, List.map_cons, List.map_nil]); first | done | rfl | (simp only [List.length_drop, List.length_take]; rfl)) ?_; (with_reducible refine (styles_Turns.calls k 1 0 _ _ y154 t157 t158 _ ?side1 ?side2 ?side3 A1.out).mono ?_); (case side1 => exact GL.below HG.out (by repeat (first | (with_reducible first | exact HB.out | apply below_alloc | apply pw_below_drewN | apply below_drew1) | exact HB.out))); (case side2 => repeat (first | exact (Kd.R_reads' HO156.out).2.2 | (with_reducible refine Kd.C_alloc ?_ _) | (with_reducible refine Kd.C_drewN ?_ _) | (with_reducible refine Kd.C_drew ?_))); (case side3 => exact (Kd.R_reads' HO156.out).2.1); rintro e w16 ⟨v159, v161, rfl, ho0, ho1, hb⟩; refine ⟨_, rfl, ?_⟩; have n0_ := Aside0.mk (Kd.R_below (by (with_reducible repeat (first | apply Kd.R_alloc | apply Kd.R_drewN | apply Kd.R_drew)); exact HO156.out) hb); have n1_ := Aside0.mk (Kd.R_lower ho0 (below_size (by repeat (first | (with_reducible first | exact HB.out | apply below_alloc | apply pw_below_drewN | apply below_drew1) | exact HB.out)))); have n2_ := Aside0.mk (Kd.R_lower ho1 (below_size (by repeat (first | (with_reducible first | exact HB.out | apply below_alloc | apply pw_below_drewN | apply below_drew1) | exact HB.out)))); have n3_ := Aside0.mk (below_step (by repeat (first | (with_reducible first | exact HB.out | apply below_alloc | apply pw_below_drewN | apply below_drew1) | exact HB.out)) hb); clear HO156; clear HB; have HO156 := n0_; have HO160 := n1_; have HO162 := n2_; have HB := n3_; clear n0_ n1_ n2_ n3_; (try clear hb); (try clear hb2); (try clear hk); (try clear hi); (try clear ho0); (try clear ho1)) | ((with_reducible refine gate_dst (N := 11) rfl ?_); (try (refine gate_guard (by rfl) ?_; dsimp only)); refine Kd.R_lit k60 _ 60 ?hg (N := 11) ?hd (xs := ([(⟨97, 1⟩ : S60), (⟨98, 0⟩ : S60)] : List (S60))) (inner := [.int .i32 97, .int .u8 1, .int .i32 98, .int .u8 0]) (ok := fun _ => True) (okp := fun _ => True) ?hr ?hp (fun _ hk => hk) trivial (Below.refl _ _) (Nat.le_refl _) (by simp) ?_; (case hd => rfl); (case hg => rfl); (case hr => first | (go_simp; done) | (go_simp; rfl)); (case hp => exact (Reps.c2 (show Kd.M k60 _ _ _ (⟨97, 1⟩ : S60) [.int .i32 97, .int .u8 1] from (k60_mkM _ _ _ (⟨97, 1⟩ : S60) )) (Reps.c2 (show Kd.M k60 _ _ _ (⟨98, 0⟩ : S60) [.int .i32 98, .int .u8 0] from (k60_mkM _ _ _ (⟨98, 0⟩ : S60) )) (Reps.none _ _)))); intro v164 w17 ho18 hb hg_ hnew_; clear hg_ hnew_; (first | rw [← Ny163.out] at ho18 | (simp only [Int.reduceToNat] at ho18; rw [← Ny163.out] at ho18)); have n0_ := Aside0.mk (Kd.R_below (by (with_reducible repeat (first | apply Kd.R_alloc | apply Kd.R_drewN | apply Kd.R_drew)); exact HO156.out) hb); have n1_ := Aside0.mk (Kd.R_elder' (by (with_reducible repeat (first | apply Kd.R_alloc | apply Kd.R_drewN | apply Kd.R_drew)); exact HO160.out) (Kd.R_base ho18) hb); have n2_ := Aside0.mk (Kd.R_below (by (with_reducible repeat (first | apply Kd.R_alloc | apply Kd.R_drewN | apply Kd.R_drew)); exact HO162.out) hb); have n3_ := Aside0.mk (Kd.R_lower (Kd.R_new' ho18 (Kd.R_lt (by (with_reducible repeat (first | apply Kd.R_alloc | apply Kd.R_drewN | apply Kd.R_drew)); exact HO160.out))) (below_size (by repeat (first | (with_reducible first | exact HB.out | apply below_alloc | apply pw_below_drewN | apply below_drew1) | exact HB.out)))); have n4_ := Aside0.mk (below_step (by repeat (first | (with_reducible first | exact HB.out | apply below_alloc | apply pw_below_drewN | apply below_drew1) | exact HB.out)) hb); clear HO156; clear HO160; clear HO162; clear HB; have HO156 := n0_; have HO160 := n1_; have HO162 := n2_; have HO165 := n3_; have HB := n4_; clear n0_ n1_ n2_ n3_ n4_; clear hb ho18; obtain ⟨Ao19, co19, eo19⟩ := Kd.R_slice HO160.out; subst eo19; obtain ⟨Ao20, co20, eo20⟩ := Kd.R_slice HO165.out; subst eo20) | ((with_reducible refine gate_callee (f := 34) rfl ?_); refine goesL_ (some 12) rfl rfl Tryd.func34 (by kernel_rfl) rfl #[.slice Ao19 t157.length co19, .slice Ao20 y163.length co20] rfl (by (try simp only [List.map_toArray, List.map_cons, List.map_nil]); first | done | rfl | (simp only [List.length_drop, List.length_take]; rfl)) ?_; (with_reducible refine (flongref03_Same.calls k _ _ t157 _ _ y163 false _ ?side1 ?side2 ?side3 ?side4 A2.out).mono ?_); (case side1 => repeat (first | exact (Kd.R_reads' HO160.out).2.2 | (with_reducible refine Kd.C_alloc ?_ _) | (with_reducible refine Kd.C_drewN ?_ _) | (with_reducible refine Kd.C_drew ?_))); (case side2 => exact (Kd.R_reads' HO160.out).2.1); (case side3 => repeat (first | exact (Kd.R_reads' HO165.out).2.2 | (with_reducible refine Kd.C_alloc ?_ _) | (with_reducible refine Kd.C_drewN ?_ _) | (with_reducible refine Kd.C_drew ?_))); (case side4 => exact (Kd.R_reads' HO165.out).2.1); rintro e w' ⟨rfl, ⟨nd, rfl⟩⟩; refine ⟨_, rfl, ?_⟩))
    go_ret
    exact ⟨by first | rfl | (simp [errW_none, errW_some] <;> rfl) | (simp [*, errW_none, errW_some] <;> rfl), by repeat (first | (with_reducible first | exact HB.out | apply below_alloc | apply pw_below_drewN | apply below_drew1) | exact HB.out)⟩
end Go.Proofs.YtdogljnddalgdaaDoor.A6
end
