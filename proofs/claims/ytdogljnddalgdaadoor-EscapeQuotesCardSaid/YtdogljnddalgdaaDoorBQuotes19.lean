/- Of what the law EscapeQuotes needs: part 19. -/
import Derived.ArgAppend
import Derived.Below
import Derived.BigQuiet
import Derived.Deep.AppendLies
import Derived.Deep.CutBlock
import Derived.Deep.DeepCutAuto
import Derived.Deep.Draws
import Derived.Deep.LoopGhost
import Derived.Deep.OwnRows
import Derived.Deep.QuietTactic
import Derived.Deep.RegionHeld3
import Derived.KernelRfl
import Derived.Laws.BitsLemmas
import Derived.Laws.BytesArg
import Derived.Laws.Cover4
import Derived.Laws.IdiomCopy
import Derived.Laws.MakeOwn
import Derived.Laws.OwnMore
import Derived.Laws.Rows
import Derived.Laws.Slices
import Derived.Laws.StructEq
import Derived.Lib.AppendStr
import Derived.Lib.ConvBytes
import Derived.Maps.AppendAt
import Derived.Maps.Own
import Derived.Maps.OwnOps
import Derived.Maps.OwnSet
import Derived.OrdersHeld
import Derived.OwnWalk
import Derived.RowKit
import Derived.RowKit3
import Derived.StringKeys
import Derived.Tactics
import Derived.Test.YtdogljnddalgdaaDoorProg
import Derived.WalkKit
import Derived.WalkMore
import Derived.WideLaws
import Derived.Test.YtdogljnddalgdaaDoorBQuotes8
import Derived.Test.YtdogljnddalgdaaDoorBQuotes15
import Derived.Test.YtdogljnddalgdaaDoorBQuotes16
import Derived.Test.YtdogljnddalgdaaDoorBQuotes18
namespace Go.Proofs.YtdogljnddalgdaaDoorW.PrintLast
end Go.Proofs.YtdogljnddalgdaaDoorW.PrintLast
namespace Go.Proofs.YtdogljnddalgdaaDoorW.PrintMore
end Go.Proofs.YtdogljnddalgdaaDoorW.PrintMore
namespace Go.Proofs.YtdogljnddalgdaaDoorW.PrintWords
end Go.Proofs.YtdogljnddalgdaaDoorW.PrintWords
section
namespace Go.Proofs.YtdogljnddalgdaaDoor.A4
open Go.RowKit Go.Proofs.YtdogljnddalgdaaDoorW.PrintWords Go.Proofs.YtdogljnddalgdaaDoorW.PrintLast Go.Proofs.YtdogljnddalgdaaDoorW.PrintMore
attribute [local go_sem] max2_int min2_int max_two min_two max_three min_three max_four min_four   -- for this text's walks alone
set_option linter.unusedVariables false
set_option linter.unusedSimpArgs false
mutual
def flongref04_escape.l0 : Nat → List Int → Int → Int → List Int → List Int → Int → List (S38) → List (S41) → Option ((List (S38)) × (List (S41)) × Int)
  | 0, _, _, _, _, _, _, _, _ => none
  | k + 1, x1, x2, x8, x9, x10, x11, x225000, x225001 => if x11 < (x9.length : Int) then (if 0 ≤ x2 then (if x2 < (x1.length : Int) then (if 0 ≤ x11 then (if (rd x1 x2) = (rd x9 x11) then (if x11 < (x10.length : Int) then ((flongref04_say.f x225000 x225001 1 (rd x10 x11)).bind fun bt241 => (some (bt241.1, bt241.2, wrap64 (x2 + 1)))) else (none)) else (flongref04_escape.l0 k x1 x2 x8 x9 x10 (wrap64 (x11 + 1)) x225000 x225001)) else (none)) else (none)) else (none)) else (if 0 ≤ x2 then (if x2 < (x1.length : Int) then (if (rd x1 x2) = 38 then (flongref04_escape.j1 k x1 x2 x8 (rd x1 x2) ((rd x1 x2) == 38) x225000 x225001) else (if (rd x1 x2) = 37 then (flongref04_escape.j1 k x1 x2 x8 (rd x1 x2) ((rd x1 x2) == 37) x225000 x225001) else (if (rd x1 x2) = 47 then (flongref04_escape.j1 k x1 x2 x8 (rd x1 x2) ((rd x1 x2) == 47) x225000 x225001) else (if (rd x1 x2) = 44 then (flongref04_escape.j1 k x1 x2 x8 (rd x1 x2) ((rd x1 x2) == 44) x225000 x225001) else (flongref04_escape.j1 k x1 x2 x8 (rd x1 x2) ((rd x1 x2) == 58) x225000 x225001))))) else (none)) else (none))
def flongref04_escape.j1 : Nat → List Int → Int → Int → Int → Bool → List (S38) → List (S41) → Option ((List (S38)) × (List (S41)) × Int)
  | 0, _, _, _, _, _, _, _ => none
  | k + 1, x1, x2, x8, x54, x55, x225000, x225001 => if x55 = true then (some (x225000, x225001, wrap64 (x2 + 1))) else (if x54 = 34 then (some (x225000, x225001, (x1.length : Int))) else (if x54 = 40 then (flongref04_escape.j2 k x1 x2 x8 x54 (x54 == 40) x225000 x225001) else (flongref04_escape.j2 k x1 x2 x8 x54 (x54 == 91) x225000 x225001)))
def flongref04_escape.j2 : Nat → List Int → Int → Int → Int → Bool → List (S38) → List (S41) → Option ((List (S38)) × (List (S41)) × Int)
  | 0, _, _, _, _, _, _, _ => none
  | k + 1, x1, x2, x8, x54, x69, x225000, x225001 => if x69 = true then ((flongref04_name.f k x1 x2).bind fun bt248 => (if bt248.2 < 0 then ((flongref04_tell.f x225000 x225001 1 x8).bind fun bt250 => (some (bt250.1, bt250.2, (x1.length : Int)))) else ((flongref04_Name.f k bt248.1).bind fun t256 => (if t256 < 0 then ((flongref04_tell.f x225000 x225001 2 x8).bind fun bt257 => (some (bt257.1, bt257.2, bt248.2))) else ((flongref04_Name.f k bt248.1).bind fun t263 => ((flongref04_say.f x225000 x225001 1 (wrap32 (t263))).bind fun bt264 => (some (bt264.1, bt264.2, bt248.2)))))))) else (if x54 = 102 then ((flongref04_name.f k x1 (wrap64 (x2 + 1))).bind fun bt270 => (if bt270.2 < 0 then ((flongref04_tell.f x225000 x225001 1 x8).bind fun bt272 => (some (bt272.1, bt272.2, (x1.length : Int)))) else ((flongref04_Font.f k bt270.1).bind fun t278 => (if t278 < 0 then ((flongref04_tell.f x225000 x225001 2 x8).bind fun bt279 => (some (bt279.1, bt279.2, bt270.2))) else ((flongref04_Font.f k bt270.1).bind fun t285 => ((flongref04_say.f x225000 x225001 3 (wrap32 (t285))).bind fun bt286 => (some (bt286.1, bt286.2, bt270.2)))))))) else ((flongref04_tell.f x225000 x225001 1 x8).bind fun bt292 => (some (bt292.1, bt292.2, wrap64 (x2 + 1)))))
end
def flongref04_escape.f (k : Nat) (l0_0 : List (S38)) (l0_1 : List (S41)) (l1 : List Int) (a2 : Int) : Option ((List (S38)) × (List (S41)) × Int) := if a2 ≥ (l1.length : Int) then ((flongref04_tell.f l0_0 l0_1 1 (wrap64 (a2 - 1))).bind fun bt226 => (some (bt226.1, bt226.2, a2))) else (flongref04_escape.l0 k l1 a2 (wrap64 (a2 - 1)) (([92, 101, 45, 46, 39, 96, 32, 126, 48] : List Int)) (([92, 92, 45, 46, 180, 96, 160, 160, 160] : List Int)) 0 l0_0 l0_1)
theorem flongref04_escape.mono_l : ∀ k, (∀ y0 y1 y2 y3 y4 y5 y6 y7, LeO (flongref04_escape.l0 k y0 y1 y2 y3 y4 y5 y6 y7) (flongref04_escape.l0 (k + 1) y0 y1 y2 y3 y4 y5 y6 y7)) ∧ (∀ y0 y1 y2 y3 y4 y5 y6, LeO (flongref04_escape.j1 k y0 y1 y2 y3 y4 y5 y6) (flongref04_escape.j1 (k + 1) y0 y1 y2 y3 y4 y5 y6)) ∧ (∀ y0 y1 y2 y3 y4 y5 y6, LeO (flongref04_escape.j2 k y0 y1 y2 y3 y4 y5 y6) (flongref04_escape.j2 (k + 1) y0 y1 y2 y3 y4 y5 y6))
  | 0 => ⟨fun _ _ _ _ _ _ _ _ r h => by simp [flongref04_escape.l0] at h, fun _ _ _ _ _ _ _ r h => by simp [flongref04_escape.j1] at h, fun _ _ _ _ _ _ _ r h => by simp [flongref04_escape.j2] at h⟩
  | k + 1 => by
    obtain ⟨ih0, ih1, ih2⟩ := flongref04_escape.mono_l k
    refine ⟨?_, ?_, ?_⟩
    · intro y0 y1 y2 y3 y4 y5 y6 y7
      unfold flongref04_escape.l0
      repeat' first
      | (with_reducible exact ih0 _ _ _ _ _ _ _ _)
      | (with_reducible exact ih1 _ _ _ _ _ _ _)
      | (with_reducible exact ih2 _ _ _ _ _ _ _)
      | (with_reducible exact flongref04_Font.mono _ _)
      | (with_reducible exact flongref04_Name.mono _ _)
      | (with_reducible exact flongref04_name.mono _ _ _)
      | (with_reducible exact LeO.refl _)
      | (with_reducible exact LeO.none _)
      | (with_reducible refine LeO.ite ?_ ?_)
      | (with_reducible refine LeO.bind ?_ (fun _ => ?_))
      | exact ih0 _ _ _ _ _ _ _ _
      | exact ih1 _ _ _ _ _ _ _
      | exact ih2 _ _ _ _ _ _ _
      | exact flongref04_Font.mono _ _
      | exact flongref04_Name.mono _ _
      | exact flongref04_name.mono _ _ _
      | exact LeO.none _
      | refine LeO.ite ?_ ?_
      | refine LeO.bind ?_ (fun _ => ?_)
    · intro y0 y1 y2 y3 y4 y5 y6
      unfold flongref04_escape.j1
      repeat' first
      | (with_reducible exact ih0 _ _ _ _ _ _ _ _)
      | (with_reducible exact ih1 _ _ _ _ _ _ _)
      | (with_reducible exact ih2 _ _ _ _ _ _ _)
      | (with_reducible exact flongref04_Font.mono _ _)
      | (with_reducible exact flongref04_Name.mono _ _)
      | (with_reducible exact flongref04_name.mono _ _ _)
      | (with_reducible exact LeO.refl _)
      | (with_reducible exact LeO.none _)
      | (with_reducible refine LeO.ite ?_ ?_)
      | (with_reducible refine LeO.bind ?_ (fun _ => ?_))
      | exact ih0 _ _ _ _ _ _ _ _
      | exact ih1 _ _ _ _ _ _ _
      | exact ih2 _ _ _ _ _ _ _
      | exact flongref04_Font.mono _ _
      | exact flongref04_Name.mono _ _
      | exact flongref04_name.mono _ _ _
      | exact LeO.none _
      | refine LeO.ite ?_ ?_
      | refine LeO.bind ?_ (fun _ => ?_)
    · intro y0 y1 y2 y3 y4 y5 y6
      unfold flongref04_escape.j2
      repeat' first
      | (with_reducible exact ih0 _ _ _ _ _ _ _ _)
      | (with_reducible exact ih1 _ _ _ _ _ _ _)
      | (with_reducible exact ih2 _ _ _ _ _ _ _)
      | (with_reducible exact flongref04_Font.mono _ _)
      | (with_reducible exact flongref04_Name.mono _ _)
      | (with_reducible exact flongref04_name.mono _ _ _)
      | (with_reducible exact LeO.refl _)
      | (with_reducible exact LeO.none _)
      | (with_reducible refine LeO.ite ?_ ?_)
      | (with_reducible refine LeO.bind ?_ (fun _ => ?_))
      | exact ih0 _ _ _ _ _ _ _ _
      | exact ih1 _ _ _ _ _ _ _
      | exact ih2 _ _ _ _ _ _ _
      | exact flongref04_Font.mono _ _
      | exact flongref04_Name.mono _ _
      | exact flongref04_name.mono _ _ _
      | exact LeO.none _
      | refine LeO.ite ?_ ?_
      | refine LeO.bind ?_ (fun _ => ?_)
theorem flongref04_escape.mono : ∀ a0 a1 a2 a3 k, LeO (flongref04_escape.f k a0 a1 a2 a3) (flongref04_escape.f (k + 1) a0 a1 a2 a3) := by
  intro a0 a1 a2 a3 k
  obtain ⟨ih0, ih1, ih2⟩ := flongref04_escape.mono_l k
  unfold flongref04_escape.f
  repeat' first
      | (with_reducible exact ih0 _ _ _ _ _ _ _ _)
      | (with_reducible exact ih1 _ _ _ _ _ _ _)
      | (with_reducible exact ih2 _ _ _ _ _ _ _)
      | (with_reducible exact flongref04_Font.mono _ _)
      | (with_reducible exact flongref04_Name.mono _ _)
      | (with_reducible exact flongref04_name.mono _ _ _)
      | (with_reducible exact LeO.refl _)
      | (with_reducible exact LeO.none _)
      | (with_reducible refine LeO.ite ?_ ?_)
      | (with_reducible refine LeO.bind ?_ (fun _ => ?_))
      | exact ih0 _ _ _ _ _ _ _ _
      | exact ih1 _ _ _ _ _ _ _
      | exact ih2 _ _ _ _ _ _ _
      | exact flongref04_Font.mono _ _
      | exact flongref04_Name.mono _ _
      | exact flongref04_name.mono _ _ _
      | exact LeO.none _
      | refine LeO.ite ?_ ?_
      | refine LeO.bind ?_ (fun _ => ?_)
def flongref04_escape.T9 : Bool × List (List Nat × List Nat) := (true, [([], []), ([], []), ([0, 1], [0, 1]), ([2], [2]), ([], []), ([], []), ([4, 5], [4, 5]), ([6], [6]), ([3, 7], [3, 7])])
def flongref04_escape.B9 : List Nat := [0, 0, 3, 7, 0, 0, 48, 112, 255]
theorem flongref04_escape.tab9 : rtab .any (opsOf Tryd.f44 9) = flongref04_escape.T9 := by kernel_rfl
theorem flongref04_escape.bits9 : waitsOk flongref04_escape.T9.2 flongref04_escape.B9 = true := by kernel_rfl
def flongref04_escape.T10 : Bool × List (List Nat × List Nat) := (true, [([], []), ([], []), ([], []), ([1, 2], [1, 2]), ([3], [3]), ([0, 4], [0, 4]), ([], []), ([6], [6]), ([5, 5, 0, 1, 2, 3, 4, 5], [5]), ([7, 8, 0, 1, 2, 3, 4, 5, 6, 7, 8], [7])])
def flongref04_escape.B10 : List Nat := [0, 0, 0, 6, 14, 31, 0, 64, 63, 511]
theorem flongref04_escape.tab10 : rtab .any (opsOf Tryd.f44 10) = flongref04_escape.T10 := by kernel_rfl
theorem flongref04_escape.bits10 : waitsOk flongref04_escape.T10.2 flongref04_escape.B10 = true := by kernel_rfl
def flongref04_escape.T27 : Bool × List (List Nat × List Nat) := (true, [([], []), ([], []), ([1], [1]), ([2], [2]), ([0, 3, 2], [0, 3]), ([], []), ([4, 4, 0, 1, 2, 3, 4], [4]), ([5, 6, 0, 1, 2, 3, 4, 5, 6], [5])])
def flongref04_escape.B27 : List Nat := [0, 0, 2, 6, 15, 0, 31, 127]
theorem flongref04_escape.tab27 : rtab .any (opsOf Tryd.f44 27) = flongref04_escape.T27 := by kernel_rfl
theorem flongref04_escape.bits27 : waitsOk flongref04_escape.T27.2 flongref04_escape.B27 = true := by kernel_rfl
def flongref04_escape.T34 : Bool × List (List Nat × List Nat) := (true, [([], []), ([], []), ([1], [1]), ([2], [2]), ([0, 3, 2], [0, 3]), ([], []), ([4, 4, 0, 1, 2, 3, 4], [4]), ([5, 6, 0, 1, 2, 3, 4, 5, 6], [5])])
def flongref04_escape.B34 : List Nat := [0, 0, 2, 6, 15, 0, 31, 127]
theorem flongref04_escape.tab34 : rtab .any (opsOf Tryd.f44 34) = flongref04_escape.T34 := by kernel_rfl
theorem flongref04_escape.bits34 : waitsOk flongref04_escape.T34.2 flongref04_escape.B34 = true := by kernel_rfl
set_option maxHeartbeats 8000000 in
set_option maxRecDepth 100000 in
theorem flongref04_escape.calls (k : Nat) (P0_0_ : Nat → Prop) (u9000_ : Value) (l0_0 : List (S38)) (P0_1_ : Nat → Prop) (u9001_ : Value) (l0_1 : List (S41)) (A1 : Option Addr) (c1 : Nat) (l1 : List Int) (a2 : Int) (r1 : List (S38)) (r2 : List (S41)) (r3 : Int) (w0 w : World) (hB : Below w0.heap.size w0 w) (ho0_0 : Kd.R k38 38 w w0.heap.size P0_0_ u9000_ l0_0) (ho0_1 : Kd.R k41 41 w w0.heap.size P0_1_ u9001_ l0_1) (hr1 : ∀ W_, Kept w W_ (fun k_ => P0_0_ k_ ∨ P0_1_ k_) → Kd.C (Kd.int .i32) W_ A1 l1.length l1) (hc1 : l1.length ≤ c1) (h : flongref04_escape.f k l0_0 l0_1 l1 a2 = some (r1, r2, r3)) :
    Calls Tryd.prog 44 #[.agg #[u9000_, u9001_], .slice A1 l1.length c1, .int .i64 a2] w fun e w' => ∃ v0_ v1_ : Value, e = .returned (.tuple #[.agg #[v0_, v1_], .int .i64 r3]) ∧ Kd.R k38 38 w' w0.heap.size (fun k_ => ((P0_0_ k_ ∨ P0_1_ k_) ∨ w.heap.size ≤ k_)) v0_ r1 ∧ Kd.R k41 41 w' w0.heap.size (fun k_ => ((P0_0_ k_ ∨ P0_1_ k_) ∨ w.heap.size ≤ k_)) v1_ r2 ∧ Below w0.heap.size w0 w' ∧ Kept w w' (fun k_ => P0_0_ k_ ∨ P0_1_ k_) := by
  have hu70 := Tryd.underlying70
  have HO0_0 := Aside0.mk (show Kd.R k38 38 w w0.heap.size (fun k_ => ((P0_0_ k_ ∨ P0_1_ k_) ∨ w.heap.size ≤ k_)) u9000_ l0_0 from Kd.R_mono ho0_0 (fun k_ hk => (.inl (.inl hk))))
  have HO0_1 := Aside0.mk (show Kd.R k41 41 w w0.heap.size (fun k_ => ((P0_0_ k_ ∨ P0_1_ k_) ∨ w.heap.size ≤ k_)) u9001_ l0_1 from Kd.R_mono ho0_1 (fun k_ hk => (.inl (.inr hk))))
  have HR1 := Aside0.mk hr1
  have HC1 := Aside0.mk hc1
  clear hr1 hc1
  have HK := Aside0.mk (Kept.refl w (fun k_ => P0_0_ k_ ∨ P0_1_ k_))
  have HW0 := Aside0.mk hB.size
  have HB := Aside0.mk hB
  clear hB
  have H : (if a2 ≥ (l1.length : Int) then ((flongref04_tell.f l0_0 l0_1 1 (wrap64 (a2 - 1))).bind fun bt226 => (some (bt226.1, bt226.2, a2))) else (flongref04_escape.l0 k l1 a2 (wrap64 (a2 - 1)) (([92, 101, 45, 46, 39, 96, 32, 126, 48] : List Int)) (([92, 92, 45, 46, 180, 96, 160, 160, 160] : List Int)) 0 l0_0 l0_1)) = some (r1, r2, r3) := h
  clear h
  by_cases c4 : a2 ≥ (l1.length : Int)
  · rw [if_pos c4] at H
    have c4b0 : decide ((l1.length : Int) ≤ a2) = true := decide_eq_true c4
    clear c4
    replace H := Option.bind_eq_some_iff.mp H
    obtain ⟨⟨t226, t229⟩, A50, H⟩ := H
    replace H : (some (t226, t229, a2)) = some (r1, r2, r3) := H
    have A5 := Aside0.mk A50
    clear A50
    simp only [Option.some.injEq, Prod.mk.injEq] at H
    obtain ⟨rfl, rfl, rfl⟩ := H
    obtain ⟨Ao6, co6, eo6⟩ := Kd.R_slice HO0_0.out
    subst eo6
    obtain ⟨Ao7, co7, eo7⟩ := Kd.R_slice HO0_1.out
    subst eo7
    go_enter Tryd.func44, Tryd.ntmps44
    go_wp2_with (first | ((with_reducible refine gate_dst (N := 3) rfl ?_); refine box_event ?hg (N := 3) ?hd (cs := #[.slice Ao6 l0_0.length co6, .slice Ao7 l0_1.length co7]) (t := 70) ?hr ?_; (case hd => rfl); (case hg => rfl); (case hr => first | (go_simp; done) | (go_simp; rfl)); intro gb224 hg w8 hbox hb; have n0_ := Aside0.mk (Kd.R_below (by (with_reducible repeat (first | apply Kd.R_alloc | apply Kd.R_drewN | apply Kd.R_drew)); exact HO0_0.out) hb); have n1_ := Aside0.mk (Kd.R_below (by (with_reducible repeat (first | apply Kd.R_alloc | apply Kd.R_drewN | apply Kd.R_drew)); exact HO0_1.out) hb); have n2_ := Aside0.mk (Kept.below (S := (fun k_ => P0_0_ k_ ∨ P0_1_ k_)) (by repeat (first | (with_reducible first | exact HK.out | apply Kept.alloc | apply Kept.drewN | apply Kept.drew) | exact HK.out)) hb); have n3_ := Aside0.mk (below_step (by repeat (first | (with_reducible first | exact HB.out | apply below_alloc | apply pw_below_drewN | apply below_drew1) | exact HB.out)) hb); have n4_ := Aside0.mk (hbox); have n5_ := Aside0.mk ((by rw [hg]; exact (by first | exact HK.out.1 | exact (show Kept w _ (fun k_ => P0_0_ k_ ∨ P0_1_ k_) from by repeat (first | (with_reducible first | exact HK.out | apply Kept.alloc | apply Kept.drewN | apply Kept.drew) | exact HK.out)).1) : w.heap.size ≤ gb224)); have n6_ := Aside0.mk ((by rw [hg]; exact (below_size (by repeat (first | (with_reducible first | exact HB.out | apply below_alloc | apply pw_below_drewN | apply below_drew1) | exact HB.out))) : w0.heap.size ≤ gb224)); clear HO0_0; clear HO0_1; clear HK; clear HB; have HO0_0 := n0_; have HO0_1 := n1_; have HK := n2_; have HB := n3_; have BK224 := n4_; have GW224 := n5_; have GE224 := n6_; clear n0_ n1_ n2_ n3_ n4_ n5_ n6_; clear hb hbox hg) | ((with_reducible refine gate_dst (N := 6) rfl ?_); refine box_event ?hg (N := 6) ?hd (cs := #[.slice none 0 0, .slice none 0 0]) (t := 70) ?hr ?_; (case hd => rfl); (case hg => rfl); (case hr => first | (go_simp; done) | (go_simp; rfl)); intro gb225 hg w9 hbox hb; have n0_ := Aside0.mk (Kd.R_below (by (with_reducible repeat (first | apply Kd.R_alloc | apply Kd.R_drewN | apply Kd.R_drew)); exact HO0_0.out) hb); have n1_ := Aside0.mk (Kd.R_below (by (with_reducible repeat (first | apply Kd.R_alloc | apply Kd.R_drewN | apply Kd.R_drew)); exact HO0_1.out) hb); have n2_ := Aside0.mk (blk_below (g := gb224) (o := .cells #[.slice Ao6 l0_0.length co6, .slice Ao7 l0_1.length co7] 70 (0, 0)) (by (with_reducible repeat (first | refine blk_drewN ?_ _ | refine blk_drew ?_ | refine blk_alloc ?_ _)); exact BK224.out) hb); have n3_ := Aside0.mk (Kept.below (S := (fun k_ => P0_0_ k_ ∨ P0_1_ k_)) (by repeat (first | (with_reducible first | exact HK.out | apply Kept.alloc | apply Kept.drewN | apply Kept.drew | refine Kept.setCell ?_ (.inr GW224.out) _) | exact HK.out)) hb); have n4_ := Aside0.mk (below_step (by repeat (first | (with_reducible first | exact HB.out | apply below_alloc | apply pw_below_drewN | apply below_drew1 | refine below_set ?_ GE224.out) | exact HB.out)) hb); have n5_ := Aside0.mk (hbox); have n6_ := Aside0.mk ((by rw [hg]; exact (by first | exact HK.out.1 | exact (show Kept w _ (fun k_ => P0_0_ k_ ∨ P0_1_ k_) from by repeat (first | (with_reducible first | exact HK.out | apply Kept.alloc | apply Kept.drewN | apply Kept.drew | refine Kept.setCell ?_ (.inr GW224.out) _) | exact HK.out)).1) : w.heap.size ≤ gb225)); have n7_ := Aside0.mk ((by rw [hg]; exact (below_size (by repeat (first | (with_reducible first | exact HB.out | apply below_alloc | apply pw_below_drewN | apply below_drew1 | refine below_set ?_ GE224.out) | exact HB.out))) : w0.heap.size ≤ gb225)); have n8_ := Aside0.mk ((by rw [hg]; exact Nat.ne_of_lt (blk_lt (g := gb224) (o := .cells #[.slice Ao6 l0_0.length co6, .slice Ao7 l0_1.length co7] 70 (0, 0)) (by (with_reducible repeat (first | refine blk_drewN ?_ _ | refine blk_drew ?_ | refine blk_alloc ?_ _)); exact BK224.out)) : gb224 ≠ gb225)); have n9_ := Aside0.mk ((by rw [hg]; exact Nat.ne_of_gt (blk_lt (g := gb224) (o := .cells #[.slice Ao6 l0_0.length co6, .slice Ao7 l0_1.length co7] 70 (0, 0)) (by (with_reducible repeat (first | refine blk_drewN ?_ _ | refine blk_drew ?_ | refine blk_alloc ?_ _)); exact BK224.out)) : gb225 ≠ gb224)); clear HO0_0; clear HO0_1; clear BK224; clear HK; clear HB; have HO0_0 := n0_; have HO0_1 := n1_; have BK224 := n2_; have HK := n3_; have HB := n4_; have BK225 := n5_; have GW225 := n6_; have GE225 := n7_; have NB224_225 := n8_; have NB225_224 := n9_; clear n0_ n1_ n2_ n3_ n4_ n5_ n6_ n7_ n8_ n9_; clear hb hbox hg; have hnb10 := NB224_225.out; have hnc10 := NB225_224.out; have hcz11_0 : w9.cell? ⟨gb224, 0, none⟩ = some (.slice Ao6 l0_0.length co6) := (blk_cell BK224.out 0).trans rfl; have hcz11_1 : w9.cell? ⟨gb224, 1, none⟩ = some (.slice Ao7 l0_1.length co7) := (blk_cell BK224.out 1).trans rfl; have hfz11_0 := blk_frozen BK224.out 0; have hfz11_1 := blk_frozen BK224.out 1) | ((with_reducible refine gate_callee (f := 46) rfl ?_); refine goesL_ (some 24) rfl rfl Tryd.func46 (by kernel_rfl) rfl #[.agg #[.slice Ao6 l0_0.length co6, .slice Ao7 l0_1.length co7], .int .i64 1, .int .i64 (wrap64 (a2 - 1))] rfl (by (try simp only [List.map_toArray, List.map_cons, List.map_nil]); first | done | rfl | (simp only [List.length_drop, List.length_take]; rfl)) ?_; (with_reducible refine (flongref04_tell.calls (fun k_ => some k_ = (.slice Ao6 l0_0.length co6 : Value).ownBlock) (.slice Ao6 l0_0.length co6) l0_0 (fun k_ => some k_ = (.slice Ao7 l0_1.length co7 : Value).ownBlock) (.slice Ao7 l0_1.length co7) l0_1 1 (wrap64 (a2 - 1)) t226 t229 w0 _ ?side1 ?side2 ?side3 A5.out).mono ?_); (case side1 => repeat (first | (with_reducible first | exact HB.out | apply below_alloc | apply pw_below_drewN | apply below_drew1 | refine below_set ?_ GE224.out | refine below_set ?_ GE225.out) | exact HB.out)); (case side2 => exact Kd.R_tight rfl HO0_0.out); (case side3 => exact Kd.R_tight rfl HO0_1.out); rintro e w12 ⟨v227, v230, rfl, ho0, ho1, hb, hkp⟩; refine ⟨_, rfl, ?_⟩; have n0_ := Aside0.mk (blk_kept (by (with_reducible repeat (first | refine blk_drewN ?_ _ | refine blk_drew ?_ | refine blk_alloc ?_ _)); exact BK224.out) hkp (fun hs_ => Or.elim hs_ (fun e_ => (fun e_ => (Kd.R_ne HO0_0.out BK224.out (by decide)) e_) e_) (fun e_ => (fun e_ => (Kd.R_ne HO0_1.out BK224.out (by decide)) e_) e_))); have n1_ := Aside0.mk (blk_kept (by (with_reducible repeat (first | refine blk_drewN ?_ _ | refine blk_drew ?_ | refine blk_alloc ?_ _)); exact BK225.out) hkp (fun hs_ => Or.elim hs_ (fun e_ => (fun e_ => (Kd.R_ne HO0_0.out BK225.out (by decide)) e_) e_) (fun e_ => (fun e_ => (Kd.R_ne HO0_1.out BK225.out (by decide)) e_) e_))); have n2_ := Aside0.mk (Kd.R_mono (ok' := fun k_ => ((P0_0_ k_ ∨ P0_1_ k_) ∨ w.heap.size ≤ k_)) ho0 (fun k_ hk_ => Or.elim hk_ (fun hs_ => Or.elim hs_ (fun hs_ => (HO0_0.out.1 k_ (hs_).symm)) (fun hs_ => (HO0_1.out.1 k_ (hs_).symm))) (fun hn_ => (.inr (Nat.le_trans (by first | exact HK.out.1 | exact (show Kept w _ (fun k_ => P0_0_ k_ ∨ P0_1_ k_) from by repeat (first | (with_reducible first | exact HK.out | apply Kept.alloc | apply Kept.drewN | apply Kept.drew | refine Kept.setCell ?_ (.inr GW224.out) _ | refine Kept.setCell ?_ (.inr GW225.out) _) | exact HK.out)).1) hn_))))); have n3_ := Aside0.mk (Kd.R_mono (ok' := fun k_ => ((P0_0_ k_ ∨ P0_1_ k_) ∨ w.heap.size ≤ k_)) ho1 (fun k_ hk_ => Or.elim hk_ (fun hs_ => Or.elim hs_ (fun hs_ => (HO0_0.out.1 k_ (hs_).symm)) (fun hs_ => (HO0_1.out.1 k_ (hs_).symm))) (fun hn_ => (.inr (Nat.le_trans (by first | exact HK.out.1 | exact (show Kept w _ (fun k_ => P0_0_ k_ ∨ P0_1_ k_) from by repeat (first | (with_reducible first | exact HK.out | apply Kept.alloc | apply Kept.drewN | apply Kept.drew | refine Kept.setCell ?_ (.inr GW224.out) _ | refine Kept.setCell ?_ (.inr GW225.out) _) | exact HK.out)).1) hn_))))); have n4_ := Aside0.mk (Kept.then_ (S := (fun k_ => P0_0_ k_ ∨ P0_1_ k_)) (by repeat (first | (with_reducible first | exact HK.out | apply Kept.alloc | apply Kept.drewN | apply Kept.drew | refine Kept.setCell ?_ (.inr GW224.out) _ | refine Kept.setCell ?_ (.inr GW225.out) _) | exact HK.out)) hkp (fun k_ hs_ => Or.elim hs_ (fun e_ => (fun e_ => (HO0_0.out.1 k_ e_.symm)) e_) (fun e_ => (fun e_ => (HO0_1.out.1 k_ e_.symm)) e_))); have n5_ := Aside0.mk (hb); clear BK224; clear BK225; clear HK; clear HB; clear HO0_0; clear HO0_1; have BK224 := n0_; have BK225 := n1_; have HO228 := n2_; have HO231 := n3_; have HK := n4_; have HB := n5_; clear n0_ n1_ n2_ n3_ n4_ n5_; (try clear hb); (try clear hkp); (try clear ho0); (try clear ho1); obtain ⟨Ao13, co13, eo13⟩ := Kd.R_slice HO228.out; subst eo13; have hcz14_0 : w12.cell? ⟨gb225, 0, none⟩ = some (.slice none 0 0) := (blk_cell BK225.out 0).trans rfl; have hcz14_1 : w12.cell? ⟨gb225, 1, none⟩ = some (.slice none 0 0) := (blk_cell BK225.out 1).trans rfl; have hfz14_0 := blk_frozen BK225.out 0; have hfz14_1 := blk_frozen BK225.out 1; obtain ⟨Ao15, co15, eo15⟩ := Kd.R_slice HO231.out; subst eo15))
    refine bodyPost_ret (results_ct rfl _ _ gb225 70 #[.slice Ao13 t226.length co13, .slice Ao15 t229.length co15] (0, 0) _ rfl (by (with_reducible repeat (first | refine blk_drewN ?_ _ | refine blk_drew ?_ | refine blk_alloc ?_ _)); refine blk_put (cs := #[.slice Ao13 t226.length co13, .slice none 0 0]) ?_ 1 _ rfl; (with_reducible repeat (first | refine blk_drewN ?_ _ | refine blk_drew ?_ | refine blk_alloc ?_ _)); refine blk_put (cs := #[.slice none 0 0, .slice none 0 0]) ?_ 0 _ rfl; (with_reducible repeat (first | refine blk_drewN ?_ _ | refine blk_drew ?_ | refine blk_alloc ?_ _)); exact BK225.out) Tryd.underlying70 rfl (by kernel_rfl)) rfl ?_
    exact ⟨_, _, by first | rfl | (simp [errW_none, errW_some] <;> rfl) | (simp [*, errW_none, errW_some] <;> rfl), by (with_reducible repeat (first | apply Kd.R_alloc | apply Kd.R_drewN | apply Kd.R_drew)); exact Kd.R_mono (Kd.R_far (p := ⟨gb225, 1, none⟩) (Kd.R_far (p := ⟨gb225, 0, none⟩) (Kd.R_types HO228.out BK225.out (by decide)) (fun _ hk => hk.2) (.slice Ao13 t226.length co13)) (fun _ hk => hk.2) (.slice Ao15 t229.length co15)) (fun _ hk => hk.1), by (with_reducible repeat (first | apply Kd.R_alloc | apply Kd.R_drewN | apply Kd.R_drew)); exact Kd.R_mono (Kd.R_far (p := ⟨gb225, 1, none⟩) (Kd.R_far (p := ⟨gb225, 0, none⟩) (Kd.R_types HO231.out BK225.out (by decide)) (fun _ hk => hk.2) (.slice Ao13 t226.length co13)) (fun _ hk => hk.2) (.slice Ao15 t229.length co15)) (fun _ hk => hk.1), by repeat (first | (with_reducible first | exact HB.out | apply below_alloc | apply pw_below_drewN | apply below_drew1 | refine below_set ?_ GE224.out | refine below_set ?_ GE225.out) | exact HB.out), by repeat (first | (with_reducible first | exact HK.out | apply Kept.alloc | apply Kept.drewN | apply Kept.drew | refine Kept.setCell ?_ (.inr GW224.out) _ | refine Kept.setCell ?_ (.inr GW225.out) _) | exact HK.out)⟩
  · rw [if_neg c4] at H
    have c4b0 : decide ((l1.length : Int) ≤ a2) = false := decide_eq_false c4
    clear c4
    obtain ⟨y232, hy232⟩ : ∃ y_ : List Int, y_ = (([92, 101, 45, 46, 39, 96, 32, 126, 48] : List Int)) := ⟨_, rfl⟩
    replace H : (flongref04_escape.l0 k l1 a2 (wrap64 (a2 - 1)) y232 (([92, 92, 45, 46, 180, 96, 160, 160, 160] : List Int)) 0 l0_0 l0_1) = some (r1, r2, r3) := by first | (rw [hy232]; with_reducible exact H) | (have H2_ := (Option.bind_some _ _).symm.trans H; rw [hy232]; with_reducible exact H2_) | (have H2_ := (Option.bind_some _ _).symm.trans H; with_reducible exact H2_) | with_reducible exact H | (rw [hy232]; exact H) | exact H
    have Ny232 := Aside0.mk hy232
    clear hy232
    obtain ⟨y235, hy235⟩ : ∃ y_ : List Int, y_ = (([92, 92, 45, 46, 180, 96, 160, 160, 160] : List Int)) := ⟨_, rfl⟩
    replace H : (flongref04_escape.l0 k l1 a2 (wrap64 (a2 - 1)) y232 y235 0 l0_0 l0_1) = some (r1, r2, r3) := by first | (rw [hy235]; with_reducible exact H) | (have H2_ := (Option.bind_some _ _).symm.trans H; rw [hy235]; with_reducible exact H2_) | (have H2_ := (Option.bind_some _ _).symm.trans H; with_reducible exact H2_) | with_reducible exact H | (rw [hy235]; exact H) | exact H
    have Ny235 := Aside0.mk hy235
    clear hy235
    have H' := Aside0.mk H
    clear H
    obtain ⟨Ao16, co16, eo16⟩ := Kd.R_slice HO0_0.out
    subst eo16
    obtain ⟨Ao17, co17, eo17⟩ := Kd.R_slice HO0_1.out
    subst eo17
    go_enter Tryd.func44, Tryd.ntmps44
    go_wp2_with (first | ((with_reducible refine gate_dst (N := 3) rfl ?_); refine box_event ?hg (N := 3) ?hd (cs := #[.slice Ao16 l0_0.length co16, .slice Ao17 l0_1.length co17]) (t := 70) ?hr ?_; (case hd => rfl); (case hg => rfl); (case hr => first | (go_simp; done) | (go_simp; rfl)); intro gb224 hg w18 hbox hb; have n0_ := Aside0.mk (Kd.R_below (by (with_reducible repeat (first | apply Kd.R_alloc | apply Kd.R_drewN | apply Kd.R_drew)); exact HO0_0.out) hb); have n1_ := Aside0.mk (Kd.R_below (by (with_reducible repeat (first | apply Kd.R_alloc | apply Kd.R_drewN | apply Kd.R_drew)); exact HO0_1.out) hb); have n2_ := Aside0.mk (Kept.below (S := (fun k_ => P0_0_ k_ ∨ P0_1_ k_)) (by repeat (first | (with_reducible first | exact HK.out | apply Kept.alloc | apply Kept.drewN | apply Kept.drew) | exact HK.out)) hb); have n3_ := Aside0.mk (below_step (by repeat (first | (with_reducible first | exact HB.out | apply below_alloc | apply pw_below_drewN | apply below_drew1) | exact HB.out)) hb); have n4_ := Aside0.mk (hbox); have n5_ := Aside0.mk ((by rw [hg]; exact (by first | exact HK.out.1 | exact (show Kept w _ (fun k_ => P0_0_ k_ ∨ P0_1_ k_) from by repeat (first | (with_reducible first | exact HK.out | apply Kept.alloc | apply Kept.drewN | apply Kept.drew) | exact HK.out)).1) : w.heap.size ≤ gb224)); have n6_ := Aside0.mk ((by rw [hg]; exact (below_size (by repeat (first | (with_reducible first | exact HB.out | apply below_alloc | apply pw_below_drewN | apply below_drew1) | exact HB.out))) : w0.heap.size ≤ gb224)); clear HO0_0; clear HO0_1; clear HK; clear HB; have HO0_0 := n0_; have HO0_1 := n1_; have HK := n2_; have HB := n3_; have BK224 := n4_; have GW224 := n5_; have GE224 := n6_; clear n0_ n1_ n2_ n3_ n4_ n5_ n6_; clear hb hbox hg) | ((with_reducible refine gate_dst (N := 6) rfl ?_); refine box_event ?hg (N := 6) ?hd (cs := #[.slice none 0 0, .slice none 0 0]) (t := 70) ?hr ?_; (case hd => rfl); (case hg => rfl); (case hr => first | (go_simp; done) | (go_simp; rfl)); intro gb225 hg w19 hbox hb; have n0_ := Aside0.mk (Kd.R_below (by (with_reducible repeat (first | apply Kd.R_alloc | apply Kd.R_drewN | apply Kd.R_drew)); exact HO0_0.out) hb); have n1_ := Aside0.mk (Kd.R_below (by (with_reducible repeat (first | apply Kd.R_alloc | apply Kd.R_drewN | apply Kd.R_drew)); exact HO0_1.out) hb); have n2_ := Aside0.mk (blk_below (g := gb224) (o := .cells #[.slice Ao16 l0_0.length co16, .slice Ao17 l0_1.length co17] 70 (0, 0)) (by (with_reducible repeat (first | refine blk_drewN ?_ _ | refine blk_drew ?_ | refine blk_alloc ?_ _)); exact BK224.out) hb); have n3_ := Aside0.mk (Kept.below (S := (fun k_ => P0_0_ k_ ∨ P0_1_ k_)) (by repeat (first | (with_reducible first | exact HK.out | apply Kept.alloc | apply Kept.drewN | apply Kept.drew | refine Kept.setCell ?_ (.inr GW224.out) _) | exact HK.out)) hb); have n4_ := Aside0.mk (below_step (by repeat (first | (with_reducible first | exact HB.out | apply below_alloc | apply pw_below_drewN | apply below_drew1 | refine below_set ?_ GE224.out) | exact HB.out)) hb); have n5_ := Aside0.mk (hbox); have n6_ := Aside0.mk ((by rw [hg]; exact (by first | exact HK.out.1 | exact (show Kept w _ (fun k_ => P0_0_ k_ ∨ P0_1_ k_) from by repeat (first | (with_reducible first | exact HK.out | apply Kept.alloc | apply Kept.drewN | apply Kept.drew | refine Kept.setCell ?_ (.inr GW224.out) _) | exact HK.out)).1) : w.heap.size ≤ gb225)); have n7_ := Aside0.mk ((by rw [hg]; exact (below_size (by repeat (first | (with_reducible first | exact HB.out | apply below_alloc | apply pw_below_drewN | apply below_drew1 | refine below_set ?_ GE224.out) | exact HB.out))) : w0.heap.size ≤ gb225)); have n8_ := Aside0.mk ((by rw [hg]; exact Nat.ne_of_lt (blk_lt (g := gb224) (o := .cells #[.slice Ao16 l0_0.length co16, .slice Ao17 l0_1.length co17] 70 (0, 0)) (by (with_reducible repeat (first | refine blk_drewN ?_ _ | refine blk_drew ?_ | refine blk_alloc ?_ _)); exact BK224.out)) : gb224 ≠ gb225)); have n9_ := Aside0.mk ((by rw [hg]; exact Nat.ne_of_gt (blk_lt (g := gb224) (o := .cells #[.slice Ao16 l0_0.length co16, .slice Ao17 l0_1.length co17] 70 (0, 0)) (by (with_reducible repeat (first | refine blk_drewN ?_ _ | refine blk_drew ?_ | refine blk_alloc ?_ _)); exact BK224.out)) : gb225 ≠ gb224)); clear HO0_0; clear HO0_1; clear BK224; clear HK; clear HB; have HO0_0 := n0_; have HO0_1 := n1_; have BK224 := n2_; have HK := n3_; have HB := n4_; have BK225 := n5_; have GW225 := n6_; have GE225 := n7_; have NB224_225 := n8_; have NB225_224 := n9_; clear n0_ n1_ n2_ n3_ n4_ n5_ n6_ n7_ n8_ n9_; clear hb hbox hg) | ((with_reducible refine gate_dst (N := 26) rfl ?_); refine Kd.R_lit (Kd.int .i32) _ 21 ?hg (N := 26) ?hd (xs := ([92, 101, 45, 46, 39, 96, 32, 126, 48] : List Int)) (inner := [.int .i32 92, .int .i32 101, .int .i32 45, .int .i32 46, .int .i32 39, .int .i32 96, .int .i32 32, .int .i32 126, .int .i32 48]) (ok := fun _ => True) (okp := fun _ => True) ?hr ?hp (fun _ hk => hk) trivial (Below.refl _ _) (Nat.le_refl _) (by simp) ?_; (case hd => rfl); (case hg => rfl); (case hr => first | (go_simp; done) | (go_simp; rfl)); (case hp => exact (Reps.one (show Kd.M (Kd.int .i32) _ _ _ 92 [.int .i32 92] from rfl) (Reps.one (show Kd.M (Kd.int .i32) _ _ _ 101 [.int .i32 101] from rfl) (Reps.one (show Kd.M (Kd.int .i32) _ _ _ 45 [.int .i32 45] from rfl) (Reps.one (show Kd.M (Kd.int .i32) _ _ _ 46 [.int .i32 46] from rfl) (Reps.one (show Kd.M (Kd.int .i32) _ _ _ 39 [.int .i32 39] from rfl) (Reps.one (show Kd.M (Kd.int .i32) _ _ _ 96 [.int .i32 96] from rfl) (Reps.one (show Kd.M (Kd.int .i32) _ _ _ 32 [.int .i32 32] from rfl) (Reps.one (show Kd.M (Kd.int .i32) _ _ _ 126 [.int .i32 126] from rfl) (Reps.one (show Kd.M (Kd.int .i32) _ _ _ 48 [.int .i32 48] from rfl) (Reps.none _ _))))))))))); intro v233 w20 ho21 hb hg_ hnew_; clear hg_ hnew_; (first | rw [← Ny232.out] at ho21 | (simp only [Int.reduceToNat] at ho21; rw [← Ny232.out] at ho21)); have n0_ := Aside0.mk (Kd.R_below (by (with_reducible repeat (first | apply Kd.R_alloc | apply Kd.R_drewN | apply Kd.R_drew)); exact HO0_0.out) hb); have n1_ := Aside0.mk (Kd.R_below (by (with_reducible repeat (first | apply Kd.R_alloc | apply Kd.R_drewN | apply Kd.R_drew)); exact HO0_1.out) hb); have n2_ := Aside0.mk (Kd.R_lower (Kd.R_newM (M := fun k_ => ((P0_0_ k_ ∨ P0_1_ k_) ∨ w.heap.size ≤ k_)) ho21 (by first | exact HK.out.1 | exact (show Kept w _ (fun k_ => P0_0_ k_ ∨ P0_1_ k_) from by repeat (first | (with_reducible first | exact HK.out | apply Kept.alloc | apply Kept.drewN | apply Kept.drew | refine Kept.setCell ?_ (.inr GW224.out) _ | refine Kept.setCell ?_ (.inr GW225.out) _) | exact HK.out)).1) (fun k_ h_ => .inr h_)) (below_size (by repeat (first | (with_reducible first | exact HB.out | apply below_alloc | apply pw_below_drewN | apply below_drew1 | refine below_set ?_ GE224.out | refine below_set ?_ GE225.out) | exact HB.out)))); have n3_ := Aside0.mk (blk_below (g := gb224) (o := .cells #[.slice Ao16 l0_0.length co16, .slice Ao17 l0_1.length co17] 70 (0, 0)) (by (with_reducible repeat (first | refine blk_drewN ?_ _ | refine blk_drew ?_ | refine blk_alloc ?_ _)); exact BK224.out) hb); have n4_ := Aside0.mk (blk_below (g := gb225) (o := .cells #[.slice none 0 0, .slice none 0 0] 70 (0, 0)) (by (with_reducible repeat (first | refine blk_drewN ?_ _ | refine blk_drew ?_ | refine blk_alloc ?_ _)); exact BK225.out) hb); have n5_ := Aside0.mk (Kept.below (S := (fun k_ => P0_0_ k_ ∨ P0_1_ k_)) (by repeat (first | (with_reducible first | exact HK.out | apply Kept.alloc | apply Kept.drewN | apply Kept.drew | refine Kept.setCell ?_ (.inr GW224.out) _ | refine Kept.setCell ?_ (.inr GW225.out) _) | exact HK.out)) hb); have n6_ := Aside0.mk (below_step (by repeat (first | (with_reducible first | exact HB.out | apply below_alloc | apply pw_below_drewN | apply below_drew1 | refine below_set ?_ GE224.out | refine below_set ?_ GE225.out) | exact HB.out)) hb); clear HO0_0; clear HO0_1; clear BK224; clear BK225; clear HK; clear HB; have HO0_0 := n0_; have HO0_1 := n1_; have HO234 := n2_; have BK224 := n3_; have BK225 := n4_; have HK := n5_; have HB := n6_; clear n0_ n1_ n2_ n3_ n4_ n5_ n6_; clear hb ho21) | ((with_reducible refine gate_dst (N := 27) rfl ?_); refine Kd.R_lit (Kd.int .i32) _ 21 ?hg (N := 27) ?hd (xs := ([92, 92, 45, 46, 180, 96, 160, 160, 160] : List Int)) (inner := [.int .i32 92, .int .i32 92, .int .i32 45, .int .i32 46, .int .i32 180, .int .i32 96, .int .i32 160, .int .i32 160, .int .i32 160]) (ok := fun _ => True) (okp := fun _ => True) ?hr ?hp (fun _ hk => hk) trivial (Below.refl _ _) (Nat.le_refl _) (by simp) ?_; (case hd => rfl); (case hg => rfl); (case hr => first | (go_simp; done) | (go_simp; rfl)); (case hp => exact (Reps.one (show Kd.M (Kd.int .i32) _ _ _ 92 [.int .i32 92] from rfl) (Reps.one (show Kd.M (Kd.int .i32) _ _ _ 92 [.int .i32 92] from rfl) (Reps.one (show Kd.M (Kd.int .i32) _ _ _ 45 [.int .i32 45] from rfl) (Reps.one (show Kd.M (Kd.int .i32) _ _ _ 46 [.int .i32 46] from rfl) (Reps.one (show Kd.M (Kd.int .i32) _ _ _ 180 [.int .i32 180] from rfl) (Reps.one (show Kd.M (Kd.int .i32) _ _ _ 96 [.int .i32 96] from rfl) (Reps.one (show Kd.M (Kd.int .i32) _ _ _ 160 [.int .i32 160] from rfl) (Reps.one (show Kd.M (Kd.int .i32) _ _ _ 160 [.int .i32 160] from rfl) (Reps.one (show Kd.M (Kd.int .i32) _ _ _ 160 [.int .i32 160] from rfl) (Reps.none _ _))))))))))); intro v236 w22 ho23 hb hg_ hnew_; clear hg_ hnew_; (first | rw [← Ny235.out] at ho23 | (simp only [Int.reduceToNat] at ho23; rw [← Ny235.out] at ho23)); have n0_ := Aside0.mk (Kd.R_below (by (with_reducible repeat (first | apply Kd.R_alloc | apply Kd.R_drewN | apply Kd.R_drew)); exact HO0_0.out) hb); have n1_ := Aside0.mk (Kd.R_below (by (with_reducible repeat (first | apply Kd.R_alloc | apply Kd.R_drewN | apply Kd.R_drew)); exact HO0_1.out) hb); have n2_ := Aside0.mk (Kd.R_elder' (by (with_reducible repeat (first | apply Kd.R_alloc | apply Kd.R_drewN | apply Kd.R_drew)); exact HO234.out) (Kd.R_base ho23) hb); have n3_ := Aside0.mk (Kd.R_lower (Kd.R_new' (Kd.R_newM (M := fun k_ => ((P0_0_ k_ ∨ P0_1_ k_) ∨ w.heap.size ≤ k_)) ho23 (by first | exact HK.out.1 | exact (show Kept w _ (fun k_ => P0_0_ k_ ∨ P0_1_ k_) from by repeat (first | (with_reducible first | exact HK.out | apply Kept.alloc | apply Kept.drewN | apply Kept.drew | refine Kept.setCell ?_ (.inr GW224.out) _ | refine Kept.setCell ?_ (.inr GW225.out) _) | exact HK.out)).1) (fun k_ h_ => .inr h_)) (Kd.R_lt (by (with_reducible repeat (first | apply Kd.R_alloc | apply Kd.R_drewN | apply Kd.R_drew)); exact HO234.out))) (below_size (by repeat (first | (with_reducible first | exact HB.out | apply below_alloc | apply pw_below_drewN | apply below_drew1 | refine below_set ?_ GE224.out | refine below_set ?_ GE225.out) | exact HB.out)))); have n4_ := Aside0.mk (blk_below (g := gb224) (o := .cells #[.slice Ao16 l0_0.length co16, .slice Ao17 l0_1.length co17] 70 (0, 0)) (by (with_reducible repeat (first | refine blk_drewN ?_ _ | refine blk_drew ?_ | refine blk_alloc ?_ _)); exact BK224.out) hb); have n5_ := Aside0.mk (blk_below (g := gb225) (o := .cells #[.slice none 0 0, .slice none 0 0] 70 (0, 0)) (by (with_reducible repeat (first | refine blk_drewN ?_ _ | refine blk_drew ?_ | refine blk_alloc ?_ _)); exact BK225.out) hb); have n6_ := Aside0.mk (Kept.below (S := (fun k_ => P0_0_ k_ ∨ P0_1_ k_)) (by repeat (first | (with_reducible first | exact HK.out | apply Kept.alloc | apply Kept.drewN | apply Kept.drew | refine Kept.setCell ?_ (.inr GW224.out) _ | refine Kept.setCell ?_ (.inr GW225.out) _) | exact HK.out)) hb); have n7_ := Aside0.mk (below_step (by repeat (first | (with_reducible first | exact HB.out | apply below_alloc | apply pw_below_drewN | apply below_drew1 | refine below_set ?_ GE224.out | refine below_set ?_ GE225.out) | exact HB.out)) hb); clear HO0_0; clear HO0_1; clear HO234; clear BK224; clear BK225; clear HK; clear HB; have HO0_0 := n0_; have HO0_1 := n1_; have HO234 := n2_; have HO237 := n3_; have BK224 := n4_; have BK225 := n5_; have HK := n6_; have HB := n7_; clear n0_ n1_ n2_ n3_ n4_ n5_ n6_ n7_; clear hb ho23))
    go_loopg [11] k (fun kq v11 w' => ∃ (x11_1 : Int), v11 = .int .i64 x11_1 ∧ Aside0 (flongref04_escape.l0 kq l1 a2 (wrap64 (a2 - 1)) y232 y235 x11_1 l0_0 l0_1 = some (r1, r2, r3)) ∧ Aside0 (kq ≤ k) ∧ Aside0 (Kd.R (Kd.int .i32) 21 w' w0.heap.size (fun k_ => ((P0_0_ k_ ∨ P0_1_ k_) ∨ w.heap.size ≤ k_) ∧ some k_ ≠ (v236 : Value).ownBlock) v233 y232) ∧ Aside0 (Kd.R (Kd.int .i32) 21 w' w0.heap.size (fun k_ => ((P0_0_ k_ ∨ P0_1_ k_) ∨ w.heap.size ≤ k_) ∧ some k_ ≠ (v233 : Value).ownBlock) v236 y235) ∧ Aside0 (Kd.R k38 38 w' w0.heap.size (fun k_ => ((P0_0_ k_ ∨ P0_1_ k_) ∨ w.heap.size ≤ k_)) (.slice Ao16 l0_0.length co16) l0_0) ∧ Aside0 (Kd.R k41 41 w' w0.heap.size (fun k_ => ((P0_0_ k_ ∨ P0_1_ k_) ∨ w.heap.size ≤ k_)) (.slice Ao17 l0_1.length co17) l0_1) ∧ Aside0 (w'.heap[gb224]? = some (.cells #[(.slice Ao16 l0_0.length co16), (.slice Ao17 l0_1.length co17)] 70 (0, 0))) ∧ Aside0 (w'.heap[gb225]? = some (.cells #[(.slice none 0 0), (.slice none 0 0)] 70 (0, 0))) ∧ Aside0 (Kept w w' (fun k_ => P0_0_ k_ ∨ P0_1_ k_)) ∧ Aside0 (Below w0.heap.size w0 w'))
    case atStart => exact ⟨(0), (by first | rfl | (simp; done) | (simp [*]; done)), H', ⟨Nat.le_refl _⟩, ⟨by (with_reducible repeat (first | apply Kd.R_alloc | apply Kd.R_drewN | apply Kd.R_drew)); exact Kd.R_mono HO234.out (fun _ hk => ⟨hk.1.1, hk.2⟩)⟩, ⟨by (with_reducible repeat (first | apply Kd.R_alloc | apply Kd.R_drewN | apply Kd.R_drew)); exact Kd.R_mono HO237.out (fun _ hk => ⟨hk.1.1, hk.2⟩)⟩, ⟨by (with_reducible repeat (first | apply Kd.R_alloc | apply Kd.R_drewN | apply Kd.R_drew)); exact HO0_0.out⟩, ⟨by (with_reducible repeat (first | apply Kd.R_alloc | apply Kd.R_drewN | apply Kd.R_drew)); exact HO0_1.out⟩, ⟨by (with_reducible repeat (first | refine blk_drewN ?_ _ | refine blk_drew ?_ | refine blk_alloc ?_ _)); exact BK224.out⟩, ⟨by (with_reducible repeat (first | refine blk_drewN ?_ _ | refine blk_drew ?_ | refine blk_alloc ?_ _)); exact BK225.out⟩, ⟨by repeat (first | (with_reducible first | exact HK.out | apply Kept.alloc | apply Kept.drewN | apply Kept.drew | refine Kept.setCell ?_ (.inr GW224.out) _ | refine Kept.setCell ?_ (.inr GW225.out) _) | exact HK.out)⟩, ⟨by repeat (first | (with_reducible first | exact HB.out | apply below_alloc | apply pw_below_drewN | apply below_drew1 | refine below_set ?_ GE224.out | refine below_set ?_ GE225.out) | exact HB.out)⟩⟩
    case round =>
      clear H'
      try clear c1
      try clear p2
      try clear c4
      try clear c4b0
      try clear p6
      try clear c10
      try clear hcz11_0
      try clear hcz11_1
      try clear hcz14_0
      try clear hcz14_1
      try clear hfz11_0
      try clear hfz11_1
      try clear hfz14_0
      try clear hfz14_1
      obtain ⟨x11_1, rfl, HA, HK1, HO_9, HO_10, HO_225000, HO_225001, BK224, BK225, HK, HB⟩ := hrel
      cases gk with
      | zero => exact absurd HA.out (by simp [flongref04_escape.l0])
      | succ k1 =>
        have H := HA.out
        clear HA
        simp only [flongref04_escape.l0] at H
        by_cases c24 : x11_1 < (y232.length : Int)
        · rw [if_pos c24] at H
          have c24b0 : decide (x11_1 < (y232.length : Int)) = true := decide_eq_true c24
          clear c24
          by_cases c25 : 0 ≤ a2
          · rw [if_pos c25] at H
            have c25b0 : decide (0 ≤ a2) = true := decide_eq_true c25
            clear c25
            by_cases c26 : a2 < (l1.length : Int)
            · rw [if_pos c26] at H
              have c26b0 : decide (a2 < (l1.length : Int)) = true := decide_eq_true c26
              clear c26
              by_cases c27 : 0 ≤ x11_1
              · rw [if_pos c27] at H
                have c27b0 : decide (0 ≤ x11_1) = true := decide_eq_true c27
                clear c27
                by_cases c28 : (rd l1 a2) = (rd y232 x11_1)
                · rw [if_pos c28] at H
                  have c28b0 : ((rd l1 a2) == (rd y232 x11_1)) = true := beq_iff_eq.mpr c28
                  have c28b1 : ((rd l1 a2) != (rd y232 x11_1)) = false := bne_eq_false_iff_eq.mpr c28
                  clear c28
                  by_cases c29 : x11_1 < (y235.length : Int)
                  · rw [if_pos c29] at H
                    have c29b0 : decide (x11_1 < (y235.length : Int)) = true := decide_eq_true c29
                    clear c29
                    replace H := Option.bind_eq_some_iff.mp H
                    obtain ⟨⟨t241, t244⟩, A300, H⟩ := H
                    replace H : (some (t241, t244, wrap64 (a2 + 1))) = some (r1, r2, r3) := H
                    have A30 := Aside0.mk A300
                    clear A300
                    simp only [Option.some.injEq, Prod.mk.injEq] at H
                    obtain ⟨rfl, rfl, rfl⟩ := H
                    obtain ⟨Ao31, co31, eo31⟩ := Kd.R_slice HO_9.out
                    subst eo31
                    try go_wp2
                    have n0_ := Aside0.mk (Kd.R_drew HO_9.out)
                    have n1_ := Aside0.mk (Kd.R_drew HO_10.out)
                    have n2_ := Aside0.mk (Kd.R_drew HO_225000.out)
                    have n3_ := Aside0.mk (Kd.R_drew HO_225001.out)
                    have n4_ := Aside0.mk (blk_drew BK224.out)
                    have n5_ := Aside0.mk (blk_drew BK225.out)
                    have n6_ := Aside0.mk (Kept.drew HK.out)
                    have n7_ := Aside0.mk (below_drew1 HB.out)
                    clear HO_9
                    clear HO_10
                    clear HO_225000
                    clear HO_225001
                    clear BK224
                    clear BK225
                    clear HK
                    clear HB
                    have HO_9 := n0_
                    have HO_10 := n1_
                    have HO_225000 := n2_
                    have HO_225001 := n3_
                    have BK224 := n4_
                    have BK225 := n5_
                    have HK := n6_
                    have HB := n7_
                    clear n0_ n1_ n2_ n3_ n4_ n5_ n6_ n7_
                    have p238 : 0 ≤ (a2 : Int) := of_decide_eq_true (by first | (with_reducible assumption) | assumption)
                    have q238 : a2 < (l1.length : Int) := of_decide_eq_true (by first | (with_reducible assumption) | assumption)
                    obtain ⟨ad238, e238, hx238_0⟩ := Kd.at_int (Kd.C_kept_now HR1.out HK.out) a2 p238 q238
                    have hw238_0 := hx238_0
                    cases e238
                    replace p238 := eq_true p238
                    replace q238 := eq_true q238
                    have p239 : 0 ≤ (x11_1 : Int) := of_decide_eq_true (by first | (with_reducible assumption) | assumption)
                    have q239 : x11_1 < (y232.length : Int) := of_decide_eq_true (by first | (with_reducible assumption) | assumption)
                    obtain ⟨ad239, e239, hx239_0⟩ := Kd.at_int (Kd.R_reads' HO_9.out).2.2 x11_1 p239 q239
                    cases e239
                    replace p239 := eq_true p239
                    replace q239 := eq_true q239
                    refine start_ (n := 9) (S := fun w' => w'.cell? (ad238.add (a2).toNat) = some (.int .i32 (rd l1 a2)) ∧ w'.cell? (ad239.add (x11_1).toNat) = some (.int .i32 (rd y232 x11_1))) (ds := []) #[false, false, false, false, false, false, false, false, false] (by kernel_rfl) rfl rfl ⟨(Kd.foot_int (HR1.out _ (by repeat (first | exact HK.out | apply Kept.alloc | apply Kept.drewN | apply Kept.drew))) a2 (of_eq_true p238) (of_eq_true q238)), hx239_0⟩ (fun hHeld => ?_); refine with_tabW flongref04_escape.tab9 flongref04_escape.bits9 (fun HT_ HW_ => ?_)
                    generalize wr.drew = w32 at HO_9 HO_10 HO_225000 HO_225001 BK224 BK225 HK HB hx238_0 hx239_0 hHeld ⊢
                    refine pure_ (i := 0) (N := some 34) (v := ?_) (a' := ?_) #[true, false, false, false, false, false, false, false, false] rfl rfl (any_of HT_.out (by kernel_rfl)) (fun _ _ _ h => h) (Or.inl ⟨by rfl, ?_⟩) ?_ ?_
                    rotate_left
                    · intro w'
                      go_simp
                      with_reducible rfl
                    rotate_left
                    · simp only [Act.put, List.setIfInBounds_toArray, List.set_cons_zero, List.set_cons_succ, i64_w, i32_w]
                      rfl
                    refine pure_ (i := 1) (N := some 35) (v := ?_) (a' := ?_) #[true, true, false, false, false, false, false, false, false] rfl rfl (any_of HT_.out (by kernel_rfl)) (fun _ _ _ h => h) (Or.inl ⟨by rfl, ?_⟩) ?_ ?_
                    rotate_left
                    · intro w'
                      go_simp
                      with_reducible rfl
                    rotate_left
                    · simp only [Act.put, List.setIfInBounds_toArray, List.set_cons_zero, List.set_cons_succ, i64_w, i32_w]
                      rfl
                    refine pure_ (i := 2) (N := some 36) (v := ?_) (a' := ?_) #[true, true, true, false, false, false, false, false, false] rfl rfl (any_of HT_.out (by kernel_rfl)) (fun _ _ _ h => h) (Or.inl ⟨by rfl, ?_⟩) ?_ ?_
                    rotate_left
                    · intro w'
                      go_simp
                      with_reducible rfl
                    rotate_left
                    · simp only [Act.put, List.setIfInBounds_toArray, List.set_cons_zero, List.set_cons_succ, i64_w, i32_w]
                      rfl
                    refine pure_ (i := 4) (N := some 38) (v := ?_) (a' := ?_) #[true, true, true, false, true, false, false, false, false] rfl rfl (any_of HT_.out (by kernel_rfl)) (fun _ _ _ h => h) (Or.inl ⟨by rfl, ?_⟩) ?_ ?_
                    rotate_left
                    · intro w'
                      go_simp
                      with_reducible rfl
                    rotate_left
                    · simp only [Act.put, List.setIfInBounds_toArray, List.set_cons_zero, List.set_cons_succ, i64_w, i32_w]
                      rfl
                    refine pure_ (i := 5) (N := some 39) (v := ?_) (a' := ?_) #[true, true, true, false, true, true, false, false, false] rfl rfl (any_of HT_.out (by kernel_rfl)) (fun _ _ _ h => h) (Or.inl ⟨by rfl, ?_⟩) ?_ ?_
                    rotate_left
                    · intro w'
                      go_simp
                      with_reducible rfl
                    rotate_left
                    · simp only [Act.put, List.setIfInBounds_toArray, List.set_cons_zero, List.set_cons_succ, i64_w, i32_w]
                      rfl
                    refine pure_ (i := 6) (N := some 40) (v := ?_) (a' := ?_) #[true, true, true, false, true, true, true, false, false] rfl rfl (any_of HT_.out (by kernel_rfl)) (fun _ _ _ h => h) (Or.inl ⟨by rfl, ?_⟩) ?_ ?_
                    rotate_left
                    · intro w'
                      go_simp
                      with_reducible rfl
                    rotate_left
                    · simp only [Act.put, List.setIfInBounds_toArray, List.set_cons_zero, List.set_cons_succ, i64_w, i32_w]
                      rfl
                    refine take_ (i := 3) (N := some 37) (v := ?_) (a' := ?_) #[true, true, true, true, true, true, true, false, false] rfl rfl (take_ofW HT_.out HW_.out (by kernel_rfl)) (fun _ _ _ h => h) (Or.inl ⟨by rfl, ?_⟩) hHeld ?_ ?_
                    rotate_left
                    · rintro w' ⟨s0, s1⟩
                      go_simp
                      with_reducible rfl
                    rotate_left
                    · simp only [Act.put, List.setIfInBounds_toArray, List.set_cons_zero, List.set_cons_succ, i64_w, i32_w]
                      rfl
                    refine take_ (i := 7) (N := some 41) (v := ?_) (a' := ?_) #[true, true, true, true, true, true, true, true, false] rfl rfl (take_ofW HT_.out HW_.out (by kernel_rfl)) (fun _ _ _ h => h) (Or.inl ⟨by rfl, ?_⟩) hHeld ?_ ?_
                    rotate_left
                    · rintro w' ⟨s0, s1⟩
                      go_simp
                      with_reducible rfl
                    rotate_left
                    · simp only [Act.put, List.setIfInBounds_toArray, List.set_cons_zero, List.set_cons_succ, i64_w, i32_w]
                      rfl
                    refine pure_ (i := 8) (N := some 42) (v := ?_) (a' := ?_) #[true, true, true, true, true, true, true, true, true] rfl rfl (any_of HT_.out (by kernel_rfl)) (fun _ _ _ h => h) (Or.inl ⟨by rfl, ?_⟩) ?_ ?_
                    rotate_left
                    · intro w'
                      go_simp
                      with_reducible rfl
                    rotate_left
                    · simp only [Act.put, List.setIfInBounds_toArray, List.set_cons_zero, List.set_cons_succ, i64_w, i32_w]
                      rfl
                    refine done_ (done_of HT_.out (by kernel_rfl)) ?_
                    try go_wp2
                    have n0_ := Aside0.mk (Kd.R_drew HO_9.out)
                    have n1_ := Aside0.mk (Kd.R_drew HO_10.out)
                    have n2_ := Aside0.mk (Kd.R_drew HO_225000.out)
                    have n3_ := Aside0.mk (Kd.R_drew HO_225001.out)
                    have n4_ := Aside0.mk (blk_drew BK224.out)
                    have n5_ := Aside0.mk (blk_drew BK225.out)
                    have n6_ := Aside0.mk (Kept.drew HK.out)
                    have n7_ := Aside0.mk (below_drew1 HB.out)
                    clear HO_9
                    clear HO_10
                    clear HO_225000
                    clear HO_225001
                    clear BK224
                    clear BK225
                    clear HK
                    clear HB
                    have HO_9 := n0_
                    have HO_10 := n1_
                    have HO_225000 := n2_
                    have HO_225001 := n3_
                    have BK224 := n4_
                    have BK225 := n5_
                    have HK := n6_
                    have HB := n7_
                    clear n0_ n1_ n2_ n3_ n4_ n5_ n6_ n7_
                    obtain ⟨Ao34, co34, eo34⟩ := Kd.R_slice HO_10.out
                    (first | subst eo34 | (injection eo34 with f1_ f2_ f3_; have f4_ := f1_.symm; have f5_ := f3_.symm; clear f1_ f2_ f3_; subst f4_; subst f5_))
                    have p240 : 0 ≤ (x11_1 : Int) := of_decide_eq_true (by first | (with_reducible assumption) | assumption)
                    have q240 : x11_1 < (y235.length : Int) := of_decide_eq_true (by first | (with_reducible assumption) | assumption)
                    obtain ⟨ad240, e240, hx240_0⟩ := Kd.at_int (Kd.R_reads' HO_10.out).2.2 x11_1 p240 q240
                    cases e240
                    replace p240 := eq_true p240
                    replace q240 := eq_true q240
                    refine start_ (n := 10) (S := fun w' => w'.cell? ⟨gb224, 0, none⟩ = some (.slice Ao16 l0_0.length co16) ∧ w'.cell? ⟨gb224, 1, none⟩ = some (.slice Ao17 l0_1.length co17) ∧ w'.cell? (ad240.add (x11_1).toNat) = some (.int .i32 (rd y235 x11_1))) (ds := []) #[false, false, false, false, false, false, false, false, false, false] (by kernel_rfl) rfl rfl ⟨(blk_cell BK224.out 0).trans rfl, (blk_cell BK224.out 1).trans rfl, hx240_0⟩ (fun hHeld => ?_); refine with_tabW flongref04_escape.tab10 flongref04_escape.bits10 (fun HT_ HW_ => ?_)
                    generalize w32.drew = w33 at HO_9 HO_10 HO_225000 HO_225001 BK224 BK225 HK HB hx240_0 hHeld ⊢
                    refine pure_ (i := 1) (N := some 44) (v := ?_) (a' := ?_) #[false, true, false, false, false, false, false, false, false, false] rfl rfl (any_of HT_.out (by kernel_rfl)) (fun _ _ _ h => h) (Or.inl ⟨by rfl, ?_⟩) ?_ ?_
                    rotate_left
                    · intro w'
                      go_simp
                      with_reducible rfl
                    rotate_left
                    · simp only [Act.put, List.setIfInBounds_toArray, List.set_cons_zero, List.set_cons_succ, i64_w, i32_w]
                      rfl
                    refine pure_ (i := 2) (N := some 45) (v := ?_) (a' := ?_) #[false, true, true, false, false, false, false, false, false, false] rfl rfl (any_of HT_.out (by kernel_rfl)) (fun _ _ _ h => h) (Or.inl ⟨by rfl, ?_⟩) ?_ ?_
                    rotate_left
                    · intro w'
                      go_simp
                      with_reducible rfl
                    rotate_left
                    · simp only [Act.put, List.setIfInBounds_toArray, List.set_cons_zero, List.set_cons_succ, i64_w, i32_w]
                      rfl
                    refine pure_ (i := 3) (N := some 46) (v := ?_) (a' := ?_) #[false, true, true, true, false, false, false, false, false, false] rfl rfl (any_of HT_.out (by kernel_rfl)) (fun _ _ _ h => h) (Or.inl ⟨by rfl, ?_⟩) ?_ ?_
                    rotate_left
                    · intro w'
                      go_simp
                      with_reducible rfl
                    rotate_left
                    · simp only [Act.put, List.setIfInBounds_toArray, List.set_cons_zero, List.set_cons_succ, i64_w, i32_w]
                      rfl
                    refine pure_ (i := 6) (N := some 49) (v := ?_) (a' := ?_) #[false, true, true, true, false, false, true, false, false, false] rfl rfl (any_of HT_.out (by kernel_rfl)) (fun _ _ _ h => h) (Or.inl ⟨by rfl, ?_⟩) ?_ ?_
                    rotate_left
                    · intro w'
                      go_simp
                      with_reducible rfl
                    rotate_left
                    · simp only [Act.put, List.setIfInBounds_toArray, List.set_cons_zero, List.set_cons_succ, i64_w, i32_w]
                      rfl
                    refine pure_ (i := 7) (N := some 50) (v := ?_) (a' := ?_) #[false, true, true, true, false, false, true, true, false, false] rfl rfl (any_of HT_.out (by kernel_rfl)) (fun _ _ _ h => h) (Or.inl ⟨by rfl, ?_⟩) ?_ ?_
                    rotate_left
                    · intro w'
                      go_simp
                      with_reducible rfl
                    rotate_left
                    · simp only [Act.put, List.setIfInBounds_toArray, List.set_cons_zero, List.set_cons_succ, i64_w, i32_w]
                      rfl
                    refine take_ (i := 0) (N := some 43) (v := ?_) (a' := ?_) #[true, true, true, true, false, false, true, true, false, false] rfl rfl (take_ofW HT_.out HW_.out (by kernel_rfl)) (fun _ _ _ h => h) (Or.inl ⟨by rfl, ?_⟩) hHeld ?_ ?_
                    rotate_left
                    · rintro w' ⟨s0, s1, s2⟩
                      go_simp
                      with_reducible rfl
                    rotate_left
                    · simp only [Act.put, List.setIfInBounds_toArray, List.set_cons_zero, List.set_cons_succ, i64_w, i32_w]
                      rfl
                    refine take_ (i := 4) (N := some 47) (v := ?_) (a' := ?_) #[true, true, true, true, true, false, true, true, false, false] rfl rfl (take_ofW HT_.out HW_.out (by kernel_rfl)) (fun _ _ _ h => h) (Or.inl ⟨by rfl, ?_⟩) hHeld ?_ ?_
                    rotate_left
                    · rintro w' ⟨s0, s1, s2⟩
                      go_simp
                      with_reducible rfl
                    rotate_left
                    · simp only [Act.put, List.setIfInBounds_toArray, List.set_cons_zero, List.set_cons_succ, i64_w, i32_w]
                      rfl
                    refine one_ (i := 5) (N := some 48) #[true, true, true, true, true, true, true, true, false, false] rfl rfl (one_of HT_.out (by kernel_rfl)) (by decide) (fun K hK => ?_)
                    refine goes_ Tryd.func45 (by kernel_rfl) rfl #[.agg #[.slice Ao16 l0_0.length co16, .slice Ao17 l0_1.length co17], .int .i64 1, .int .i32 (rd y235 x11_1)] (by rfl) rfl rfl (by (try simp only [List.map_toArray, List.map_cons, List.map_nil]); first | done | rfl | (simp only [List.length_drop, List.length_take]; rfl)) ?_
                    with_reducible refine (flongref04_say.calls (fun k_ => some k_ = (.slice Ao16 l0_0.length co16 : Value).ownBlock) (.slice Ao16 l0_0.length co16) l0_0 (fun k_ => some k_ = (.slice Ao17 l0_1.length co17 : Value).ownBlock) (.slice Ao17 l0_1.length co17) l0_1 1 (rd y235 x11_1) t241 t244 w0 _ ?side1 ?side2 ?side3 A30.out).mono ?_
                    (case side1 => repeat (first | (with_reducible first | exact HB.out | apply below_alloc | apply pw_below_drewN | apply below_drew1 | refine below_set ?_ GE224.out | refine below_set ?_ GE225.out) | exact HB.out))
                    (case side2 => exact Kd.R_tight rfl HO_225000.out)
                    (case side3 => exact Kd.R_tight rfl HO_225001.out)
                    rintro e w35 ⟨v242, v245, rfl, ho0, ho1, hb, hkp⟩
                    have HS2_ := cell_kept (hHeld.2.2) hkp (by first | (rw [add_block]; exact (fun hs_ => Or.elim hs_ (fun e_ => ((((Kd.R_apart' (Kd.R_apart' HO_10.out (Kd.R_typed HO_225000.out) (by decide)) (Kd.R_typed HO_225001.out) (by decide))).1 _ rfl).1.2) e_) (fun e_ => ((((Kd.R_apart' (Kd.R_apart' HO_10.out (Kd.R_typed HO_225000.out) (by decide)) (Kd.R_typed HO_225001.out) (by decide))).1 _ rfl).2) e_))) | (show ¬ _; simp only [add_block]; exact (fun hs_ => Or.elim hs_ (fun e_ => ((((Kd.R_apart' (Kd.R_apart' HO_10.out (Kd.R_typed HO_225000.out) (by decide)) (Kd.R_typed HO_225001.out) (by decide))).1 _ rfl).1.2) e_) (fun e_ => ((((Kd.R_apart' (Kd.R_apart' HO_10.out (Kd.R_typed HO_225000.out) (by decide)) (Kd.R_typed HO_225001.out) (by decide))).1 _ rfl).2) e_))) | exact (fun hs_ => Or.elim hs_ (fun e_ => ((((Kd.R_apart' (Kd.R_apart' HO_10.out (Kd.R_typed HO_225000.out) (by decide)) (Kd.R_typed HO_225001.out) (by decide))).1 _ rfl).1.2) e_) (fun e_ => ((((Kd.R_apart' (Kd.R_apart' HO_10.out (Kd.R_typed HO_225000.out) (by decide)) (Kd.R_typed HO_225001.out) (by decide))).1 _ rfl).2) e_)))
                    refine ⟨_, rfl, ?_⟩
                    have n0_ := Aside0.mk (Kd.R_mono (ok' := fun k_ => ((P0_0_ k_ ∨ P0_1_ k_) ∨ w.heap.size ≤ k_) ∧ some k_ ≠ (.slice (some ad240) y235.length co34 : Value).ownBlock) (Kd.R_keptB ((Kd.R_apart' (Kd.R_apart' HO_9.out (Kd.R_typed HO_225000.out) (by decide)) (Kd.R_typed HO_225001.out) (by decide))) hkp (fun k_ hk_ hs_ => Or.elim hs_ (fun e_ => (hk_.1.2) e_) (fun e_ => (hk_.2) e_))) (fun k_ hk_ => ⟨hk_.1.1.1.1, hk_.1.1.1.2⟩))
                    have n1_ := Aside0.mk (Kd.R_mono (ok' := fun k_ => ((P0_0_ k_ ∨ P0_1_ k_) ∨ w.heap.size ≤ k_) ∧ some k_ ≠ (.slice (some ad239) y232.length co31 : Value).ownBlock) (Kd.R_keptB ((Kd.R_apart' (Kd.R_apart' HO_10.out (Kd.R_typed HO_225000.out) (by decide)) (Kd.R_typed HO_225001.out) (by decide))) hkp (fun k_ hk_ hs_ => Or.elim hs_ (fun e_ => (hk_.1.2) e_) (fun e_ => (hk_.2) e_))) (fun k_ hk_ => ⟨hk_.1.1.1.1, hk_.1.1.1.2⟩))
                    have n2_ := Aside0.mk (blk_kept (by (with_reducible repeat (first | refine blk_drewN ?_ _ | refine blk_drew ?_ | refine blk_alloc ?_ _)); exact BK224.out) hkp (fun hs_ => Or.elim hs_ (fun e_ => (fun e_ => (Kd.R_ne HO_225000.out BK224.out (by decide)) e_) e_) (fun e_ => (fun e_ => (Kd.R_ne HO_225001.out BK224.out (by decide)) e_) e_)))
                    have n3_ := Aside0.mk (blk_kept (by (with_reducible repeat (first | refine blk_drewN ?_ _ | refine blk_drew ?_ | refine blk_alloc ?_ _)); exact BK225.out) hkp (fun hs_ => Or.elim hs_ (fun e_ => (fun e_ => (Kd.R_ne HO_225000.out BK225.out (by decide)) e_) e_) (fun e_ => (fun e_ => (Kd.R_ne HO_225001.out BK225.out (by decide)) e_) e_)))
                    have n4_ := Aside0.mk (Kd.R_mono (ok' := fun k_ => ((P0_0_ k_ ∨ P0_1_ k_) ∨ w.heap.size ≤ k_)) ho0 (fun k_ hk_ => Or.elim hk_ (fun hs_ => Or.elim hs_ (fun hs_ => (HO_225000.out.1 k_ (hs_).symm)) (fun hs_ => (HO_225001.out.1 k_ (hs_).symm))) (fun hn_ => (.inr (Nat.le_trans (by first | exact HK.out.1 | exact (show Kept w _ (fun k_ => P0_0_ k_ ∨ P0_1_ k_) from by repeat (first | (with_reducible first | exact HK.out | apply Kept.alloc | apply Kept.drewN | apply Kept.drew | refine Kept.setCell ?_ (.inr GW224.out) _ | refine Kept.setCell ?_ (.inr GW225.out) _) | exact HK.out)).1) hn_)))))
                    have n5_ := Aside0.mk (Kd.R_mono (ok' := fun k_ => ((P0_0_ k_ ∨ P0_1_ k_) ∨ w.heap.size ≤ k_)) ho1 (fun k_ hk_ => Or.elim hk_ (fun hs_ => Or.elim hs_ (fun hs_ => (HO_225000.out.1 k_ (hs_).symm)) (fun hs_ => (HO_225001.out.1 k_ (hs_).symm))) (fun hn_ => (.inr (Nat.le_trans (by first | exact HK.out.1 | exact (show Kept w _ (fun k_ => P0_0_ k_ ∨ P0_1_ k_) from by repeat (first | (with_reducible first | exact HK.out | apply Kept.alloc | apply Kept.drewN | apply Kept.drew | refine Kept.setCell ?_ (.inr GW224.out) _ | refine Kept.setCell ?_ (.inr GW225.out) _) | exact HK.out)).1) hn_)))))
                    have n6_ := Aside0.mk (Kept.then_ (S := (fun k_ => P0_0_ k_ ∨ P0_1_ k_)) (by repeat (first | (with_reducible first | exact HK.out | apply Kept.alloc | apply Kept.drewN | apply Kept.drew | refine Kept.setCell ?_ (.inr GW224.out) _ | refine Kept.setCell ?_ (.inr GW225.out) _) | exact HK.out)) hkp (fun k_ hs_ => Or.elim hs_ (fun e_ => (fun e_ => (HO_225000.out.1 k_ e_.symm)) e_) (fun e_ => (fun e_ => (HO_225001.out.1 k_ e_.symm)) e_)))
                    have n7_ := Aside0.mk (hb)
                    clear HO_9
                    clear HO_10
                    clear BK224
                    clear BK225
                    clear HK
                    clear HB
                    clear HO_225000
                    clear HO_225001
                    have HO_9 := n0_
                    have HO_10 := n1_
                    have BK224 := n2_
                    have BK225 := n3_
                    have HO243 := n4_
                    have HO246 := n5_
                    have HK := n6_
                    have HB := n7_
                    clear n0_ n1_ n2_ n3_ n4_ n5_ n6_ n7_
                    (try clear hb)
                    (try clear hkp)
                    (try clear ho0)
                    (try clear ho1)
                    obtain ⟨Ao36, co36, eo36⟩ := Kd.R_slice HO243.out
                    (first | subst eo36 | (injection eo36 with f1_ f2_ f3_; have f4_ := f1_.symm; have f5_ := f3_.symm; clear f1_ f2_ f3_; subst f4_; subst f5_))
                    obtain ⟨Ao38, co38, eo38⟩ := Kd.R_slice HO246.out
                    (first | subst eo38 | (injection eo38 with f1_ f2_ f3_; have f4_ := f1_.symm; have f5_ := f3_.symm; clear f1_ f2_ f3_; subst f4_; subst f5_))
                    refine hK.out _ _ ⟨(blk_cell BK224.out 0).trans rfl, (blk_cell BK224.out 1).trans rfl, HS2_⟩ (fun hHeld => ?_)
                    clear hK K
                    refine norm_ (a' := ?_) ?_ ?_
                    rotate_left
                    · show Act.put _ (some 48) _ = _
                      simp only [Act.put, List.setIfInBounds_toArray, List.set_cons_zero, List.set_cons_succ, i64_w, i32_w]
                      rfl
                    refine one_ (i := 8) (N := none) #[true, true, true, true, true, true, true, true, true, false] rfl rfl (one_of HT_.out (by kernel_rfl)) (by decide) (fun K hK => ?_)
                    have hs37 : w35.cell? ⟨gb225, 0, none⟩ = some (.slice none 0 0) := (blk_cell BK225.out 0).trans rfl
                    have hfs37 := blk_frozen BK225.out 0
                    have hns37_0 := NB224_225.out
                    have hms37_0 := NB225_224.out
                    have hs39 : w35.cell? ⟨gb225, 1, none⟩ = some (.slice none 0 0) := (blk_cell BK225.out 1).trans rfl
                    have hfs39 := blk_frozen BK225.out 1
                    have hns39_0 := NB224_225.out
                    have hms39_0 := NB225_224.out
                    refine skip_ (w1 := ?_) (by rfl) rfl ?_ ?_
                    rotate_left
                    · go_simp
                      rfl
                    refine hK.out _ _ ⟨((cell_far (p := ⟨gb225, _, none⟩) NB224_225.out _).trans (((cell_far (p := ⟨gb225, _, none⟩) NB224_225.out _).trans (hHeld.1)))), ((cell_far (p := ⟨gb225, _, none⟩) NB224_225.out _).trans (((cell_far (p := ⟨gb225, _, none⟩) NB224_225.out _).trans (hHeld.2.1)))), ((cell_far (p := ⟨gb225, _, none⟩) (by first | exact Kd.own_blk (Kd.R_ne HO_10.out BK225.out (by decide)) | (rw [add_block]; exact Kd.own_blk (Kd.R_ne HO_10.out BK225.out (by decide))) | (show (Addr.add _ _).block ≠ _; rw [add_block]; exact Kd.own_blk (Kd.R_ne HO_10.out BK225.out (by decide))) | (dsimp only; exact Kd.own_blk (Kd.R_ne HO_10.out BK225.out (by decide)))) _).trans (((cell_far (p := ⟨gb225, _, none⟩) (by first | exact Kd.own_blk (Kd.R_ne HO_10.out BK225.out (by decide)) | (rw [add_block]; exact Kd.own_blk (Kd.R_ne HO_10.out BK225.out (by decide))) | (show (Addr.add _ _).block ≠ _; rw [add_block]; exact Kd.own_blk (Kd.R_ne HO_10.out BK225.out (by decide))) | (dsimp only; exact Kd.own_blk (Kd.R_ne HO_10.out BK225.out (by decide)))) _).trans (hHeld.2.2))))⟩ (fun hHeld => ?_)
                    clear hK K
                    refine pure_ (i := 9) (N := some 7) (v := ?_) (a' := ?_) #[true, true, true, true, true, true, true, true, true, true] rfl rfl (any_of HT_.out (by kernel_rfl)) (fun _ _ _ h => h) (Or.inl ⟨by rfl, ?_⟩) ?_ ?_
                    rotate_left
                    · intro w'
                      go_simp
                      with_reducible rfl
                    rotate_left
                    · simp only [Act.put, List.setIfInBounds_toArray, List.set_cons_zero, List.set_cons_succ, i64_w, i32_w]
                      rfl
                    refine done_ (done_of HT_.out (by kernel_rfl)) ?_
                    try go_wp2
                    refine bodyPost_ret (results_ct rfl _ _ gb225 70 #[.slice Ao36 t241.length co36, .slice Ao38 t244.length co38] (0, 0) _ rfl (by (with_reducible repeat (first | refine blk_drewN ?_ _ | refine blk_drew ?_ | refine blk_alloc ?_ _)); refine blk_put (cs := #[.slice Ao36 t241.length co36, .slice none 0 0]) ?_ 1 _ rfl; (with_reducible repeat (first | refine blk_drewN ?_ _ | refine blk_drew ?_ | refine blk_alloc ?_ _)); refine blk_put (cs := #[.slice none 0 0, .slice none 0 0]) ?_ 0 _ rfl; (with_reducible repeat (first | refine blk_drewN ?_ _ | refine blk_drew ?_ | refine blk_alloc ?_ _)); exact BK225.out) Tryd.underlying70 rfl (by kernel_rfl)) rfl ?_
                    exact ⟨_, _, by first | rfl | (simp [errW_none, errW_some] <;> rfl) | (simp [*, errW_none, errW_some] <;> rfl), by (with_reducible repeat (first | apply Kd.R_alloc | apply Kd.R_drewN | apply Kd.R_drew)); exact Kd.R_mono (Kd.R_far (p := ⟨gb225, 1, none⟩) (Kd.R_far (p := ⟨gb225, 0, none⟩) (Kd.R_types HO243.out BK225.out (by decide)) (fun _ hk => hk.2) (.slice Ao36 t241.length co36)) (fun _ hk => hk.2) (.slice Ao38 t244.length co38)) (fun _ hk => hk.1), by (with_reducible repeat (first | apply Kd.R_alloc | apply Kd.R_drewN | apply Kd.R_drew)); exact Kd.R_mono (Kd.R_far (p := ⟨gb225, 1, none⟩) (Kd.R_far (p := ⟨gb225, 0, none⟩) (Kd.R_types HO246.out BK225.out (by decide)) (fun _ hk => hk.2) (.slice Ao36 t241.length co36)) (fun _ hk => hk.2) (.slice Ao38 t244.length co38)) (fun _ hk => hk.1), by repeat (first | (with_reducible first | exact HB.out | apply below_alloc | apply pw_below_drewN | apply below_drew1 | refine below_set ?_ GE224.out | refine below_set ?_ GE225.out) | exact HB.out), by repeat (first | (with_reducible first | exact HK.out | apply Kept.alloc | apply Kept.drewN | apply Kept.drew | refine Kept.setCell ?_ (.inr GW224.out) _ | refine Kept.setCell ?_ (.inr GW225.out) _) | exact HK.out)⟩
                  · rw [if_neg c29] at H
                    exact absurd H (by simp)
                · rw [if_neg c28] at H
                  have c28b0 : ((rd l1 a2) == (rd y232 x11_1)) = false := beq_eq_false_iff_ne.mpr c28
                  have c28b1 : ((rd l1 a2) != (rd y232 x11_1)) = true := bne_iff_ne.mpr c28
                  have H' := Aside0.mk H
                  clear H
                  obtain ⟨Ao40, co40, eo40⟩ := Kd.R_slice HO_9.out
                  subst eo40
                  try go_wp2
                  have n0_ := Aside0.mk (Kd.R_drew HO_9.out)
                  have n1_ := Aside0.mk (Kd.R_drew HO_10.out)
                  have n2_ := Aside0.mk (Kd.R_drew HO_225000.out)
                  have n3_ := Aside0.mk (Kd.R_drew HO_225001.out)
                  have n4_ := Aside0.mk (blk_drew BK224.out)
                  have n5_ := Aside0.mk (blk_drew BK225.out)
                  have n6_ := Aside0.mk (Kept.drew HK.out)
                  have n7_ := Aside0.mk (below_drew1 HB.out)
                  clear HO_9
                  clear HO_10
                  clear HO_225000
                  clear HO_225001
                  clear BK224
                  clear BK225
                  clear HK
                  clear HB
                  have HO_9 := n0_
                  have HO_10 := n1_
                  have HO_225000 := n2_
                  have HO_225001 := n3_
                  have BK224 := n4_
                  have BK225 := n5_
                  have HK := n6_
                  have HB := n7_
                  clear n0_ n1_ n2_ n3_ n4_ n5_ n6_ n7_
                  have p238 : 0 ≤ (a2 : Int) := of_decide_eq_true (by first | (with_reducible assumption) | assumption)
                  have q238 : a2 < (l1.length : Int) := of_decide_eq_true (by first | (with_reducible assumption) | assumption)
                  obtain ⟨ad238, e238, hx238_0⟩ := Kd.at_int (Kd.C_kept_now HR1.out HK.out) a2 p238 q238
                  have hw238_0 := hx238_0
                  cases e238
                  replace p238 := eq_true p238
                  replace q238 := eq_true q238
                  have p239 : 0 ≤ (x11_1 : Int) := of_decide_eq_true (by first | (with_reducible assumption) | assumption)
                  have q239 : x11_1 < (y232.length : Int) := of_decide_eq_true (by first | (with_reducible assumption) | assumption)
                  obtain ⟨ad239, e239, hx239_0⟩ := Kd.at_int (Kd.R_reads' HO_9.out).2.2 x11_1 p239 q239
                  cases e239
                  replace p239 := eq_true p239
                  replace q239 := eq_true q239
                  refine start_ (n := 9) (S := fun w' => w'.cell? (ad238.add (a2).toNat) = some (.int .i32 (rd l1 a2)) ∧ w'.cell? (ad239.add (x11_1).toNat) = some (.int .i32 (rd y232 x11_1))) (ds := []) #[false, false, false, false, false, false, false, false, false] (by kernel_rfl) rfl rfl ⟨(Kd.foot_int (HR1.out _ (by repeat (first | exact HK.out | apply Kept.alloc | apply Kept.drewN | apply Kept.drew))) a2 (of_eq_true p238) (of_eq_true q238)), hx239_0⟩ (fun hHeld => ?_); refine with_tabW flongref04_escape.tab9 flongref04_escape.bits9 (fun HT_ HW_ => ?_)
                  generalize wr.drew = w41 at HO_9 HO_10 HO_225000 HO_225001 BK224 BK225 HK HB hx238_0 hx239_0 hHeld ⊢
                  refine pure_ (i := 0) (N := some 34) (v := ?_) (a' := ?_) #[true, false, false, false, false, false, false, false, false] rfl rfl (any_of HT_.out (by kernel_rfl)) (fun _ _ _ h => h) (Or.inl ⟨by rfl, ?_⟩) ?_ ?_
                  rotate_left
                  · intro w'
                    go_simp
                    with_reducible rfl
                  rotate_left
                  · simp only [Act.put, List.setIfInBounds_toArray, List.set_cons_zero, List.set_cons_succ, i64_w, i32_w]
                    rfl
                  refine pure_ (i := 1) (N := some 35) (v := ?_) (a' := ?_) #[true, true, false, false, false, false, false, false, false] rfl rfl (any_of HT_.out (by kernel_rfl)) (fun _ _ _ h => h) (Or.inl ⟨by rfl, ?_⟩) ?_ ?_
                  rotate_left
                  · intro w'
                    go_simp
                    with_reducible rfl
                  rotate_left
                  · simp only [Act.put, List.setIfInBounds_toArray, List.set_cons_zero, List.set_cons_succ, i64_w, i32_w]
                    rfl
                  refine pure_ (i := 2) (N := some 36) (v := ?_) (a' := ?_) #[true, true, true, false, false, false, false, false, false] rfl rfl (any_of HT_.out (by kernel_rfl)) (fun _ _ _ h => h) (Or.inl ⟨by rfl, ?_⟩) ?_ ?_
                  rotate_left
                  · intro w'
                    go_simp
                    with_reducible rfl
                  rotate_left
                  · simp only [Act.put, List.setIfInBounds_toArray, List.set_cons_zero, List.set_cons_succ, i64_w, i32_w]
                    rfl
                  refine pure_ (i := 4) (N := some 38) (v := ?_) (a' := ?_) #[true, true, true, false, true, false, false, false, false] rfl rfl (any_of HT_.out (by kernel_rfl)) (fun _ _ _ h => h) (Or.inl ⟨by rfl, ?_⟩) ?_ ?_
                  rotate_left
                  · intro w'
                    go_simp
                    with_reducible rfl
                  rotate_left
                  · simp only [Act.put, List.setIfInBounds_toArray, List.set_cons_zero, List.set_cons_succ, i64_w, i32_w]
                    rfl
                  refine pure_ (i := 5) (N := some 39) (v := ?_) (a' := ?_) #[true, true, true, false, true, true, false, false, false] rfl rfl (any_of HT_.out (by kernel_rfl)) (fun _ _ _ h => h) (Or.inl ⟨by rfl, ?_⟩) ?_ ?_
                  rotate_left
                  · intro w'
                    go_simp
                    with_reducible rfl
                  rotate_left
                  · simp only [Act.put, List.setIfInBounds_toArray, List.set_cons_zero, List.set_cons_succ, i64_w, i32_w]
                    rfl
                  refine pure_ (i := 6) (N := some 40) (v := ?_) (a' := ?_) #[true, true, true, false, true, true, true, false, false] rfl rfl (any_of HT_.out (by kernel_rfl)) (fun _ _ _ h => h) (Or.inl ⟨by rfl, ?_⟩) ?_ ?_
                  rotate_left
                  · intro w'
                    go_simp
                    with_reducible rfl
                  rotate_left
                  · simp only [Act.put, List.setIfInBounds_toArray, List.set_cons_zero, List.set_cons_succ, i64_w, i32_w]
                    rfl
                  refine take_ (i := 3) (N := some 37) (v := ?_) (a' := ?_) #[true, true, true, true, true, true, true, false, false] rfl rfl (take_ofW HT_.out HW_.out (by kernel_rfl)) (fun _ _ _ h => h) (Or.inl ⟨by rfl, ?_⟩) hHeld ?_ ?_
                  rotate_left
                  · rintro w' ⟨s0, s1⟩
                    go_simp
                    with_reducible rfl
                  rotate_left
                  · simp only [Act.put, List.setIfInBounds_toArray, List.set_cons_zero, List.set_cons_succ, i64_w, i32_w]
                    rfl
                  refine take_ (i := 7) (N := some 41) (v := ?_) (a' := ?_) #[true, true, true, true, true, true, true, true, false] rfl rfl (take_ofW HT_.out HW_.out (by kernel_rfl)) (fun _ _ _ h => h) (Or.inl ⟨by rfl, ?_⟩) hHeld ?_ ?_
                  rotate_left
                  · rintro w' ⟨s0, s1⟩
                    go_simp
                    with_reducible rfl
                  rotate_left
                  · simp only [Act.put, List.setIfInBounds_toArray, List.set_cons_zero, List.set_cons_succ, i64_w, i32_w]
                    rfl
                  refine pure_ (i := 8) (N := some 42) (v := ?_) (a' := ?_) #[true, true, true, true, true, true, true, true, true] rfl rfl (any_of HT_.out (by kernel_rfl)) (fun _ _ _ h => h) (Or.inl ⟨by rfl, ?_⟩) ?_ ?_
                  rotate_left
                  · intro w'
                    go_simp
                    with_reducible rfl
                  rotate_left
                  · simp only [Act.put, List.setIfInBounds_toArray, List.set_cons_zero, List.set_cons_succ, i64_w, i32_w]
                    rfl
                  refine done_ (done_of HT_.out (by kernel_rfl)) ?_
                  try go_wp2
                  go_roundg k1
                  case measure => have := HK1.out; omega
                  case rel => exact ⟨(wrap64 (x11_1 + 1)), (by first | rfl | (simp; done) | (simp [*]; done)), H', ⟨by have := HK1.out; omega⟩, ⟨by (with_reducible repeat (first | apply Kd.R_alloc | apply Kd.R_drewN | apply Kd.R_drew)); exact HO_9.out⟩, ⟨by (with_reducible repeat (first | apply Kd.R_alloc | apply Kd.R_drewN | apply Kd.R_drew)); exact HO_10.out⟩, ⟨by (with_reducible repeat (first | apply Kd.R_alloc | apply Kd.R_drewN | apply Kd.R_drew)); exact HO_225000.out⟩, ⟨by (with_reducible repeat (first | apply Kd.R_alloc | apply Kd.R_drewN | apply Kd.R_drew)); exact HO_225001.out⟩, ⟨by (with_reducible repeat (first | refine blk_drewN ?_ _ | refine blk_drew ?_ | refine blk_alloc ?_ _)); exact BK224.out⟩, ⟨by (with_reducible repeat (first | refine blk_drewN ?_ _ | refine blk_drew ?_ | refine blk_alloc ?_ _)); exact BK225.out⟩, ⟨by repeat (first | (with_reducible first | exact HK.out | apply Kept.alloc | apply Kept.drewN | apply Kept.drew | refine Kept.setCell ?_ (.inr GW224.out) _ | refine Kept.setCell ?_ (.inr GW225.out) _) | exact HK.out)⟩, ⟨by repeat (first | (with_reducible first | exact HB.out | apply below_alloc | apply pw_below_drewN | apply below_drew1 | refine below_set ?_ GE224.out | refine below_set ?_ GE225.out) | exact HB.out)⟩⟩
              · rw [if_neg c27] at H
                exact absurd H (by simp)
            · rw [if_neg c26] at H
              exact absurd H (by simp)
          · rw [if_neg c25] at H
            exact absurd H (by simp)
        · rw [if_neg c24] at H
          have c24b0 : decide (x11_1 < (y232.length : Int)) = false := decide_eq_false c24
          clear c24
          by_cases c42 : 0 ≤ a2
          · rw [if_pos c42] at H
            have c42b0 : decide (0 ≤ a2) = true := decide_eq_true c42
            clear c42
            by_cases c43 : a2 < (l1.length : Int)
            · rw [if_pos c43] at H
              have c43b0 : decide (a2 < (l1.length : Int)) = true := decide_eq_true c43
              clear c43
              have HC44 := Aside0.mk H
              clear H
              obtain ⟨Ao45, co45, eo45⟩ := Kd.R_slice HO_9.out
              subst eo45
              have p247 : 0 ≤ (a2 : Int) := of_decide_eq_true (by first | (with_reducible assumption) | assumption)
              have q247 : a2 < (l1.length : Int) := of_decide_eq_true (by first | (with_reducible assumption) | assumption)
              obtain ⟨ad247, e247, hx247_0⟩ := Kd.at_int (Kd.C_kept_now HR1.out HK.out) a2 p247 q247
              cases e247
              replace p247 := eq_true p247
              replace q247 := eq_true q247
              go_upto_if 55 with (fail)
              go_cut [55] (fun v55 wc => ∃ (kq : Nat) (x55_43 : Bool), v55 = .bool x55_43 ∧ Aside0 (flongref04_escape.j1 kq l1 a2 (wrap64 (a2 - 1)) (rd l1 a2) x55_43 l0_0 l0_1 = some (r1, r2, r3)) ∧ Aside0 (kq ≤ k1) ∧ Aside0 (Kd.R k38 38 wc w0.heap.size (fun k_ => ((P0_0_ k_ ∨ P0_1_ k_) ∨ w.heap.size ≤ k_)) (.slice Ao16 l0_0.length co16) l0_0) ∧ Aside0 (Kd.R k41 41 wc w0.heap.size (fun k_ => ((P0_0_ k_ ∨ P0_1_ k_) ∨ w.heap.size ≤ k_)) (.slice Ao17 l0_1.length co17) l0_1) ∧ Aside0 (wc.heap[gb224]? = some (.cells #[(.slice Ao16 l0_0.length co16), (.slice Ao17 l0_1.length co17)] 70 (0, 0))) ∧ Aside0 (wc.heap[gb225]? = some (.cells #[(.slice none 0 0), (.slice none 0 0)] 70 (0, 0))) ∧ Aside0 (Kept w wc (fun k_ => P0_0_ k_ ∨ P0_1_ k_)) ∧ Aside0 (Below w0.heap.size w0 wc))
              case first =>
                have H := HC44.out
                clear HC44
                by_cases c46 : (rd l1 a2) = 38
                · rw [if_pos c46] at H
                  have c46b0 : ((rd l1 a2) == 38) = true := beq_iff_eq.mpr c46
                  have c46b1 : ((rd l1 a2) != 38) = false := bne_eq_false_iff_eq.mpr c46
                  clear c46
                  (first | rw [c46b0] | (simp only [i64_w, i32_w]; rw [c46b0]) | skip)
                  have H' := Aside0.mk H
                  clear H
                  go_wp2
                  go_meet
                  case rel => exact ⟨_, (((rd l1 a2) == 38)), (by first | rfl | (simp; done) | (simp [*]; done)), H', ⟨by have := HK1.out; first | omega | exact Nat.le_refl _⟩, ⟨by (with_reducible repeat (first | apply Kd.R_alloc | apply Kd.R_drewN | apply Kd.R_drew)); exact HO_225000.out⟩, ⟨by (with_reducible repeat (first | apply Kd.R_alloc | apply Kd.R_drewN | apply Kd.R_drew)); exact HO_225001.out⟩, ⟨by (with_reducible repeat (first | refine blk_drewN ?_ _ | refine blk_drew ?_ | refine blk_alloc ?_ _)); exact BK224.out⟩, ⟨by (with_reducible repeat (first | refine blk_drewN ?_ _ | refine blk_drew ?_ | refine blk_alloc ?_ _)); exact BK225.out⟩, ⟨by repeat (first | (with_reducible first | exact HK.out | apply Kept.alloc | apply Kept.drewN | apply Kept.drew | refine Kept.setCell ?_ (.inr GW224.out) _ | refine Kept.setCell ?_ (.inr GW225.out) _) | exact HK.out)⟩, ⟨by repeat (first | (with_reducible first | exact HB.out | apply below_alloc | apply pw_below_drewN | apply below_drew1 | refine below_set ?_ GE224.out | refine below_set ?_ GE225.out) | exact HB.out)⟩⟩
                · rw [if_neg c46] at H
                  have c46b0 : ((rd l1 a2) == 38) = false := beq_eq_false_iff_ne.mpr c46
                  have c46b1 : ((rd l1 a2) != 38) = true := bne_iff_ne.mpr c46
                  (first | rw [c46b0] | (simp only [i64_w, i32_w]; rw [c46b0]) | skip)
                  by_cases c47 : (rd l1 a2) = 37
                  · rw [if_pos c47] at H
                    have c47b0 : ((rd l1 a2) == 37) = true := beq_iff_eq.mpr c47
                    have c47b1 : ((rd l1 a2) != 37) = false := bne_eq_false_iff_eq.mpr c47
                    clear c47
                    have H' := Aside0.mk H
                    clear H
                    go_wp2
                    go_meet
                    case rel => exact ⟨_, (((rd l1 a2) == 37)), (by first | rfl | (simp; done) | (simp [*]; done)), H', ⟨by have := HK1.out; first | omega | exact Nat.le_refl _⟩, ⟨by (with_reducible repeat (first | apply Kd.R_alloc | apply Kd.R_drewN | apply Kd.R_drew)); exact HO_225000.out⟩, ⟨by (with_reducible repeat (first | apply Kd.R_alloc | apply Kd.R_drewN | apply Kd.R_drew)); exact HO_225001.out⟩, ⟨by (with_reducible repeat (first | refine blk_drewN ?_ _ | refine blk_drew ?_ | refine blk_alloc ?_ _)); exact BK224.out⟩, ⟨by (with_reducible repeat (first | refine blk_drewN ?_ _ | refine blk_drew ?_ | refine blk_alloc ?_ _)); exact BK225.out⟩, ⟨by repeat (first | (with_reducible first | exact HK.out | apply Kept.alloc | apply Kept.drewN | apply Kept.drew | refine Kept.setCell ?_ (.inr GW224.out) _ | refine Kept.setCell ?_ (.inr GW225.out) _) | exact HK.out)⟩, ⟨by repeat (first | (with_reducible first | exact HB.out | apply below_alloc | apply pw_below_drewN | apply below_drew1 | refine below_set ?_ GE224.out | refine below_set ?_ GE225.out) | exact HB.out)⟩⟩
                  · rw [if_neg c47] at H
                    have c47b0 : ((rd l1 a2) == 37) = false := beq_eq_false_iff_ne.mpr c47
                    have c47b1 : ((rd l1 a2) != 37) = true := bne_iff_ne.mpr c47
                    by_cases c48 : (rd l1 a2) = 47
                    · rw [if_pos c48] at H
                      have c48b0 : ((rd l1 a2) == 47) = true := beq_iff_eq.mpr c48
                      have c48b1 : ((rd l1 a2) != 47) = false := bne_eq_false_iff_eq.mpr c48
                      clear c48
                      have H' := Aside0.mk H
                      clear H
                      go_wp2
                      go_meet
                      case rel => exact ⟨_, (((rd l1 a2) == 47)), (by first | rfl | (simp; done) | (simp [*]; done)), H', ⟨by have := HK1.out; first | omega | exact Nat.le_refl _⟩, ⟨by (with_reducible repeat (first | apply Kd.R_alloc | apply Kd.R_drewN | apply Kd.R_drew)); exact HO_225000.out⟩, ⟨by (with_reducible repeat (first | apply Kd.R_alloc | apply Kd.R_drewN | apply Kd.R_drew)); exact HO_225001.out⟩, ⟨by (with_reducible repeat (first | refine blk_drewN ?_ _ | refine blk_drew ?_ | refine blk_alloc ?_ _)); exact BK224.out⟩, ⟨by (with_reducible repeat (first | refine blk_drewN ?_ _ | refine blk_drew ?_ | refine blk_alloc ?_ _)); exact BK225.out⟩, ⟨by repeat (first | (with_reducible first | exact HK.out | apply Kept.alloc | apply Kept.drewN | apply Kept.drew | refine Kept.setCell ?_ (.inr GW224.out) _ | refine Kept.setCell ?_ (.inr GW225.out) _) | exact HK.out)⟩, ⟨by repeat (first | (with_reducible first | exact HB.out | apply below_alloc | apply pw_below_drewN | apply below_drew1 | refine below_set ?_ GE224.out | refine below_set ?_ GE225.out) | exact HB.out)⟩⟩
                    · rw [if_neg c48] at H
                      have c48b0 : ((rd l1 a2) == 47) = false := beq_eq_false_iff_ne.mpr c48
                      have c48b1 : ((rd l1 a2) != 47) = true := bne_iff_ne.mpr c48
                      by_cases c49 : (rd l1 a2) = 44
                      · rw [if_pos c49] at H
                        have c49b0 : ((rd l1 a2) == 44) = true := beq_iff_eq.mpr c49
                        have c49b1 : ((rd l1 a2) != 44) = false := bne_eq_false_iff_eq.mpr c49
                        clear c49
                        have H' := Aside0.mk H
                        clear H
                        go_wp2
                        go_meet
                        case rel => exact ⟨_, (((rd l1 a2) == 44)), (by first | rfl | (simp; done) | (simp [*]; done)), H', ⟨by have := HK1.out; first | omega | exact Nat.le_refl _⟩, ⟨by (with_reducible repeat (first | apply Kd.R_alloc | apply Kd.R_drewN | apply Kd.R_drew)); exact HO_225000.out⟩, ⟨by (with_reducible repeat (first | apply Kd.R_alloc | apply Kd.R_drewN | apply Kd.R_drew)); exact HO_225001.out⟩, ⟨by (with_reducible repeat (first | refine blk_drewN ?_ _ | refine blk_drew ?_ | refine blk_alloc ?_ _)); exact BK224.out⟩, ⟨by (with_reducible repeat (first | refine blk_drewN ?_ _ | refine blk_drew ?_ | refine blk_alloc ?_ _)); exact BK225.out⟩, ⟨by repeat (first | (with_reducible first | exact HK.out | apply Kept.alloc | apply Kept.drewN | apply Kept.drew | refine Kept.setCell ?_ (.inr GW224.out) _ | refine Kept.setCell ?_ (.inr GW225.out) _) | exact HK.out)⟩, ⟨by repeat (first | (with_reducible first | exact HB.out | apply below_alloc | apply pw_below_drewN | apply below_drew1 | refine below_set ?_ GE224.out | refine below_set ?_ GE225.out) | exact HB.out)⟩⟩
                      · rw [if_neg c49] at H
                        have c49b0 : ((rd l1 a2) == 44) = false := beq_eq_false_iff_ne.mpr c49
                        have c49b1 : ((rd l1 a2) != 44) = true := bne_iff_ne.mpr c49
                        have H' := Aside0.mk H
                        clear H
                        go_wp2
                        go_meet
                        case rel => exact ⟨_, (((rd l1 a2) == 58)), (by first | rfl | (simp; done) | (simp [*]; done)), H', ⟨by have := HK1.out; first | omega | exact Nat.le_refl _⟩, ⟨by (with_reducible repeat (first | apply Kd.R_alloc | apply Kd.R_drewN | apply Kd.R_drew)); exact HO_225000.out⟩, ⟨by (with_reducible repeat (first | apply Kd.R_alloc | apply Kd.R_drewN | apply Kd.R_drew)); exact HO_225001.out⟩, ⟨by (with_reducible repeat (first | refine blk_drewN ?_ _ | refine blk_drew ?_ | refine blk_alloc ?_ _)); exact BK224.out⟩, ⟨by (with_reducible repeat (first | refine blk_drewN ?_ _ | refine blk_drew ?_ | refine blk_alloc ?_ _)); exact BK225.out⟩, ⟨by repeat (first | (with_reducible first | exact HK.out | apply Kept.alloc | apply Kept.drewN | apply Kept.drew | refine Kept.setCell ?_ (.inr GW224.out) _ | refine Kept.setCell ?_ (.inr GW225.out) _) | exact HK.out)⟩, ⟨by repeat (first | (with_reducible first | exact HB.out | apply below_alloc | apply pw_below_drewN | apply below_drew1 | refine below_set ?_ GE224.out | refine below_set ?_ GE225.out) | exact HB.out)⟩⟩
              case rest =>
                clear HC44
                try clear c1
                try clear c2
                try clear p2
                try clear q2
                try clear hx2
                try clear c4
                try clear c4b0
                try clear p6
                try clear c10
                try clear p23
                try clear q23
                try clear hx23
                try clear c24
                try clear c24b0
                try clear p24
                try clear q24
                try clear hx24
                try clear c25
                try clear c25b0
                try clear c26
                try clear c26b0
                try clear c27
                try clear c27b0
                try clear c28
                try clear c28b0
                try clear c28b1
                try clear c29
                try clear c29b0
                try clear c42
                try clear c42b0
                try clear c43
                try clear c43b0
                try clear c44
                try clear c45
                try clear c46
                try clear c46b0
                try clear c46b1
                try clear c47
                try clear c47b0
                try clear c47b1
                try clear c48
                try clear c48b0
                try clear c48b1
                try clear c49
                try clear c49b0
                try clear c49b1
                try clear hcz11_0
                try clear hcz11_1
                try clear hcz14_0
                try clear hcz14_1
                try clear hfz11_0
                try clear hfz11_1
                try clear hfz14_0
                try clear hfz14_1
                try clear hx238_0
                try clear hx239_0
                try clear hx240_0
                try clear hx247_0
                try clear p2
                try clear p238
                try clear p239
                try clear p240
                try clear p247
                try clear p6
                try clear q238
                try clear q239
                try clear q240
                try clear q247
                obtain ⟨kq, x55_43, rfl, HA, HJ43, HO_225000, HO_225001, BK224, BK225, HK, HB⟩ := hcut
                cases kq with
                | zero => exact absurd HA.out (by simp [flongref04_escape.j1])
                | succ kj43 =>
                  have H := HA.out
                  clear HA
                  simp only [flongref04_escape.j1] at H
                  by_cases c50 : x55_43 = true
                  · subst c50
                    have H1 : (some (l0_0, l0_1, wrap64 (a2 + 1))) = some (r1, r2, r3) := by rw [if_pos rfl] at H; exact H
                    clear H
                    have H := H1
                    clear H1
                    simp only [Option.some.injEq, Prod.mk.injEq] at H
                    obtain ⟨rfl, rfl, rfl⟩ := H
                    have hnb51 := NB224_225.out
                    have hnc51 := NB225_224.out
                    have hcz52_0 : wc.cell? ⟨gb224, 0, none⟩ = some (.slice Ao16 l0_0.length co16) := (blk_cell BK224.out 0).trans rfl
                    have hcz52_1 : wc.cell? ⟨gb224, 1, none⟩ = some (.slice Ao17 l0_1.length co17) := (blk_cell BK224.out 1).trans rfl
                    have hfz52_0 := blk_frozen BK224.out 0
                    have hfz52_1 := blk_frozen BK224.out 1
                    have hcz53_0 : wc.cell? ⟨gb225, 0, none⟩ = some (.slice none 0 0) := (blk_cell BK225.out 0).trans rfl
                    have hcz53_1 : wc.cell? ⟨gb225, 1, none⟩ = some (.slice none 0 0) := (blk_cell BK225.out 1).trans rfl
                    have hfz53_0 := blk_frozen BK225.out 0
                    have hfz53_1 := blk_frozen BK225.out 1
                    go_wp2
                    refine bodyPost_ret (results_ct rfl _ _ gb225 70 #[.slice Ao16 l0_0.length co16, .slice Ao17 l0_1.length co17] (0, 0) _ rfl (by (with_reducible repeat (first | refine blk_drewN ?_ _ | refine blk_drew ?_ | refine blk_alloc ?_ _)); refine blk_put (cs := #[.slice Ao16 l0_0.length co16, .slice none 0 0]) ?_ 1 _ rfl; (with_reducible repeat (first | refine blk_drewN ?_ _ | refine blk_drew ?_ | refine blk_alloc ?_ _)); refine blk_put (cs := #[.slice none 0 0, .slice none 0 0]) ?_ 0 _ rfl; (with_reducible repeat (first | refine blk_drewN ?_ _ | refine blk_drew ?_ | refine blk_alloc ?_ _)); exact BK225.out) Tryd.underlying70 rfl (by kernel_rfl)) rfl ?_
                    exact ⟨_, _, by first | rfl | (simp [errW_none, errW_some] <;> rfl) | (simp [*, errW_none, errW_some] <;> rfl), by (with_reducible repeat (first | apply Kd.R_alloc | apply Kd.R_drewN | apply Kd.R_drew)); exact Kd.R_mono (Kd.R_far (p := ⟨gb225, 1, none⟩) (Kd.R_far (p := ⟨gb225, 0, none⟩) (Kd.R_types HO_225000.out BK225.out (by decide)) (fun _ hk => hk.2) (.slice Ao16 l0_0.length co16)) (fun _ hk => hk.2) (.slice Ao17 l0_1.length co17)) (fun _ hk => hk.1), by (with_reducible repeat (first | apply Kd.R_alloc | apply Kd.R_drewN | apply Kd.R_drew)); exact Kd.R_mono (Kd.R_far (p := ⟨gb225, 1, none⟩) (Kd.R_far (p := ⟨gb225, 0, none⟩) (Kd.R_types HO_225001.out BK225.out (by decide)) (fun _ hk => hk.2) (.slice Ao16 l0_0.length co16)) (fun _ hk => hk.2) (.slice Ao17 l0_1.length co17)) (fun _ hk => hk.1), by repeat (first | (with_reducible first | exact HB.out | apply below_alloc | apply pw_below_drewN | apply below_drew1 | refine below_set ?_ GE224.out | refine below_set ?_ GE225.out) | exact HB.out), by repeat (first | (with_reducible first | exact HK.out | apply Kept.alloc | apply Kept.drewN | apply Kept.drew | refine Kept.setCell ?_ (.inr GW224.out) _ | refine Kept.setCell ?_ (.inr GW225.out) _) | exact HK.out)⟩
                  · replace c50 := Bool.eq_false_iff.mpr c50
                    subst c50
                    have H1 : (if (rd l1 a2) = 34 then (some (l0_0, l0_1, (l1.length : Int))) else (if (rd l1 a2) = 40 then (flongref04_escape.j2 kj43 l1 a2 (wrap64 (a2 - 1)) (rd l1 a2) ((rd l1 a2) == 40) l0_0 l0_1) else (flongref04_escape.j2 kj43 l1 a2 (wrap64 (a2 - 1)) (rd l1 a2) ((rd l1 a2) == 91) l0_0 l0_1))) = some (r1, r2, r3) := by rw [if_neg (show ¬ (false = true) by decide)] at H; exact H
                    clear H
                    have H := H1
                    clear H1
                    by_cases c54 : (rd l1 a2) = 34
                    · rw [if_pos c54] at H
                      have c54b0 : ((rd l1 a2) == 34) = true := beq_iff_eq.mpr c54
                      have c54b1 : ((rd l1 a2) != 34) = false := bne_eq_false_iff_eq.mpr c54
                      clear c54
                      simp only [Option.some.injEq, Prod.mk.injEq] at H
                      obtain ⟨rfl, rfl, rfl⟩ := H
                      have hnb55 := NB224_225.out
                      have hnc55 := NB225_224.out
                      have hcz56_0 : wc.cell? ⟨gb224, 0, none⟩ = some (.slice Ao16 l0_0.length co16) := (blk_cell BK224.out 0).trans rfl
                      have hcz56_1 : wc.cell? ⟨gb224, 1, none⟩ = some (.slice Ao17 l0_1.length co17) := (blk_cell BK224.out 1).trans rfl
                      have hfz56_0 := blk_frozen BK224.out 0
                      have hfz56_1 := blk_frozen BK224.out 1
                      have hcz57_0 : wc.cell? ⟨gb225, 0, none⟩ = some (.slice none 0 0) := (blk_cell BK225.out 0).trans rfl
                      have hcz57_1 : wc.cell? ⟨gb225, 1, none⟩ = some (.slice none 0 0) := (blk_cell BK225.out 1).trans rfl
                      have hfz57_0 := blk_frozen BK225.out 0
                      have hfz57_1 := blk_frozen BK225.out 1
                      go_wp2
                      refine bodyPost_ret (results_ct rfl _ _ gb225 70 #[.slice Ao16 l0_0.length co16, .slice Ao17 l0_1.length co17] (0, 0) _ rfl (by (with_reducible repeat (first | refine blk_drewN ?_ _ | refine blk_drew ?_ | refine blk_alloc ?_ _)); refine blk_put (cs := #[.slice Ao16 l0_0.length co16, .slice none 0 0]) ?_ 1 _ rfl; (with_reducible repeat (first | refine blk_drewN ?_ _ | refine blk_drew ?_ | refine blk_alloc ?_ _)); refine blk_put (cs := #[.slice none 0 0, .slice none 0 0]) ?_ 0 _ rfl; (with_reducible repeat (first | refine blk_drewN ?_ _ | refine blk_drew ?_ | refine blk_alloc ?_ _)); exact BK225.out) Tryd.underlying70 rfl (by kernel_rfl)) rfl ?_
                      exact ⟨_, _, by first | rfl | (simp [errW_none, errW_some] <;> rfl) | (simp [*, errW_none, errW_some] <;> rfl), by (with_reducible repeat (first | apply Kd.R_alloc | apply Kd.R_drewN | apply Kd.R_drew)); exact Kd.R_mono (Kd.R_far (p := ⟨gb225, 1, none⟩) (Kd.R_far (p := ⟨gb225, 0, none⟩) (Kd.R_types HO_225000.out BK225.out (by decide)) (fun _ hk => hk.2) (.slice Ao16 l0_0.length co16)) (fun _ hk => hk.2) (.slice Ao17 l0_1.length co17)) (fun _ hk => hk.1), by (with_reducible repeat (first | apply Kd.R_alloc | apply Kd.R_drewN | apply Kd.R_drew)); exact Kd.R_mono (Kd.R_far (p := ⟨gb225, 1, none⟩) (Kd.R_far (p := ⟨gb225, 0, none⟩) (Kd.R_types HO_225001.out BK225.out (by decide)) (fun _ hk => hk.2) (.slice Ao16 l0_0.length co16)) (fun _ hk => hk.2) (.slice Ao17 l0_1.length co17)) (fun _ hk => hk.1), by repeat (first | (with_reducible first | exact HB.out | apply below_alloc | apply pw_below_drewN | apply below_drew1 | refine below_set ?_ GE224.out | refine below_set ?_ GE225.out) | exact HB.out), by repeat (first | (with_reducible first | exact HK.out | apply Kept.alloc | apply Kept.drewN | apply Kept.drew | refine Kept.setCell ?_ (.inr GW224.out) _ | refine Kept.setCell ?_ (.inr GW225.out) _) | exact HK.out)⟩
                    · rw [if_neg c54] at H
                      have c54b0 : ((rd l1 a2) == 34) = false := beq_eq_false_iff_ne.mpr c54
                      have c54b1 : ((rd l1 a2) != 34) = true := bne_iff_ne.mpr c54
                      have HC58 := Aside0.mk H
                      clear H
                      go_upto_if 69 with (fail)
                      go_cut [69] (fun v69 wc => ∃ (kq : Nat) (x69_57 : Bool), v69 = .bool x69_57 ∧ Aside0 (flongref04_escape.j2 kq l1 a2 (wrap64 (a2 - 1)) (rd l1 a2) x69_57 l0_0 l0_1 = some (r1, r2, r3)) ∧ Aside0 (kq ≤ kj43) ∧ Aside0 (Kd.R k38 38 wc w0.heap.size (fun k_ => ((P0_0_ k_ ∨ P0_1_ k_) ∨ w.heap.size ≤ k_)) (.slice Ao16 l0_0.length co16) l0_0) ∧ Aside0 (Kd.R k41 41 wc w0.heap.size (fun k_ => ((P0_0_ k_ ∨ P0_1_ k_) ∨ w.heap.size ≤ k_)) (.slice Ao17 l0_1.length co17) l0_1) ∧ Aside0 (wc.heap[gb224]? = some (.cells #[(.slice Ao16 l0_0.length co16), (.slice Ao17 l0_1.length co17)] 70 (0, 0))) ∧ Aside0 (wc.heap[gb225]? = some (.cells #[(.slice none 0 0), (.slice none 0 0)] 70 (0, 0))) ∧ Aside0 (Kept w wc (fun k_ => P0_0_ k_ ∨ P0_1_ k_)) ∧ Aside0 (Below w0.heap.size w0 wc))
                      case first =>
                        have H := HC58.out
                        clear HC58
                        by_cases c59 : (rd l1 a2) = 40
                        · rw [if_pos c59] at H
                          have c59b0 : ((rd l1 a2) == 40) = true := beq_iff_eq.mpr c59
                          have c59b1 : ((rd l1 a2) != 40) = false := bne_eq_false_iff_eq.mpr c59
                          clear c59
                          (first | rw [c59b0] | (simp only [i64_w, i32_w]; rw [c59b0]) | skip)
                          have H' := Aside0.mk H
                          clear H
                          go_wp2
                          go_meet
                          case rel => exact ⟨_, (((rd l1 a2) == 40)), (by first | rfl | (simp; done) | (simp [*]; done)), H', ⟨by have := HK1.out; have := HJ43.out; first | omega | exact Nat.le_refl _⟩, ⟨by (with_reducible repeat (first | apply Kd.R_alloc | apply Kd.R_drewN | apply Kd.R_drew)); exact HO_225000.out⟩, ⟨by (with_reducible repeat (first | apply Kd.R_alloc | apply Kd.R_drewN | apply Kd.R_drew)); exact HO_225001.out⟩, ⟨by (with_reducible repeat (first | refine blk_drewN ?_ _ | refine blk_drew ?_ | refine blk_alloc ?_ _)); exact BK224.out⟩, ⟨by (with_reducible repeat (first | refine blk_drewN ?_ _ | refine blk_drew ?_ | refine blk_alloc ?_ _)); exact BK225.out⟩, ⟨by repeat (first | (with_reducible first | exact HK.out | apply Kept.alloc | apply Kept.drewN | apply Kept.drew | refine Kept.setCell ?_ (.inr GW224.out) _ | refine Kept.setCell ?_ (.inr GW225.out) _) | exact HK.out)⟩, ⟨by repeat (first | (with_reducible first | exact HB.out | apply below_alloc | apply pw_below_drewN | apply below_drew1 | refine below_set ?_ GE224.out | refine below_set ?_ GE225.out) | exact HB.out)⟩⟩
                        · rw [if_neg c59] at H
                          have c59b0 : ((rd l1 a2) == 40) = false := beq_eq_false_iff_ne.mpr c59
                          have c59b1 : ((rd l1 a2) != 40) = true := bne_iff_ne.mpr c59
                          (first | rw [c59b0] | (simp only [i64_w, i32_w]; rw [c59b0]) | skip)
                          have H' := Aside0.mk H
                          clear H
                          go_wp2
                          go_meet
                          case rel => exact ⟨_, (((rd l1 a2) == 91)), (by first | rfl | (simp; done) | (simp [*]; done)), H', ⟨by have := HK1.out; have := HJ43.out; first | omega | exact Nat.le_refl _⟩, ⟨by (with_reducible repeat (first | apply Kd.R_alloc | apply Kd.R_drewN | apply Kd.R_drew)); exact HO_225000.out⟩, ⟨by (with_reducible repeat (first | apply Kd.R_alloc | apply Kd.R_drewN | apply Kd.R_drew)); exact HO_225001.out⟩, ⟨by (with_reducible repeat (first | refine blk_drewN ?_ _ | refine blk_drew ?_ | refine blk_alloc ?_ _)); exact BK224.out⟩, ⟨by (with_reducible repeat (first | refine blk_drewN ?_ _ | refine blk_drew ?_ | refine blk_alloc ?_ _)); exact BK225.out⟩, ⟨by repeat (first | (with_reducible first | exact HK.out | apply Kept.alloc | apply Kept.drewN | apply Kept.drew | refine Kept.setCell ?_ (.inr GW224.out) _ | refine Kept.setCell ?_ (.inr GW225.out) _) | exact HK.out)⟩, ⟨by repeat (first | (with_reducible first | exact HB.out | apply below_alloc | apply pw_below_drewN | apply below_drew1 | refine below_set ?_ GE224.out | refine below_set ?_ GE225.out) | exact HB.out)⟩⟩
                      case rest =>
                        clear HC58
                        try clear c1
                        try clear c2
                        try clear p2
                        try clear q2
                        try clear hx2
                        try clear c4
                        try clear c4b0
                        try clear c5
                        try clear p6
                        try clear c10
                        try clear p23
                        try clear q23
                        try clear hx23
                        try clear c24
                        try clear c24b0
                        try clear p24
                        try clear q24
                        try clear hx24
                        try clear c25
                        try clear c25b0
                        try clear c26
                        try clear c26b0
                        try clear c27
                        try clear c27b0
                        try clear c28
                        try clear c28b0
                        try clear c28b1
                        try clear c29
                        try clear c29b0
                        try clear c42
                        try clear c42b0
                        try clear c43
                        try clear c43b0
                        try clear c44
                        try clear c45
                        try clear c46
                        try clear c46b0
                        try clear c46b1
                        try clear c47
                        try clear c47b0
                        try clear c47b1
                        try clear c48
                        try clear c48b0
                        try clear c48b1
                        try clear c49
                        try clear c49b0
                        try clear c49b1
                        try clear c50
                        try clear c51
                        try clear c54
                        try clear c54b0
                        try clear c54b1
                        try clear c55
                        try clear c59
                        try clear c59b0
                        try clear c59b1
                        try clear hcz11_0
                        try clear hcz11_1
                        try clear hcz14_0
                        try clear hcz14_1
                        try clear hcz52_0
                        try clear hcz52_1
                        try clear hcz53_0
                        try clear hcz53_1
                        try clear hcz56_0
                        try clear hcz56_1
                        try clear hcz57_0
                        try clear hcz57_1
                        try clear hfz11_0
                        try clear hfz11_1
                        try clear hfz14_0
                        try clear hfz14_1
                        try clear hfz52_0
                        try clear hfz52_1
                        try clear hfz53_0
                        try clear hfz53_1
                        try clear hfz56_0
                        try clear hfz56_1
                        try clear hfz57_0
                        try clear hfz57_1
                        try clear hx238_0
                        try clear hx239_0
                        try clear hx240_0
                        try clear hx247_0
                        try clear p2
                        try clear p23
                        try clear p238
                        try clear p239
                        try clear p24
                        try clear p240
                        try clear p247
                        try clear p6
                        try clear q2
                        try clear q23
                        try clear q238
                        try clear q239
                        try clear q24
                        try clear q240
                        try clear q247
                        obtain ⟨kq, x69_57, rfl, HA, HJ57, HO_225000, HO_225001, BK224, BK225, HK, HB⟩ := hcut
                        cases kq with
                        | zero => exact absurd HA.out (by simp [flongref04_escape.j2])
                        | succ kj57 =>
                          have H := HA.out
                          clear HA
                          simp only [flongref04_escape.j2] at H
                          by_cases c60 : x69_57 = true
                          · subst c60
                            have H1 : ((flongref04_name.f kj57 l1 a2).bind fun bt248 => (if bt248.2 < 0 then ((flongref04_tell.f l0_0 l0_1 1 (wrap64 (a2 - 1))).bind fun bt250 => (some (bt250.1, bt250.2, (l1.length : Int)))) else ((flongref04_Name.f kj57 bt248.1).bind fun t256 => (if t256 < 0 then ((flongref04_tell.f l0_0 l0_1 2 (wrap64 (a2 - 1))).bind fun bt257 => (some (bt257.1, bt257.2, bt248.2))) else ((flongref04_Name.f kj57 bt248.1).bind fun t263 => ((flongref04_say.f l0_0 l0_1 1 (wrap32 (t263))).bind fun bt264 => (some (bt264.1, bt264.2, bt248.2)))))))) = some (r1, r2, r3) := by rw [if_pos rfl] at H; exact H
                            clear H
                            have H := H1
                            clear H1
                            replace H := Option.bind_eq_some_iff.mp H
                            obtain ⟨⟨t248, t249⟩, A610, H⟩ := H
                            replace H : (if t249 < 0 then ((flongref04_tell.f l0_0 l0_1 1 (wrap64 (a2 - 1))).bind fun bt250 => (some (bt250.1, bt250.2, (l1.length : Int)))) else ((flongref04_Name.f kj57 t248).bind fun t256 => (if t256 < 0 then ((flongref04_tell.f l0_0 l0_1 2 (wrap64 (a2 - 1))).bind fun bt257 => (some (bt257.1, bt257.2, t249))) else ((flongref04_Name.f kj57 t248).bind fun t263 => ((flongref04_say.f l0_0 l0_1 1 (wrap32 (t263))).bind fun bt264 => (some (bt264.1, bt264.2, t249))))))) = some (r1, r2, r3) := H
                            have A61 := Aside0.mk A610
                            clear A610
                            by_cases c62 : t249 < 0
                            · rw [if_pos c62] at H
                              have c62b0 : decide (t249 < 0) = true := decide_eq_true c62
                              clear c62
                              replace H := Option.bind_eq_some_iff.mp H
                              obtain ⟨⟨t250, t253⟩, A630, H⟩ := H
                              replace H : (some (t250, t253, (l1.length : Int))) = some (r1, r2, r3) := H
                              have A63 := Aside0.mk A630
                              clear A630
                              simp only [Option.some.injEq, Prod.mk.injEq] at H
                              obtain ⟨rfl, rfl, rfl⟩ := H
                              go_wp2_with (first | ((with_reducible refine gate_callee (f := 59) rfl ?_); refine goesL_ (some 75) rfl rfl Tryd.func59 (by kernel_rfl) rfl #[.slice (some ad247) l1.length c1, .int .i64 a2] rfl (by (try simp only [List.map_toArray, List.map_cons, List.map_nil]); first | done | rfl | (simp only [List.length_drop, List.length_take]; rfl)) ?_; (with_reducible refine (flongref04_name.calls kj57 _ _ l1 a2 t248 t249 _ ?side1 ?side2 A61.out).mono ?_); (case side1 => exact Kd.C_kept_now HR1.out (by repeat (first | (with_reducible first | exact HK.out | apply Kept.alloc | apply Kept.drewN | apply Kept.drew | refine Kept.setCell ?_ (.inr GW224.out) _ | refine Kept.setCell ?_ (.inr GW225.out) _) | exact HK.out))); (case side2 => exact HC1.out); rintro e w64 ⟨rfl, hb⟩; refine ⟨_, rfl, ?_⟩; have n0_ := Aside0.mk (Kd.R_below (by (with_reducible repeat (first | apply Kd.R_alloc | apply Kd.R_drewN | apply Kd.R_drew)); exact HO_225000.out) hb); have n1_ := Aside0.mk (Kd.R_below (by (with_reducible repeat (first | apply Kd.R_alloc | apply Kd.R_drewN | apply Kd.R_drew)); exact HO_225001.out) hb); have n2_ := Aside0.mk (blk_below (g := gb224) (o := .cells #[.slice Ao16 l0_0.length co16, .slice Ao17 l0_1.length co17] 70 (0, 0)) (by (with_reducible repeat (first | refine blk_drewN ?_ _ | refine blk_drew ?_ | refine blk_alloc ?_ _)); exact BK224.out) hb); have n3_ := Aside0.mk (blk_below (g := gb225) (o := .cells #[.slice none 0 0, .slice none 0 0] 70 (0, 0)) (by (with_reducible repeat (first | refine blk_drewN ?_ _ | refine blk_drew ?_ | refine blk_alloc ?_ _)); exact BK225.out) hb); have n4_ := Aside0.mk (Kept.below (S := (fun k_ => P0_0_ k_ ∨ P0_1_ k_)) (by repeat (first | (with_reducible first | exact HK.out | apply Kept.alloc | apply Kept.drewN | apply Kept.drew | refine Kept.setCell ?_ (.inr GW224.out) _ | refine Kept.setCell ?_ (.inr GW225.out) _) | exact HK.out)) hb); have n5_ := Aside0.mk (below_step (by repeat (first | (with_reducible first | exact HB.out | apply below_alloc | apply pw_below_drewN | apply below_drew1 | refine below_set ?_ GE224.out | refine below_set ?_ GE225.out) | exact HB.out)) hb); clear HO_225000; clear HO_225001; clear BK224; clear BK225; clear HK; clear HB; have HO_225000 := n0_; have HO_225001 := n1_; have BK224 := n2_; have BK225 := n3_; have HK := n4_; have HB := n5_; clear n0_ n1_ n2_ n3_ n4_ n5_; (try clear hb); (try clear hb2); (try clear hk); (try clear hi); have hnb65 := NB224_225.out; have hnc65 := NB225_224.out; have hcz66_0 : w64.cell? ⟨gb224, 0, none⟩ = some (.slice Ao16 l0_0.length co16) := (blk_cell BK224.out 0).trans rfl; have hcz66_1 : w64.cell? ⟨gb224, 1, none⟩ = some (.slice Ao17 l0_1.length co17) := (blk_cell BK224.out 1).trans rfl; have hfz66_0 := blk_frozen BK224.out 0; have hfz66_1 := blk_frozen BK224.out 1) | ((with_reducible refine gate_callee (f := 46) rfl ?_); refine goesL_ (some 82) rfl rfl Tryd.func46 (by kernel_rfl) rfl #[.agg #[.slice Ao16 l0_0.length co16, .slice Ao17 l0_1.length co17], .int .i64 1, .int .i64 (wrap64 (a2 - 1))] rfl (by (try simp only [List.map_toArray, List.map_cons, List.map_nil]); first | done | rfl | (simp only [List.length_drop, List.length_take]; rfl)) ?_; (with_reducible refine (flongref04_tell.calls (fun k_ => some k_ = (.slice Ao16 l0_0.length co16 : Value).ownBlock) (.slice Ao16 l0_0.length co16) l0_0 (fun k_ => some k_ = (.slice Ao17 l0_1.length co17 : Value).ownBlock) (.slice Ao17 l0_1.length co17) l0_1 1 (wrap64 (a2 - 1)) t250 t253 w0 _ ?side1 ?side2 ?side3 A63.out).mono ?_); (case side1 => repeat (first | (with_reducible first | exact HB.out | apply below_alloc | apply pw_below_drewN | apply below_drew1 | refine below_set ?_ GE224.out | refine below_set ?_ GE225.out) | exact HB.out)); (case side2 => exact Kd.R_tight rfl HO_225000.out); (case side3 => exact Kd.R_tight rfl HO_225001.out); rintro e w67 ⟨v251, v254, rfl, ho0, ho1, hb, hkp⟩; refine ⟨_, rfl, ?_⟩; have n0_ := Aside0.mk (blk_kept (by (with_reducible repeat (first | refine blk_drewN ?_ _ | refine blk_drew ?_ | refine blk_alloc ?_ _)); exact BK224.out) hkp (fun hs_ => Or.elim hs_ (fun e_ => (fun e_ => (Kd.R_ne HO_225000.out BK224.out (by decide)) e_) e_) (fun e_ => (fun e_ => (Kd.R_ne HO_225001.out BK224.out (by decide)) e_) e_))); have n1_ := Aside0.mk (blk_kept (by (with_reducible repeat (first | refine blk_drewN ?_ _ | refine blk_drew ?_ | refine blk_alloc ?_ _)); exact BK225.out) hkp (fun hs_ => Or.elim hs_ (fun e_ => (fun e_ => (Kd.R_ne HO_225000.out BK225.out (by decide)) e_) e_) (fun e_ => (fun e_ => (Kd.R_ne HO_225001.out BK225.out (by decide)) e_) e_))); have n2_ := Aside0.mk (Kd.R_mono (ok' := fun k_ => ((P0_0_ k_ ∨ P0_1_ k_) ∨ w.heap.size ≤ k_)) ho0 (fun k_ hk_ => Or.elim hk_ (fun hs_ => Or.elim hs_ (fun hs_ => (HO_225000.out.1 k_ (hs_).symm)) (fun hs_ => (HO_225001.out.1 k_ (hs_).symm))) (fun hn_ => (.inr (Nat.le_trans (by first | exact HK.out.1 | exact (show Kept w _ (fun k_ => P0_0_ k_ ∨ P0_1_ k_) from by repeat (first | (with_reducible first | exact HK.out | apply Kept.alloc | apply Kept.drewN | apply Kept.drew | refine Kept.setCell ?_ (.inr GW224.out) _ | refine Kept.setCell ?_ (.inr GW225.out) _) | exact HK.out)).1) hn_))))); have n3_ := Aside0.mk (Kd.R_mono (ok' := fun k_ => ((P0_0_ k_ ∨ P0_1_ k_) ∨ w.heap.size ≤ k_)) ho1 (fun k_ hk_ => Or.elim hk_ (fun hs_ => Or.elim hs_ (fun hs_ => (HO_225000.out.1 k_ (hs_).symm)) (fun hs_ => (HO_225001.out.1 k_ (hs_).symm))) (fun hn_ => (.inr (Nat.le_trans (by first | exact HK.out.1 | exact (show Kept w _ (fun k_ => P0_0_ k_ ∨ P0_1_ k_) from by repeat (first | (with_reducible first | exact HK.out | apply Kept.alloc | apply Kept.drewN | apply Kept.drew | refine Kept.setCell ?_ (.inr GW224.out) _ | refine Kept.setCell ?_ (.inr GW225.out) _) | exact HK.out)).1) hn_))))); have n4_ := Aside0.mk (Kept.then_ (S := (fun k_ => P0_0_ k_ ∨ P0_1_ k_)) (by repeat (first | (with_reducible first | exact HK.out | apply Kept.alloc | apply Kept.drewN | apply Kept.drew | refine Kept.setCell ?_ (.inr GW224.out) _ | refine Kept.setCell ?_ (.inr GW225.out) _) | exact HK.out)) hkp (fun k_ hs_ => Or.elim hs_ (fun e_ => (fun e_ => (HO_225000.out.1 k_ e_.symm)) e_) (fun e_ => (fun e_ => (HO_225001.out.1 k_ e_.symm)) e_))); have n5_ := Aside0.mk (hb); clear BK224; clear BK225; clear HK; clear HB; clear HO_225000; clear HO_225001; have BK224 := n0_; have BK225 := n1_; have HO252 := n2_; have HO255 := n3_; have HK := n4_; have HB := n5_; clear n0_ n1_ n2_ n3_ n4_ n5_; (try clear hb); (try clear hkp); (try clear ho0); (try clear ho1); obtain ⟨Ao68, co68, eo68⟩ := Kd.R_slice HO252.out; subst eo68; have hcz69_0 : w67.cell? ⟨gb225, 0, none⟩ = some (.slice none 0 0) := (blk_cell BK225.out 0).trans rfl; have hcz69_1 : w67.cell? ⟨gb225, 1, none⟩ = some (.slice none 0 0) := (blk_cell BK225.out 1).trans rfl; have hfz69_0 := blk_frozen BK225.out 0; have hfz69_1 := blk_frozen BK225.out 1; obtain ⟨Ao70, co70, eo70⟩ := Kd.R_slice HO255.out; subst eo70))
                              refine bodyPost_ret (results_ct rfl _ _ gb225 70 #[.slice Ao68 t250.length co68, .slice Ao70 t253.length co70] (0, 0) _ rfl (by (with_reducible repeat (first | refine blk_drewN ?_ _ | refine blk_drew ?_ | refine blk_alloc ?_ _)); refine blk_put (cs := #[.slice Ao68 t250.length co68, .slice none 0 0]) ?_ 1 _ rfl; (with_reducible repeat (first | refine blk_drewN ?_ _ | refine blk_drew ?_ | refine blk_alloc ?_ _)); refine blk_put (cs := #[.slice none 0 0, .slice none 0 0]) ?_ 0 _ rfl; (with_reducible repeat (first | refine blk_drewN ?_ _ | refine blk_drew ?_ | refine blk_alloc ?_ _)); exact BK225.out) Tryd.underlying70 rfl (by kernel_rfl)) rfl ?_
                              exact ⟨_, _, by first | rfl | (simp [errW_none, errW_some] <;> rfl) | (simp [*, errW_none, errW_some] <;> rfl), by (with_reducible repeat (first | apply Kd.R_alloc | apply Kd.R_drewN | apply Kd.R_drew)); exact Kd.R_mono (Kd.R_far (p := ⟨gb225, 1, none⟩) (Kd.R_far (p := ⟨gb225, 0, none⟩) (Kd.R_types HO252.out BK225.out (by decide)) (fun _ hk => hk.2) (.slice Ao68 t250.length co68)) (fun _ hk => hk.2) (.slice Ao70 t253.length co70)) (fun _ hk => hk.1), by (with_reducible repeat (first | apply Kd.R_alloc | apply Kd.R_drewN | apply Kd.R_drew)); exact Kd.R_mono (Kd.R_far (p := ⟨gb225, 1, none⟩) (Kd.R_far (p := ⟨gb225, 0, none⟩) (Kd.R_types HO255.out BK225.out (by decide)) (fun _ hk => hk.2) (.slice Ao68 t250.length co68)) (fun _ hk => hk.2) (.slice Ao70 t253.length co70)) (fun _ hk => hk.1), by repeat (first | (with_reducible first | exact HB.out | apply below_alloc | apply pw_below_drewN | apply below_drew1 | refine below_set ?_ GE224.out | refine below_set ?_ GE225.out) | exact HB.out), by repeat (first | (with_reducible first | exact HK.out | apply Kept.alloc | apply Kept.drewN | apply Kept.drew | refine Kept.setCell ?_ (.inr GW224.out) _ | refine Kept.setCell ?_ (.inr GW225.out) _) | exact HK.out)⟩
                            · rw [if_neg c62] at H
                              have c62b0 : decide (t249 < 0) = false := decide_eq_false c62
                              clear c62
                              replace H := Option.bind_eq_some_iff.mp H
                              obtain ⟨t256, A710, H⟩ := H
                              replace H : (if t256 < 0 then ((flongref04_tell.f l0_0 l0_1 2 (wrap64 (a2 - 1))).bind fun bt257 => (some (bt257.1, bt257.2, t249))) else ((flongref04_Name.f kj57 t248).bind fun t263 => ((flongref04_say.f l0_0 l0_1 1 (wrap32 (t263))).bind fun bt264 => (some (bt264.1, bt264.2, t249))))) = some (r1, r2, r3) := H
                              have A71 := Aside0.mk A710
                              clear A710
                              by_cases c72 : t256 < 0
                              · rw [if_pos c72] at H
                                have c72b0 : decide (t256 < 0) = true := decide_eq_true c72
                                clear c72
                                replace H := Option.bind_eq_some_iff.mp H
                                obtain ⟨⟨t257, t260⟩, A730, H⟩ := H
                                replace H : (some (t257, t260, t249)) = some (r1, r2, r3) := H
                                have A73 := Aside0.mk A730
                                clear A730
                                simp only [Option.some.injEq, Prod.mk.injEq] at H
                                obtain ⟨rfl, rfl, rfl⟩ := H
                                go_wp2_with (first | ((with_reducible refine gate_callee (f := 59) rfl ?_); refine goesL_ (some 75) rfl rfl Tryd.func59 (by kernel_rfl) rfl #[.slice (some ad247) l1.length c1, .int .i64 a2] rfl (by (try simp only [List.map_toArray, List.map_cons, List.map_nil]); first | done | rfl | (simp only [List.length_drop, List.length_take]; rfl)) ?_; (with_reducible refine (flongref04_name.calls kj57 _ _ l1 a2 t248 t249 _ ?side1 ?side2 A61.out).mono ?_); (case side1 => exact Kd.C_kept_now HR1.out (by repeat (first | (with_reducible first | exact HK.out | apply Kept.alloc | apply Kept.drewN | apply Kept.drew | refine Kept.setCell ?_ (.inr GW224.out) _ | refine Kept.setCell ?_ (.inr GW225.out) _) | exact HK.out))); (case side2 => exact HC1.out); rintro e w74 ⟨rfl, hb⟩; refine ⟨_, rfl, ?_⟩; have n0_ := Aside0.mk (Kd.R_below (by (with_reducible repeat (first | apply Kd.R_alloc | apply Kd.R_drewN | apply Kd.R_drew)); exact HO_225000.out) hb); have n1_ := Aside0.mk (Kd.R_below (by (with_reducible repeat (first | apply Kd.R_alloc | apply Kd.R_drewN | apply Kd.R_drew)); exact HO_225001.out) hb); have n2_ := Aside0.mk (blk_below (g := gb224) (o := .cells #[.slice Ao16 l0_0.length co16, .slice Ao17 l0_1.length co17] 70 (0, 0)) (by (with_reducible repeat (first | refine blk_drewN ?_ _ | refine blk_drew ?_ | refine blk_alloc ?_ _)); exact BK224.out) hb); have n3_ := Aside0.mk (blk_below (g := gb225) (o := .cells #[.slice none 0 0, .slice none 0 0] 70 (0, 0)) (by (with_reducible repeat (first | refine blk_drewN ?_ _ | refine blk_drew ?_ | refine blk_alloc ?_ _)); exact BK225.out) hb); have n4_ := Aside0.mk (Kept.below (S := (fun k_ => P0_0_ k_ ∨ P0_1_ k_)) (by repeat (first | (with_reducible first | exact HK.out | apply Kept.alloc | apply Kept.drewN | apply Kept.drew | refine Kept.setCell ?_ (.inr GW224.out) _ | refine Kept.setCell ?_ (.inr GW225.out) _) | exact HK.out)) hb); have n5_ := Aside0.mk (below_step (by repeat (first | (with_reducible first | exact HB.out | apply below_alloc | apply pw_below_drewN | apply below_drew1 | refine below_set ?_ GE224.out | refine below_set ?_ GE225.out) | exact HB.out)) hb); clear HO_225000; clear HO_225001; clear BK224; clear BK225; clear HK; clear HB; have HO_225000 := n0_; have HO_225001 := n1_; have BK224 := n2_; have BK225 := n3_; have HK := n4_; have HB := n5_; clear n0_ n1_ n2_ n3_ n4_ n5_; (try clear hb); (try clear hb2); (try clear hk); (try clear hi)) | ((with_reducible refine gate_callee (f := 21) rfl ?_); refine goesL_ (some 86) rfl rfl Tryd.func21 (by kernel_rfl) rfl #[.string t248] rfl (by (try simp only [List.map_toArray, List.map_cons, List.map_nil]); first | done | rfl | (simp only [List.length_drop, List.length_take]; rfl)) ?_; (with_reducible refine (flongref04_Name.calls kj57 t248 t256 _ A71.out).mono ?_); rintro e w75 ⟨rfl, hb⟩; refine ⟨_, rfl, ?_⟩; have n0_ := Aside0.mk (Kd.R_below (by (with_reducible repeat (first | apply Kd.R_alloc | apply Kd.R_drewN | apply Kd.R_drew)); exact HO_225000.out) hb); have n1_ := Aside0.mk (Kd.R_below (by (with_reducible repeat (first | apply Kd.R_alloc | apply Kd.R_drewN | apply Kd.R_drew)); exact HO_225001.out) hb); have n2_ := Aside0.mk (blk_below (g := gb224) (o := .cells #[.slice Ao16 l0_0.length co16, .slice Ao17 l0_1.length co17] 70 (0, 0)) (by (with_reducible repeat (first | refine blk_drewN ?_ _ | refine blk_drew ?_ | refine blk_alloc ?_ _)); exact BK224.out) hb); have n3_ := Aside0.mk (blk_below (g := gb225) (o := .cells #[.slice none 0 0, .slice none 0 0] 70 (0, 0)) (by (with_reducible repeat (first | refine blk_drewN ?_ _ | refine blk_drew ?_ | refine blk_alloc ?_ _)); exact BK225.out) hb); have n4_ := Aside0.mk (Kept.below (S := (fun k_ => P0_0_ k_ ∨ P0_1_ k_)) (by repeat (first | (with_reducible first | exact HK.out | apply Kept.alloc | apply Kept.drewN | apply Kept.drew | refine Kept.setCell ?_ (.inr GW224.out) _ | refine Kept.setCell ?_ (.inr GW225.out) _) | exact HK.out)) hb); have n5_ := Aside0.mk (below_step (by repeat (first | (with_reducible first | exact HB.out | apply below_alloc | apply pw_below_drewN | apply below_drew1 | refine below_set ?_ GE224.out | refine below_set ?_ GE225.out) | exact HB.out)) hb); clear HO_225000; clear HO_225001; clear BK224; clear BK225; clear HK; clear HB; have HO_225000 := n0_; have HO_225001 := n1_; have BK224 := n2_; have BK225 := n3_; have HK := n4_; have HB := n5_; clear n0_ n1_ n2_ n3_ n4_ n5_; (try clear hb); (try clear hb2); (try clear hk); (try clear hi); have hnb76 := NB224_225.out; have hnc76 := NB225_224.out; have hcz77_0 : w75.cell? ⟨gb224, 0, none⟩ = some (.slice Ao16 l0_0.length co16) := (blk_cell BK224.out 0).trans rfl; have hcz77_1 : w75.cell? ⟨gb224, 1, none⟩ = some (.slice Ao17 l0_1.length co17) := (blk_cell BK224.out 1).trans rfl; have hfz77_0 := blk_frozen BK224.out 0; have hfz77_1 := blk_frozen BK224.out 1) | ((with_reducible refine gate_callee (f := 46) rfl ?_); refine goesL_ (some 90) rfl rfl Tryd.func46 (by kernel_rfl) rfl #[.agg #[.slice Ao16 l0_0.length co16, .slice Ao17 l0_1.length co17], .int .i64 2, .int .i64 (wrap64 (a2 - 1))] rfl (by (try simp only [List.map_toArray, List.map_cons, List.map_nil]); first | done | rfl | (simp only [List.length_drop, List.length_take]; rfl)) ?_; (with_reducible refine (flongref04_tell.calls (fun k_ => some k_ = (.slice Ao16 l0_0.length co16 : Value).ownBlock) (.slice Ao16 l0_0.length co16) l0_0 (fun k_ => some k_ = (.slice Ao17 l0_1.length co17 : Value).ownBlock) (.slice Ao17 l0_1.length co17) l0_1 2 (wrap64 (a2 - 1)) t257 t260 w0 _ ?side1 ?side2 ?side3 A73.out).mono ?_); (case side1 => repeat (first | (with_reducible first | exact HB.out | apply below_alloc | apply pw_below_drewN | apply below_drew1 | refine below_set ?_ GE224.out | refine below_set ?_ GE225.out) | exact HB.out)); (case side2 => exact Kd.R_tight rfl HO_225000.out); (case side3 => exact Kd.R_tight rfl HO_225001.out); rintro e w78 ⟨v258, v261, rfl, ho0, ho1, hb, hkp⟩; refine ⟨_, rfl, ?_⟩; have n0_ := Aside0.mk (blk_kept (by (with_reducible repeat (first | refine blk_drewN ?_ _ | refine blk_drew ?_ | refine blk_alloc ?_ _)); exact BK224.out) hkp (fun hs_ => Or.elim hs_ (fun e_ => (fun e_ => (Kd.R_ne HO_225000.out BK224.out (by decide)) e_) e_) (fun e_ => (fun e_ => (Kd.R_ne HO_225001.out BK224.out (by decide)) e_) e_))); have n1_ := Aside0.mk (blk_kept (by (with_reducible repeat (first | refine blk_drewN ?_ _ | refine blk_drew ?_ | refine blk_alloc ?_ _)); exact BK225.out) hkp (fun hs_ => Or.elim hs_ (fun e_ => (fun e_ => (Kd.R_ne HO_225000.out BK225.out (by decide)) e_) e_) (fun e_ => (fun e_ => (Kd.R_ne HO_225001.out BK225.out (by decide)) e_) e_))); have n2_ := Aside0.mk (Kd.R_mono (ok' := fun k_ => ((P0_0_ k_ ∨ P0_1_ k_) ∨ w.heap.size ≤ k_)) ho0 (fun k_ hk_ => Or.elim hk_ (fun hs_ => Or.elim hs_ (fun hs_ => (HO_225000.out.1 k_ (hs_).symm)) (fun hs_ => (HO_225001.out.1 k_ (hs_).symm))) (fun hn_ => (.inr (Nat.le_trans (by first | exact HK.out.1 | exact (show Kept w _ (fun k_ => P0_0_ k_ ∨ P0_1_ k_) from by repeat (first | (with_reducible first | exact HK.out | apply Kept.alloc | apply Kept.drewN | apply Kept.drew | refine Kept.setCell ?_ (.inr GW224.out) _ | refine Kept.setCell ?_ (.inr GW225.out) _) | exact HK.out)).1) hn_))))); have n3_ := Aside0.mk (Kd.R_mono (ok' := fun k_ => ((P0_0_ k_ ∨ P0_1_ k_) ∨ w.heap.size ≤ k_)) ho1 (fun k_ hk_ => Or.elim hk_ (fun hs_ => Or.elim hs_ (fun hs_ => (HO_225000.out.1 k_ (hs_).symm)) (fun hs_ => (HO_225001.out.1 k_ (hs_).symm))) (fun hn_ => (.inr (Nat.le_trans (by first | exact HK.out.1 | exact (show Kept w _ (fun k_ => P0_0_ k_ ∨ P0_1_ k_) from by repeat (first | (with_reducible first | exact HK.out | apply Kept.alloc | apply Kept.drewN | apply Kept.drew | refine Kept.setCell ?_ (.inr GW224.out) _ | refine Kept.setCell ?_ (.inr GW225.out) _) | exact HK.out)).1) hn_))))); have n4_ := Aside0.mk (Kept.then_ (S := (fun k_ => P0_0_ k_ ∨ P0_1_ k_)) (by repeat (first | (with_reducible first | exact HK.out | apply Kept.alloc | apply Kept.drewN | apply Kept.drew | refine Kept.setCell ?_ (.inr GW224.out) _ | refine Kept.setCell ?_ (.inr GW225.out) _) | exact HK.out)) hkp (fun k_ hs_ => Or.elim hs_ (fun e_ => (fun e_ => (HO_225000.out.1 k_ e_.symm)) e_) (fun e_ => (fun e_ => (HO_225001.out.1 k_ e_.symm)) e_))); have n5_ := Aside0.mk (hb); clear BK224; clear BK225; clear HK; clear HB; clear HO_225000; clear HO_225001; have BK224 := n0_; have BK225 := n1_; have HO259 := n2_; have HO262 := n3_; have HK := n4_; have HB := n5_; clear n0_ n1_ n2_ n3_ n4_ n5_; (try clear hb); (try clear hkp); (try clear ho0); (try clear ho1); obtain ⟨Ao79, co79, eo79⟩ := Kd.R_slice HO259.out; subst eo79; have hcz80_0 : w78.cell? ⟨gb225, 0, none⟩ = some (.slice none 0 0) := (blk_cell BK225.out 0).trans rfl; have hcz80_1 : w78.cell? ⟨gb225, 1, none⟩ = some (.slice none 0 0) := (blk_cell BK225.out 1).trans rfl; have hfz80_0 := blk_frozen BK225.out 0; have hfz80_1 := blk_frozen BK225.out 1; obtain ⟨Ao81, co81, eo81⟩ := Kd.R_slice HO262.out; subst eo81))
                                refine bodyPost_ret (results_ct rfl _ _ gb225 70 #[.slice Ao79 t257.length co79, .slice Ao81 t260.length co81] (0, 0) _ rfl (by (with_reducible repeat (first | refine blk_drewN ?_ _ | refine blk_drew ?_ | refine blk_alloc ?_ _)); refine blk_put (cs := #[.slice Ao79 t257.length co79, .slice none 0 0]) ?_ 1 _ rfl; (with_reducible repeat (first | refine blk_drewN ?_ _ | refine blk_drew ?_ | refine blk_alloc ?_ _)); refine blk_put (cs := #[.slice none 0 0, .slice none 0 0]) ?_ 0 _ rfl; (with_reducible repeat (first | refine blk_drewN ?_ _ | refine blk_drew ?_ | refine blk_alloc ?_ _)); exact BK225.out) Tryd.underlying70 rfl (by kernel_rfl)) rfl ?_
                                exact ⟨_, _, by first | rfl | (simp [errW_none, errW_some] <;> rfl) | (simp [*, errW_none, errW_some] <;> rfl), by (with_reducible repeat (first | apply Kd.R_alloc | apply Kd.R_drewN | apply Kd.R_drew)); exact Kd.R_mono (Kd.R_far (p := ⟨gb225, 1, none⟩) (Kd.R_far (p := ⟨gb225, 0, none⟩) (Kd.R_types HO259.out BK225.out (by decide)) (fun _ hk => hk.2) (.slice Ao79 t257.length co79)) (fun _ hk => hk.2) (.slice Ao81 t260.length co81)) (fun _ hk => hk.1), by (with_reducible repeat (first | apply Kd.R_alloc | apply Kd.R_drewN | apply Kd.R_drew)); exact Kd.R_mono (Kd.R_far (p := ⟨gb225, 1, none⟩) (Kd.R_far (p := ⟨gb225, 0, none⟩) (Kd.R_types HO262.out BK225.out (by decide)) (fun _ hk => hk.2) (.slice Ao79 t257.length co79)) (fun _ hk => hk.2) (.slice Ao81 t260.length co81)) (fun _ hk => hk.1), by repeat (first | (with_reducible first | exact HB.out | apply below_alloc | apply pw_below_drewN | apply below_drew1 | refine below_set ?_ GE224.out | refine below_set ?_ GE225.out) | exact HB.out), by repeat (first | (with_reducible first | exact HK.out | apply Kept.alloc | apply Kept.drewN | apply Kept.drew | refine Kept.setCell ?_ (.inr GW224.out) _ | refine Kept.setCell ?_ (.inr GW225.out) _) | exact HK.out)⟩
                              · rw [if_neg c72] at H
                                have c72b0 : decide (t256 < 0) = false := decide_eq_false c72
                                clear c72
                                replace H := Option.bind_eq_some_iff.mp H
                                obtain ⟨t263, A820, H⟩ := H
                                replace H : ((flongref04_say.f l0_0 l0_1 1 (wrap32 (t263))).bind fun bt264 => (some (bt264.1, bt264.2, t249))) = some (r1, r2, r3) := H
                                have A82 := Aside0.mk A820
                                clear A820
                                replace H := Option.bind_eq_some_iff.mp H
                                obtain ⟨⟨t264, t267⟩, A830, H⟩ := H
                                replace H : (some (t264, t267, t249)) = some (r1, r2, r3) := H
                                have A83 := Aside0.mk A830
                                clear A830
                                simp only [Option.some.injEq, Prod.mk.injEq] at H
                                obtain ⟨rfl, rfl, rfl⟩ := H
                                try go_wp2_with (first | ((with_reducible refine gate_callee (f := 59) rfl ?_); refine goesL_ (some 75) rfl rfl Tryd.func59 (by kernel_rfl) rfl #[.slice (some ad247) l1.length c1, .int .i64 a2] rfl (by (try simp only [List.map_toArray, List.map_cons, List.map_nil]); first | done | rfl | (simp only [List.length_drop, List.length_take]; rfl)) ?_; (with_reducible refine (flongref04_name.calls kj57 _ _ l1 a2 t248 t249 _ ?side1 ?side2 A61.out).mono ?_); (case side1 => exact Kd.C_kept_now HR1.out (by repeat (first | (with_reducible first | exact HK.out | apply Kept.alloc | apply Kept.drewN | apply Kept.drew | refine Kept.setCell ?_ (.inr GW224.out) _ | refine Kept.setCell ?_ (.inr GW225.out) _) | exact HK.out))); (case side2 => exact HC1.out); rintro e w84 ⟨rfl, hb⟩; refine ⟨_, rfl, ?_⟩; have n0_ := Aside0.mk (Kd.R_below (by (with_reducible repeat (first | apply Kd.R_alloc | apply Kd.R_drewN | apply Kd.R_drew)); exact HO_225000.out) hb); have n1_ := Aside0.mk (Kd.R_below (by (with_reducible repeat (first | apply Kd.R_alloc | apply Kd.R_drewN | apply Kd.R_drew)); exact HO_225001.out) hb); have n2_ := Aside0.mk (blk_below (g := gb224) (o := .cells #[.slice Ao16 l0_0.length co16, .slice Ao17 l0_1.length co17] 70 (0, 0)) (by (with_reducible repeat (first | refine blk_drewN ?_ _ | refine blk_drew ?_ | refine blk_alloc ?_ _)); exact BK224.out) hb); have n3_ := Aside0.mk (blk_below (g := gb225) (o := .cells #[.slice none 0 0, .slice none 0 0] 70 (0, 0)) (by (with_reducible repeat (first | refine blk_drewN ?_ _ | refine blk_drew ?_ | refine blk_alloc ?_ _)); exact BK225.out) hb); have n4_ := Aside0.mk (Kept.below (S := (fun k_ => P0_0_ k_ ∨ P0_1_ k_)) (by repeat (first | (with_reducible first | exact HK.out | apply Kept.alloc | apply Kept.drewN | apply Kept.drew | refine Kept.setCell ?_ (.inr GW224.out) _ | refine Kept.setCell ?_ (.inr GW225.out) _) | exact HK.out)) hb); have n5_ := Aside0.mk (below_step (by repeat (first | (with_reducible first | exact HB.out | apply below_alloc | apply pw_below_drewN | apply below_drew1 | refine below_set ?_ GE224.out | refine below_set ?_ GE225.out) | exact HB.out)) hb); clear HO_225000; clear HO_225001; clear BK224; clear BK225; clear HK; clear HB; have HO_225000 := n0_; have HO_225001 := n1_; have BK224 := n2_; have BK225 := n3_; have HK := n4_; have HB := n5_; clear n0_ n1_ n2_ n3_ n4_ n5_; (try clear hb); (try clear hb2); (try clear hk); (try clear hi)) | ((with_reducible refine gate_callee (f := 21) rfl ?_); refine goesL_ (some 86) rfl rfl Tryd.func21 (by kernel_rfl) rfl #[.string t248] rfl (by (try simp only [List.map_toArray, List.map_cons, List.map_nil]); first | done | rfl | (simp only [List.length_drop, List.length_take]; rfl)) ?_; (with_reducible refine (flongref04_Name.calls kj57 t248 t256 _ A71.out).mono ?_); rintro e w85 ⟨rfl, hb⟩; refine ⟨_, rfl, ?_⟩; have n0_ := Aside0.mk (Kd.R_below (by (with_reducible repeat (first | apply Kd.R_alloc | apply Kd.R_drewN | apply Kd.R_drew)); exact HO_225000.out) hb); have n1_ := Aside0.mk (Kd.R_below (by (with_reducible repeat (first | apply Kd.R_alloc | apply Kd.R_drewN | apply Kd.R_drew)); exact HO_225001.out) hb); have n2_ := Aside0.mk (blk_below (g := gb224) (o := .cells #[.slice Ao16 l0_0.length co16, .slice Ao17 l0_1.length co17] 70 (0, 0)) (by (with_reducible repeat (first | refine blk_drewN ?_ _ | refine blk_drew ?_ | refine blk_alloc ?_ _)); exact BK224.out) hb); have n3_ := Aside0.mk (blk_below (g := gb225) (o := .cells #[.slice none 0 0, .slice none 0 0] 70 (0, 0)) (by (with_reducible repeat (first | refine blk_drewN ?_ _ | refine blk_drew ?_ | refine blk_alloc ?_ _)); exact BK225.out) hb); have n4_ := Aside0.mk (Kept.below (S := (fun k_ => P0_0_ k_ ∨ P0_1_ k_)) (by repeat (first | (with_reducible first | exact HK.out | apply Kept.alloc | apply Kept.drewN | apply Kept.drew | refine Kept.setCell ?_ (.inr GW224.out) _ | refine Kept.setCell ?_ (.inr GW225.out) _) | exact HK.out)) hb); have n5_ := Aside0.mk (below_step (by repeat (first | (with_reducible first | exact HB.out | apply below_alloc | apply pw_below_drewN | apply below_drew1 | refine below_set ?_ GE224.out | refine below_set ?_ GE225.out) | exact HB.out)) hb); clear HO_225000; clear HO_225001; clear BK224; clear BK225; clear HK; clear HB; have HO_225000 := n0_; have HO_225001 := n1_; have BK224 := n2_; have BK225 := n3_; have HK := n4_; have HB := n5_; clear n0_ n1_ n2_ n3_ n4_ n5_; (try clear hb); (try clear hb2); (try clear hk); (try clear hi)))
                                have n0_ := Aside0.mk (Kd.R_drew HO_225000.out)
                                have n1_ := Aside0.mk (Kd.R_drew HO_225001.out)
                                have n2_ := Aside0.mk (blk_drew BK224.out)
                                have n3_ := Aside0.mk (blk_drew BK225.out)
                                have n4_ := Aside0.mk (Kept.drew HK.out)
                                have n5_ := Aside0.mk (below_drew1 HB.out)
                                clear HO_225000
                                clear HO_225001
                                clear BK224
                                clear BK225
                                clear HK
                                clear HB
                                have HO_225000 := n0_
                                have HO_225001 := n1_
                                have BK224 := n2_
                                have BK225 := n3_
                                have HK := n4_
                                have HB := n5_
                                clear n0_ n1_ n2_ n3_ n4_ n5_
                                refine start_ (n := 8) (S := fun w' => w'.cell? ⟨gb224, 0, none⟩ = some (.slice Ao16 l0_0.length co16) ∧ w'.cell? ⟨gb224, 1, none⟩ = some (.slice Ao17 l0_1.length co17)) (ds := []) #[false, false, false, false, false, false, false, false] (by kernel_rfl) rfl rfl ⟨(blk_cell BK224.out 0).trans rfl, (blk_cell BK224.out 1).trans rfl⟩ (fun hHeld => ?_); refine with_tabW flongref04_escape.tab27 flongref04_escape.bits27 (fun HT_ HW_ => ?_)
                                generalize w85.drew = w86 at HO_225000 HO_225001 BK224 BK225 HK HB hHeld ⊢
                                refine pure_ (i := 1) (N := some 93) (v := ?_) (a' := ?_) #[false, true, false, false, false, false, false, false] rfl rfl (any_of HT_.out (by kernel_rfl)) (fun _ _ _ h => h) (Or.inl ⟨by rfl, ?_⟩) ?_ ?_
                                rotate_left
                                · intro w'
                                  go_simp
                                  with_reducible rfl
                                rotate_left
                                · simp only [Act.put, List.setIfInBounds_toArray, List.set_cons_zero, List.set_cons_succ, i64_w, i32_w]
                                  rfl
                                refine pure_ (i := 5) (N := some 97) (v := ?_) (a' := ?_) #[false, true, false, false, false, true, false, false] rfl rfl (any_of HT_.out (by kernel_rfl)) (fun _ _ _ h => h) (Or.inl ⟨by rfl, ?_⟩) ?_ ?_
                                rotate_left
                                · intro w'
                                  go_simp
                                  with_reducible rfl
                                rotate_left
                                · simp only [Act.put, List.setIfInBounds_toArray, List.set_cons_zero, List.set_cons_succ, i64_w, i32_w]
                                  rfl
                                refine take_ (i := 0) (N := some 92) (v := ?_) (a' := ?_) #[true, true, false, false, false, true, false, false] rfl rfl (take_ofW HT_.out HW_.out (by kernel_rfl)) (fun _ _ _ h => h) (Or.inl ⟨by rfl, ?_⟩) hHeld ?_ ?_
                                rotate_left
                                · rintro w' ⟨s0, s1⟩
                                  go_simp
                                  with_reducible rfl
                                rotate_left
                                · simp only [Act.put, List.setIfInBounds_toArray, List.set_cons_zero, List.set_cons_succ, i64_w, i32_w]
                                  rfl
                                refine one_ (i := 2) (N := some 94) #[true, true, true, false, false, true, false, false] rfl rfl (one_of HT_.out (by kernel_rfl)) (by decide) (fun K hK => ?_)
                                refine goes_ Tryd.func21 (by kernel_rfl) rfl #[.string t248] (by rfl) rfl rfl (by (try simp only [List.map_toArray, List.map_cons, List.map_nil]); first | done | rfl | (simp only [List.length_drop, List.length_take]; rfl)) ?_
                                with_reducible refine (flongref04_Name.calls kj57 t248 t263 _ A82.out).mono ?_
                                rintro e w87 ⟨rfl, hb⟩
                                refine ⟨_, rfl, ?_⟩
                                have n0_ := Aside0.mk (Kd.R_below (by (with_reducible repeat (first | apply Kd.R_alloc | apply Kd.R_drewN | apply Kd.R_drew)); exact HO_225000.out) hb)
                                have n1_ := Aside0.mk (Kd.R_below (by (with_reducible repeat (first | apply Kd.R_alloc | apply Kd.R_drewN | apply Kd.R_drew)); exact HO_225001.out) hb)
                                have n2_ := Aside0.mk (blk_below (g := gb224) (o := .cells #[.slice Ao16 l0_0.length co16, .slice Ao17 l0_1.length co17] 70 (0, 0)) (by (with_reducible repeat (first | refine blk_drewN ?_ _ | refine blk_drew ?_ | refine blk_alloc ?_ _)); exact BK224.out) hb)
                                have n3_ := Aside0.mk (blk_below (g := gb225) (o := .cells #[.slice none 0 0, .slice none 0 0] 70 (0, 0)) (by (with_reducible repeat (first | refine blk_drewN ?_ _ | refine blk_drew ?_ | refine blk_alloc ?_ _)); exact BK225.out) hb)
                                have n4_ := Aside0.mk (Kept.below (S := (fun k_ => P0_0_ k_ ∨ P0_1_ k_)) (by repeat (first | (with_reducible first | exact HK.out | apply Kept.alloc | apply Kept.drewN | apply Kept.drew | refine Kept.setCell ?_ (.inr GW224.out) _ | refine Kept.setCell ?_ (.inr GW225.out) _) | exact HK.out)) hb)
                                have n5_ := Aside0.mk (below_step (by repeat (first | (with_reducible first | exact HB.out | apply below_alloc | apply pw_below_drewN | apply below_drew1 | refine below_set ?_ GE224.out | refine below_set ?_ GE225.out) | exact HB.out)) hb)
                                clear HO_225000
                                clear HO_225001
                                clear BK224
                                clear BK225
                                clear HK
                                clear HB
                                have HO_225000 := n0_
                                have HO_225001 := n1_
                                have BK224 := n2_
                                have BK225 := n3_
                                have HK := n4_
                                have HB := n5_
                                clear n0_ n1_ n2_ n3_ n4_ n5_
                                (try clear hb)
                                (try clear hb2)
                                (try clear hk)
                                (try clear hi)
                                refine hK.out _ _ ⟨(blk_cell BK224.out 0).trans rfl, (blk_cell BK224.out 1).trans rfl⟩ (fun hHeld => ?_)
                                clear hK K
                                refine norm_ (a' := ?_) ?_ ?_
                                rotate_left
                                · show Act.put _ (some 94) _ = _
                                  simp only [Act.put, List.setIfInBounds_toArray, List.set_cons_zero, List.set_cons_succ, i64_w, i32_w]
                                  rfl
                                refine pure_ (i := 3) (N := some 95) (v := ?_) (a' := ?_) #[true, true, true, true, false, true, false, false] rfl rfl (any_of HT_.out (by kernel_rfl)) (fun _ _ _ h => h) (Or.inl ⟨by rfl, ?_⟩) ?_ ?_
                                rotate_left
                                · intro w'
                                  go_simp
                                  with_reducible rfl
                                rotate_left
                                · simp only [Act.put, List.setIfInBounds_toArray, List.set_cons_zero, List.set_cons_succ, i64_w, i32_w]
                                  rfl
                                refine one_ (i := 4) (N := some 96) #[true, true, true, true, true, true, false, false] rfl rfl (one_of HT_.out (by kernel_rfl)) (by decide) (fun K hK => ?_)
                                refine goes_ Tryd.func45 (by kernel_rfl) rfl #[.agg #[.slice Ao16 l0_0.length co16, .slice Ao17 l0_1.length co17], .int .i64 1, .int .i32 (wrap32 (t263))] (by rfl) rfl rfl (by (try simp only [List.map_toArray, List.map_cons, List.map_nil]); first | done | rfl | (simp only [List.length_drop, List.length_take]; rfl)) ?_
                                with_reducible refine (flongref04_say.calls (fun k_ => some k_ = (.slice Ao16 l0_0.length co16 : Value).ownBlock) (.slice Ao16 l0_0.length co16) l0_0 (fun k_ => some k_ = (.slice Ao17 l0_1.length co17 : Value).ownBlock) (.slice Ao17 l0_1.length co17) l0_1 1 (wrap32 (t263)) t264 t267 w0 _ ?side1 ?side2 ?side3 A83.out).mono ?_
                                (case side1 => repeat (first | (with_reducible first | exact HB.out | apply below_alloc | apply pw_below_drewN | apply below_drew1 | refine below_set ?_ GE224.out | refine below_set ?_ GE225.out) | exact HB.out))
                                (case side2 => exact Kd.R_tight rfl HO_225000.out)
                                (case side3 => exact Kd.R_tight rfl HO_225001.out)
                                rintro e w88 ⟨v265, v268, rfl, ho0, ho1, hb, hkp⟩
                                refine ⟨_, rfl, ?_⟩
                                have n0_ := Aside0.mk (blk_kept (by (with_reducible repeat (first | refine blk_drewN ?_ _ | refine blk_drew ?_ | refine blk_alloc ?_ _)); exact BK224.out) hkp (fun hs_ => Or.elim hs_ (fun e_ => (fun e_ => (Kd.R_ne HO_225000.out BK224.out (by decide)) e_) e_) (fun e_ => (fun e_ => (Kd.R_ne HO_225001.out BK224.out (by decide)) e_) e_)))
                                have n1_ := Aside0.mk (blk_kept (by (with_reducible repeat (first | refine blk_drewN ?_ _ | refine blk_drew ?_ | refine blk_alloc ?_ _)); exact BK225.out) hkp (fun hs_ => Or.elim hs_ (fun e_ => (fun e_ => (Kd.R_ne HO_225000.out BK225.out (by decide)) e_) e_) (fun e_ => (fun e_ => (Kd.R_ne HO_225001.out BK225.out (by decide)) e_) e_)))
                                have n2_ := Aside0.mk (Kd.R_mono (ok' := fun k_ => ((P0_0_ k_ ∨ P0_1_ k_) ∨ w.heap.size ≤ k_)) ho0 (fun k_ hk_ => Or.elim hk_ (fun hs_ => Or.elim hs_ (fun hs_ => (HO_225000.out.1 k_ (hs_).symm)) (fun hs_ => (HO_225001.out.1 k_ (hs_).symm))) (fun hn_ => (.inr (Nat.le_trans (by first | exact HK.out.1 | exact (show Kept w _ (fun k_ => P0_0_ k_ ∨ P0_1_ k_) from by repeat (first | (with_reducible first | exact HK.out | apply Kept.alloc | apply Kept.drewN | apply Kept.drew | refine Kept.setCell ?_ (.inr GW224.out) _ | refine Kept.setCell ?_ (.inr GW225.out) _) | exact HK.out)).1) hn_)))))
                                have n3_ := Aside0.mk (Kd.R_mono (ok' := fun k_ => ((P0_0_ k_ ∨ P0_1_ k_) ∨ w.heap.size ≤ k_)) ho1 (fun k_ hk_ => Or.elim hk_ (fun hs_ => Or.elim hs_ (fun hs_ => (HO_225000.out.1 k_ (hs_).symm)) (fun hs_ => (HO_225001.out.1 k_ (hs_).symm))) (fun hn_ => (.inr (Nat.le_trans (by first | exact HK.out.1 | exact (show Kept w _ (fun k_ => P0_0_ k_ ∨ P0_1_ k_) from by repeat (first | (with_reducible first | exact HK.out | apply Kept.alloc | apply Kept.drewN | apply Kept.drew | refine Kept.setCell ?_ (.inr GW224.out) _ | refine Kept.setCell ?_ (.inr GW225.out) _) | exact HK.out)).1) hn_)))))
                                have n4_ := Aside0.mk (Kept.then_ (S := (fun k_ => P0_0_ k_ ∨ P0_1_ k_)) (by repeat (first | (with_reducible first | exact HK.out | apply Kept.alloc | apply Kept.drewN | apply Kept.drew | refine Kept.setCell ?_ (.inr GW224.out) _ | refine Kept.setCell ?_ (.inr GW225.out) _) | exact HK.out)) hkp (fun k_ hs_ => Or.elim hs_ (fun e_ => (fun e_ => (HO_225000.out.1 k_ e_.symm)) e_) (fun e_ => (fun e_ => (HO_225001.out.1 k_ e_.symm)) e_)))
                                have n5_ := Aside0.mk (hb)
                                clear BK224
                                clear BK225
                                clear HK
                                clear HB
                                clear HO_225000
                                clear HO_225001
                                have BK224 := n0_
                                have BK225 := n1_
                                have HO266 := n2_
                                have HO269 := n3_
                                have HK := n4_
                                have HB := n5_
                                clear n0_ n1_ n2_ n3_ n4_ n5_
                                (try clear hb)
                                (try clear hkp)
                                (try clear ho0)
                                (try clear ho1)
                                obtain ⟨Ao89, co89, eo89⟩ := Kd.R_slice HO266.out
                                (first | subst eo89 | (injection eo89 with f1_ f2_ f3_; have f4_ := f1_.symm; have f5_ := f3_.symm; clear f1_ f2_ f3_; subst f4_; subst f5_))
                                obtain ⟨Ao91, co91, eo91⟩ := Kd.R_slice HO269.out
                                (first | subst eo91 | (injection eo91 with f1_ f2_ f3_; have f4_ := f1_.symm; have f5_ := f3_.symm; clear f1_ f2_ f3_; subst f4_; subst f5_))
                                refine hK.out _ _ ⟨(blk_cell BK224.out 0).trans rfl, (blk_cell BK224.out 1).trans rfl⟩ (fun hHeld => ?_)
                                clear hK K
                                refine norm_ (a' := ?_) ?_ ?_
                                rotate_left
                                · show Act.put _ (some 96) _ = _
                                  simp only [Act.put, List.setIfInBounds_toArray, List.set_cons_zero, List.set_cons_succ, i64_w, i32_w]
                                  rfl
                                refine one_ (i := 6) (N := none) #[true, true, true, true, true, true, true, false] rfl rfl (one_of HT_.out (by kernel_rfl)) (by decide) (fun K hK => ?_)
                                have hs90 : w88.cell? ⟨gb225, 0, none⟩ = some (.slice none 0 0) := (blk_cell BK225.out 0).trans rfl
                                have hfs90 := blk_frozen BK225.out 0
                                have hns90_0 := NB224_225.out
                                have hms90_0 := NB225_224.out
                                have hs92 : w88.cell? ⟨gb225, 1, none⟩ = some (.slice none 0 0) := (blk_cell BK225.out 1).trans rfl
                                have hfs92 := blk_frozen BK225.out 1
                                have hns92_0 := NB224_225.out
                                have hms92_0 := NB225_224.out
                                refine skip_ (w1 := ?_) (by rfl) rfl ?_ ?_
                                rotate_left
                                · go_simp
                                  rfl
                                refine hK.out _ _ ⟨((cell_far (p := ⟨gb225, _, none⟩) NB224_225.out _).trans (((cell_far (p := ⟨gb225, _, none⟩) NB224_225.out _).trans (hHeld.1)))), ((cell_far (p := ⟨gb225, _, none⟩) NB224_225.out _).trans (((cell_far (p := ⟨gb225, _, none⟩) NB224_225.out _).trans (hHeld.2))))⟩ (fun hHeld => ?_)
                                clear hK K
                                refine pure_ (i := 7) (N := some 7) (v := ?_) (a' := ?_) #[true, true, true, true, true, true, true, true] rfl rfl (any_of HT_.out (by kernel_rfl)) (fun _ _ _ h => h) (Or.inl ⟨by rfl, ?_⟩) ?_ ?_
                                rotate_left
                                · intro w'
                                  go_simp
                                  with_reducible rfl
                                rotate_left
                                · simp only [Act.put, List.setIfInBounds_toArray, List.set_cons_zero, List.set_cons_succ, i64_w, i32_w]
                                  rfl
                                refine done_ (done_of HT_.out (by kernel_rfl)) ?_
                                try go_wp2
                                refine bodyPost_ret (results_ct rfl _ _ gb225 70 #[.slice Ao89 t264.length co89, .slice Ao91 t267.length co91] (0, 0) _ rfl (by (with_reducible repeat (first | refine blk_drewN ?_ _ | refine blk_drew ?_ | refine blk_alloc ?_ _)); refine blk_put (cs := #[.slice Ao89 t264.length co89, .slice none 0 0]) ?_ 1 _ rfl; (with_reducible repeat (first | refine blk_drewN ?_ _ | refine blk_drew ?_ | refine blk_alloc ?_ _)); refine blk_put (cs := #[.slice none 0 0, .slice none 0 0]) ?_ 0 _ rfl; (with_reducible repeat (first | refine blk_drewN ?_ _ | refine blk_drew ?_ | refine blk_alloc ?_ _)); exact BK225.out) Tryd.underlying70 rfl (by kernel_rfl)) rfl ?_
                                exact ⟨_, _, by first | rfl | (simp [errW_none, errW_some] <;> rfl) | (simp [*, errW_none, errW_some] <;> rfl), by (with_reducible repeat (first | apply Kd.R_alloc | apply Kd.R_drewN | apply Kd.R_drew)); exact Kd.R_mono (Kd.R_far (p := ⟨gb225, 1, none⟩) (Kd.R_far (p := ⟨gb225, 0, none⟩) (Kd.R_types HO266.out BK225.out (by decide)) (fun _ hk => hk.2) (.slice Ao89 t264.length co89)) (fun _ hk => hk.2) (.slice Ao91 t267.length co91)) (fun _ hk => hk.1), by (with_reducible repeat (first | apply Kd.R_alloc | apply Kd.R_drewN | apply Kd.R_drew)); exact Kd.R_mono (Kd.R_far (p := ⟨gb225, 1, none⟩) (Kd.R_far (p := ⟨gb225, 0, none⟩) (Kd.R_types HO269.out BK225.out (by decide)) (fun _ hk => hk.2) (.slice Ao89 t264.length co89)) (fun _ hk => hk.2) (.slice Ao91 t267.length co91)) (fun _ hk => hk.1), by repeat (first | (with_reducible first | exact HB.out | apply below_alloc | apply pw_below_drewN | apply below_drew1 | refine below_set ?_ GE224.out | refine below_set ?_ GE225.out) | exact HB.out), by repeat (first | (with_reducible first | exact HK.out | apply Kept.alloc | apply Kept.drewN | apply Kept.drew | refine Kept.setCell ?_ (.inr GW224.out) _ | refine Kept.setCell ?_ (.inr GW225.out) _) | exact HK.out)⟩
                          · replace c60 := Bool.eq_false_iff.mpr c60
                            subst c60
                            have H1 : (if (rd l1 a2) = 102 then ((flongref04_name.f kj57 l1 (wrap64 (a2 + 1))).bind fun bt270 => (if bt270.2 < 0 then ((flongref04_tell.f l0_0 l0_1 1 (wrap64 (a2 - 1))).bind fun bt272 => (some (bt272.1, bt272.2, (l1.length : Int)))) else ((flongref04_Font.f kj57 bt270.1).bind fun t278 => (if t278 < 0 then ((flongref04_tell.f l0_0 l0_1 2 (wrap64 (a2 - 1))).bind fun bt279 => (some (bt279.1, bt279.2, bt270.2))) else ((flongref04_Font.f kj57 bt270.1).bind fun t285 => ((flongref04_say.f l0_0 l0_1 3 (wrap32 (t285))).bind fun bt286 => (some (bt286.1, bt286.2, bt270.2)))))))) else ((flongref04_tell.f l0_0 l0_1 1 (wrap64 (a2 - 1))).bind fun bt292 => (some (bt292.1, bt292.2, wrap64 (a2 + 1))))) = some (r1, r2, r3) := by rw [if_neg (show ¬ (false = true) by decide)] at H; exact H
                            clear H
                            have H := H1
                            clear H1
                            by_cases c93 : (rd l1 a2) = 102
                            · rw [if_pos c93] at H
                              have c93b0 : ((rd l1 a2) == 102) = true := beq_iff_eq.mpr c93
                              have c93b1 : ((rd l1 a2) != 102) = false := bne_eq_false_iff_eq.mpr c93
                              clear c93
                              replace H := Option.bind_eq_some_iff.mp H
                              obtain ⟨⟨t270, t271⟩, A940, H⟩ := H
                              replace H : (if t271 < 0 then ((flongref04_tell.f l0_0 l0_1 1 (wrap64 (a2 - 1))).bind fun bt272 => (some (bt272.1, bt272.2, (l1.length : Int)))) else ((flongref04_Font.f kj57 t270).bind fun t278 => (if t278 < 0 then ((flongref04_tell.f l0_0 l0_1 2 (wrap64 (a2 - 1))).bind fun bt279 => (some (bt279.1, bt279.2, t271))) else ((flongref04_Font.f kj57 t270).bind fun t285 => ((flongref04_say.f l0_0 l0_1 3 (wrap32 (t285))).bind fun bt286 => (some (bt286.1, bt286.2, t271))))))) = some (r1, r2, r3) := H
                              have A94 := Aside0.mk A940
                              clear A940
                              by_cases c95 : t271 < 0
                              · rw [if_pos c95] at H
                                have c95b0 : decide (t271 < 0) = true := decide_eq_true c95
                                clear c95
                                replace H := Option.bind_eq_some_iff.mp H
                                obtain ⟨⟨t272, t275⟩, A960, H⟩ := H
                                replace H : (some (t272, t275, (l1.length : Int))) = some (r1, r2, r3) := H
                                have A96 := Aside0.mk A960
                                clear A960
                                simp only [Option.some.injEq, Prod.mk.injEq] at H
                                obtain ⟨rfl, rfl, rfl⟩ := H
                                go_wp2_with (first | ((with_reducible refine gate_callee (f := 59) rfl ?_); refine goesL_ (some 104) rfl rfl Tryd.func59 (by kernel_rfl) rfl #[.slice (some ad247) l1.length c1, .int .i64 (wrap64 (a2 + 1))] rfl (by (try simp only [List.map_toArray, List.map_cons, List.map_nil]); first | done | rfl | (simp only [List.length_drop, List.length_take]; rfl)) ?_; (with_reducible refine (flongref04_name.calls kj57 _ _ l1 (wrap64 (a2 + 1)) t270 t271 _ ?side1 ?side2 A94.out).mono ?_); (case side1 => exact Kd.C_kept_now HR1.out (by repeat (first | (with_reducible first | exact HK.out | apply Kept.alloc | apply Kept.drewN | apply Kept.drew | refine Kept.setCell ?_ (.inr GW224.out) _ | refine Kept.setCell ?_ (.inr GW225.out) _) | exact HK.out))); (case side2 => exact HC1.out); rintro e w97 ⟨rfl, hb⟩; refine ⟨_, rfl, ?_⟩; have n0_ := Aside0.mk (Kd.R_below (by (with_reducible repeat (first | apply Kd.R_alloc | apply Kd.R_drewN | apply Kd.R_drew)); exact HO_225000.out) hb); have n1_ := Aside0.mk (Kd.R_below (by (with_reducible repeat (first | apply Kd.R_alloc | apply Kd.R_drewN | apply Kd.R_drew)); exact HO_225001.out) hb); have n2_ := Aside0.mk (blk_below (g := gb224) (o := .cells #[.slice Ao16 l0_0.length co16, .slice Ao17 l0_1.length co17] 70 (0, 0)) (by (with_reducible repeat (first | refine blk_drewN ?_ _ | refine blk_drew ?_ | refine blk_alloc ?_ _)); exact BK224.out) hb); have n3_ := Aside0.mk (blk_below (g := gb225) (o := .cells #[.slice none 0 0, .slice none 0 0] 70 (0, 0)) (by (with_reducible repeat (first | refine blk_drewN ?_ _ | refine blk_drew ?_ | refine blk_alloc ?_ _)); exact BK225.out) hb); have n4_ := Aside0.mk (Kept.below (S := (fun k_ => P0_0_ k_ ∨ P0_1_ k_)) (by repeat (first | (with_reducible first | exact HK.out | apply Kept.alloc | apply Kept.drewN | apply Kept.drew | refine Kept.setCell ?_ (.inr GW224.out) _ | refine Kept.setCell ?_ (.inr GW225.out) _) | exact HK.out)) hb); have n5_ := Aside0.mk (below_step (by repeat (first | (with_reducible first | exact HB.out | apply below_alloc | apply pw_below_drewN | apply below_drew1 | refine below_set ?_ GE224.out | refine below_set ?_ GE225.out) | exact HB.out)) hb); clear HO_225000; clear HO_225001; clear BK224; clear BK225; clear HK; clear HB; have HO_225000 := n0_; have HO_225001 := n1_; have BK224 := n2_; have BK225 := n3_; have HK := n4_; have HB := n5_; clear n0_ n1_ n2_ n3_ n4_ n5_; (try clear hb); (try clear hb2); (try clear hk); (try clear hi); have hnb98 := NB224_225.out; have hnc98 := NB225_224.out; have hcz99_0 : w97.cell? ⟨gb224, 0, none⟩ = some (.slice Ao16 l0_0.length co16) := (blk_cell BK224.out 0).trans rfl; have hcz99_1 : w97.cell? ⟨gb224, 1, none⟩ = some (.slice Ao17 l0_1.length co17) := (blk_cell BK224.out 1).trans rfl; have hfz99_0 := blk_frozen BK224.out 0; have hfz99_1 := blk_frozen BK224.out 1) | ((with_reducible refine gate_callee (f := 46) rfl ?_); refine goesL_ (some 111) rfl rfl Tryd.func46 (by kernel_rfl) rfl #[.agg #[.slice Ao16 l0_0.length co16, .slice Ao17 l0_1.length co17], .int .i64 1, .int .i64 (wrap64 (a2 - 1))] rfl (by (try simp only [List.map_toArray, List.map_cons, List.map_nil]); first | done | rfl | (simp only [List.length_drop, List.length_take]; rfl)) ?_; (with_reducible refine (flongref04_tell.calls (fun k_ => some k_ = (.slice Ao16 l0_0.length co16 : Value).ownBlock) (.slice Ao16 l0_0.length co16) l0_0 (fun k_ => some k_ = (.slice Ao17 l0_1.length co17 : Value).ownBlock) (.slice Ao17 l0_1.length co17) l0_1 1 (wrap64 (a2 - 1)) t272 t275 w0 _ ?side1 ?side2 ?side3 A96.out).mono ?_); (case side1 => repeat (first | (with_reducible first | exact HB.out | apply below_alloc | apply pw_below_drewN | apply below_drew1 | refine below_set ?_ GE224.out | refine below_set ?_ GE225.out) | exact HB.out)); (case side2 => exact Kd.R_tight rfl HO_225000.out); (case side3 => exact Kd.R_tight rfl HO_225001.out); rintro e w100 ⟨v273, v276, rfl, ho0, ho1, hb, hkp⟩; refine ⟨_, rfl, ?_⟩; have n0_ := Aside0.mk (blk_kept (by (with_reducible repeat (first | refine blk_drewN ?_ _ | refine blk_drew ?_ | refine blk_alloc ?_ _)); exact BK224.out) hkp (fun hs_ => Or.elim hs_ (fun e_ => (fun e_ => (Kd.R_ne HO_225000.out BK224.out (by decide)) e_) e_) (fun e_ => (fun e_ => (Kd.R_ne HO_225001.out BK224.out (by decide)) e_) e_))); have n1_ := Aside0.mk (blk_kept (by (with_reducible repeat (first | refine blk_drewN ?_ _ | refine blk_drew ?_ | refine blk_alloc ?_ _)); exact BK225.out) hkp (fun hs_ => Or.elim hs_ (fun e_ => (fun e_ => (Kd.R_ne HO_225000.out BK225.out (by decide)) e_) e_) (fun e_ => (fun e_ => (Kd.R_ne HO_225001.out BK225.out (by decide)) e_) e_))); have n2_ := Aside0.mk (Kd.R_mono (ok' := fun k_ => ((P0_0_ k_ ∨ P0_1_ k_) ∨ w.heap.size ≤ k_)) ho0 (fun k_ hk_ => Or.elim hk_ (fun hs_ => Or.elim hs_ (fun hs_ => (HO_225000.out.1 k_ (hs_).symm)) (fun hs_ => (HO_225001.out.1 k_ (hs_).symm))) (fun hn_ => (.inr (Nat.le_trans (by first | exact HK.out.1 | exact (show Kept w _ (fun k_ => P0_0_ k_ ∨ P0_1_ k_) from by repeat (first | (with_reducible first | exact HK.out | apply Kept.alloc | apply Kept.drewN | apply Kept.drew | refine Kept.setCell ?_ (.inr GW224.out) _ | refine Kept.setCell ?_ (.inr GW225.out) _) | exact HK.out)).1) hn_))))); have n3_ := Aside0.mk (Kd.R_mono (ok' := fun k_ => ((P0_0_ k_ ∨ P0_1_ k_) ∨ w.heap.size ≤ k_)) ho1 (fun k_ hk_ => Or.elim hk_ (fun hs_ => Or.elim hs_ (fun hs_ => (HO_225000.out.1 k_ (hs_).symm)) (fun hs_ => (HO_225001.out.1 k_ (hs_).symm))) (fun hn_ => (.inr (Nat.le_trans (by first | exact HK.out.1 | exact (show Kept w _ (fun k_ => P0_0_ k_ ∨ P0_1_ k_) from by repeat (first | (with_reducible first | exact HK.out | apply Kept.alloc | apply Kept.drewN | apply Kept.drew | refine Kept.setCell ?_ (.inr GW224.out) _ | refine Kept.setCell ?_ (.inr GW225.out) _) | exact HK.out)).1) hn_))))); have n4_ := Aside0.mk (Kept.then_ (S := (fun k_ => P0_0_ k_ ∨ P0_1_ k_)) (by repeat (first | (with_reducible first | exact HK.out | apply Kept.alloc | apply Kept.drewN | apply Kept.drew | refine Kept.setCell ?_ (.inr GW224.out) _ | refine Kept.setCell ?_ (.inr GW225.out) _) | exact HK.out)) hkp (fun k_ hs_ => Or.elim hs_ (fun e_ => (fun e_ => (HO_225000.out.1 k_ e_.symm)) e_) (fun e_ => (fun e_ => (HO_225001.out.1 k_ e_.symm)) e_))); have n5_ := Aside0.mk (hb); clear BK224; clear BK225; clear HK; clear HB; clear HO_225000; clear HO_225001; have BK224 := n0_; have BK225 := n1_; have HO274 := n2_; have HO277 := n3_; have HK := n4_; have HB := n5_; clear n0_ n1_ n2_ n3_ n4_ n5_; (try clear hb); (try clear hkp); (try clear ho0); (try clear ho1); obtain ⟨Ao101, co101, eo101⟩ := Kd.R_slice HO274.out; subst eo101; have hcz102_0 : w100.cell? ⟨gb225, 0, none⟩ = some (.slice none 0 0) := (blk_cell BK225.out 0).trans rfl; have hcz102_1 : w100.cell? ⟨gb225, 1, none⟩ = some (.slice none 0 0) := (blk_cell BK225.out 1).trans rfl; have hfz102_0 := blk_frozen BK225.out 0; have hfz102_1 := blk_frozen BK225.out 1; obtain ⟨Ao103, co103, eo103⟩ := Kd.R_slice HO277.out; subst eo103))
                                refine bodyPost_ret (results_ct rfl _ _ gb225 70 #[.slice Ao101 t272.length co101, .slice Ao103 t275.length co103] (0, 0) _ rfl (by (with_reducible repeat (first | refine blk_drewN ?_ _ | refine blk_drew ?_ | refine blk_alloc ?_ _)); refine blk_put (cs := #[.slice Ao101 t272.length co101, .slice none 0 0]) ?_ 1 _ rfl; (with_reducible repeat (first | refine blk_drewN ?_ _ | refine blk_drew ?_ | refine blk_alloc ?_ _)); refine blk_put (cs := #[.slice none 0 0, .slice none 0 0]) ?_ 0 _ rfl; (with_reducible repeat (first | refine blk_drewN ?_ _ | refine blk_drew ?_ | refine blk_alloc ?_ _)); exact BK225.out) Tryd.underlying70 rfl (by kernel_rfl)) rfl ?_
                                exact ⟨_, _, by first | rfl | (simp [errW_none, errW_some] <;> rfl) | (simp [*, errW_none, errW_some] <;> rfl), by (with_reducible repeat (first | apply Kd.R_alloc | apply Kd.R_drewN | apply Kd.R_drew)); exact Kd.R_mono (Kd.R_far (p := ⟨gb225, 1, none⟩) (Kd.R_far (p := ⟨gb225, 0, none⟩) (Kd.R_types HO274.out BK225.out (by decide)) (fun _ hk => hk.2) (.slice Ao101 t272.length co101)) (fun _ hk => hk.2) (.slice Ao103 t275.length co103)) (fun _ hk => hk.1), by (with_reducible repeat (first | apply Kd.R_alloc | apply Kd.R_drewN | apply Kd.R_drew)); exact Kd.R_mono (Kd.R_far (p := ⟨gb225, 1, none⟩) (Kd.R_far (p := ⟨gb225, 0, none⟩) (Kd.R_types HO277.out BK225.out (by decide)) (fun _ hk => hk.2) (.slice Ao101 t272.length co101)) (fun _ hk => hk.2) (.slice Ao103 t275.length co103)) (fun _ hk => hk.1), by repeat (first | (with_reducible first | exact HB.out | apply below_alloc | apply pw_below_drewN | apply below_drew1 | refine below_set ?_ GE224.out | refine below_set ?_ GE225.out) | exact HB.out), by repeat (first | (with_reducible first | exact HK.out | apply Kept.alloc | apply Kept.drewN | apply Kept.drew | refine Kept.setCell ?_ (.inr GW224.out) _ | refine Kept.setCell ?_ (.inr GW225.out) _) | exact HK.out)⟩
                              · rw [if_neg c95] at H
                                have c95b0 : decide (t271 < 0) = false := decide_eq_false c95
                                clear c95
                                replace H := Option.bind_eq_some_iff.mp H
                                obtain ⟨t278, A1040, H⟩ := H
                                replace H : (if t278 < 0 then ((flongref04_tell.f l0_0 l0_1 2 (wrap64 (a2 - 1))).bind fun bt279 => (some (bt279.1, bt279.2, t271))) else ((flongref04_Font.f kj57 t270).bind fun t285 => ((flongref04_say.f l0_0 l0_1 3 (wrap32 (t285))).bind fun bt286 => (some (bt286.1, bt286.2, t271))))) = some (r1, r2, r3) := H
                                have A104 := Aside0.mk A1040
                                clear A1040
                                by_cases c105 : t278 < 0
                                · rw [if_pos c105] at H
                                  have c105b0 : decide (t278 < 0) = true := decide_eq_true c105
                                  clear c105
                                  replace H := Option.bind_eq_some_iff.mp H
                                  obtain ⟨⟨t279, t282⟩, A1060, H⟩ := H
                                  replace H : (some (t279, t282, t271)) = some (r1, r2, r3) := H
                                  have A106 := Aside0.mk A1060
                                  clear A1060
                                  simp only [Option.some.injEq, Prod.mk.injEq] at H
                                  obtain ⟨rfl, rfl, rfl⟩ := H
                                  go_wp2_with (first | ((with_reducible refine gate_callee (f := 59) rfl ?_); refine goesL_ (some 104) rfl rfl Tryd.func59 (by kernel_rfl) rfl #[.slice (some ad247) l1.length c1, .int .i64 (wrap64 (a2 + 1))] rfl (by (try simp only [List.map_toArray, List.map_cons, List.map_nil]); first | done | rfl | (simp only [List.length_drop, List.length_take]; rfl)) ?_; (with_reducible refine (flongref04_name.calls kj57 _ _ l1 (wrap64 (a2 + 1)) t270 t271 _ ?side1 ?side2 A94.out).mono ?_); (case side1 => exact Kd.C_kept_now HR1.out (by repeat (first | (with_reducible first | exact HK.out | apply Kept.alloc | apply Kept.drewN | apply Kept.drew | refine Kept.setCell ?_ (.inr GW224.out) _ | refine Kept.setCell ?_ (.inr GW225.out) _) | exact HK.out))); (case side2 => exact HC1.out); rintro e w107 ⟨rfl, hb⟩; refine ⟨_, rfl, ?_⟩; have n0_ := Aside0.mk (Kd.R_below (by (with_reducible repeat (first | apply Kd.R_alloc | apply Kd.R_drewN | apply Kd.R_drew)); exact HO_225000.out) hb); have n1_ := Aside0.mk (Kd.R_below (by (with_reducible repeat (first | apply Kd.R_alloc | apply Kd.R_drewN | apply Kd.R_drew)); exact HO_225001.out) hb); have n2_ := Aside0.mk (blk_below (g := gb224) (o := .cells #[.slice Ao16 l0_0.length co16, .slice Ao17 l0_1.length co17] 70 (0, 0)) (by (with_reducible repeat (first | refine blk_drewN ?_ _ | refine blk_drew ?_ | refine blk_alloc ?_ _)); exact BK224.out) hb); have n3_ := Aside0.mk (blk_below (g := gb225) (o := .cells #[.slice none 0 0, .slice none 0 0] 70 (0, 0)) (by (with_reducible repeat (first | refine blk_drewN ?_ _ | refine blk_drew ?_ | refine blk_alloc ?_ _)); exact BK225.out) hb); have n4_ := Aside0.mk (Kept.below (S := (fun k_ => P0_0_ k_ ∨ P0_1_ k_)) (by repeat (first | (with_reducible first | exact HK.out | apply Kept.alloc | apply Kept.drewN | apply Kept.drew | refine Kept.setCell ?_ (.inr GW224.out) _ | refine Kept.setCell ?_ (.inr GW225.out) _) | exact HK.out)) hb); have n5_ := Aside0.mk (below_step (by repeat (first | (with_reducible first | exact HB.out | apply below_alloc | apply pw_below_drewN | apply below_drew1 | refine below_set ?_ GE224.out | refine below_set ?_ GE225.out) | exact HB.out)) hb); clear HO_225000; clear HO_225001; clear BK224; clear BK225; clear HK; clear HB; have HO_225000 := n0_; have HO_225001 := n1_; have BK224 := n2_; have BK225 := n3_; have HK := n4_; have HB := n5_; clear n0_ n1_ n2_ n3_ n4_ n5_; (try clear hb); (try clear hb2); (try clear hk); (try clear hi)) | ((with_reducible refine gate_callee (f := 22) rfl ?_); refine goesL_ (some 115) rfl rfl Tryd.func22 (by kernel_rfl) rfl #[.string t270] rfl (by (try simp only [List.map_toArray, List.map_cons, List.map_nil]); first | done | rfl | (simp only [List.length_drop, List.length_take]; rfl)) ?_; (with_reducible refine (flongref04_Font.calls kj57 t270 t278 _ A104.out).mono ?_); rintro e w108 ⟨rfl, hb⟩; refine ⟨_, rfl, ?_⟩; have n0_ := Aside0.mk (Kd.R_below (by (with_reducible repeat (first | apply Kd.R_alloc | apply Kd.R_drewN | apply Kd.R_drew)); exact HO_225000.out) hb); have n1_ := Aside0.mk (Kd.R_below (by (with_reducible repeat (first | apply Kd.R_alloc | apply Kd.R_drewN | apply Kd.R_drew)); exact HO_225001.out) hb); have n2_ := Aside0.mk (blk_below (g := gb224) (o := .cells #[.slice Ao16 l0_0.length co16, .slice Ao17 l0_1.length co17] 70 (0, 0)) (by (with_reducible repeat (first | refine blk_drewN ?_ _ | refine blk_drew ?_ | refine blk_alloc ?_ _)); exact BK224.out) hb); have n3_ := Aside0.mk (blk_below (g := gb225) (o := .cells #[.slice none 0 0, .slice none 0 0] 70 (0, 0)) (by (with_reducible repeat (first | refine blk_drewN ?_ _ | refine blk_drew ?_ | refine blk_alloc ?_ _)); exact BK225.out) hb); have n4_ := Aside0.mk (Kept.below (S := (fun k_ => P0_0_ k_ ∨ P0_1_ k_)) (by repeat (first | (with_reducible first | exact HK.out | apply Kept.alloc | apply Kept.drewN | apply Kept.drew | refine Kept.setCell ?_ (.inr GW224.out) _ | refine Kept.setCell ?_ (.inr GW225.out) _) | exact HK.out)) hb); have n5_ := Aside0.mk (below_step (by repeat (first | (with_reducible first | exact HB.out | apply below_alloc | apply pw_below_drewN | apply below_drew1 | refine below_set ?_ GE224.out | refine below_set ?_ GE225.out) | exact HB.out)) hb); clear HO_225000; clear HO_225001; clear BK224; clear BK225; clear HK; clear HB; have HO_225000 := n0_; have HO_225001 := n1_; have BK224 := n2_; have BK225 := n3_; have HK := n4_; have HB := n5_; clear n0_ n1_ n2_ n3_ n4_ n5_; (try clear hb); (try clear hb2); (try clear hk); (try clear hi); have hnb109 := NB224_225.out; have hnc109 := NB225_224.out; have hcz110_0 : w108.cell? ⟨gb224, 0, none⟩ = some (.slice Ao16 l0_0.length co16) := (blk_cell BK224.out 0).trans rfl; have hcz110_1 : w108.cell? ⟨gb224, 1, none⟩ = some (.slice Ao17 l0_1.length co17) := (blk_cell BK224.out 1).trans rfl; have hfz110_0 := blk_frozen BK224.out 0; have hfz110_1 := blk_frozen BK224.out 1) | ((with_reducible refine gate_callee (f := 46) rfl ?_); refine goesL_ (some 119) rfl rfl Tryd.func46 (by kernel_rfl) rfl #[.agg #[.slice Ao16 l0_0.length co16, .slice Ao17 l0_1.length co17], .int .i64 2, .int .i64 (wrap64 (a2 - 1))] rfl (by (try simp only [List.map_toArray, List.map_cons, List.map_nil]); first | done | rfl | (simp only [List.length_drop, List.length_take]; rfl)) ?_; (with_reducible refine (flongref04_tell.calls (fun k_ => some k_ = (.slice Ao16 l0_0.length co16 : Value).ownBlock) (.slice Ao16 l0_0.length co16) l0_0 (fun k_ => some k_ = (.slice Ao17 l0_1.length co17 : Value).ownBlock) (.slice Ao17 l0_1.length co17) l0_1 2 (wrap64 (a2 - 1)) t279 t282 w0 _ ?side1 ?side2 ?side3 A106.out).mono ?_); (case side1 => repeat (first | (with_reducible first | exact HB.out | apply below_alloc | apply pw_below_drewN | apply below_drew1 | refine below_set ?_ GE224.out | refine below_set ?_ GE225.out) | exact HB.out)); (case side2 => exact Kd.R_tight rfl HO_225000.out); (case side3 => exact Kd.R_tight rfl HO_225001.out); rintro e w111 ⟨v280, v283, rfl, ho0, ho1, hb, hkp⟩; refine ⟨_, rfl, ?_⟩; have n0_ := Aside0.mk (blk_kept (by (with_reducible repeat (first | refine blk_drewN ?_ _ | refine blk_drew ?_ | refine blk_alloc ?_ _)); exact BK224.out) hkp (fun hs_ => Or.elim hs_ (fun e_ => (fun e_ => (Kd.R_ne HO_225000.out BK224.out (by decide)) e_) e_) (fun e_ => (fun e_ => (Kd.R_ne HO_225001.out BK224.out (by decide)) e_) e_))); have n1_ := Aside0.mk (blk_kept (by (with_reducible repeat (first | refine blk_drewN ?_ _ | refine blk_drew ?_ | refine blk_alloc ?_ _)); exact BK225.out) hkp (fun hs_ => Or.elim hs_ (fun e_ => (fun e_ => (Kd.R_ne HO_225000.out BK225.out (by decide)) e_) e_) (fun e_ => (fun e_ => (Kd.R_ne HO_225001.out BK225.out (by decide)) e_) e_))); have n2_ := Aside0.mk (Kd.R_mono (ok' := fun k_ => ((P0_0_ k_ ∨ P0_1_ k_) ∨ w.heap.size ≤ k_)) ho0 (fun k_ hk_ => Or.elim hk_ (fun hs_ => Or.elim hs_ (fun hs_ => (HO_225000.out.1 k_ (hs_).symm)) (fun hs_ => (HO_225001.out.1 k_ (hs_).symm))) (fun hn_ => (.inr (Nat.le_trans (by first | exact HK.out.1 | exact (show Kept w _ (fun k_ => P0_0_ k_ ∨ P0_1_ k_) from by repeat (first | (with_reducible first | exact HK.out | apply Kept.alloc | apply Kept.drewN | apply Kept.drew | refine Kept.setCell ?_ (.inr GW224.out) _ | refine Kept.setCell ?_ (.inr GW225.out) _) | exact HK.out)).1) hn_))))); have n3_ := Aside0.mk (Kd.R_mono (ok' := fun k_ => ((P0_0_ k_ ∨ P0_1_ k_) ∨ w.heap.size ≤ k_)) ho1 (fun k_ hk_ => Or.elim hk_ (fun hs_ => Or.elim hs_ (fun hs_ => (HO_225000.out.1 k_ (hs_).symm)) (fun hs_ => (HO_225001.out.1 k_ (hs_).symm))) (fun hn_ => (.inr (Nat.le_trans (by first | exact HK.out.1 | exact (show Kept w _ (fun k_ => P0_0_ k_ ∨ P0_1_ k_) from by repeat (first | (with_reducible first | exact HK.out | apply Kept.alloc | apply Kept.drewN | apply Kept.drew | refine Kept.setCell ?_ (.inr GW224.out) _ | refine Kept.setCell ?_ (.inr GW225.out) _) | exact HK.out)).1) hn_))))); have n4_ := Aside0.mk (Kept.then_ (S := (fun k_ => P0_0_ k_ ∨ P0_1_ k_)) (by repeat (first | (with_reducible first | exact HK.out | apply Kept.alloc | apply Kept.drewN | apply Kept.drew | refine Kept.setCell ?_ (.inr GW224.out) _ | refine Kept.setCell ?_ (.inr GW225.out) _) | exact HK.out)) hkp (fun k_ hs_ => Or.elim hs_ (fun e_ => (fun e_ => (HO_225000.out.1 k_ e_.symm)) e_) (fun e_ => (fun e_ => (HO_225001.out.1 k_ e_.symm)) e_))); have n5_ := Aside0.mk (hb); clear BK224; clear BK225; clear HK; clear HB; clear HO_225000; clear HO_225001; have BK224 := n0_; have BK225 := n1_; have HO281 := n2_; have HO284 := n3_; have HK := n4_; have HB := n5_; clear n0_ n1_ n2_ n3_ n4_ n5_; (try clear hb); (try clear hkp); (try clear ho0); (try clear ho1); obtain ⟨Ao112, co112, eo112⟩ := Kd.R_slice HO281.out; subst eo112; have hcz113_0 : w111.cell? ⟨gb225, 0, none⟩ = some (.slice none 0 0) := (blk_cell BK225.out 0).trans rfl; have hcz113_1 : w111.cell? ⟨gb225, 1, none⟩ = some (.slice none 0 0) := (blk_cell BK225.out 1).trans rfl; have hfz113_0 := blk_frozen BK225.out 0; have hfz113_1 := blk_frozen BK225.out 1; obtain ⟨Ao114, co114, eo114⟩ := Kd.R_slice HO284.out; subst eo114))
                                  refine bodyPost_ret (results_ct rfl _ _ gb225 70 #[.slice Ao112 t279.length co112, .slice Ao114 t282.length co114] (0, 0) _ rfl (by (with_reducible repeat (first | refine blk_drewN ?_ _ | refine blk_drew ?_ | refine blk_alloc ?_ _)); refine blk_put (cs := #[.slice Ao112 t279.length co112, .slice none 0 0]) ?_ 1 _ rfl; (with_reducible repeat (first | refine blk_drewN ?_ _ | refine blk_drew ?_ | refine blk_alloc ?_ _)); refine blk_put (cs := #[.slice none 0 0, .slice none 0 0]) ?_ 0 _ rfl; (with_reducible repeat (first | refine blk_drewN ?_ _ | refine blk_drew ?_ | refine blk_alloc ?_ _)); exact BK225.out) Tryd.underlying70 rfl (by kernel_rfl)) rfl ?_
                                  exact ⟨_, _, by first | rfl | (simp [errW_none, errW_some] <;> rfl) | (simp [*, errW_none, errW_some] <;> rfl), by (with_reducible repeat (first | apply Kd.R_alloc | apply Kd.R_drewN | apply Kd.R_drew)); exact Kd.R_mono (Kd.R_far (p := ⟨gb225, 1, none⟩) (Kd.R_far (p := ⟨gb225, 0, none⟩) (Kd.R_types HO281.out BK225.out (by decide)) (fun _ hk => hk.2) (.slice Ao112 t279.length co112)) (fun _ hk => hk.2) (.slice Ao114 t282.length co114)) (fun _ hk => hk.1), by (with_reducible repeat (first | apply Kd.R_alloc | apply Kd.R_drewN | apply Kd.R_drew)); exact Kd.R_mono (Kd.R_far (p := ⟨gb225, 1, none⟩) (Kd.R_far (p := ⟨gb225, 0, none⟩) (Kd.R_types HO284.out BK225.out (by decide)) (fun _ hk => hk.2) (.slice Ao112 t279.length co112)) (fun _ hk => hk.2) (.slice Ao114 t282.length co114)) (fun _ hk => hk.1), by repeat (first | (with_reducible first | exact HB.out | apply below_alloc | apply pw_below_drewN | apply below_drew1 | refine below_set ?_ GE224.out | refine below_set ?_ GE225.out) | exact HB.out), by repeat (first | (with_reducible first | exact HK.out | apply Kept.alloc | apply Kept.drewN | apply Kept.drew | refine Kept.setCell ?_ (.inr GW224.out) _ | refine Kept.setCell ?_ (.inr GW225.out) _) | exact HK.out)⟩
                                · rw [if_neg c105] at H
                                  have c105b0 : decide (t278 < 0) = false := decide_eq_false c105
                                  clear c105
                                  replace H := Option.bind_eq_some_iff.mp H
                                  obtain ⟨t285, A1150, H⟩ := H
                                  replace H : ((flongref04_say.f l0_0 l0_1 3 (wrap32 (t285))).bind fun bt286 => (some (bt286.1, bt286.2, t271))) = some (r1, r2, r3) := H
                                  have A115 := Aside0.mk A1150
                                  clear A1150
                                  replace H := Option.bind_eq_some_iff.mp H
                                  obtain ⟨⟨t286, t289⟩, A1160, H⟩ := H
                                  replace H : (some (t286, t289, t271)) = some (r1, r2, r3) := H
                                  have A116 := Aside0.mk A1160
                                  clear A1160
                                  simp only [Option.some.injEq, Prod.mk.injEq] at H
                                  obtain ⟨rfl, rfl, rfl⟩ := H
                                  try go_wp2_with (first | ((with_reducible refine gate_callee (f := 59) rfl ?_); refine goesL_ (some 104) rfl rfl Tryd.func59 (by kernel_rfl) rfl #[.slice (some ad247) l1.length c1, .int .i64 (wrap64 (a2 + 1))] rfl (by (try simp only [List.map_toArray, List.map_cons, List.map_nil]); first | done | rfl | (simp only [List.length_drop, List.length_take]; rfl)) ?_; (with_reducible refine (flongref04_name.calls kj57 _ _ l1 (wrap64 (a2 + 1)) t270 t271 _ ?side1 ?side2 A94.out).mono ?_); (case side1 => exact Kd.C_kept_now HR1.out (by repeat (first | (with_reducible first | exact HK.out | apply Kept.alloc | apply Kept.drewN | apply Kept.drew | refine Kept.setCell ?_ (.inr GW224.out) _ | refine Kept.setCell ?_ (.inr GW225.out) _) | exact HK.out))); (case side2 => exact HC1.out); rintro e w117 ⟨rfl, hb⟩; refine ⟨_, rfl, ?_⟩; have n0_ := Aside0.mk (Kd.R_below (by (with_reducible repeat (first | apply Kd.R_alloc | apply Kd.R_drewN | apply Kd.R_drew)); exact HO_225000.out) hb); have n1_ := Aside0.mk (Kd.R_below (by (with_reducible repeat (first | apply Kd.R_alloc | apply Kd.R_drewN | apply Kd.R_drew)); exact HO_225001.out) hb); have n2_ := Aside0.mk (blk_below (g := gb224) (o := .cells #[.slice Ao16 l0_0.length co16, .slice Ao17 l0_1.length co17] 70 (0, 0)) (by (with_reducible repeat (first | refine blk_drewN ?_ _ | refine blk_drew ?_ | refine blk_alloc ?_ _)); exact BK224.out) hb); have n3_ := Aside0.mk (blk_below (g := gb225) (o := .cells #[.slice none 0 0, .slice none 0 0] 70 (0, 0)) (by (with_reducible repeat (first | refine blk_drewN ?_ _ | refine blk_drew ?_ | refine blk_alloc ?_ _)); exact BK225.out) hb); have n4_ := Aside0.mk (Kept.below (S := (fun k_ => P0_0_ k_ ∨ P0_1_ k_)) (by repeat (first | (with_reducible first | exact HK.out | apply Kept.alloc | apply Kept.drewN | apply Kept.drew | refine Kept.setCell ?_ (.inr GW224.out) _ | refine Kept.setCell ?_ (.inr GW225.out) _) | exact HK.out)) hb); have n5_ := Aside0.mk (below_step (by repeat (first | (with_reducible first | exact HB.out | apply below_alloc | apply pw_below_drewN | apply below_drew1 | refine below_set ?_ GE224.out | refine below_set ?_ GE225.out) | exact HB.out)) hb); clear HO_225000; clear HO_225001; clear BK224; clear BK225; clear HK; clear HB; have HO_225000 := n0_; have HO_225001 := n1_; have BK224 := n2_; have BK225 := n3_; have HK := n4_; have HB := n5_; clear n0_ n1_ n2_ n3_ n4_ n5_; (try clear hb); (try clear hb2); (try clear hk); (try clear hi)) | ((with_reducible refine gate_callee (f := 22) rfl ?_); refine goesL_ (some 115) rfl rfl Tryd.func22 (by kernel_rfl) rfl #[.string t270] rfl (by (try simp only [List.map_toArray, List.map_cons, List.map_nil]); first | done | rfl | (simp only [List.length_drop, List.length_take]; rfl)) ?_; (with_reducible refine (flongref04_Font.calls kj57 t270 t278 _ A104.out).mono ?_); rintro e w118 ⟨rfl, hb⟩; refine ⟨_, rfl, ?_⟩; have n0_ := Aside0.mk (Kd.R_below (by (with_reducible repeat (first | apply Kd.R_alloc | apply Kd.R_drewN | apply Kd.R_drew)); exact HO_225000.out) hb); have n1_ := Aside0.mk (Kd.R_below (by (with_reducible repeat (first | apply Kd.R_alloc | apply Kd.R_drewN | apply Kd.R_drew)); exact HO_225001.out) hb); have n2_ := Aside0.mk (blk_below (g := gb224) (o := .cells #[.slice Ao16 l0_0.length co16, .slice Ao17 l0_1.length co17] 70 (0, 0)) (by (with_reducible repeat (first | refine blk_drewN ?_ _ | refine blk_drew ?_ | refine blk_alloc ?_ _)); exact BK224.out) hb); have n3_ := Aside0.mk (blk_below (g := gb225) (o := .cells #[.slice none 0 0, .slice none 0 0] 70 (0, 0)) (by (with_reducible repeat (first | refine blk_drewN ?_ _ | refine blk_drew ?_ | refine blk_alloc ?_ _)); exact BK225.out) hb); have n4_ := Aside0.mk (Kept.below (S := (fun k_ => P0_0_ k_ ∨ P0_1_ k_)) (by repeat (first | (with_reducible first | exact HK.out | apply Kept.alloc | apply Kept.drewN | apply Kept.drew | refine Kept.setCell ?_ (.inr GW224.out) _ | refine Kept.setCell ?_ (.inr GW225.out) _) | exact HK.out)) hb); have n5_ := Aside0.mk (below_step (by repeat (first | (with_reducible first | exact HB.out | apply below_alloc | apply pw_below_drewN | apply below_drew1 | refine below_set ?_ GE224.out | refine below_set ?_ GE225.out) | exact HB.out)) hb); clear HO_225000; clear HO_225001; clear BK224; clear BK225; clear HK; clear HB; have HO_225000 := n0_; have HO_225001 := n1_; have BK224 := n2_; have BK225 := n3_; have HK := n4_; have HB := n5_; clear n0_ n1_ n2_ n3_ n4_ n5_; (try clear hb); (try clear hb2); (try clear hk); (try clear hi)))
                                  have n0_ := Aside0.mk (Kd.R_drew HO_225000.out)
                                  have n1_ := Aside0.mk (Kd.R_drew HO_225001.out)
                                  have n2_ := Aside0.mk (blk_drew BK224.out)
                                  have n3_ := Aside0.mk (blk_drew BK225.out)
                                  have n4_ := Aside0.mk (Kept.drew HK.out)
                                  have n5_ := Aside0.mk (below_drew1 HB.out)
                                  clear HO_225000
                                  clear HO_225001
                                  clear BK224
                                  clear BK225
                                  clear HK
                                  clear HB
                                  have HO_225000 := n0_
                                  have HO_225001 := n1_
                                  have BK224 := n2_
                                  have BK225 := n3_
                                  have HK := n4_
                                  have HB := n5_
                                  clear n0_ n1_ n2_ n3_ n4_ n5_
                                  refine start_ (n := 8) (S := fun w' => w'.cell? ⟨gb224, 0, none⟩ = some (.slice Ao16 l0_0.length co16) ∧ w'.cell? ⟨gb224, 1, none⟩ = some (.slice Ao17 l0_1.length co17)) (ds := []) #[false, false, false, false, false, false, false, false] (by kernel_rfl) rfl rfl ⟨(blk_cell BK224.out 0).trans rfl, (blk_cell BK224.out 1).trans rfl⟩ (fun hHeld => ?_); refine with_tabW flongref04_escape.tab34 flongref04_escape.bits34 (fun HT_ HW_ => ?_)
                                  generalize w118.drew = w119 at HO_225000 HO_225001 BK224 BK225 HK HB hHeld ⊢
                                  refine pure_ (i := 1) (N := some 122) (v := ?_) (a' := ?_) #[false, true, false, false, false, false, false, false] rfl rfl (any_of HT_.out (by kernel_rfl)) (fun _ _ _ h => h) (Or.inl ⟨by rfl, ?_⟩) ?_ ?_
                                  rotate_left
                                  · intro w'
                                    go_simp
                                    with_reducible rfl
                                  rotate_left
                                  · simp only [Act.put, List.setIfInBounds_toArray, List.set_cons_zero, List.set_cons_succ, i64_w, i32_w]
                                    rfl
                                  refine pure_ (i := 5) (N := some 126) (v := ?_) (a' := ?_) #[false, true, false, false, false, true, false, false] rfl rfl (any_of HT_.out (by kernel_rfl)) (fun _ _ _ h => h) (Or.inl ⟨by rfl, ?_⟩) ?_ ?_
                                  rotate_left
                                  · intro w'
                                    go_simp
                                    with_reducible rfl
                                  rotate_left
                                  · simp only [Act.put, List.setIfInBounds_toArray, List.set_cons_zero, List.set_cons_succ, i64_w, i32_w]
                                    rfl
                                  refine take_ (i := 0) (N := some 121) (v := ?_) (a' := ?_) #[true, true, false, false, false, true, false, false] rfl rfl (take_ofW HT_.out HW_.out (by kernel_rfl)) (fun _ _ _ h => h) (Or.inl ⟨by rfl, ?_⟩) hHeld ?_ ?_
                                  rotate_left
                                  · rintro w' ⟨s0, s1⟩
                                    go_simp
                                    with_reducible rfl
                                  rotate_left
                                  · simp only [Act.put, List.setIfInBounds_toArray, List.set_cons_zero, List.set_cons_succ, i64_w, i32_w]
                                    rfl
                                  refine one_ (i := 2) (N := some 123) #[true, true, true, false, false, true, false, false] rfl rfl (one_of HT_.out (by kernel_rfl)) (by decide) (fun K hK => ?_)
                                  refine goes_ Tryd.func22 (by kernel_rfl) rfl #[.string t270] (by rfl) rfl rfl (by (try simp only [List.map_toArray, List.map_cons, List.map_nil]); first | done | rfl | (simp only [List.length_drop, List.length_take]; rfl)) ?_
                                  with_reducible refine (flongref04_Font.calls kj57 t270 t285 _ A115.out).mono ?_
                                  rintro e w120 ⟨rfl, hb⟩
                                  refine ⟨_, rfl, ?_⟩
                                  have n0_ := Aside0.mk (Kd.R_below (by (with_reducible repeat (first | apply Kd.R_alloc | apply Kd.R_drewN | apply Kd.R_drew)); exact HO_225000.out) hb)
                                  have n1_ := Aside0.mk (Kd.R_below (by (with_reducible repeat (first | apply Kd.R_alloc | apply Kd.R_drewN | apply Kd.R_drew)); exact HO_225001.out) hb)
                                  have n2_ := Aside0.mk (blk_below (g := gb224) (o := .cells #[.slice Ao16 l0_0.length co16, .slice Ao17 l0_1.length co17] 70 (0, 0)) (by (with_reducible repeat (first | refine blk_drewN ?_ _ | refine blk_drew ?_ | refine blk_alloc ?_ _)); exact BK224.out) hb)
                                  have n3_ := Aside0.mk (blk_below (g := gb225) (o := .cells #[.slice none 0 0, .slice none 0 0] 70 (0, 0)) (by (with_reducible repeat (first | refine blk_drewN ?_ _ | refine blk_drew ?_ | refine blk_alloc ?_ _)); exact BK225.out) hb)
                                  have n4_ := Aside0.mk (Kept.below (S := (fun k_ => P0_0_ k_ ∨ P0_1_ k_)) (by repeat (first | (with_reducible first | exact HK.out | apply Kept.alloc | apply Kept.drewN | apply Kept.drew | refine Kept.setCell ?_ (.inr GW224.out) _ | refine Kept.setCell ?_ (.inr GW225.out) _) | exact HK.out)) hb)
                                  have n5_ := Aside0.mk (below_step (by repeat (first | (with_reducible first | exact HB.out | apply below_alloc | apply pw_below_drewN | apply below_drew1 | refine below_set ?_ GE224.out | refine below_set ?_ GE225.out) | exact HB.out)) hb)
                                  clear HO_225000
                                  clear HO_225001
                                  clear BK224
                                  clear BK225
                                  clear HK
                                  clear HB
                                  have HO_225000 := n0_
                                  have HO_225001 := n1_
                                  have BK224 := n2_
                                  have BK225 := n3_
                                  have HK := n4_
                                  have HB := n5_
                                  clear n0_ n1_ n2_ n3_ n4_ n5_
                                  (try clear hb)
                                  (try clear hb2)
                                  (try clear hk)
                                  (try clear hi)
                                  refine hK.out _ _ ⟨(blk_cell BK224.out 0).trans rfl, (blk_cell BK224.out 1).trans rfl⟩ (fun hHeld => ?_)
                                  clear hK K
                                  refine norm_ (a' := ?_) ?_ ?_
                                  rotate_left
                                  · show Act.put _ (some 123) _ = _
                                    simp only [Act.put, List.setIfInBounds_toArray, List.set_cons_zero, List.set_cons_succ, i64_w, i32_w]
                                    rfl
                                  refine pure_ (i := 3) (N := some 124) (v := ?_) (a' := ?_) #[true, true, true, true, false, true, false, false] rfl rfl (any_of HT_.out (by kernel_rfl)) (fun _ _ _ h => h) (Or.inl ⟨by rfl, ?_⟩) ?_ ?_
                                  rotate_left
                                  · intro w'
                                    go_simp
                                    with_reducible rfl
                                  rotate_left
                                  · simp only [Act.put, List.setIfInBounds_toArray, List.set_cons_zero, List.set_cons_succ, i64_w, i32_w]
                                    rfl
                                  refine one_ (i := 4) (N := some 125) #[true, true, true, true, true, true, false, false] rfl rfl (one_of HT_.out (by kernel_rfl)) (by decide) (fun K hK => ?_)
                                  refine goes_ Tryd.func45 (by kernel_rfl) rfl #[.agg #[.slice Ao16 l0_0.length co16, .slice Ao17 l0_1.length co17], .int .i64 3, .int .i32 (wrap32 (t285))] (by rfl) rfl rfl (by (try simp only [List.map_toArray, List.map_cons, List.map_nil]); first | done | rfl | (simp only [List.length_drop, List.length_take]; rfl)) ?_
                                  with_reducible refine (flongref04_say.calls (fun k_ => some k_ = (.slice Ao16 l0_0.length co16 : Value).ownBlock) (.slice Ao16 l0_0.length co16) l0_0 (fun k_ => some k_ = (.slice Ao17 l0_1.length co17 : Value).ownBlock) (.slice Ao17 l0_1.length co17) l0_1 3 (wrap32 (t285)) t286 t289 w0 _ ?side1 ?side2 ?side3 A116.out).mono ?_
                                  (case side1 => repeat (first | (with_reducible first | exact HB.out | apply below_alloc | apply pw_below_drewN | apply below_drew1 | refine below_set ?_ GE224.out | refine below_set ?_ GE225.out) | exact HB.out))
                                  (case side2 => exact Kd.R_tight rfl HO_225000.out)
                                  (case side3 => exact Kd.R_tight rfl HO_225001.out)
                                  rintro e w121 ⟨v287, v290, rfl, ho0, ho1, hb, hkp⟩
                                  refine ⟨_, rfl, ?_⟩
                                  have n0_ := Aside0.mk (blk_kept (by (with_reducible repeat (first | refine blk_drewN ?_ _ | refine blk_drew ?_ | refine blk_alloc ?_ _)); exact BK224.out) hkp (fun hs_ => Or.elim hs_ (fun e_ => (fun e_ => (Kd.R_ne HO_225000.out BK224.out (by decide)) e_) e_) (fun e_ => (fun e_ => (Kd.R_ne HO_225001.out BK224.out (by decide)) e_) e_)))
                                  have n1_ := Aside0.mk (blk_kept (by (with_reducible repeat (first | refine blk_drewN ?_ _ | refine blk_drew ?_ | refine blk_alloc ?_ _)); exact BK225.out) hkp (fun hs_ => Or.elim hs_ (fun e_ => (fun e_ => (Kd.R_ne HO_225000.out BK225.out (by decide)) e_) e_) (fun e_ => (fun e_ => (Kd.R_ne HO_225001.out BK225.out (by decide)) e_) e_)))
                                  have n2_ := Aside0.mk (Kd.R_mono (ok' := fun k_ => ((P0_0_ k_ ∨ P0_1_ k_) ∨ w.heap.size ≤ k_)) ho0 (fun k_ hk_ => Or.elim hk_ (fun hs_ => Or.elim hs_ (fun hs_ => (HO_225000.out.1 k_ (hs_).symm)) (fun hs_ => (HO_225001.out.1 k_ (hs_).symm))) (fun hn_ => (.inr (Nat.le_trans (by first | exact HK.out.1 | exact (show Kept w _ (fun k_ => P0_0_ k_ ∨ P0_1_ k_) from by repeat (first | (with_reducible first | exact HK.out | apply Kept.alloc | apply Kept.drewN | apply Kept.drew | refine Kept.setCell ?_ (.inr GW224.out) _ | refine Kept.setCell ?_ (.inr GW225.out) _) | exact HK.out)).1) hn_)))))
                                  have n3_ := Aside0.mk (Kd.R_mono (ok' := fun k_ => ((P0_0_ k_ ∨ P0_1_ k_) ∨ w.heap.size ≤ k_)) ho1 (fun k_ hk_ => Or.elim hk_ (fun hs_ => Or.elim hs_ (fun hs_ => (HO_225000.out.1 k_ (hs_).symm)) (fun hs_ => (HO_225001.out.1 k_ (hs_).symm))) (fun hn_ => (.inr (Nat.le_trans (by first | exact HK.out.1 | exact (show Kept w _ (fun k_ => P0_0_ k_ ∨ P0_1_ k_) from by repeat (first | (with_reducible first | exact HK.out | apply Kept.alloc | apply Kept.drewN | apply Kept.drew | refine Kept.setCell ?_ (.inr GW224.out) _ | refine Kept.setCell ?_ (.inr GW225.out) _) | exact HK.out)).1) hn_)))))
                                  have n4_ := Aside0.mk (Kept.then_ (S := (fun k_ => P0_0_ k_ ∨ P0_1_ k_)) (by repeat (first | (with_reducible first | exact HK.out | apply Kept.alloc | apply Kept.drewN | apply Kept.drew | refine Kept.setCell ?_ (.inr GW224.out) _ | refine Kept.setCell ?_ (.inr GW225.out) _) | exact HK.out)) hkp (fun k_ hs_ => Or.elim hs_ (fun e_ => (fun e_ => (HO_225000.out.1 k_ e_.symm)) e_) (fun e_ => (fun e_ => (HO_225001.out.1 k_ e_.symm)) e_)))
                                  have n5_ := Aside0.mk (hb)
                                  clear BK224
                                  clear BK225
                                  clear HK
                                  clear HB
                                  clear HO_225000
                                  clear HO_225001
                                  have BK224 := n0_
                                  have BK225 := n1_
                                  have HO288 := n2_
                                  have HO291 := n3_
                                  have HK := n4_
                                  have HB := n5_
                                  clear n0_ n1_ n2_ n3_ n4_ n5_
                                  (try clear hb)
                                  (try clear hkp)
                                  (try clear ho0)
                                  (try clear ho1)
                                  obtain ⟨Ao122, co122, eo122⟩ := Kd.R_slice HO288.out
                                  (first | subst eo122 | (injection eo122 with f1_ f2_ f3_; have f4_ := f1_.symm; have f5_ := f3_.symm; clear f1_ f2_ f3_; subst f4_; subst f5_))
                                  obtain ⟨Ao124, co124, eo124⟩ := Kd.R_slice HO291.out
                                  (first | subst eo124 | (injection eo124 with f1_ f2_ f3_; have f4_ := f1_.symm; have f5_ := f3_.symm; clear f1_ f2_ f3_; subst f4_; subst f5_))
                                  refine hK.out _ _ ⟨(blk_cell BK224.out 0).trans rfl, (blk_cell BK224.out 1).trans rfl⟩ (fun hHeld => ?_)
                                  clear hK K
                                  refine norm_ (a' := ?_) ?_ ?_
                                  rotate_left
                                  · show Act.put _ (some 125) _ = _
                                    simp only [Act.put, List.setIfInBounds_toArray, List.set_cons_zero, List.set_cons_succ, i64_w, i32_w]
                                    rfl
                                  refine one_ (i := 6) (N := none) #[true, true, true, true, true, true, true, false] rfl rfl (one_of HT_.out (by kernel_rfl)) (by decide) (fun K hK => ?_)
                                  have hs123 : w121.cell? ⟨gb225, 0, none⟩ = some (.slice none 0 0) := (blk_cell BK225.out 0).trans rfl
                                  have hfs123 := blk_frozen BK225.out 0
                                  have hns123_0 := NB224_225.out
                                  have hms123_0 := NB225_224.out
                                  have hs125 : w121.cell? ⟨gb225, 1, none⟩ = some (.slice none 0 0) := (blk_cell BK225.out 1).trans rfl
                                  have hfs125 := blk_frozen BK225.out 1
                                  have hns125_0 := NB224_225.out
                                  have hms125_0 := NB225_224.out
                                  refine skip_ (w1 := ?_) (by rfl) rfl ?_ ?_
                                  rotate_left
                                  · go_simp
                                    rfl
                                  refine hK.out _ _ ⟨((cell_far (p := ⟨gb225, _, none⟩) NB224_225.out _).trans (((cell_far (p := ⟨gb225, _, none⟩) NB224_225.out _).trans (hHeld.1)))), ((cell_far (p := ⟨gb225, _, none⟩) NB224_225.out _).trans (((cell_far (p := ⟨gb225, _, none⟩) NB224_225.out _).trans (hHeld.2))))⟩ (fun hHeld => ?_)
                                  clear hK K
                                  refine pure_ (i := 7) (N := some 7) (v := ?_) (a' := ?_) #[true, true, true, true, true, true, true, true] rfl rfl (any_of HT_.out (by kernel_rfl)) (fun _ _ _ h => h) (Or.inl ⟨by rfl, ?_⟩) ?_ ?_
                                  rotate_left
                                  · intro w'
                                    go_simp
                                    with_reducible rfl
                                  rotate_left
                                  · simp only [Act.put, List.setIfInBounds_toArray, List.set_cons_zero, List.set_cons_succ, i64_w, i32_w]
                                    rfl
                                  refine done_ (done_of HT_.out (by kernel_rfl)) ?_
                                  try go_wp2
                                  refine bodyPost_ret (results_ct rfl _ _ gb225 70 #[.slice Ao122 t286.length co122, .slice Ao124 t289.length co124] (0, 0) _ rfl (by (with_reducible repeat (first | refine blk_drewN ?_ _ | refine blk_drew ?_ | refine blk_alloc ?_ _)); refine blk_put (cs := #[.slice Ao122 t286.length co122, .slice none 0 0]) ?_ 1 _ rfl; (with_reducible repeat (first | refine blk_drewN ?_ _ | refine blk_drew ?_ | refine blk_alloc ?_ _)); refine blk_put (cs := #[.slice none 0 0, .slice none 0 0]) ?_ 0 _ rfl; (with_reducible repeat (first | refine blk_drewN ?_ _ | refine blk_drew ?_ | refine blk_alloc ?_ _)); exact BK225.out) Tryd.underlying70 rfl (by kernel_rfl)) rfl ?_
                                  exact ⟨_, _, by first | rfl | (simp [errW_none, errW_some] <;> rfl) | (simp [*, errW_none, errW_some] <;> rfl), by (with_reducible repeat (first | apply Kd.R_alloc | apply Kd.R_drewN | apply Kd.R_drew)); exact Kd.R_mono (Kd.R_far (p := ⟨gb225, 1, none⟩) (Kd.R_far (p := ⟨gb225, 0, none⟩) (Kd.R_types HO288.out BK225.out (by decide)) (fun _ hk => hk.2) (.slice Ao122 t286.length co122)) (fun _ hk => hk.2) (.slice Ao124 t289.length co124)) (fun _ hk => hk.1), by (with_reducible repeat (first | apply Kd.R_alloc | apply Kd.R_drewN | apply Kd.R_drew)); exact Kd.R_mono (Kd.R_far (p := ⟨gb225, 1, none⟩) (Kd.R_far (p := ⟨gb225, 0, none⟩) (Kd.R_types HO291.out BK225.out (by decide)) (fun _ hk => hk.2) (.slice Ao122 t286.length co122)) (fun _ hk => hk.2) (.slice Ao124 t289.length co124)) (fun _ hk => hk.1), by repeat (first | (with_reducible first | exact HB.out | apply below_alloc | apply pw_below_drewN | apply below_drew1 | refine below_set ?_ GE224.out | refine below_set ?_ GE225.out) | exact HB.out), by repeat (first | (with_reducible first | exact HK.out | apply Kept.alloc | apply Kept.drewN | apply Kept.drew | refine Kept.setCell ?_ (.inr GW224.out) _ | refine Kept.setCell ?_ (.inr GW225.out) _) | exact HK.out)⟩
                            · rw [if_neg c93] at H
                              have c93b0 : ((rd l1 a2) == 102) = false := beq_eq_false_iff_ne.mpr c93
                              have c93b1 : ((rd l1 a2) != 102) = true := bne_iff_ne.mpr c93
                              replace H := Option.bind_eq_some_iff.mp H
                              obtain ⟨⟨t292, t295⟩, A1260, H⟩ := H
                              replace H : (some (t292, t295, wrap64 (a2 + 1))) = some (r1, r2, r3) := H
                              have A126 := Aside0.mk A1260
                              clear A1260
                              simp only [Option.some.injEq, Prod.mk.injEq] at H
                              obtain ⟨rfl, rfl, rfl⟩ := H
                              have hnb127 := NB224_225.out
                              have hnc127 := NB225_224.out
                              have hcz128_0 : wc.cell? ⟨gb224, 0, none⟩ = some (.slice Ao16 l0_0.length co16) := (blk_cell BK224.out 0).trans rfl
                              have hcz128_1 : wc.cell? ⟨gb224, 1, none⟩ = some (.slice Ao17 l0_1.length co17) := (blk_cell BK224.out 1).trans rfl
                              have hfz128_0 := blk_frozen BK224.out 0
                              have hfz128_1 := blk_frozen BK224.out 1
                              go_wp2_with (first | ((with_reducible refine gate_callee (f := 46) rfl ?_); refine goesL_ (some 129) rfl rfl Tryd.func46 (by kernel_rfl) rfl #[.agg #[.slice Ao16 l0_0.length co16, .slice Ao17 l0_1.length co17], .int .i64 1, .int .i64 (wrap64 (a2 - 1))] rfl (by (try simp only [List.map_toArray, List.map_cons, List.map_nil]); first | done | rfl | (simp only [List.length_drop, List.length_take]; rfl)) ?_; (with_reducible refine (flongref04_tell.calls (fun k_ => some k_ = (.slice Ao16 l0_0.length co16 : Value).ownBlock) (.slice Ao16 l0_0.length co16) l0_0 (fun k_ => some k_ = (.slice Ao17 l0_1.length co17 : Value).ownBlock) (.slice Ao17 l0_1.length co17) l0_1 1 (wrap64 (a2 - 1)) t292 t295 w0 _ ?side1 ?side2 ?side3 A126.out).mono ?_); (case side1 => repeat (first | (with_reducible first | exact HB.out | apply below_alloc | apply pw_below_drewN | apply below_drew1 | refine below_set ?_ GE224.out | refine below_set ?_ GE225.out) | exact HB.out)); (case side2 => exact Kd.R_tight rfl HO_225000.out); (case side3 => exact Kd.R_tight rfl HO_225001.out); rintro e w129 ⟨v293, v296, rfl, ho0, ho1, hb, hkp⟩; refine ⟨_, rfl, ?_⟩; have n0_ := Aside0.mk (blk_kept (by (with_reducible repeat (first | refine blk_drewN ?_ _ | refine blk_drew ?_ | refine blk_alloc ?_ _)); exact BK224.out) hkp (fun hs_ => Or.elim hs_ (fun e_ => (fun e_ => (Kd.R_ne HO_225000.out BK224.out (by decide)) e_) e_) (fun e_ => (fun e_ => (Kd.R_ne HO_225001.out BK224.out (by decide)) e_) e_))); have n1_ := Aside0.mk (blk_kept (by (with_reducible repeat (first | refine blk_drewN ?_ _ | refine blk_drew ?_ | refine blk_alloc ?_ _)); exact BK225.out) hkp (fun hs_ => Or.elim hs_ (fun e_ => (fun e_ => (Kd.R_ne HO_225000.out BK225.out (by decide)) e_) e_) (fun e_ => (fun e_ => (Kd.R_ne HO_225001.out BK225.out (by decide)) e_) e_))); have n2_ := Aside0.mk (Kd.R_mono (ok' := fun k_ => ((P0_0_ k_ ∨ P0_1_ k_) ∨ w.heap.size ≤ k_)) ho0 (fun k_ hk_ => Or.elim hk_ (fun hs_ => Or.elim hs_ (fun hs_ => (HO_225000.out.1 k_ (hs_).symm)) (fun hs_ => (HO_225001.out.1 k_ (hs_).symm))) (fun hn_ => (.inr (Nat.le_trans (by first | exact HK.out.1 | exact (show Kept w _ (fun k_ => P0_0_ k_ ∨ P0_1_ k_) from by repeat (first | (with_reducible first | exact HK.out | apply Kept.alloc | apply Kept.drewN | apply Kept.drew | refine Kept.setCell ?_ (.inr GW224.out) _ | refine Kept.setCell ?_ (.inr GW225.out) _) | exact HK.out)).1) hn_))))); have n3_ := Aside0.mk (Kd.R_mono (ok' := fun k_ => ((P0_0_ k_ ∨ P0_1_ k_) ∨ w.heap.size ≤ k_)) ho1 (fun k_ hk_ => Or.elim hk_ (fun hs_ => Or.elim hs_ (fun hs_ => (HO_225000.out.1 k_ (hs_).symm)) (fun hs_ => (HO_225001.out.1 k_ (hs_).symm))) (fun hn_ => (.inr (Nat.le_trans (by first | exact HK.out.1 | exact (show Kept w _ (fun k_ => P0_0_ k_ ∨ P0_1_ k_) from by repeat (first | (with_reducible first | exact HK.out | apply Kept.alloc | apply Kept.drewN | apply Kept.drew | refine Kept.setCell ?_ (.inr GW224.out) _ | refine Kept.setCell ?_ (.inr GW225.out) _) | exact HK.out)).1) hn_))))); have n4_ := Aside0.mk (Kept.then_ (S := (fun k_ => P0_0_ k_ ∨ P0_1_ k_)) (by repeat (first | (with_reducible first | exact HK.out | apply Kept.alloc | apply Kept.drewN | apply Kept.drew | refine Kept.setCell ?_ (.inr GW224.out) _ | refine Kept.setCell ?_ (.inr GW225.out) _) | exact HK.out)) hkp (fun k_ hs_ => Or.elim hs_ (fun e_ => (fun e_ => (HO_225000.out.1 k_ e_.symm)) e_) (fun e_ => (fun e_ => (HO_225001.out.1 k_ e_.symm)) e_))); have n5_ := Aside0.mk (hb); clear BK224; clear BK225; clear HK; clear HB; clear HO_225000; clear HO_225001; have BK224 := n0_; have BK225 := n1_; have HO294 := n2_; have HO297 := n3_; have HK := n4_; have HB := n5_; clear n0_ n1_ n2_ n3_ n4_ n5_; (try clear hb); (try clear hkp); (try clear ho0); (try clear ho1); obtain ⟨Ao130, co130, eo130⟩ := Kd.R_slice HO294.out; subst eo130; have hcz131_0 : w129.cell? ⟨gb225, 0, none⟩ = some (.slice none 0 0) := (blk_cell BK225.out 0).trans rfl; have hcz131_1 : w129.cell? ⟨gb225, 1, none⟩ = some (.slice none 0 0) := (blk_cell BK225.out 1).trans rfl; have hfz131_0 := blk_frozen BK225.out 0; have hfz131_1 := blk_frozen BK225.out 1; obtain ⟨Ao132, co132, eo132⟩ := Kd.R_slice HO297.out; subst eo132))
                              refine bodyPost_ret (results_ct rfl _ _ gb225 70 #[.slice Ao130 t292.length co130, .slice Ao132 t295.length co132] (0, 0) _ rfl (by (with_reducible repeat (first | refine blk_drewN ?_ _ | refine blk_drew ?_ | refine blk_alloc ?_ _)); refine blk_put (cs := #[.slice Ao130 t292.length co130, .slice none 0 0]) ?_ 1 _ rfl; (with_reducible repeat (first | refine blk_drewN ?_ _ | refine blk_drew ?_ | refine blk_alloc ?_ _)); refine blk_put (cs := #[.slice none 0 0, .slice none 0 0]) ?_ 0 _ rfl; (with_reducible repeat (first | refine blk_drewN ?_ _ | refine blk_drew ?_ | refine blk_alloc ?_ _)); exact BK225.out) Tryd.underlying70 rfl (by kernel_rfl)) rfl ?_
                              exact ⟨_, _, by first | rfl | (simp [errW_none, errW_some] <;> rfl) | (simp [*, errW_none, errW_some] <;> rfl), by (with_reducible repeat (first | apply Kd.R_alloc | apply Kd.R_drewN | apply Kd.R_drew)); exact Kd.R_mono (Kd.R_far (p := ⟨gb225, 1, none⟩) (Kd.R_far (p := ⟨gb225, 0, none⟩) (Kd.R_types HO294.out BK225.out (by decide)) (fun _ hk => hk.2) (.slice Ao130 t292.length co130)) (fun _ hk => hk.2) (.slice Ao132 t295.length co132)) (fun _ hk => hk.1), by (with_reducible repeat (first | apply Kd.R_alloc | apply Kd.R_drewN | apply Kd.R_drew)); exact Kd.R_mono (Kd.R_far (p := ⟨gb225, 1, none⟩) (Kd.R_far (p := ⟨gb225, 0, none⟩) (Kd.R_types HO297.out BK225.out (by decide)) (fun _ hk => hk.2) (.slice Ao130 t292.length co130)) (fun _ hk => hk.2) (.slice Ao132 t295.length co132)) (fun _ hk => hk.1), by repeat (first | (with_reducible first | exact HB.out | apply below_alloc | apply pw_below_drewN | apply below_drew1 | refine below_set ?_ GE224.out | refine below_set ?_ GE225.out) | exact HB.out), by repeat (first | (with_reducible first | exact HK.out | apply Kept.alloc | apply Kept.drewN | apply Kept.drew | refine Kept.setCell ?_ (.inr GW224.out) _ | refine Kept.setCell ?_ (.inr GW225.out) _) | exact HK.out)⟩
            · rw [if_neg c43] at H
              exact absurd H (by simp)
          · rw [if_neg c42] at H
            exact absurd H (by simp)
end Go.Proofs.YtdogljnddalgdaaDoor.A4
end
