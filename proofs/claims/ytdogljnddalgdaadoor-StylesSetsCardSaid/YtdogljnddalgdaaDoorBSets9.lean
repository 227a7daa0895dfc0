/- Of what the law StylesSets needs: part 9. -/
import Derived.Test.YtdogljnddalgdaaDoorBSets8
namespace Go.Proofs.YtdogljnddalgdaaDoorW.PrintLast
end Go.Proofs.YtdogljnddalgdaaDoorW.PrintLast
namespace Go.Proofs.YtdogljnddalgdaaDoorW.PrintMore
end Go.Proofs.YtdogljnddalgdaaDoorW.PrintMore
namespace Go.Proofs.YtdogljnddalgdaaDoorW.PrintWords
end Go.Proofs.YtdogljnddalgdaaDoorW.PrintWords
namespace Go.Proofs.YtdogljnddalgdaaDoorW.PrintWords.Aside0
end Go.Proofs.YtdogljnddalgdaaDoorW.PrintWords.Aside0
namespace Go.Proofs.YtdogljnddalgdaaDoorW.PrintWords.Kd
end Go.Proofs.YtdogljnddalgdaaDoorW.PrintWords.Kd
section
namespace Go.Proofs.YtdogljnddalgdaaDoor.A6
open Go.RowKit Go.Proofs.YtdogljnddalgdaaDoorW.PrintWords Go.Proofs.YtdogljnddalgdaaDoorW.PrintLast Go.Proofs.YtdogljnddalgdaaDoorW.PrintMore
open Go.Proofs.YtdogljnddalgdaaDoorW.PrintWords.Aside0 renaming mk → qA
open Go.Proofs.YtdogljnddalgdaaDoorW.PrintWords renaming pw_below_drewN → qB, below_set → qC, blk_alloc → qD, blk_drewN → qE, below_drew1 → qF, below_alloc → qG, blk_drew → qH, blk_frozen → qL, blk_cell → qQ, below_step → qR, below_size → qS, blk_below → qX, blk_put → qY
open Go.Proofs.YtdogljnddalgdaaDoorW.PrintWords.Kd renaming R_drewN → qI, R_alloc → qJ, R_drew → qK, R_far → qP, R_below → qT, R_mono → qU, R_types → qV, R_lower → qW
open List renaming setIfInBounds_toArray → qM, set_cons_succ → qN, set_cons_zero → qO
attribute [local go_sem] max2_int min2_int max_two min_two max_three min_three max_four min_four   -- for this text's walks alone
set_option linter.unusedVariables false
set_option linter.unusedSimpArgs false
mutual
def flongref04_escape.l0 : Nat → List Int → Int → Int → List Int → List Int → Int → List (S38) → List (S41) → Option ((List (S38)) × (List (S41)) × Int)
  | 0, _, _, _, _, _, _, _, _ => none
  | k + 1, x1, x2, x8, x9, x10, x11, x284000, x284001 => if x11 < (x9.length : Int) then (if 0 ≤ x2 then (if x2 < (x1.length : Int) then (if 0 ≤ x11 then (if (rd x1 x2) = (rd x9 x11) then (if x11 < (x10.length : Int) then ((flongref04_say.f x284000 x284001 1 (rd x10 x11)).bind fun bt300 => (some (bt300.1, bt300.2, wrap64 (x2 + 1)))) else (none)) else (flongref04_escape.l0 k x1 x2 x8 x9 x10 (wrap64 (x11 + 1)) x284000 x284001)) else (none)) else (none)) else (none)) else (if 0 ≤ x2 then (if x2 < (x1.length : Int) then (if (rd x1 x2) = 38 then (flongref04_escape.j1 k x1 x2 x8 (rd x1 x2) ((rd x1 x2) == 38) x284000 x284001) else (if (rd x1 x2) = 37 then (flongref04_escape.j1 k x1 x2 x8 (rd x1 x2) ((rd x1 x2) == 37) x284000 x284001) else (if (rd x1 x2) = 47 then (flongref04_escape.j1 k x1 x2 x8 (rd x1 x2) ((rd x1 x2) == 47) x284000 x284001) else (if (rd x1 x2) = 44 then (flongref04_escape.j1 k x1 x2 x8 (rd x1 x2) ((rd x1 x2) == 44) x284000 x284001) else (flongref04_escape.j1 k x1 x2 x8 (rd x1 x2) ((rd x1 x2) == 58) x284000 x284001))))) else (none)) else (none))
def flongref04_escape.j1 : Nat → List Int → Int → Int → Int → Bool → List (S38) → List (S41) → Option ((List (S38)) × (List (S41)) × Int)
  | 0, _, _, _, _, _, _, _ => none
  | k + 1, x1, x2, x8, x54, x55, x284000, x284001 => if x55 = true then (some (x284000, x284001, wrap64 (x2 + 1))) else (if x54 = 34 then (some (x284000, x284001, (x1.length : Int))) else (if x54 = 40 then (flongref04_escape.j2 k x1 x2 x8 x54 (x54 == 40) x284000 x284001) else (flongref04_escape.j2 k x1 x2 x8 x54 (x54 == 91) x284000 x284001)))
def flongref04_escape.j2 : Nat → List Int → Int → Int → Int → Bool → List (S38) → List (S41) → Option ((List (S38)) × (List (S41)) × Int)
  | 0, _, _, _, _, _, _, _ => none
  | k + 1, x1, x2, x8, x54, x69, x284000, x284001 => if x69 = true then ((flongref04_name.f k x1 x2).bind fun bt307 => (if bt307.2 < 0 then ((flongref04_tell.f x284000 x284001 1 x8).bind fun bt309 => (some (bt309.1, bt309.2, (x1.length : Int)))) else ((flongref04_Name.f k bt307.1).bind fun t315 => (if t315 < 0 then ((flongref04_tell.f x284000 x284001 2 x8).bind fun bt316 => (some (bt316.1, bt316.2, bt307.2))) else ((flongref04_Name.f k bt307.1).bind fun t322 => ((flongref04_say.f x284000 x284001 1 (wrap32 (t322))).bind fun bt323 => (some (bt323.1, bt323.2, bt307.2)))))))) else (if x54 = 102 then ((flongref04_name.f k x1 (wrap64 (x2 + 1))).bind fun bt329 => (if bt329.2 < 0 then ((flongref04_tell.f x284000 x284001 1 x8).bind fun bt331 => (some (bt331.1, bt331.2, (x1.length : Int)))) else ((flongref04_Font.f k bt329.1).bind fun t337 => (if t337 < 0 then ((flongref04_tell.f x284000 x284001 2 x8).bind fun bt338 => (some (bt338.1, bt338.2, bt329.2))) else ((flongref04_Font.f k bt329.1).bind fun t344 => ((flongref04_say.f x284000 x284001 3 (wrap32 (t344))).bind fun bt345 => (some (bt345.1, bt345.2, bt329.2)))))))) else ((flongref04_tell.f x284000 x284001 1 x8).bind fun bt351 => (some (bt351.1, bt351.2, wrap64 (x2 + 1)))))
end
def flongref04_escape.f (k : Nat) (l0_0 : List (S38)) (l0_1 : List (S41)) (l1 : List Int) (a2 : Int) : Option ((List (S38)) × (List (S41)) × Int) := if a2 ≥ (l1.length : Int) then ((flongref04_tell.f l0_0 l0_1 1 (wrap64 (a2 - 1))).bind fun bt285 => (some (bt285.1, bt285.2, a2))) else (flongref04_escape.l0 k l1 a2 (wrap64 (a2 - 1)) (([92, 101, 45, 46, 39, 96, 32, 126, 48] : List Int)) (([92, 92, 45, 46, 180, 96, 160, 160, 160] : List Int)) 0 l0_0 l0_1)
def flongref04_escape.T9 : Bool × List (List Nat × List Nat) := (true, [([], []), ([], []), ([0, 1], [0, 1]), ([2], [2]), ([], []), ([], []), ([4, 5], [4, 5]), ([6], [6]), ([3, 7], [3, 7])])
def flongref04_escape.B9 : List Nat := [0, 0, 3, 7, 0, 0, 48, 112, 255]
theorem flongref04_escape.tab9 : rtab .any (opsOf Tryd.f44 9) = flongref04_escape.T9 := by kernel_rfl
theorem flongref04_escape.bits9 : waitsOk flongref04_escape.T9.2 flongref04_escape.B9 = true := by kernel_rfl
def flongref04_escape.T10 : Bool × List (List Nat × List Nat) := (true, [([], []), ([], []), ([], []), ([1, 2], [1, 2]), ([3], [3]), ([0, 4], [0, 4]), ([], []), ([6], [6]), ([5, 5, 0, 1, 2, 3, 4, 5], [5]), ([7, 8, 0, 1, 2, 3, 4, 5, 6, 7, 8], [7])])
def flongref04_escape.B10 : List Nat := [0, 0, 0, 6, 14, 31, 0, 64, 63, 511]
theorem flongref04_escape.tab10 : rtab .any (opsOf Tryd.f44 10) = flongref04_escape.T10 := by kernel_rfl
theorem flongref04_escape.bits10 : waitsOk flongref04_escape.T10.2 flongref04_escape.B10 = true := by kernel_rfl
def flongref04_escape.T27 : Bool × List (List Nat × List Nat) := (true, [([], []), ([], []), ([1], [1]), ([2], [2]), ([0, 3, 2], [0, 3]), ([], []), ([4, 4, 0, 1, 2, 3, 4], [4]), ([5, 6, 0, 1, 2, 3, 4, 5, 6], [5])])
def flongref04_escape.B27 : List Nat := [0, 0, 2, 6, 15, 0, 31, 127]
theorem flongref04_escape.tab27 : rtab .any (opsOf Tryd.f44 27) = flongref04_escape.T27 := by kernel_rfl
theorem flongref04_escape.bits27 : waitsOk flongref04_escape.T27.2 flongref04_escape.B27 = true := by kernel_rfl
def flongref04_escape.T34 : Bool × List (List Nat × List Nat) := (true, [([], []), ([], []), ([1], [1]), ([2], [2]), ([0, 3, 2], [0, 3]), ([], []), ([4, 4, 0, 1, 2, 3, 4], [4]), ([5, 6, 0, 1, 2, 3, 4, 5, 6], [5])])
def flongref04_escape.B34 : List Nat := [0, 0, 2, 6, 15, 0, 31, 127]
theorem flongref04_escape.tab34 : rtab .any (opsOf Tryd.f44 34) = flongref04_escape.T34 := by kernel_rfl
theorem flongref04_escape.bits34 : waitsOk flongref04_escape.T34.2 flongref04_escape.B34 = true := by kernel_rfl
set_option maxHeartbeats 8000000 in
set_option maxRecDepth 100000 in
theorem flongref04_escape.calls (k : Nat) (P0_0_ : Nat → Prop) (u9000_ : Value) (l0_0 : List (S38)) (P0_1_ : Nat → Prop) (u9001_ : Value) (l0_1 : List (S41)) (A1 : Option Addr) (c1 : Nat) (l1 : List Int) (a2 : Int) (r1 : List (S38)) (r2 : List (S41)) (r3 : Int) (w0 w : World) (hB : Below w0.heap.size w0 w) (ho0_0 : Kd.R k38 38 w w0.heap.size P0_0_ u9000_ l0_0) (ho0_1 : Kd.R k41 41 w w0.heap.size P0_1_ u9001_ l0_1) (hr1 : ∀ W_, Kept w W_ (fun k_ => P0_0_ k_ ∨ P0_1_ k_) → Kd.C (Kd.int .i32) W_ A1 l1.length l1) (hc1 : l1.length ≤ c1) (h : flongref04_escape.f k l0_0 l0_1 l1 a2 = some (r1, r2, r3)) :
    Calls Tryd.prog 44 #[.agg #[u9000_, u9001_], .slice A1 l1.length c1, .int .i64 a2] w fun e w' => ∃ v0_ v1_ : Value, e = .returned (.tuple #[.agg #[v0_, v1_], .int .i64 r3]) ∧ Kd.R k38 38 w' w0.heap.size (fun k_ => ((P0_0_ k_ ∨ P0_1_ k_) ∨ w.heap.size ≤ k_)) v0_ r1 ∧ Kd.R k41 41 w' w0.heap.size (fun k_ => ((P0_0_ k_ ∨ P0_1_ k_) ∨ w.heap.size ≤ k_)) v1_ r2 ∧ Below w0.heap.size w0 w' ∧ Kept w w' (fun k_ => P0_0_ k_ ∨ P0_1_ k_) := by
  have hu70 := Tryd.underlying70
  have HO0_0 := qA (show Kd.R k38 38 w w0.heap.size (fun k_ => ((P0_0_ k_ ∨ P0_1_ k_) ∨ w.heap.size ≤ k_)) u9000_ l0_0 from qU ho0_0 (fun k_ hk => (.inl (.inl hk))))
  have HO0_1 := qA (show Kd.R k41 41 w w0.heap.size (fun k_ => ((P0_0_ k_ ∨ P0_1_ k_) ∨ w.heap.size ≤ k_)) u9001_ l0_1 from qU ho0_1 (fun k_ hk => (.inl (.inr hk))))
  have HR1 := qA hr1
  have HC1 := qA hc1
  clear hr1 hc1
  have HK := qA (Kept.refl w (fun k_ => P0_0_ k_ ∨ P0_1_ k_))
  have HW0 := qA hB.size
  have HB := qA hB
  clear hB
  have H : (if a2 ≥ (l1.length : Int) then ((flongref04_tell.f l0_0 l0_1 1 (wrap64 (a2 - 1))).bind fun bt285 => (some (bt285.1, bt285.2, a2))) else (flongref04_escape.l0 k l1 a2 (wrap64 (a2 - 1)) (([92, 101, 45, 46, 39, 96, 32, 126, 48] : List Int)) (([92, 92, 45, 46, 180, 96, 160, 160, 160] : List Int)) 0 l0_0 l0_1)) = some (r1, r2, r3) := h
  clear h
  by_cases c4 : a2 ≥ (l1.length : Int)
  · rw [if_pos c4] at H
    have c4b0 : decide ((l1.length : Int) ≤ a2) = true := decide_eq_true c4
    clear c4
    replace H := Option.bind_eq_some_iff.mp H
    obtain ⟨⟨t285, t288⟩, A50, H⟩ := H
    replace H : (some (t285, t288, a2)) = some (r1, r2, r3) := H
    have A5 := qA A50
    clear A50
    simp only [Option.some.injEq, Prod.mk.injEq] at H
    obtain ⟨rfl, rfl, rfl⟩ := H
    obtain ⟨Ao6, co6, eo6⟩ := Kd.R_slice HO0_0.out
    subst eo6
    obtain ⟨Ao7, co7, eo7⟩ := Kd.R_slice HO0_1.out
    subst eo7
    go_enter Tryd.func44, Tryd.ntmps44
    go_wp2_with (first | ((with_reducible refine gate_dst (N := 3) rfl ?_); refine box_event ?hg (N := 3) ?hd (cs := #[.slice Ao6 l0_0.length co6, .slice Ao7 l0_1.length co7]) (t := 70) ?hr ?_; (case hd => rfl); (case hg => rfl); (case hr => first | (go_simp; done) | (go_simp; rfl)); intro gb283 hg w8 hbox hb; have n0_ := qA (qT (by (with_reducible repeat (first | apply qJ | apply qI | apply qK)); exact HO0_0.out) hb); have n1_ := qA (qT (by (with_reducible repeat (first | apply qJ | apply qI | apply qK)); exact HO0_1.out) hb); have n2_ := qA (Kept.below (S := (fun k_ => P0_0_ k_ ∨ P0_1_ k_)) (by repeat (first | (with_reducible first | exact HK.out | apply Kept.alloc | apply Kept.drewN | apply Kept.drew) | exact HK.out)) hb); have n3_ := qA (qR (by repeat (first | (with_reducible first | exact HB.out | apply qG | apply qB | apply qF) | exact HB.out)) hb); have n4_ := qA (hbox); have n5_ := qA ((by rw [hg]; exact (by first | exact HK.out.1 | exact (show Kept w _ (fun k_ => P0_0_ k_ ∨ P0_1_ k_) from by repeat (first | (with_reducible first | exact HK.out | apply Kept.alloc | apply Kept.drewN | apply Kept.drew) | exact HK.out)).1) : w.heap.size ≤ gb283)); have n6_ := qA ((by rw [hg]; exact (qS (by repeat (first | (with_reducible first | exact HB.out | apply qG | apply qB | apply qF) | exact HB.out))) : w0.heap.size ≤ gb283)); clear HO0_0; clear HO0_1; clear HK; clear HB; have HO0_0 := n0_; have HO0_1 := n1_; have HK := n2_; have HB := n3_; have BK283 := n4_; have GW283 := n5_; have GE283 := n6_; clear n0_ n1_ n2_ n3_ n4_ n5_ n6_; clear hb hbox hg) | ((with_reducible refine gate_dst (N := 6) rfl ?_); refine box_event ?hg (N := 6) ?hd (cs := #[.slice none 0 0, .slice none 0 0]) (t := 70) ?hr ?_; (case hd => rfl); (case hg => rfl); (case hr => first | (go_simp; done) | (go_simp; rfl)); intro gb284 hg w9 hbox hb; have n0_ := qA (qT (by (with_reducible repeat (first | apply qJ | apply qI | apply qK)); exact HO0_0.out) hb); have n1_ := qA (qT (by (with_reducible repeat (first | apply qJ | apply qI | apply qK)); exact HO0_1.out) hb); have n2_ := qA (qX (g := gb283) (o := .cells #[.slice Ao6 l0_0.length co6, .slice Ao7 l0_1.length co7] 70 (0, 0)) (by (with_reducible repeat (first | refine qE ?_ _ | refine qH ?_ | refine qD ?_ _)); exact BK283.out) hb); have n3_ := qA (Kept.below (S := (fun k_ => P0_0_ k_ ∨ P0_1_ k_)) (by repeat (first | (with_reducible first | exact HK.out | apply Kept.alloc | apply Kept.drewN | apply Kept.drew | refine Kept.setCell ?_ (.inr GW283.out) _) | exact HK.out)) hb); have n4_ := qA (qR (by repeat (first | (with_reducible first | exact HB.out | apply qG | apply qB | apply qF | refine qC ?_ GE283.out) | exact HB.out)) hb); have n5_ := qA (hbox); have n6_ := qA ((by rw [hg]; exact (by first | exact HK.out.1 | exact (show Kept w _ (fun k_ => P0_0_ k_ ∨ P0_1_ k_) from by repeat (first | (with_reducible first | exact HK.out | apply Kept.alloc | apply Kept.drewN | apply Kept.drew | refine Kept.setCell ?_ (.inr GW283.out) _) | exact HK.out)).1) : w.heap.size ≤ gb284)); have n7_ := qA ((by rw [hg]; exact (qS (by repeat (first | (with_reducible first | exact HB.out | apply qG | apply qB | apply qF | refine qC ?_ GE283.out) | exact HB.out))) : w0.heap.size ≤ gb284)); have n8_ := qA ((by rw [hg]; exact Nat.ne_of_lt (blk_lt (g := gb283) (o := .cells #[.slice Ao6 l0_0.length co6, .slice Ao7 l0_1.length co7] 70 (0, 0)) (by (with_reducible repeat (first | refine qE ?_ _ | refine qH ?_ | refine qD ?_ _)); exact BK283.out)) : gb283 ≠ gb284)); have n9_ := qA ((by rw [hg]; exact Nat.ne_of_gt (blk_lt (g := gb283) (o := .cells #[.slice Ao6 l0_0.length co6, .slice Ao7 l0_1.length co7] 70 (0, 0)) (by (with_reducible repeat (first | refine qE ?_ _ | refine qH ?_ | refine qD ?_ _)); exact BK283.out)) : gb284 ≠ gb283)); clear HO0_0; clear HO0_1; clear BK283; clear HK; clear HB; have HO0_0 := n0_; have HO0_1 := n1_; have BK283 := n2_; have HK := n3_; have HB := n4_; have BK284 := n5_; have GW284 := n6_; have GE284 := n7_; have NB283_284 := n8_; have NB284_283 := n9_; clear n0_ n1_ n2_ n3_ n4_ n5_ n6_ n7_ n8_ n9_; clear hb hbox hg; have hnb10 := NB283_284.out; have hnc10 := NB284_283.out; have hcz11_0 : w9.cell? ⟨gb283, 0, none⟩ = some (.slice Ao6 l0_0.length co6) := (qQ BK283.out 0).trans rfl; have hcz11_1 : w9.cell? ⟨gb283, 1, none⟩ = some (.slice Ao7 l0_1.length co7) := (qQ BK283.out 1).trans rfl; have hfz11_0 := qL BK283.out 0; have hfz11_1 := qL BK283.out 1) | ((with_reducible refine gate_callee (f := 46) rfl ?_); refine goesL_ (some 24) rfl rfl Tryd.func46 (by kernel_rfl) rfl #[.agg #[.slice Ao6 l0_0.length co6, .slice Ao7 l0_1.length co7], .int .i64 1, .int .i64 (wrap64 (a2 - 1))] rfl (by (try simp only [List.map_toArray, List.map_cons, List.map_nil]); first | done | rfl | (simp only [List.length_drop, List.length_take]; rfl)) ?_; (with_reducible refine (flongref04_tell.calls (fun k_ => some k_ = (.slice Ao6 l0_0.length co6 : Value).ownBlock) (.slice Ao6 l0_0.length co6) l0_0 (fun k_ => some k_ = (.slice Ao7 l0_1.length co7 : Value).ownBlock) (.slice Ao7 l0_1.length co7) l0_1 1 (wrap64 (a2 - 1)) t285 t288 w0 _ ?side1 ?side2 ?side3 A5.out).mono ?_); (case side1 => repeat (first | (with_reducible first | exact HB.out | apply qG | apply qB | apply qF | refine qC ?_ GE283.out | refine qC ?_ GE284.out) | exact HB.out)); (case side2 => exact Kd.R_tight rfl HO0_0.out); (case side3 => exact Kd.R_tight rfl HO0_1.out); rintro e w12 ⟨v286, v289, rfl, ho0, ho1, hb, hkp⟩; refine ⟨_, rfl, ?_⟩; have n0_ := qA (blk_kept (by (with_reducible repeat (first | refine qE ?_ _ | refine qH ?_ | refine qD ?_ _)); exact BK283.out) hkp (fun hs_ => Or.elim hs_ (fun e_ => (fun e_ => (Kd.R_ne HO0_0.out BK283.out (by decide)) e_) e_) (fun e_ => (fun e_ => (Kd.R_ne HO0_1.out BK283.out (by decide)) e_) e_))); have n1_ := qA (blk_kept (by (with_reducible repeat (first | refine qE ?_ _ | refine qH ?_ | refine qD ?_ _)); exact BK284.out) hkp (fun hs_ => Or.elim hs_ (fun e_ => (fun e_ => (Kd.R_ne HO0_0.out BK284.out (by decide)) e_) e_) (fun e_ => (fun e_ => (Kd.R_ne HO0_1.out BK284.out (by decide)) e_) e_))); have n2_ := qA (qU (ok' := fun k_ => ((P0_0_ k_ ∨ P0_1_ k_) ∨ w.heap.size ≤ k_)) ho0 (fun k_ hk_ => Or.elim hk_ (fun hs_ => Or.elim hs_ (fun hs_ => (HO0_0.out.1 k_ (hs_).symm)) (fun hs_ => (HO0_1.out.1 k_ (hs_).symm))) (fun hn_ => (.inr (Nat.le_trans (by first | exact HK.out.1 | exact (show Kept w _ (fun k_ => P0_0_ k_ ∨ P0_1_ k_) from by repeat (first | (with_reducible first | exact HK.out | apply Kept.alloc | apply Kept.drewN | apply Kept.drew | refine Kept.setCell ?_ (.inr GW283.out) _ | refine Kept.setCell ?_ (.inr GW284.out) _) | exact HK.out)).1) hn_))))); have n3_ := qA (qU (ok' := fun k_ => ((P0_0_ k_ ∨ P0_1_ k_) ∨ w.heap.size ≤ k_)) ho1 (fun k_ hk_ => Or.elim hk_ (fun hs_ => Or.elim hs_ (fun hs_ => (HO0_0.out.1 k_ (hs_).symm)) (fun hs_ => (HO0_1.out.1 k_ (hs_).symm))) (fun hn_ => (.inr (Nat.le_trans (by first | exact HK.out.1 | exact (show Kept w _ (fun k_ => P0_0_ k_ ∨ P0_1_ k_) from by repeat (first | (with_reducible first | exact HK.out | apply Kept.alloc | apply Kept.drewN | apply Kept.drew | refine Kept.setCell ?_ (.inr GW283.out) _ | refine Kept.setCell ?_ (.inr GW284.out) _) | exact HK.out)).1) hn_))))); have n4_ := qA (Kept.then_ (S := (fun k_ => P0_0_ k_ ∨ P0_1_ k_)) (by repeat (first | (with_reducible first | exact HK.out | apply Kept.alloc | apply Kept.drewN | apply Kept.drew | refine Kept.setCell ?_ (.inr GW283.out) _ | refine Kept.setCell ?_ (.inr GW284.out) _) | exact HK.out)) hkp (fun k_ hs_ => Or.elim hs_ (fun e_ => (fun e_ => (HO0_0.out.1 k_ e_.symm)) e_) (fun e_ => (fun e_ => (HO0_1.out.1 k_ e_.symm)) e_))); have n5_ := qA (hb); clear BK283; clear BK284; clear HK; clear HB; clear HO0_0; clear HO0_1; have BK283 := n0_; have BK284 := n1_; have HO287 := n2_; have HO290 := n3_; have HK := n4_; have HB := n5_; clear n0_ n1_ n2_ n3_ n4_ n5_; (try clear hb); (try clear hkp); (try clear ho0); (try clear ho1); obtain ⟨Ao13, co13, eo13⟩ := Kd.R_slice HO287.out; subst eo13; have hcz14_0 : w12.cell? ⟨gb284, 0, none⟩ = some (.slice none 0 0) := (qQ BK284.out 0).trans rfl; have hcz14_1 : w12.cell? ⟨gb284, 1, none⟩ = some (.slice none 0 0) := (qQ BK284.out 1).trans rfl; have hfz14_0 := qL BK284.out 0; have hfz14_1 := qL BK284.out 1; obtain ⟨Ao15, co15, eo15⟩ := Kd.R_slice HO290.out; subst eo15))
    refine bodyPost_ret (results_ct rfl _ _ gb284 70 #[.slice Ao13 t285.length co13, .slice Ao15 t288.length co15] (0, 0) _ rfl (by (with_reducible repeat (first | refine qE ?_ _ | refine qH ?_ | refine qD ?_ _)); refine qY (cs := #[.slice Ao13 t285.length co13, .slice none 0 0]) ?_ 1 _ rfl; (with_reducible repeat (first | refine qE ?_ _ | refine qH ?_ | refine qD ?_ _)); refine qY (cs := #[.slice none 0 0, .slice none 0 0]) ?_ 0 _ rfl; (with_reducible repeat (first | refine qE ?_ _ | refine qH ?_ | refine qD ?_ _)); exact BK284.out) Tryd.underlying70 rfl (by kernel_rfl)) rfl ?_
    exact ⟨_, _, by first | rfl | (simp [errW_none, errW_some] <;> rfl) | (simp [*, errW_none, errW_some] <;> rfl), by (with_reducible repeat (first | apply qJ | apply qI | apply qK)); exact qU (qP (p := ⟨gb284, 1, none⟩) (qP (p := ⟨gb284, 0, none⟩) (qV HO287.out BK284.out (by decide)) (fun _ hk => hk.2) (.slice Ao13 t285.length co13)) (fun _ hk => hk.2) (.slice Ao15 t288.length co15)) (fun _ hk => hk.1), by (with_reducible repeat (first | apply qJ | apply qI | apply qK)); exact qU (qP (p := ⟨gb284, 1, none⟩) (qP (p := ⟨gb284, 0, none⟩) (qV HO290.out BK284.out (by decide)) (fun _ hk => hk.2) (.slice Ao13 t285.length co13)) (fun _ hk => hk.2) (.slice Ao15 t288.length co15)) (fun _ hk => hk.1), by repeat (first | (with_reducible first | exact HB.out | apply qG | apply qB | apply qF | refine qC ?_ GE283.out | refine qC ?_ GE284.out) | exact HB.out), by repeat (first | (with_reducible first | exact HK.out | apply Kept.alloc | apply Kept.drewN | apply Kept.drew | refine Kept.setCell ?_ (.inr GW283.out) _ | refine Kept.setCell ?_ (.inr GW284.out) _) | exact HK.out)⟩
  · rw [if_neg c4] at H
    have c4b0 : decide ((l1.length : Int) ≤ a2) = false := decide_eq_false c4
    clear c4
    obtain ⟨y291, hy291⟩ : ∃ y_ : List Int, y_ = (([92, 101, 45, 46, 39, 96, 32, 126, 48] : List Int)) := ⟨_, rfl⟩
    replace H : (flongref04_escape.l0 k l1 a2 (wrap64 (a2 - 1)) y291 (([92, 92, 45, 46, 180, 96, 160, 160, 160] : List Int)) 0 l0_0 l0_1) = some (r1, r2, r3) := by first | (rw [hy291]; with_reducible exact H) | (have H2_ := (Option.bind_some _ _).symm.trans H; rw [hy291]; with_reducible exact H2_) | (have H2_ := (Option.bind_some _ _).symm.trans H; with_reducible exact H2_) | with_reducible exact H | (rw [hy291]; exact H) | exact H
    have Ny291 := qA hy291
    clear hy291
    obtain ⟨y294, hy294⟩ : ∃ y_ : List Int, y_ = (([92, 92, 45, 46, 180, 96, 160, 160, 160] : List Int)) := ⟨_, rfl⟩
    replace H : (flongref04_escape.l0 k l1 a2 (wrap64 (a2 - 1)) y291 y294 0 l0_0 l0_1) = some (r1, r2, r3) := by first | (rw [hy294]; with_reducible exact H) | (have H2_ := (Option.bind_some _ _).symm.trans H; rw [hy294]; with_reducible exact H2_) | (have H2_ := (Option.bind_some _ _).symm.trans H; with_reducible exact H2_) | with_reducible exact H | (rw [hy294]; exact H) | exact H
    have Ny294 := qA hy294
    clear hy294
    have H' := qA H
    clear H
    obtain ⟨Ao16, co16, eo16⟩ := Kd.R_slice HO0_0.out
    subst eo16
    obtain ⟨Ao17, co17, eo17⟩ := Kd.R_slice HO0_1.out
    subst eo17
    go_enter Tryd.func44, Tryd.ntmps44
    go_wp2_with (first | ((with_reducible refine gate_dst (N := 3) rfl ?_); refine box_event ?hg (N := 3) ?hd (cs := #[.slice Ao16 l0_0.length co16, .slice Ao17 l0_1.length co17]) (t := 70) ?hr ?_; (case hd => rfl); (case hg => rfl); (case hr => first | (go_simp; done) | (go_simp; rfl)); intro gb283 hg w18 hbox hb; have n0_ := qA (qT (by (with_reducible repeat (first | apply qJ | apply qI | apply qK)); exact HO0_0.out) hb); have n1_ := qA (qT (by (with_reducible repeat (first | apply qJ | apply qI | apply qK)); exact HO0_1.out) hb); have n2_ := qA (Kept.below (S := (fun k_ => P0_0_ k_ ∨ P0_1_ k_)) (by repeat (first | (with_reducible first | exact HK.out | apply Kept.alloc | apply Kept.drewN | apply Kept.drew) | exact HK.out)) hb); have n3_ := qA (qR (by repeat (first | (with_reducible first | exact HB.out | apply qG | apply qB | apply qF) | exact HB.out)) hb); have n4_ := qA (hbox); have n5_ := qA ((by rw [hg]; exact (by first | exact HK.out.1 | exact (show Kept w _ (fun k_ => P0_0_ k_ ∨ P0_1_ k_) from by repeat (first | (with_reducible first | exact HK.out | apply Kept.alloc | apply Kept.drewN | apply Kept.drew) | exact HK.out)).1) : w.heap.size ≤ gb283)); have n6_ := qA ((by rw [hg]; exact (qS (by repeat (first | (with_reducible first | exact HB.out | apply qG | apply qB | apply qF) | exact HB.out))) : w0.heap.size ≤ gb283)); clear HO0_0; clear HO0_1; clear HK; clear HB; have HO0_0 := n0_; have HO0_1 := n1_; have HK := n2_; have HB := n3_; have BK283 := n4_; have GW283 := n5_; have GE283 := n6_; clear n0_ n1_ n2_ n3_ n4_ n5_ n6_; clear hb hbox hg) | ((with_reducible refine gate_dst (N := 6) rfl ?_); refine box_event ?hg (N := 6) ?hd (cs := #[.slice none 0 0, .slice none 0 0]) (t := 70) ?hr ?_; (case hd => rfl); (case hg => rfl); (case hr => first | (go_simp; done) | (go_simp; rfl)); intro gb284 hg w19 hbox hb; have n0_ := qA (qT (by (with_reducible repeat (first | apply qJ | apply qI | apply qK)); exact HO0_0.out) hb); have n1_ := qA (qT (by (with_reducible repeat (first | apply qJ | apply qI | apply qK)); exact HO0_1.out) hb); have n2_ := qA (qX (g := gb283) (o := .cells #[.slice Ao16 l0_0.length co16, .slice Ao17 l0_1.length co17] 70 (0, 0)) (by (with_reducible repeat (first | refine qE ?_ _ | refine qH ?_ | refine qD ?_ _)); exact BK283.out) hb); have n3_ := qA (Kept.below (S := (fun k_ => P0_0_ k_ ∨ P0_1_ k_)) (by repeat (first | (with_reducible first | exact HK.out | apply Kept.alloc | apply Kept.drewN | apply Kept.drew | refine Kept.setCell ?_ (.inr GW283.out) _) | exact HK.out)) hb); have n4_ := qA (qR (by repeat (first | (with_reducible first | exact HB.out | apply qG | apply qB | apply qF | refine qC ?_ GE283.out) | exact HB.out)) hb); have n5_ := qA (hbox); have n6_ := qA ((by rw [hg]; exact (by first | exact HK.out.1 | exact (show Kept w _ (fun k_ => P0_0_ k_ ∨ P0_1_ k_) from by repeat (first | (with_reducible first | exact HK.out | apply Kept.alloc | apply Kept.drewN | apply Kept.drew | refine Kept.setCell ?_ (.inr GW283.out) _) | exact HK.out)).1) : w.heap.size ≤ gb284)); have n7_ := qA ((by rw [hg]; exact (qS (by repeat (first | (with_reducible first | exact HB.out | apply qG | apply qB | apply qF | refine qC ?_ GE283.out) | exact HB.out))) : w0.heap.size ≤ gb284)); have n8_ := qA ((by rw [hg]; exact Nat.ne_of_lt (blk_lt (g := gb283) (o := .cells #[.slice Ao16 l0_0.length co16, .slice Ao17 l0_1.length co17] 70 (0, 0)) (by (with_reducible repeat (first | refine qE ?_ _ | refine qH ?_ | refine qD ?_ _)); exact BK283.out)) : gb283 ≠ gb284)); have n9_ := qA ((by rw [hg]; exact Nat.ne_of_gt (blk_lt (g := gb283) (o := .cells #[.slice Ao16 l0_0.length co16, .slice Ao17 l0_1.length co17] 70 (0, 0)) (by (with_reducible repeat (first | refine qE ?_ _ | refine qH ?_ | refine qD ?_ _)); exact BK283.out)) : gb284 ≠ gb283)); clear HO0_0; clear HO0_1; clear BK283; clear HK; clear HB; have HO0_0 := n0_; have HO0_1 := n1_; have BK283 := n2_; have HK := n3_; have HB := n4_; have BK284 := n5_; have GW284 := n6_; have GE284 := n7_; have NB283_284 := n8_; have NB284_283 := n9_; clear n0_ n1_ n2_ n3_ n4_ n5_ n6_ n7_ n8_ n9_; clear hb hbox hg) | ((with_reducible refine gate_dst (N := 26) rfl ?_); refine Kd.R_lit (Kd.int .i32) _ 21 ?hg (N := 26) ?hd (xs := ([92, 101, 45, 46, 39, 96, 32, 126, 48] : List Int)) (inner := [.int .i32 92, .int .i32 101, .int .i32 45, .int .i32 46, .int .i32 39, .int .i32 96, .int .i32 32, .int .i32 126, .int .i32 48]) (ok := fun _ => True) (okp := fun _ => True) ?hr ?hp (fun _ hk => hk) trivial (Below.refl _ _) (Nat.le_refl _) (by simp) ?_; (case hd => rfl); (case hg => rfl); (case hr => first | (go_simp; done) | (go_simp; rfl)); (case hp => exact (Reps.one (show Kd.M (Kd.int .i32) _ _ _ 92 [.int .i32 92] from rfl) (Reps.one (show Kd.M (Kd.int .i32) _ _ _ 101 [.int .i32 101] from rfl) (Reps.one (show Kd.M (Kd.int .i32) _ _ _ 45 [.int .i32 45] from rfl) (Reps.one (show Kd.M (Kd.int .i32) _ _ _ 46 [.int .i32 46] from rfl) (Reps.one (show Kd.M (Kd.int .i32) _ _ _ 39 [.int .i32 39] from rfl) (Reps.one (show Kd.M (Kd.int .i32) _ _ _ 96 [.int .i32 96] from rfl) (Reps.one (show Kd.M (Kd.int .i32) _ _ _ 32 [.int .i32 32] from rfl) (Reps.one (show Kd.M (Kd.int .i32) _ _ _ 126 [.int .i32 126] from rfl) (Reps.one (show Kd.M (Kd.int .i32) _ _ _ 48 [.int .i32 48] from rfl) (Reps.none _ _))))))))))); intro v292 w20 ho21 hb hg_ hnew_; clear hg_ hnew_; (first | rw [← Ny291.out] at ho21 | (simp only [Int.reduceToNat] at ho21; rw [← Ny291.out] at ho21)); have n0_ := qA (qT (by (with_reducible repeat (first | apply qJ | apply qI | apply qK)); exact HO0_0.out) hb); have n1_ := qA (qT (by (with_reducible repeat (first | apply qJ | apply qI | apply qK)); exact HO0_1.out) hb); have n2_ := qA (qW (Kd.R_newM (M := fun k_ => ((P0_0_ k_ ∨ P0_1_ k_) ∨ w.heap.size ≤ k_)) ho21 (by first | exact HK.out.1 | exact (show Kept w _ (fun k_ => P0_0_ k_ ∨ P0_1_ k_) from by repeat (first | (with_reducible first | exact HK.out | apply Kept.alloc | apply Kept.drewN | apply Kept.drew | refine Kept.setCell ?_ (.inr GW283.out) _ | refine Kept.setCell ?_ (.inr GW284.out) _) | exact HK.out)).1) (fun k_ h_ => .inr h_)) (qS (by repeat (first | (with_reducible first | exact HB.out | apply qG | apply qB | apply qF | refine qC ?_ GE283.out | refine qC ?_ GE284.out) | exact HB.out)))); have n3_ := qA (qX (g := gb283) (o := .cells #[.slice Ao16 l0_0.length co16, .slice Ao17 l0_1.length co17] 70 (0, 0)) (by (with_reducible repeat (first | refine qE ?_ _ | refine qH ?_ | refine qD ?_ _)); exact BK283.out) hb); have n4_ := qA (qX (g := gb284) (o := .cells #[.slice none 0 0, .slice none 0 0] 70 (0, 0)) (by (with_reducible repeat (first | refine qE ?_ _ | refine qH ?_ | refine qD ?_ _)); exact BK284.out) hb); have n5_ := qA (Kept.below (S := (fun k_ => P0_0_ k_ ∨ P0_1_ k_)) (by repeat (first | (with_reducible first | exact HK.out | apply Kept.alloc | apply Kept.drewN | apply Kept.drew | refine Kept.setCell ?_ (.inr GW283.out) _ | refine Kept.setCell ?_ (.inr GW284.out) _) | exact HK.out)) hb); have n6_ := qA (qR (by repeat (first | (with_reducible first | exact HB.out | apply qG | apply qB | apply qF | refine qC ?_ GE283.out | refine qC ?_ GE284.out) | exact HB.out)) hb); clear HO0_0; clear HO0_1; clear BK283; clear BK284; clear HK; clear HB; have HO0_0 := n0_; have HO0_1 := n1_; have HO293 := n2_; have BK283 := n3_; have BK284 := n4_; have HK := n5_; have HB := n6_; clear n0_ n1_ n2_ n3_ n4_ n5_ n6_; clear hb ho21) | ((with_reducible refine gate_dst (N := 27) rfl ?_); refine Kd.R_lit (Kd.int .i32) _ 21 ?hg (N := 27) ?hd (xs := ([92, 92, 45, 46, 180, 96, 160, 160, 160] : List Int)) (inner := [.int .i32 92, .int .i32 92, .int .i32 45, .int .i32 46, .int .i32 180, .int .i32 96, .int .i32 160, .int .i32 160, .int .i32 160]) (ok := fun _ => True) (okp := fun _ => True) ?hr ?hp (fun _ hk => hk) trivial (Below.refl _ _) (Nat.le_refl _) (by simp) ?_; (case hd => rfl); (case hg => rfl); (case hr => first | (go_simp; done) | (go_simp; rfl)); (case hp => exact (Reps.one (show Kd.M (Kd.int .i32) _ _ _ 92 [.int .i32 92] from rfl) (Reps.one (show Kd.M (Kd.int .i32) _ _ _ 92 [.int .i32 92] from rfl) (Reps.one (show Kd.M (Kd.int .i32) _ _ _ 45 [.int .i32 45] from rfl) (Reps.one (show Kd.M (Kd.int .i32) _ _ _ 46 [.int .i32 46] from rfl) (Reps.one (show Kd.M (Kd.int .i32) _ _ _ 180 [.int .i32 180] from rfl) (Reps.one (show Kd.M (Kd.int .i32) _ _ _ 96 [.int .i32 96] from rfl) (Reps.one (show Kd.M (Kd.int .i32) _ _ _ 160 [.int .i32 160] from rfl) (Reps.one (show Kd.M (Kd.int .i32) _ _ _ 160 [.int .i32 160] from rfl) (Reps.one (show Kd.M (Kd.int .i32) _ _ _ 160 [.int .i32 160] from rfl) (Reps.none _ _))))))))))); intro v295 w22 ho23 hb hg_ hnew_; clear hg_ hnew_; (first | rw [← Ny294.out] at ho23 | (simp only [Int.reduceToNat] at ho23; rw [← Ny294.out] at ho23)); have n0_ := qA (qT (by (with_reducible repeat (first | apply qJ | apply qI | apply qK)); exact HO0_0.out) hb); have n1_ := qA (qT (by (with_reducible repeat (first | apply qJ | apply qI | apply qK)); exact HO0_1.out) hb); have n2_ := qA (Kd.R_elder' (by (with_reducible repeat (first | apply qJ | apply qI | apply qK)); exact HO293.out) (Kd.R_base ho23) hb); have n3_ := qA (qW (Kd.R_new' (Kd.R_newM (M := fun k_ => ((P0_0_ k_ ∨ P0_1_ k_) ∨ w.heap.size ≤ k_)) ho23 (by first | exact HK.out.1 | exact (show Kept w _ (fun k_ => P0_0_ k_ ∨ P0_1_ k_) from by repeat (first | (with_reducible first | exact HK.out | apply Kept.alloc | apply Kept.drewN | apply Kept.drew | refine Kept.setCell ?_ (.inr GW283.out) _ | refine Kept.setCell ?_ (.inr GW284.out) _) | exact HK.out)).1) (fun k_ h_ => .inr h_)) (Kd.R_lt (by (with_reducible repeat (first | apply qJ | apply qI | apply qK)); exact HO293.out))) (qS (by repeat (first | (with_reducible first | exact HB.out | apply qG | apply qB | apply qF | refine qC ?_ GE283.out | refine qC ?_ GE284.out) | exact HB.out)))); have n4_ := qA (qX (g := gb283) (o := .cells #[.slice Ao16 l0_0.length co16, .slice Ao17 l0_1.length co17] 70 (0, 0)) (by (with_reducible repeat (first | refine qE ?_ _ | refine qH ?_ | refine qD ?_ _)); exact BK283.out) hb); have n5_ := qA (qX (g := gb284) (o := .cells #[.slice none 0 0, .slice none 0 0] 70 (0, 0)) (by (with_reducible repeat (first | refine qE ?_ _ | refine qH ?_ | refine qD ?_ _)); exact BK284.out) hb); have n6_ := qA (Kept.below (S := (fun k_ => P0_0_ k_ ∨ P0_1_ k_)) (by repeat (first | (with_reducible first | exact HK.out | apply Kept.alloc | apply Kept.drewN | apply Kept.drew | refine Kept.setCell ?_ (.inr GW283.out) _ | refine Kept.setCell ?_ (.inr GW284.out) _) | exact HK.out)) hb); have n7_ := qA (qR (by repeat (first | (with_reducible first | exact HB.out | apply qG | apply qB | apply qF | refine qC ?_ GE283.out | refine qC ?_ GE284.out) | exact HB.out)) hb); clear HO0_0; clear HO0_1; clear HO293; clear BK283; clear BK284; clear HK; clear HB; have HO0_0 := n0_; have HO0_1 := n1_; have HO293 := n2_; have HO296 := n3_; have BK283 := n4_; have BK284 := n5_; have HK := n6_; have HB := n7_; clear n0_ n1_ n2_ n3_ n4_ n5_ n6_ n7_; clear hb ho23))
    go_loopg [11] k (fun kq v11 w' => ∃ (x11_1 : Int), v11 = .int .i64 x11_1 ∧ Aside0 (flongref04_escape.l0 kq l1 a2 (wrap64 (a2 - 1)) y291 y294 x11_1 l0_0 l0_1 = some (r1, r2, r3)) ∧ Aside0 (kq ≤ k) ∧ Aside0 (Kd.R (Kd.int .i32) 21 w' w0.heap.size (fun k_ => ((P0_0_ k_ ∨ P0_1_ k_) ∨ w.heap.size ≤ k_) ∧ some k_ ≠ (v295 : Value).ownBlock) v292 y291) ∧ Aside0 (Kd.R (Kd.int .i32) 21 w' w0.heap.size (fun k_ => ((P0_0_ k_ ∨ P0_1_ k_) ∨ w.heap.size ≤ k_) ∧ some k_ ≠ (v292 : Value).ownBlock) v295 y294) ∧ Aside0 (Kd.R k38 38 w' w0.heap.size (fun k_ => ((P0_0_ k_ ∨ P0_1_ k_) ∨ w.heap.size ≤ k_)) (.slice Ao16 l0_0.length co16) l0_0) ∧ Aside0 (Kd.R k41 41 w' w0.heap.size (fun k_ => ((P0_0_ k_ ∨ P0_1_ k_) ∨ w.heap.size ≤ k_)) (.slice Ao17 l0_1.length co17) l0_1) ∧ Aside0 (w'.heap[gb283]? = some (.cells #[(.slice Ao16 l0_0.length co16), (.slice Ao17 l0_1.length co17)] 70 (0, 0))) ∧ Aside0 (w'.heap[gb284]? = some (.cells #[(.slice none 0 0), (.slice none 0 0)] 70 (0, 0))) ∧ Aside0 (Kept w w' (fun k_ => P0_0_ k_ ∨ P0_1_ k_)) ∧ Aside0 (Below w0.heap.size w0 w'))
    case atStart => exact ⟨(0), (by first | rfl | (simp; done) | (simp [*]; done)), H', ⟨Nat.le_refl _⟩, ⟨by (with_reducible repeat (first | apply qJ | apply qI | apply qK)); exact qU HO293.out (fun _ hk => ⟨hk.1.1, hk.2⟩)⟩, ⟨by (with_reducible repeat (first | apply qJ | apply qI | apply qK)); exact qU HO296.out (fun _ hk => ⟨hk.1.1, hk.2⟩)⟩, ⟨by (with_reducible repeat (first | apply qJ | apply qI | apply qK)); exact HO0_0.out⟩, ⟨by (with_reducible repeat (first | apply qJ | apply qI | apply qK)); exact HO0_1.out⟩, ⟨by (with_reducible repeat (first | refine qE ?_ _ | refine qH ?_ | refine qD ?_ _)); exact BK283.out⟩, ⟨by (with_reducible repeat (first | refine qE ?_ _ | refine qH ?_ | refine qD ?_ _)); exact BK284.out⟩, ⟨by repeat (first | (with_reducible first | exact HK.out | apply Kept.alloc | apply Kept.drewN | apply Kept.drew | refine Kept.setCell ?_ (.inr GW283.out) _ | refine Kept.setCell ?_ (.inr GW284.out) _) | exact HK.out)⟩, ⟨by repeat (first | (with_reducible first | exact HB.out | apply qG | apply qB | apply qF | refine qC ?_ GE283.out | refine qC ?_ GE284.out) | exact HB.out)⟩⟩
    case round =>
      clear H'
      try clear c1
      try clear p2
      try clear c4
      try clear c4b0
      try clear p6
      try clear c10
      try clear hcz11_0
      try clear hcz11_1
      try clear hcz14_0
      try clear hcz14_1
      try clear hfz11_0
      try clear hfz11_1
      try clear hfz14_0
      try clear hfz14_1
      obtain ⟨x11_1, rfl, HA, HK1, HO_9, HO_10, HO_284000, HO_284001, BK283, BK284, HK, HB⟩ := hrel
      cases gk with
      | zero => exact absurd HA.out (by simp [flongref04_escape.l0])
      | succ k1 =>
        have H := HA.out
        clear HA
        simp only [flongref04_escape.l0] at H
        by_cases c24 : x11_1 < (y291.length : Int)
        · rw [if_pos c24] at H
          have c24b0 : decide (x11_1 < (y291.length : Int)) = true := decide_eq_true c24
          clear c24
          by_cases c25 : 0 ≤ a2
          · rw [if_pos c25] at H
            have c25b0 : decide (0 ≤ a2) = true := decide_eq_true c25
            clear c25
            by_cases c26 : a2 < (l1.length : Int)
            · rw [if_pos c26] at H
              have c26b0 : decide (a2 < (l1.length : Int)) = true := decide_eq_true c26
              clear c26
              by_cases c27 : 0 ≤ x11_1
              · rw [if_pos c27] at H
                have c27b0 : decide (0 ≤ x11_1) = true := decide_eq_true c27
                clear c27
                by_cases c28 : (rd l1 a2) = (rd y291 x11_1)
                · rw [if_pos c28] at H
                  have c28b0 : ((rd l1 a2) == (rd y291 x11_1)) = true := beq_iff_eq.mpr c28
                  have c28b1 : ((rd l1 a2) != (rd y291 x11_1)) = false := bne_eq_false_iff_eq.mpr c28
                  clear c28
                  by_cases c29 : x11_1 < (y294.length : Int)
                  · rw [if_pos c29] at H
                    have c29b0 : decide (x11_1 < (y294.length : Int)) = true := decide_eq_true c29
                    clear c29
                    replace H := Option.bind_eq_some_iff.mp H
                    obtain ⟨⟨t300, t303⟩, A300, H⟩ := H
                    replace H : (some (t300, t303, wrap64 (a2 + 1))) = some (r1, r2, r3) := H
                    have A30 := qA A300
                    clear A300
                    simp only [Option.some.injEq, Prod.mk.injEq] at H
                    obtain ⟨rfl, rfl, rfl⟩ := H
                    obtain ⟨Ao31, co31, eo31⟩ := Kd.R_slice HO_9.out
                    subst eo31
                    try go_wp2
                    have n0_ := qA (qK HO_9.out)
                    have n1_ := qA (qK HO_10.out)
                    have n2_ := qA (qK HO_284000.out)
                    have n3_ := qA (qK HO_284001.out)
                    have n4_ := qA (qH BK283.out)
                    have n5_ := qA (qH BK284.out)
                    have n6_ := qA (Kept.drew HK.out)
                    have n7_ := qA (qF HB.out)
                    clear HO_9
                    clear HO_10
                    clear HO_284000
                    clear HO_284001
                    clear BK283
                    clear BK284
                    clear HK
                    clear HB
                    have HO_9 := n0_
                    have HO_10 := n1_
                    have HO_284000 := n2_
                    have HO_284001 := n3_
                    have BK283 := n4_
                    have BK284 := n5_
                    have HK := n6_
                    have HB := n7_
                    clear n0_ n1_ n2_ n3_ n4_ n5_ n6_ n7_
                    have p297 : 0 ≤ (a2 : Int) := of_decide_eq_true (by first | (with_reducible assumption) | assumption)
                    have q297 : a2 < (l1.length : Int) := of_decide_eq_true (by first | (with_reducible assumption) | assumption)
                    obtain ⟨ad297, e297, hx297_0⟩ := Kd.at_int (Kd.C_kept_now HR1.out HK.out) a2 p297 q297
                    have hw297_0 := hx297_0
                    cases e297
                    replace p297 := eq_true p297
                    replace q297 := eq_true q297
                    have p298 : 0 ≤ (x11_1 : Int) := of_decide_eq_true (by first | (with_reducible assumption) | assumption)
                    have q298 : x11_1 < (y291.length : Int) := of_decide_eq_true (by first | (with_reducible assumption) | assumption)
                    obtain ⟨ad298, e298, hx298_0⟩ := Kd.at_int (Kd.R_reads' HO_9.out).2.2 x11_1 p298 q298
                    cases e298
                    replace p298 := eq_true p298
                    replace q298 := eq_true q298
                    refine start_ (n := 9) (S := fun w' => w'.cell? (ad297.add (a2).toNat) = some (.int .i32 (rd l1 a2)) ∧ w'.cell? (ad298.add (x11_1).toNat) = some (.int .i32 (rd y291 x11_1))) (ds := []) #[false, false, false, false, false, false, false, false, false] (by kernel_rfl) rfl rfl ⟨(Kd.foot_int (HR1.out _ (by repeat (first | exact HK.out | apply Kept.alloc | apply Kept.drewN | apply Kept.drew))) a2 (of_eq_true p297) (of_eq_true q297)), hx298_0⟩ (fun hHeld => ?_); refine with_tabW flongref04_escape.tab9 flongref04_escape.bits9 (fun HT_ HW_ => ?_)
                    generalize wr.drew = w32 at HO_9 HO_10 HO_284000 HO_284001 BK283 BK284 HK HB hx297_0 hx298_0 hHeld ⊢
                    refine pure_ (i := 0) (N := some 34) (v := ?_) (a' := ?_) #[true, false, false, false, false, false, false, false, false] rfl rfl (any_of HT_.out (by kernel_rfl)) (fun _ _ _ h => h) (Or.inl ⟨by rfl, ?_⟩) ?_ ?_
                    rotate_left
                    · intro w'
                      go_simp
                      with_reducible rfl
                    rotate_left
                    · simp only [Act.put, qM, qO, qN, i64_w, i32_w]
                      rfl
                    refine pure_ (i := 1) (N := some 35) (v := ?_) (a' := ?_) #[true, true, false, false, false, false, false, false, false] rfl rfl (any_of HT_.out (by kernel_rfl)) (fun _ _ _ h => h) (Or.inl ⟨by rfl, ?_⟩) ?_ ?_
                    rotate_left
                    · intro w'
                      go_simp
                      with_reducible rfl
                    rotate_left
                    · simp only [Act.put, qM, qO, qN, i64_w, i32_w]
                      rfl
                    refine pure_ (i := 2) (N := some 36) (v := ?_) (a' := ?_) #[true, true, true, false, false, false, false, false, false] rfl rfl (any_of HT_.out (by kernel_rfl)) (fun _ _ _ h => h) (Or.inl ⟨by rfl, ?_⟩) ?_ ?_
                    rotate_left
                    · intro w'
                      go_simp
                      with_reducible rfl
                    rotate_left
                    · simp only [Act.put, qM, qO, qN, i64_w, i32_w]
                      rfl
                    refine pure_ (i := 4) (N := some 38) (v := ?_) (a' := ?_) #[true, true, true, false, true, false, false, false, false] rfl rfl (any_of HT_.out (by kernel_rfl)) (fun _ _ _ h => h) (Or.inl ⟨by rfl, ?_⟩) ?_ ?_
                    rotate_left
                    · intro w'
                      go_simp
                      with_reducible rfl
                    rotate_left
                    · simp only [Act.put, qM, qO, qN, i64_w, i32_w]
                      rfl
                    refine pure_ (i := 5) (N := some 39) (v := ?_) (a' := ?_) #[true, true, true, false, true, true, false, false, false] rfl rfl (any_of HT_.out (by kernel_rfl)) (fun _ _ _ h => h) (Or.inl ⟨by rfl, ?_⟩) ?_ ?_
                    rotate_left
                    · intro w'
                      go_simp
                      with_reducible rfl
                    rotate_left
                    · simp only [Act.put, qM, qO, qN, i64_w, i32_w]
                      rfl
                    refine pure_ (i := 6) (N := some 40) (v := ?_) (a' := ?_) #[true, true, true, false, true, true, true, false, false] rfl rfl (any_of HT_.out (by kernel_rfl)) (fun _ _ _ h => h) (Or.inl ⟨by rfl, ?_⟩) ?_ ?_
                    rotate_left
                    · intro w'
                      go_simp
                      with_reducible rfl
                    rotate_left
                    · simp only [Act.put, qM, qO, qN, i64_w, i32_w]
                      rfl
                    refine take_ (i := 3) (N := some 37) (v := ?_) (a' := ?_) #[true, true, true, true, true, true, true, false, false] rfl rfl (take_ofW HT_.out HW_.out (by kernel_rfl)) (fun _ _ _ h => h) (Or.inl ⟨by rfl, ?_⟩) hHeld ?_ ?_
                    rotate_left
                    · rintro w' ⟨s0, s1⟩
                      go_simp
                      with_reducible rfl
                    rotate_left
                    · simp only [Act.put, qM, qO, qN, i64_w, i32_w]
                      rfl
                    refine take_ (i := 7) (N := some 41) (v := ?_) (a' := ?_) #[true, true, true, true, true, true, true, true, false] rfl rfl (take_ofW HT_.out HW_.out (by kernel_rfl)) (fun _ _ _ h => h) (Or.inl ⟨by rfl, ?_⟩) hHeld ?_ ?_
                    rotate_left
                    · rintro w' ⟨s0, s1⟩
                      go_simp
                      with_reducible rfl
                    rotate_left
                    · simp only [Act.put, qM, qO, qN, i64_w, i32_w]
                      rfl
                    refine pure_ (i := 8) (N := some 42) (v := ?_) (a' := ?_) #[true, true, true, true, true, true, true, true, true] rfl rfl (any_of HT_.out (by kernel_rfl)) (fun _ _ _ h => h) (Or.inl ⟨by rfl, ?_⟩) ?_ ?_
                    rotate_left
                    · intro w'
                      go_simp
                      with_reducible rfl
                    rotate_left
                    · simp only [Act.put, qM, qO, qN, i64_w, i32_w]
                      rfl
                    refine done_ (done_of HT_.out (by kernel_rfl)) ?_
                    try go_wp2
                    have n0_ := qA (qK HO_9.out)
                    have n1_ := qA (qK HO_10.out)
                    have n2_ := qA (qK HO_284000.out)
                    have n3_ := qA (qK HO_284001.out)
                    have n4_ := qA (qH BK283.out)
                    have n5_ := qA (qH BK284.out)
                    have n6_ := qA (Kept.drew HK.out)
                    have n7_ := qA (qF HB.out)
                    clear HO_9
                    clear HO_10
                    clear HO_284000
                    clear HO_284001
                    clear BK283
                    clear BK284
                    clear HK
                    clear HB
                    have HO_9 := n0_
                    have HO_10 := n1_
                    have HO_284000 := n2_
                    have HO_284001 := n3_
                    have BK283 := n4_
                    have BK284 := n5_
                    have HK := n6_
                    have HB := n7_
                    clear n0_ n1_ n2_ n3_ n4_ n5_ n6_ n7_
                    obtain ⟨Ao34, co34, eo34⟩ := Kd.R_slice HO_10.out
                    (first | subst eo34 | (injection eo34 with f1_ f2_ f3_; have f4_ := f1_.symm; have f5_ := f3_.symm; clear f1_ f2_ f3_; subst f4_; subst f5_))
                    have p299 : 0 ≤ (x11_1 : Int) := of_decide_eq_true (by first | (with_reducible assumption) | assumption)
                    have q299 : x11_1 < (y294.length : Int) := of_decide_eq_true (by first | (with_reducible assumption) | assumption)
                    obtain ⟨ad299, e299, hx299_0⟩ := Kd.at_int (Kd.R_reads' HO_10.out).2.2 x11_1 p299 q299
                    cases e299
                    replace p299 := eq_true p299
                    replace q299 := eq_true q299
                    refine start_ (n := 10) (S := fun w' => w'.cell? ⟨gb283, 0, none⟩ = some (.slice Ao16 l0_0.length co16) ∧ w'.cell? ⟨gb283, 1, none⟩ = some (.slice Ao17 l0_1.length co17) ∧ w'.cell? (ad299.add (x11_1).toNat) = some (.int .i32 (rd y294 x11_1))) (ds := []) #[false, false, false, false, false, false, false, false, false, false] (by kernel_rfl) rfl rfl ⟨(qQ BK283.out 0).trans rfl, (qQ BK283.out 1).trans rfl, hx299_0⟩ (fun hHeld => ?_); refine with_tabW flongref04_escape.tab10 flongref04_escape.bits10 (fun HT_ HW_ => ?_)
                    generalize w32.drew = w33 at HO_9 HO_10 HO_284000 HO_284001 BK283 BK284 HK HB hx299_0 hHeld ⊢
                    refine pure_ (i := 1) (N := some 44) (v := ?_) (a' := ?_) #[false, true, false, false, false, false, false, false, false, false] rfl rfl (any_of HT_.out (by kernel_rfl)) (fun _ _ _ h => h) (Or.inl ⟨by rfl, ?_⟩) ?_ ?_
                    rotate_left
                    · intro w'
                      go_simp
                      with_reducible rfl
                    rotate_left
                    · simp only [Act.put, qM, qO, qN, i64_w, i32_w]
                      rfl
                    refine pure_ (i := 2) (N := some 45) (v := ?_) (a' := ?_) #[false, true, true, false, false, false, false, false, false, false] rfl rfl (any_of HT_.out (by kernel_rfl)) (fun _ _ _ h => h) (Or.inl ⟨by rfl, ?_⟩) ?_ ?_
                    rotate_left
                    · intro w'
                      go_simp
                      with_reducible rfl
                    rotate_left
                    · simp only [Act.put, qM, qO, qN, i64_w, i32_w]
                      rfl
                    refine pure_ (i := 3) (N := some 46) (v := ?_) (a' := ?_) #[false, true, true, true, false, false, false, false, false, false] rfl rfl (any_of HT_.out (by kernel_rfl)) (fun _ _ _ h => h) (Or.inl ⟨by rfl, ?_⟩) ?_ ?_
                    rotate_left
                    · intro w'
                      go_simp
                      with_reducible rfl
                    rotate_left
                    · simp only [Act.put, qM, qO, qN, i64_w, i32_w]
                      rfl
                    refine pure_ (i := 6) (N := some 49) (v := ?_) (a' := ?_) #[false, true, true, true, false, false, true, false, false, false] rfl rfl (any_of HT_.out (by kernel_rfl)) (fun _ _ _ h => h) (Or.inl ⟨by rfl, ?_⟩) ?_ ?_
                    rotate_left
                    · intro w'
                      go_simp
                      with_reducible rfl
                    rotate_left
                    · simp only [Act.put, qM, qO, qN, i64_w, i32_w]
                      rfl
                    refine pure_ (i := 7) (N := some 50) (v := ?_) (a' := ?_) #[false, true, true, true, false, false, true, true, false, false] rfl rfl (any_of HT_.out (by kernel_rfl)) (fun _ _ _ h => h) (Or.inl ⟨by rfl, ?_⟩) ?_ ?_
                    rotate_left
                    · intro w'
                      go_simp
                      with_reducible rfl
                    rotate_left
                    · simp only [Act.put, qM, qO, qN, i64_w, i32_w]
                      rfl
                    refine take_ (i := 0) (N := some 43) (v := ?_) (a' := ?_) #[true, true, true, true, false, false, true, true, false, false] rfl rfl (take_ofW HT_.out HW_.out (by kernel_rfl)) (fun _ _ _ h => h) (Or.inl ⟨by rfl, ?_⟩) hHeld ?_ ?_
                    rotate_left
                    · rintro w' ⟨s0, s1, s2⟩
                      go_simp
                      with_reducible rfl
                    rotate_left
                    · simp only [Act.put, qM, qO, qN, i64_w, i32_w]
                      rfl
                    refine take_ (i := 4) (N := some 47) (v := ?_) (a' := ?_) #[true, true, true, true, true, false, true, true, false, false] rfl rfl (take_ofW HT_.out HW_.out (by kernel_rfl)) (fun _ _ _ h => h) (Or.inl ⟨by rfl, ?_⟩) hHeld ?_ ?_
                    rotate_left
                    · rintro w' ⟨s0, s1, s2⟩
                      go_simp
                      with_reducible rfl
                    rotate_left
                    · simp only [Act.put, qM, qO, qN, i64_w, i32_w]
                      rfl
                    refine one_ (i := 5) (N := some 48) #[true, true, true, true, true, true, true, true, false, false] rfl rfl (one_of HT_.out (by kernel_rfl)) (by decide) (fun K hK => ?_)
                    refine goes_ Tryd.func45 (by kernel_rfl) rfl #[.agg #[.slice Ao16 l0_0.length co16, .slice Ao17 l0_1.length co17], .int .i64 1, .int .i32 (rd y294 x11_1)] (by rfl) rfl rfl (by (try simp only [List.map_toArray, List.map_cons, List.map_nil]); first | done | rfl | (simp only [List.length_drop, List.length_take]; rfl)) ?_
                    with_reducible refine (flongref04_say.calls (fun k_ => some k_ = (.slice Ao16 l0_0.length co16 : Value).ownBlock) (.slice Ao16 l0_0.length co16) l0_0 (fun k_ => some k_ = (.slice Ao17 l0_1.length co17 : Value).ownBlock) (.slice Ao17 l0_1.length co17) l0_1 1 (rd y294 x11_1) t300 t303 w0 _ ?side1 ?side2 ?side3 A30.out).mono ?_
                    (case side1 => repeat (first | (with_reducible first | exact HB.out | apply qG | apply qB | apply qF | refine qC ?_ GE283.out | refine qC ?_ GE284.out) | exact HB.out))
                    (case side2 => exact Kd.R_tight rfl HO_284000.out)
                    (case side3 => exact Kd.R_tight rfl HO_284001.out)
                    rintro e w35 ⟨v301, v304, rfl, ho0, ho1, hb, hkp⟩
                    have HS2_ := cell_kept (hHeld.2.2) hkp (by first | (rw [add_block]; exact (fun hs_ => Or.elim hs_ (fun e_ => ((((Kd.R_apart' (Kd.R_apart' HO_10.out (Kd.R_typed HO_284000.out) (by decide)) (Kd.R_typed HO_284001.out) (by decide))).1 _ rfl).1.2) e_) (fun e_ => ((((Kd.R_apart' (Kd.R_apart' HO_10.out (Kd.R_typed HO_284000.out) (by decide)) (Kd.R_typed HO_284001.out) (by decide))).1 _ rfl).2) e_))) | (show ¬ _; simp only [add_block]; exact (fun hs_ => Or.elim hs_ (fun e_ => ((((Kd.R_apart' (Kd.R_apart' HO_10.out (Kd.R_typed HO_284000.out) (by decide)) (Kd.R_typed HO_284001.out) (by decide))).1 _ rfl).1.2) e_) (fun e_ => ((((Kd.R_apart' (Kd.R_apart' HO_10.out (Kd.R_typed HO_284000.out) (by decide)) (Kd.R_typed HO_284001.out) (by decide))).1 _ rfl).2) e_))) | exact (fun hs_ => Or.elim hs_ (fun e_ => ((((Kd.R_apart' (Kd.R_apart' HO_10.out (Kd.R_typed HO_284000.out) (by decide)) (Kd.R_typed HO_284001.out) (by decide))).1 _ rfl).1.2) e_) (fun e_ => ((((Kd.R_apart' (Kd.R_apart' HO_10.out (Kd.R_typed HO_284000.out) (by decide)) (Kd.R_typed HO_284001.out) (by decide))).1 _ rfl).2) e_)))
                    refine ⟨_, rfl, ?_⟩
                    have n0_ := qA (qU (ok' := fun k_ => ((P0_0_ k_ ∨ P0_1_ k_) ∨ w.heap.size ≤ k_) ∧ some k_ ≠ (.slice (some ad299) y294.length co34 : Value).ownBlock) (Kd.R_keptB ((Kd.R_apart' (Kd.R_apart' HO_9.out (Kd.R_typed HO_284000.out) (by decide)) (Kd.R_typed HO_284001.out) (by decide))) hkp (fun k_ hk_ hs_ => Or.elim hs_ (fun e_ => (hk_.1.2) e_) (fun e_ => (hk_.2) e_))) (fun k_ hk_ => ⟨hk_.1.1.1.1, hk_.1.1.1.2⟩))
                    have n1_ := qA (qU (ok' := fun k_ => ((P0_0_ k_ ∨ P0_1_ k_) ∨ w.heap.size ≤ k_) ∧ some k_ ≠ (.slice (some ad298) y291.length co31 : Value).ownBlock) (Kd.R_keptB ((Kd.R_apart' (Kd.R_apart' HO_10.out (Kd.R_typed HO_284000.out) (by decide)) (Kd.R_typed HO_284001.out) (by decide))) hkp (fun k_ hk_ hs_ => Or.elim hs_ (fun e_ => (hk_.1.2) e_) (fun e_ => (hk_.2) e_))) (fun k_ hk_ => ⟨hk_.1.1.1.1, hk_.1.1.1.2⟩))
                    have n2_ := qA (blk_kept (by (with_reducible repeat (first | refine qE ?_ _ | refine qH ?_ | refine qD ?_ _)); exact BK283.out) hkp (fun hs_ => Or.elim hs_ (fun e_ => (fun e_ => (Kd.R_ne HO_284000.out BK283.out (by decide)) e_) e_) (fun e_ => (fun e_ => (Kd.R_ne HO_284001.out BK283.out (by decide)) e_) e_)))
                    have n3_ := qA (blk_kept (by (with_reducible repeat (first | refine qE ?_ _ | refine qH ?_ | refine qD ?_ _)); exact BK284.out) hkp (fun hs_ => Or.elim hs_ (fun e_ => (fun e_ => (Kd.R_ne HO_284000.out BK284.out (by decide)) e_) e_) (fun e_ => (fun e_ => (Kd.R_ne HO_284001.out BK284.out (by decide)) e_) e_)))
                    have n4_ := qA (qU (ok' := fun k_ => ((P0_0_ k_ ∨ P0_1_ k_) ∨ w.heap.size ≤ k_)) ho0 (fun k_ hk_ => Or.elim hk_ (fun hs_ => Or.elim hs_ (fun hs_ => (HO_284000.out.1 k_ (hs_).symm)) (fun hs_ => (HO_284001.out.1 k_ (hs_).symm))) (fun hn_ => (.inr (Nat.le_trans (by first | exact HK.out.1 | exact (show Kept w _ (fun k_ => P0_0_ k_ ∨ P0_1_ k_) from by repeat (first | (with_reducible first | exact HK.out | apply Kept.alloc | apply Kept.drewN | apply Kept.drew | refine Kept.setCell ?_ (.inr GW283.out) _ | refine Kept.setCell ?_ (.inr GW284.out) _) | exact HK.out)).1) hn_)))))
                    have n5_ := qA (qU (ok' := fun k_ => ((P0_0_ k_ ∨ P0_1_ k_) ∨ w.heap.size ≤ k_)) ho1 (fun k_ hk_ => Or.elim hk_ (fun hs_ => Or.elim hs_ (fun hs_ => (HO_284000.out.1 k_ (hs_).symm)) (fun hs_ => (HO_284001.out.1 k_ (hs_).symm))) (fun hn_ => (.inr (Nat.le_trans (by first | exact HK.out.1 | exact (show Kept w _ (fun k_ => P0_0_ k_ ∨ P0_1_ k_) from by repeat (first | (with_reducible first | exact HK.out | apply Kept.alloc | apply Kept.drewN | apply Kept.drew | refine Kept.setCell ?_ (.inr GW283.out) _ | refine Kept.setCell ?_ (.inr GW284.out) _) | exact HK.out)).1) hn_)))))
                    have n6_ := qA (Kept.then_ (S := (fun k_ => P0_0_ k_ ∨ P0_1_ k_)) (by repeat (first | (with_reducible first | exact HK.out | apply Kept.alloc | apply Kept.drewN | apply Kept.drew | refine Kept.setCell ?_ (.inr GW283.out) _ | refine Kept.setCell ?_ (.inr GW284.out) _) | exact HK.out)) hkp (fun k_ hs_ => Or.elim hs_ (fun e_ => (fun e_ => (HO_284000.out.1 k_ e_.symm)) e_) (fun e_ => (fun e_ => (HO_284001.out.1 k_ e_.symm)) e_)))
                    have n7_ := qA (hb)
                    clear HO_9
                    clear HO_10
                    clear BK283
                    clear BK284
                    clear HK
                    clear HB
                    clear HO_284000
                    clear HO_284001
                    have HO_9 := n0_
                    have HO_10 := n1_
                    have BK283 := n2_
                    have BK284 := n3_
                    have HO302 := n4_
                    have HO305 := n5_
                    have HK := n6_
                    have HB := n7_
                    clear n0_ n1_ n2_ n3_ n4_ n5_ n6_ n7_
                    (try clear hb)
                    (try clear hkp)
                    (try clear ho0)
                    (try clear ho1)
                    obtain ⟨Ao36, co36, eo36⟩ := Kd.R_slice HO302.out
                    (first | subst eo36 | (injection eo36 with f1_ f2_ f3_; have f4_ := f1_.symm; have f5_ := f3_.symm; clear f1_ f2_ f3_; subst f4_; subst f5_))
                    obtain ⟨Ao38, co38, eo38⟩ := Kd.R_slice HO305.out
                    (first | subst eo38 | (injection eo38 with f1_ f2_ f3_; have f4_ := f1_.symm; have f5_ := f3_.symm; clear f1_ f2_ f3_; subst f4_; subst f5_))
                    refine hK.out _ _ ⟨(qQ BK283.out 0).trans rfl, (qQ BK283.out 1).trans rfl, HS2_⟩ (fun hHeld => ?_)
                    clear hK K
                    refine norm_ (a' := ?_) ?_ ?_
                    rotate_left
                    · show Act.put _ (some 48) _ = _
                      simp only [Act.put, qM, qO, qN, i64_w, i32_w]
                      rfl
                    refine one_ (i := 8) (N := none) #[true, true, true, true, true, true, true, true, true, false] rfl rfl (one_of HT_.out (by kernel_rfl)) (by decide) (fun K hK => ?_)
                    have hs37 : w35.cell? ⟨gb284, 0, none⟩ = some (.slice none 0 0) := (qQ BK284.out 0).trans rfl
                    have hfs37 := qL BK284.out 0
                    have hns37_0 := NB283_284.out
                    have hms37_0 := NB284_283.out
                    have hs39 : w35.cell? ⟨gb284, 1, none⟩ = some (.slice none 0 0) := (qQ BK284.out 1).trans rfl
                    have hfs39 := qL BK284.out 1
                    have hns39_0 := NB283_284.out
                    have hms39_0 := NB284_283.out
                    refine skip_ (w1 := ?_) (by rfl) rfl ?_ ?_
                    rotate_left
                    · go_simp
                      rfl
                    refine hK.out _ _ ⟨((cell_far (p := ⟨gb284, _, none⟩) NB283_284.out _).trans (((cell_far (p := ⟨gb284, _, none⟩) NB283_284.out _).trans (hHeld.1)))), ((cell_far (p := ⟨gb284, _, none⟩) NB283_284.out _).trans (((cell_far (p := ⟨gb284, _, none⟩) NB283_284.out _).trans (hHeld.2.1)))), ((cell_far (p := ⟨gb284, _, none⟩) (by first | exact Kd.own_blk (Kd.R_ne HO_10.out BK284.out (by decide)) | (rw [add_block]; exact Kd.own_blk (Kd.R_ne HO_10.out BK284.out (by decide))) | (show (Addr.add _ _).block ≠ _; rw [add_block]; exact Kd.own_blk (Kd.R_ne HO_10.out BK284.out (by decide))) | (dsimp only; exact Kd.own_blk (Kd.R_ne HO_10.out BK284.out (by decide)))) _).trans (((cell_far (p := ⟨gb284, _, none⟩) (by first | exact Kd.own_blk (Kd.R_ne HO_10.out BK284.out (by decide)) | (rw [add_block]; exact Kd.own_blk (Kd.R_ne HO_10.out BK284.out (by decide))) | (show (Addr.add _ _).block ≠ _; rw [add_block]; exact Kd.own_blk (Kd.R_ne HO_10.out BK284.out (by decide))) | (dsimp only; exact Kd.own_blk (Kd.R_ne HO_10.out BK284.out (by decide)))) _).trans (hHeld.2.2))))⟩ (fun hHeld => ?_)
                    clear hK K
                    refine pure_ (i := 9) (N := some 7) (v := ?_) (a' := ?_) #[true, true, true, true, true, true, true, true, true, true] rfl rfl (any_of HT_.out (by kernel_rfl)) (fun _ _ _ h => h) (Or.inl ⟨by rfl, ?_⟩) ?_ ?_
                    rotate_left
                    · intro w'
                      go_simp
                      with_reducible rfl
                    rotate_left
                    · simp only [Act.put, qM, qO, qN, i64_w, i32_w]
                      rfl
                    refine done_ (done_of HT_.out (by kernel_rfl)) ?_
                    try go_wp2
                    refine bodyPost_ret (results_ct rfl _ _ gb284 70 #[.slice Ao36 t300.length co36, .slice Ao38 t303.length co38] (0, 0) _ rfl (by (with_reducible repeat (first | refine qE ?_ _ | refine qH ?_ | refine qD ?_ _)); refine qY (cs := #[.slice Ao36 t300.length co36, .slice none 0 0]) ?_ 1 _ rfl; (with_reducible repeat (first | refine qE ?_ _ | refine qH ?_ | refine qD ?_ _)); refine qY (cs := #[.slice none 0 0, .slice none 0 0]) ?_ 0 _ rfl; (with_reducible repeat (first | refine qE ?_ _ | refine qH ?_ | refine qD ?_ _)); exact BK284.out) Tryd.underlying70 rfl (by kernel_rfl)) rfl ?_
                    exact ⟨_, _, by first | rfl | (simp [errW_none, errW_some] <;> rfl) | (simp [*, errW_none, errW_some] <;> rfl), by (with_reducible repeat (first | apply qJ | apply qI | apply qK)); exact qU (qP (p := ⟨gb284, 1, none⟩) (qP (p := ⟨gb284, 0, none⟩) (qV HO302.out BK284.out (by decide)) (fun _ hk => hk.2) (.slice Ao36 t300.length co36)) (fun _ hk => hk.2) (.slice Ao38 t303.length co38)) (fun _ hk => hk.1), by (with_reducible repeat (first | apply qJ | apply qI | apply qK)); exact qU (qP (p := ⟨gb284, 1, none⟩) (qP (p := ⟨gb284, 0, none⟩) (qV HO305.out BK284.out (by decide)) (fun _ hk => hk.2) (.slice Ao36 t300.length co36)) (fun _ hk => hk.2) (.slice Ao38 t303.length co38)) (fun _ hk => hk.1), by repeat (first | (with_reducible first | exact HB.out | apply qG | apply qB | apply qF | refine qC ?_ GE283.out | refine qC ?_ GE284.out) | exact HB.out), by repeat (first | (with_reducible first | exact HK.out | apply Kept.alloc | apply Kept.drewN | apply Kept.drew | refine Kept.setCell ?_ (.inr GW283.out) _ | refine Kept.setCell ?_ (.inr GW284.out) _) | exact HK.out)⟩
                  · rw [if_neg c29] at H
                    exact absurd H (by simp)
                · rw [if_neg c28] at H
                  have c28b0 : ((rd l1 a2) == (rd y291 x11_1)) = false := beq_eq_false_iff_ne.mpr c28
                  have c28b1 : ((rd l1 a2) != (rd y291 x11_1)) = true := bne_iff_ne.mpr c28
                  have H' := qA H
                  clear H
                  obtain ⟨Ao40, co40, eo40⟩ := Kd.R_slice HO_9.out
                  subst eo40
                  try go_wp2
                  have n0_ := qA (qK HO_9.out)
                  have n1_ := qA (qK HO_10.out)
                  have n2_ := qA (qK HO_284000.out)
                  have n3_ := qA (qK HO_284001.out)
                  have n4_ := qA (qH BK283.out)
                  have n5_ := qA (qH BK284.out)
                  have n6_ := qA (Kept.drew HK.out)
                  have n7_ := qA (qF HB.out)
                  clear HO_9
                  clear HO_10
                  clear HO_284000
                  clear HO_284001
                  clear BK283
                  clear BK284
                  clear HK
                  clear HB
                  have HO_9 := n0_
                  have HO_10 := n1_
                  have HO_284000 := n2_
                  have HO_284001 := n3_
                  have BK283 := n4_
                  have BK284 := n5_
                  have HK := n6_
                  have HB := n7_
                  clear n0_ n1_ n2_ n3_ n4_ n5_ n6_ n7_
                  have p297 : 0 ≤ (a2 : Int) := of_decide_eq_true (by first | (with_reducible assumption) | assumption)
                  have q297 : a2 < (l1.length : Int) := of_decide_eq_true (by first | (with_reducible assumption) | assumption)
                  obtain ⟨ad297, e297, hx297_0⟩ := Kd.at_int (Kd.C_kept_now HR1.out HK.out) a2 p297 q297
                  have hw297_0 := hx297_0
                  cases e297
                  replace p297 := eq_true p297
                  replace q297 := eq_true q297
                  have p298 : 0 ≤ (x11_1 : Int) := of_decide_eq_true (by first | (with_reducible assumption) | assumption)
                  have q298 : x11_1 < (y291.length : Int) := of_decide_eq_true (by first | (with_reducible assumption) | assumption)
                  obtain ⟨ad298, e298, hx298_0⟩ := Kd.at_int (Kd.R_reads' HO_9.out).2.2 x11_1 p298 q298
                  cases e298
                  replace p298 := eq_true p298
                  replace q298 := eq_true q298
                  refine start_ (n := 9) (S := fun w' => w'.cell? (ad297.add (a2).toNat) = some (.int .i32 (rd l1 a2)) ∧ w'.cell? (ad298.add (x11_1).toNat) = some (.int .i32 (rd y291 x11_1))) (ds := []) #[false, false, false, false, false, false, false, false, false] (by kernel_rfl) rfl rfl ⟨(Kd.foot_int (HR1.out _ (by repeat (first | exact HK.out | apply Kept.alloc | apply Kept.drewN | apply Kept.drew))) a2 (of_eq_true p297) (of_eq_true q297)), hx298_0⟩ (fun hHeld => ?_); refine with_tabW flongref04_escape.tab9 flongref04_escape.bits9 (fun HT_ HW_ => ?_)
                  generalize wr.drew = w41 at HO_9 HO_10 HO_284000 HO_284001 BK283 BK284 HK HB hx297_0 hx298_0 hHeld ⊢
                  refine pure_ (i := 0) (N := some 34) (v := ?_) (a' := ?_) #[true, false, false, false, false, false, false, false, false] rfl rfl (any_of HT_.out (by kernel_rfl)) (fun _ _ _ h => h) (Or.inl ⟨by rfl, ?_⟩) ?_ ?_
                  rotate_left
                  · intro w'
                    go_simp
                    with_reducible rfl
                  rotate_left
                  · simp only [Act.put, qM, qO, qN, i64_w, i32_w]
                    rfl
                  refine pure_ (i := 1) (N := some 35) (v := ?_) (a' := ?_) #[true, true, false, false, false, false, false, false, false] rfl rfl (any_of HT_.out (by kernel_rfl)) (fun _ _ _ h => h) (Or.inl ⟨by rfl, ?_⟩) ?_ ?_
                  rotate_left
                  · intro w'
                    go_simp
                    with_reducible rfl
                  rotate_left
                  · simp only [Act.put, qM, qO, qN, i64_w, i32_w]
                    rfl
                  refine pure_ (i := 2) (N := some 36) (v := ?_) (a' := ?_) #[true, true, true, false, false, false, false, false, false] rfl rfl (any_of HT_.out (by kernel_rfl)) (fun _ _ _ h => h) (Or.inl ⟨by rfl, ?_⟩) ?_ ?_
                  rotate_left
                  · intro w'
                    go_simp
                    with_reducible rfl
                  rotate_left
                  · simp only [Act.put, qM, qO, qN, i64_w, i32_w]
                    rfl
                  refine pure_ (i := 4) (N := some 38) (v := ?_) (a' := ?_) #[true, true, true, false, true, false, false, false, false] rfl rfl (any_of HT_.out (by kernel_rfl)) (fun _ _ _ h => h) (Or.inl ⟨by rfl, ?_⟩) ?_ ?_
                  rotate_left
                  · intro w'
                    go_simp
                    with_reducible rfl
                  rotate_left
                  · simp only [Act.put, qM, qO, qN, i64_w, i32_w]
                    rfl
                  refine pure_ (i := 5) (N := some 39) (v := ?_) (a' := ?_) #[true, true, true, false, true, true, false, false, false] rfl rfl (any_of HT_.out (by kernel_rfl)) (fun _ _ _ h => h) (Or.inl ⟨by rfl, ?_⟩) ?_ ?_
                  rotate_left
                  · intro w'
                    go_simp
                    with_reducible rfl
                  rotate_left
                  · simp only [Act.put, qM, qO, qN, i64_w, i32_w]
                    rfl
                  refine pure_ (i := 6) (N := some 40) (v := ?_) (a' := ?_) #[true, true, true, false, true, true, true, false, false] rfl rfl (any_of HT_.out (by kernel_rfl)) (fun _ _ _ h => h) (Or.inl ⟨by rfl, ?_⟩) ?_ ?_
                  rotate_left
                  · intro w'
                    go_simp
                    with_reducible rfl
                  rotate_left
                  · simp only [Act.put, qM, qO, qN, i64_w, i32_w]
                    rfl
                  refine take_ (i := 3) (N := some 37) (v := ?_) (a' := ?_) #[true, true, true, true, true, true, true, false, false] rfl rfl (take_ofW HT_.out HW_.out (by kernel_rfl)) (fun _ _ _ h => h) (Or.inl ⟨by rfl, ?_⟩) hHeld ?_ ?_
                  rotate_left
                  · rintro w' ⟨s0, s1⟩
                    go_simp
                    with_reducible rfl
                  rotate_left
                  · simp only [Act.put, qM, qO, qN, i64_w, i32_w]
                    rfl
                  refine take_ (i := 7) (N := some 41) (v := ?_) (a' := ?_) #[true, true, true, true, true, true, true, true, false] rfl rfl (take_ofW HT_.out HW_.out (by kernel_rfl)) (fun _ _ _ h => h) (Or.inl ⟨by rfl, ?_⟩) hHeld ?_ ?_
                  rotate_left
                  · rintro w' ⟨s0, s1⟩
                    go_simp
                    with_reducible rfl
                  rotate_left
                  · simp only [Act.put, qM, qO, qN, i64_w, i32_w]
                    rfl
                  refine pure_ (i := 8) (N := some 42) (v := ?_) (a' := ?_) #[true, true, true, true, true, true, true, true, true] rfl rfl (any_of HT_.out (by kernel_rfl)) (fun _ _ _ h => h) (Or.inl ⟨by rfl, ?_⟩) ?_ ?_
                  rotate_left
                  · intro w'
                    go_simp
                    with_reducible rfl
                  rotate_left
                  · simp only [Act.put, qM, qO, qN, i64_w, i32_w]
                    rfl
                  refine done_ (done_of HT_.out (by kernel_rfl)) ?_
                  try go_wp2
                  go_roundg k1
                  case measure => have := HK1.out; omega
                  case rel => exact ⟨(wrap64 (x11_1 + 1)), (by first | rfl | (simp; done) | (simp [*]; done)), H', ⟨by have := HK1.out; omega⟩, ⟨by (with_reducible repeat (first | apply qJ | apply qI | apply qK)); exact HO_9.out⟩, ⟨by (with_reducible repeat (first | apply qJ | apply qI | apply qK)); exact HO_10.out⟩, ⟨by (with_reducible repeat (first | apply qJ | apply qI | apply qK)); exact HO_284000.out⟩, ⟨by (with_reducible repeat (first | apply qJ | apply qI | apply qK)); exact HO_284001.out⟩, ⟨by (with_reducible repeat (first | refine qE ?_ _ | refine qH ?_ | refine qD ?_ _)); exact BK283.out⟩, ⟨by (with_reducible repeat (first | refine qE ?_ _ | refine qH ?_ | refine qD ?_ _)); exact BK284.out⟩, ⟨by repeat (first | (with_reducible first | exact HK.out | apply Kept.alloc | apply Kept.drewN | apply Kept.drew | refine Kept.setCell ?_ (.inr GW283.out) _ | refine Kept.setCell ?_ (.inr GW284.out) _) | exact HK.out)⟩, ⟨by repeat (first | (with_reducible first | exact HB.out | apply qG | apply qB | apply qF | refine qC ?_ GE283.out | refine qC ?_ GE284.out) | exact HB.out)⟩⟩
              · rw [if_neg c27] at H
                exact absurd H (by simp)
            · rw [if_neg c26] at H
              exact absurd H (by simp)
          · rw [if_neg c25] at H
            exact absurd H (by simp)
        · rw [if_neg c24] at H
          have c24b0 : decide (x11_1 < (y291.length : Int)) = false := decide_eq_false c24
          clear c24
          by_cases c42 : 0 ≤ a2
          · rw [if_pos c42] at H
            have c42b0 : decide (0 ≤ a2) = true := decide_eq_true c42
            clear c42
            by_cases c43 : a2 < (l1.length : Int)
            · rw [if_pos c43] at H
              have c43b0 : decide (a2 < (l1.length : Int)) = true := decide_eq_true c43
              clear c43
              have HC44 := qA H
              clear H
              obtain ⟨Ao45, co45, eo45⟩ := Kd.R_slice HO_9.out
              subst eo45
              have p306 : 0 ≤ (a2 : Int) := of_decide_eq_true (by first | (with_reducible assumption) | assumption)
              have q306 : a2 < (l1.length : Int) := of_decide_eq_true (by first | (with_reducible assumption) | assumption)
              obtain ⟨ad306, e306, hx306_0⟩ := Kd.at_int (Kd.C_kept_now HR1.out HK.out) a2 p306 q306
              cases e306
              replace p306 := eq_true p306
              replace q306 := eq_true q306
              go_upto_if 55 with (fail)
              go_cut [55] (fun v55 wc => ∃ (kq : Nat) (x55_43 : Bool), v55 = .bool x55_43 ∧ Aside0 (flongref04_escape.j1 kq l1 a2 (wrap64 (a2 - 1)) (rd l1 a2) x55_43 l0_0 l0_1 = some (r1, r2, r3)) ∧ Aside0 (kq ≤ k1) ∧ Aside0 (Kd.R k38 38 wc w0.heap.size (fun k_ => ((P0_0_ k_ ∨ P0_1_ k_) ∨ w.heap.size ≤ k_)) (.slice Ao16 l0_0.length co16) l0_0) ∧ Aside0 (Kd.R k41 41 wc w0.heap.size (fun k_ => ((P0_0_ k_ ∨ P0_1_ k_) ∨ w.heap.size ≤ k_)) (.slice Ao17 l0_1.length co17) l0_1) ∧ Aside0 (wc.heap[gb283]? = some (.cells #[(.slice Ao16 l0_0.length co16), (.slice Ao17 l0_1.length co17)] 70 (0, 0))) ∧ Aside0 (wc.heap[gb284]? = some (.cells #[(.slice none 0 0), (.slice none 0 0)] 70 (0, 0))) ∧ Aside0 (Kept w wc (fun k_ => P0_0_ k_ ∨ P0_1_ k_)) ∧ Aside0 (Below w0.heap.size w0 wc))
              case first =>
                have H := HC44.out
                clear HC44
                by_cases c46 : (rd l1 a2) = 38
                · rw [if_pos c46] at H
                  have c46b0 : ((rd l1 a2) == 38) = true := beq_iff_eq.mpr c46
                  have c46b1 : ((rd l1 a2) != 38) = false := bne_eq_false_iff_eq.mpr c46
                  clear c46
                  (first | rw [c46b0] | (simp only [i64_w, i32_w]; rw [c46b0]) | skip)
                  have H' := qA H
                  clear H
                  go_wp2
                  go_meet
                  case rel => exact ⟨_, (((rd l1 a2) == 38)), (by first | rfl | (simp; done) | (simp [*]; done)), H', ⟨by have := HK1.out; first | omega | exact Nat.le_refl _⟩, ⟨by (with_reducible repeat (first | apply qJ | apply qI | apply qK)); exact HO_284000.out⟩, ⟨by (with_reducible repeat (first | apply qJ | apply qI | apply qK)); exact HO_284001.out⟩, ⟨by (with_reducible repeat (first | refine qE ?_ _ | refine qH ?_ | refine qD ?_ _)); exact BK283.out⟩, ⟨by (with_reducible repeat (first | refine qE ?_ _ | refine qH ?_ | refine qD ?_ _)); exact BK284.out⟩, ⟨by repeat (first | (with_reducible first | exact HK.out | apply Kept.alloc | apply Kept.drewN | apply Kept.drew | refine Kept.setCell ?_ (.inr GW283.out) _ | refine Kept.setCell ?_ (.inr GW284.out) _) | exact HK.out)⟩, ⟨by repeat (first | (with_reducible first | exact HB.out | apply qG | apply qB | apply qF | refine qC ?_ GE283.out | refine qC ?_ GE284.out) | exact HB.out)⟩⟩
                · rw [if_neg c46] at H
                  have c46b0 : ((rd l1 a2) == 38) = false := beq_eq_false_iff_ne.mpr c46
                  have c46b1 : ((rd l1 a2) != 38) = true := bne_iff_ne.mpr c46
                  (first | rw [c46b0] | (simp only [i64_w, i32_w]; rw [c46b0]) | skip)
                  by_cases c47 : (rd l1 a2) = 37
                  · rw [if_pos c47] at H
                    have c47b0 : ((rd l1 a2) == 37) = true := beq_iff_eq.mpr c47
                    have c47b1 : ((rd l1 a2) != 37) = false := bne_eq_false_iff_eq.mpr c47
                    clear c47
                    have H' := qA H
                    clear H
                    go_wp2
                    go_meet
                    case rel => exact ⟨_, (((rd l1 a2) == 37)), (by first | rfl | (simp; done) | (simp [*]; done)), H', ⟨by have := HK1.out; first | omega | exact Nat.le_refl _⟩, ⟨by (with_reducible repeat (first | apply qJ | apply qI | apply qK)); exact HO_284000.out⟩, ⟨by (with_reducible repeat (first | apply qJ | apply qI | apply qK)); exact HO_284001.out⟩, ⟨by (with_reducible repeat (first | refine qE ?_ _ | refine qH ?_ | refine qD ?_ _)); exact BK283.out⟩, ⟨by (with_reducible repeat (first | refine qE ?_ _ | refine qH ?_ | refine qD ?_ _)); exact BK284.out⟩, ⟨by repeat (first | (with_reducible first | exact HK.out | apply Kept.alloc | apply Kept.drewN | apply Kept.drew | refine Kept.setCell ?_ (.inr GW283.out) _ | refine Kept.setCell ?_ (.inr GW284.out) _) | exact HK.out)⟩, ⟨by repeat (first | (with_reducible first | exact HB.out | apply qG | apply qB | apply qF | refine qC ?_ GE283.out | refine qC ?_ GE284.out) | exact HB.out)⟩⟩
                  · rw [if_neg c47] at H
                    have c47b0 : ((rd l1 a2) == 37) = false := beq_eq_false_iff_ne.mpr c47
                    have c47b1 : ((rd l1 a2) != 37) = true := bne_iff_ne.mpr c47
                    by_cases c48 : (rd l1 a2) = 47
                    · rw [if_pos c48] at H
                      have c48b0 : ((rd l1 a2) == 47) = true := beq_iff_eq.mpr c48
                      have c48b1 : ((rd l1 a2) != 47) = false := bne_eq_false_iff_eq.mpr c48
                      clear c48
                      have H' := qA H
                      clear H
                      go_wp2
                      go_meet
                      case rel => exact ⟨_, (((rd l1 a2) == 47)), (by first | rfl | (simp; done) | (simp [*]; done)), H', ⟨by have := HK1.out; first | omega | exact Nat.le_refl _⟩, ⟨by (with_reducible repeat (first | apply qJ | apply qI | apply qK)); exact HO_284000.out⟩, ⟨by (with_reducible repeat (first | apply qJ | apply qI | apply qK)); exact HO_284001.out⟩, ⟨by (with_reducible repeat (first | refine qE ?_ _ | refine qH ?_ | refine qD ?_ _)); exact BK283.out⟩, ⟨by (with_reducible repeat (first | refine qE ?_ _ | refine qH ?_ | refine qD ?_ _)); exact BK284.out⟩, ⟨by repeat (first | (with_reducible first | exact HK.out | apply Kept.alloc | apply Kept.drewN | apply Kept.drew | refine Kept.setCell ?_ (.inr GW283.out) _ | refine Kept.setCell ?_ (.inr GW284.out) _) | exact HK.out)⟩, ⟨by repeat (first | (with_reducible first | exact HB.out | apply qG | apply qB | apply qF | refine qC ?_ GE283.out | refine qC ?_ GE284.out) | exact HB.out)⟩⟩
                    · rw [if_neg c48] at H
                      have c48b0 : ((rd l1 a2) == 47) = false := beq_eq_false_iff_ne.mpr c48
                      have c48b1 : ((rd l1 a2) != 47) = true := bne_iff_ne.mpr c48
                      by_cases c49 : (rd l1 a2) = 44
                      · rw [if_pos c49] at H
                        have c49b0 : ((rd l1 a2) == 44) = true := beq_iff_eq.mpr c49
                        have c49b1 : ((rd l1 a2) != 44) = false := bne_eq_false_iff_eq.mpr c49
                        clear c49
                        have H' := qA H
                        clear H
                        go_wp2
                        go_meet
                        case rel => exact ⟨_, (((rd l1 a2) == 44)), (by first | rfl | (simp; done) | (simp [*]; done)), H', ⟨by have := HK1.out; first | omega | exact Nat.le_refl _⟩, ⟨by (with_reducible repeat (first | apply qJ | apply qI | apply qK)); exact HO_284000.out⟩, ⟨by (with_reducible repeat (first | apply qJ | apply qI | apply qK)); exact HO_284001.out⟩, ⟨by (with_reducible repeat (first | refine qE ?_ _ | refine qH ?_ | refine qD ?_ _)); exact BK283.out⟩, ⟨by (with_reducible repeat (first | refine qE ?_ _ | refine qH ?_ | refine qD ?_ _)); exact BK284.out⟩, ⟨by repeat (first | (with_reducible first | exact HK.out | apply Kept.alloc | apply Kept.drewN | apply Kept.drew | refine Kept.setCell ?_ (.inr GW283.out) _ | refine Kept.setCell ?_ (.inr GW284.out) _) | exact HK.out)⟩, ⟨by repeat (first | (with_reducible first | exact HB.out | apply qG | apply qB | apply qF | refine qC ?_ GE283.out | refine qC ?_ GE284.out) | exact HB.out)⟩⟩
                      · rw [if_neg c49] at H
                        have c49b0 : ((rd l1 a2) == 44) = false := beq_eq_false_iff_ne.mpr c49
                        have c49b1 : ((rd l1 a2) != 44) = true := bne_iff_ne.mpr c49
                        have H' := qA H
                        clear H
                        go_wp2
                        go_meet
                        case rel => exact ⟨_, (((rd l1 a2) == 58)), (by first | rfl | (simp; done) | (simp [*]; done)), H', ⟨by have := HK1.out; first | omega | exact Nat.le_refl _⟩, ⟨by (with_reducible repeat (first | apply qJ | apply qI | apply qK)); exact HO_284000.out⟩, ⟨by (with_reducible repeat (first | apply qJ | apply qI | apply qK)); exact HO_284001.out⟩, ⟨by (with_reducible repeat (first | refine qE ?_ _ | refine qH ?_ | refine qD ?_ _)); exact BK283.out⟩, ⟨by (with_reducible repeat (first | refine qE ?_ _ | refine qH ?_ | refine qD ?_ _)); exact BK284.out⟩, ⟨by repeat (first | (with_reducible first | exact HK.out | apply Kept.alloc | apply Kept.drewN | apply Kept.drew | refine Kept.setCell ?_ (.inr GW283.out) _ | refine Kept.setCell ?_ (.inr GW284.out) _) | exact HK.out)⟩, ⟨by repeat (first | (with_reducible first | exact HB.out | apply qG | apply qB | apply qF | refine qC ?_ GE283.out | refine qC ?_ GE284.out) | exact HB.out)⟩⟩
              case rest =>
                clear HC44
                try clear c1
                try clear c2
                try clear p2
                try clear q2
                try clear hx2
                try clear p3
                try clear q3
                try clear hx3
                try clear c4
                try clear c4b0
                try clear p6
                try clear c10
                try clear c24
                try clear c24b0
                try clear c25
                try clear c25b0
                try clear c26
                try clear c26b0
                try clear c27
                try clear c27b0
                try clear c28
                try clear c28b0
                try clear c28b1
                try clear c29
                try clear c29b0
                try clear p29
                try clear q29
                try clear hx29
                try clear p30
                try clear q30
                try clear hx30
                try clear c42
                try clear c42b0
                try clear c43
                try clear c43b0
                try clear c44
                try clear c45
                try clear c46
                try clear c46b0
                try clear c46b1
                try clear c47
                try clear c47b0
                try clear c47b1
                try clear c48
                try clear c48b0
                try clear c48b1
                try clear c49
                try clear c49b0
                try clear c49b1
                try clear hcz11_0
                try clear hcz11_1
                try clear hcz14_0
                try clear hcz14_1
                try clear hfz11_0
                try clear hfz11_1
                try clear hfz14_0
                try clear hfz14_1
                try clear hx297_0
                try clear hx298_0
                try clear hx299_0
                try clear hx306_0
                try clear p2
                try clear p297
                try clear p298
                try clear p299
                try clear p306
                try clear p6
                try clear q297
                try clear q298
                try clear q299
                try clear q306
                obtain ⟨kq, x55_43, rfl, HA, HJ43, HO_284000, HO_284001, BK283, BK284, HK, HB⟩ := hcut
                cases kq with
                | zero => exact absurd HA.out (by simp [flongref04_escape.j1])
                | succ kj43 =>
                  have H := HA.out
                  clear HA
                  simp only [flongref04_escape.j1] at H
                  by_cases c50 : x55_43 = true
                  · subst c50
                    have H1 : (some (l0_0, l0_1, wrap64 (a2 + 1))) = some (r1, r2, r3) := by rw [if_pos rfl] at H; exact H
                    clear H
                    have H := H1
                    clear H1
                    simp only [Option.some.injEq, Prod.mk.injEq] at H
                    obtain ⟨rfl, rfl, rfl⟩ := H
                    have hnb51 := NB283_284.out
                    have hnc51 := NB284_283.out
                    have hcz52_0 : wc.cell? ⟨gb283, 0, none⟩ = some (.slice Ao16 l0_0.length co16) := (qQ BK283.out 0).trans rfl
                    have hcz52_1 : wc.cell? ⟨gb283, 1, none⟩ = some (.slice Ao17 l0_1.length co17) := (qQ BK283.out 1).trans rfl
                    have hfz52_0 := qL BK283.out 0
                    have hfz52_1 := qL BK283.out 1
                    have hcz53_0 : wc.cell? ⟨gb284, 0, none⟩ = some (.slice none 0 0) := (qQ BK284.out 0).trans rfl
                    have hcz53_1 : wc.cell? ⟨gb284, 1, none⟩ = some (.slice none 0 0) := (qQ BK284.out 1).trans rfl
                    have hfz53_0 := qL BK284.out 0
                    have hfz53_1 := qL BK284.out 1
                    go_wp2
                    refine bodyPost_ret (results_ct rfl _ _ gb284 70 #[.slice Ao16 l0_0.length co16, .slice Ao17 l0_1.length co17] (0, 0) _ rfl (by (with_reducible repeat (first | refine qE ?_ _ | refine qH ?_ | refine qD ?_ _)); refine qY (cs := #[.slice Ao16 l0_0.length co16, .slice none 0 0]) ?_ 1 _ rfl; (with_reducible repeat (first | refine qE ?_ _ | refine qH ?_ | refine qD ?_ _)); refine qY (cs := #[.slice none 0 0, .slice none 0 0]) ?_ 0 _ rfl; (with_reducible repeat (first | refine qE ?_ _ | refine qH ?_ | refine qD ?_ _)); exact BK284.out) Tryd.underlying70 rfl (by kernel_rfl)) rfl ?_
                    exact ⟨_, _, by first | rfl | (simp [errW_none, errW_some] <;> rfl) | (simp [*, errW_none, errW_some] <;> rfl), by (with_reducible repeat (first | apply qJ | apply qI | apply qK)); exact qU (qP (p := ⟨gb284, 1, none⟩) (qP (p := ⟨gb284, 0, none⟩) (qV HO_284000.out BK284.out (by decide)) (fun _ hk => hk.2) (.slice Ao16 l0_0.length co16)) (fun _ hk => hk.2) (.slice Ao17 l0_1.length co17)) (fun _ hk => hk.1), by (with_reducible repeat (first | apply qJ | apply qI | apply qK)); exact qU (qP (p := ⟨gb284, 1, none⟩) (qP (p := ⟨gb284, 0, none⟩) (qV HO_284001.out BK284.out (by decide)) (fun _ hk => hk.2) (.slice Ao16 l0_0.length co16)) (fun _ hk => hk.2) (.slice Ao17 l0_1.length co17)) (fun _ hk => hk.1), by repeat (first | (with_reducible first | exact HB.out | apply qG | apply qB | apply qF | refine qC ?_ GE283.out | refine qC ?_ GE284.out) | exact HB.out), by repeat (first | (with_reducible first | exact HK.out | apply Kept.alloc | apply Kept.drewN | apply Kept.drew | refine Kept.setCell ?_ (.inr GW283.out) _ | refine Kept.setCell ?_ (.inr GW284.out) _) | exact HK.out)⟩
                  · replace c50 := Bool.eq_false_iff.mpr c50
                    subst c50
                    have H1 : (if (rd l1 a2) = 34 then (some (l0_0, l0_1, (l1.length : Int))) else (if (rd l1 a2) = 40 then (flongref04_escape.j2 kj43 l1 a2 (wrap64 (a2 - 1)) (rd l1 a2) ((rd l1 a2) == 40) l0_0 l0_1) else (flongref04_escape.j2 kj43 l1 a2 (wrap64 (a2 - 1)) (rd l1 a2) ((rd l1 a2) == 91) l0_0 l0_1))) = some (r1, r2, r3) := by rw [if_neg (show ¬ (false = true) by decide)] at H; exact H
                    clear H
                    have H := H1
                    clear H1
                    by_cases c54 : (rd l1 a2) = 34
                    · rw [if_pos c54] at H
                      have c54b0 : ((rd l1 a2) == 34) = true := beq_iff_eq.mpr c54
                      have c54b1 : ((rd l1 a2) != 34) = false := bne_eq_false_iff_eq.mpr c54
                      clear c54
                      simp only [Option.some.injEq, Prod.mk.injEq] at H
                      obtain ⟨rfl, rfl, rfl⟩ := H
                      have hnb55 := NB283_284.out
                      have hnc55 := NB284_283.out
                      have hcz56_0 : wc.cell? ⟨gb283, 0, none⟩ = some (.slice Ao16 l0_0.length co16) := (qQ BK283.out 0).trans rfl
                      have hcz56_1 : wc.cell? ⟨gb283, 1, none⟩ = some (.slice Ao17 l0_1.length co17) := (qQ BK283.out 1).trans rfl
                      have hfz56_0 := qL BK283.out 0
                      have hfz56_1 := qL BK283.out 1
                      have hcz57_0 : wc.cell? ⟨gb284, 0, none⟩ = some (.slice none 0 0) := (qQ BK284.out 0).trans rfl
                      have hcz57_1 : wc.cell? ⟨gb284, 1, none⟩ = some (.slice none 0 0) := (qQ BK284.out 1).trans rfl
                      have hfz57_0 := qL BK284.out 0
                      have hfz57_1 := qL BK284.out 1
                      go_wp2
                      refine bodyPost_ret (results_ct rfl _ _ gb284 70 #[.slice Ao16 l0_0.length co16, .slice Ao17 l0_1.length co17] (0, 0) _ rfl (by (with_reducible repeat (first | refine qE ?_ _ | refine qH ?_ | refine qD ?_ _)); refine qY (cs := #[.slice Ao16 l0_0.length co16, .slice none 0 0]) ?_ 1 _ rfl; (with_reducible repeat (first | refine qE ?_ _ | refine qH ?_ | refine qD ?_ _)); refine qY (cs := #[.slice none 0 0, .slice none 0 0]) ?_ 0 _ rfl; (with_reducible repeat (first | refine qE ?_ _ | refine qH ?_ | refine qD ?_ _)); exact BK284.out) Tryd.underlying70 rfl (by kernel_rfl)) rfl ?_
                      exact ⟨_, _, by first | rfl | (simp [errW_none, errW_some] <;> rfl) | (simp [*, errW_none, errW_some] <;> rfl), by (with_reducible repeat (first | apply qJ | apply qI | apply qK)); exact qU (qP (p := ⟨gb284, 1, none⟩) (qP (p := ⟨gb284, 0, none⟩) (qV HO_284000.out BK284.out (by decide)) (fun _ hk => hk.2) (.slice Ao16 l0_0.length co16)) (fun _ hk => hk.2) (.slice Ao17 l0_1.length co17)) (fun _ hk => hk.1), by (with_reducible repeat (first | apply qJ | apply qI | apply qK)); exact qU (qP (p := ⟨gb284, 1, none⟩) (qP (p := ⟨gb284, 0, none⟩) (qV HO_284001.out BK284.out (by decide)) (fun _ hk => hk.2) (.slice Ao16 l0_0.length co16)) (fun _ hk => hk.2) (.slice Ao17 l0_1.length co17)) (fun _ hk => hk.1), by repeat (first | (with_reducible first | exact HB.out | apply qG | apply qB | apply qF | refine qC ?_ GE283.out | refine qC ?_ GE284.out) | exact HB.out), by repeat (first | (with_reducible first | exact HK.out | apply Kept.alloc | apply Kept.drewN | apply Kept.drew | refine Kept.setCell ?_ (.inr GW283.out) _ | refine Kept.setCell ?_ (.inr GW284.out) _) | exact HK.out)⟩
                    · rw [if_neg c54] at H
                      have c54b0 : ((rd l1 a2) == 34) = false := beq_eq_false_iff_ne.mpr c54
                      have c54b1 : ((rd l1 a2) != 34) = true := bne_iff_ne.mpr c54
                      have HC58 := qA H
                      clear H
                      go_upto_if 69 with (fail)
                      go_cut [69] (fun v69 wc => ∃ (kq : Nat) (x69_57 : Bool), v69 = .bool x69_57 ∧ Aside0 (flongref04_escape.j2 kq l1 a2 (wrap64 (a2 - 1)) (rd l1 a2) x69_57 l0_0 l0_1 = some (r1, r2, r3)) ∧ Aside0 (kq ≤ kj43) ∧ Aside0 (Kd.R k38 38 wc w0.heap.size (fun k_ => ((P0_0_ k_ ∨ P0_1_ k_) ∨ w.heap.size ≤ k_)) (.slice Ao16 l0_0.length co16) l0_0) ∧ Aside0 (Kd.R k41 41 wc w0.heap.size (fun k_ => ((P0_0_ k_ ∨ P0_1_ k_) ∨ w.heap.size ≤ k_)) (.slice Ao17 l0_1.length co17) l0_1) ∧ Aside0 (wc.heap[gb283]? = some (.cells #[(.slice Ao16 l0_0.length co16), (.slice Ao17 l0_1.length co17)] 70 (0, 0))) ∧ Aside0 (wc.heap[gb284]? = some (.cells #[(.slice none 0 0), (.slice none 0 0)] 70 (0, 0))) ∧ Aside0 (Kept w wc (fun k_ => P0_0_ k_ ∨ P0_1_ k_)) ∧ Aside0 (Below w0.heap.size w0 wc))
                      case first =>
                        have H := HC58.out
                        clear HC58
                        by_cases c59 : (rd l1 a2) = 40
                        · rw [if_pos c59] at H
                          have c59b0 : ((rd l1 a2) == 40) = true := beq_iff_eq.mpr c59
                          have c59b1 : ((rd l1 a2) != 40) = false := bne_eq_false_iff_eq.mpr c59
                          clear c59
                          (first | rw [c59b0] | (simp only [i64_w, i32_w]; rw [c59b0]) | skip)
                          have H' := qA H
                          clear H
                          go_wp2
                          go_meet
                          case rel => exact ⟨_, (((rd l1 a2) == 40)), (by first | rfl | (simp; done) | (simp [*]; done)), H', ⟨by have := HK1.out; have := HJ43.out; first | omega | exact Nat.le_refl _⟩, ⟨by (with_reducible repeat (first | apply qJ | apply qI | apply qK)); exact HO_284000.out⟩, ⟨by (with_reducible repeat (first | apply qJ | apply qI | apply qK)); exact HO_284001.out⟩, ⟨by (with_reducible repeat (first | refine qE ?_ _ | refine qH ?_ | refine qD ?_ _)); exact BK283.out⟩, ⟨by (with_reducible repeat (first | refine qE ?_ _ | refine qH ?_ | refine qD ?_ _)); exact BK284.out⟩, ⟨by repeat (first | (with_reducible first | exact HK.out | apply Kept.alloc | apply Kept.drewN | apply Kept.drew | refine Kept.setCell ?_ (.inr GW283.out) _ | refine Kept.setCell ?_ (.inr GW284.out) _) | exact HK.out)⟩, ⟨by repeat (first | (with_reducible first | exact HB.out | apply qG | apply qB | apply qF | refine qC ?_ GE283.out | refine qC ?_ GE284.out) | exact HB.out)⟩⟩
                        · rw [if_neg c59] at H
                          have c59b0 : ((rd l1 a2) == 40) = false := beq_eq_false_iff_ne.mpr c59
                          have c59b1 : ((rd l1 a2) != 40) = true := bne_iff_ne.mpr c59
                          (first | rw [c59b0] | (simp only [i64_w, i32_w]; rw [c59b0]) | skip)
                          have H' := qA H
                          clear H
                          go_wp2
                          go_meet
                          case rel => exact ⟨_, (((rd l1 a2) == 91)), (by first | rfl | (simp; done) | (simp [*]; done)), H', ⟨by have := HK1.out; have := HJ43.out; first | omega | exact Nat.le_refl _⟩, ⟨by (with_reducible repeat (first | apply qJ | apply qI | apply qK)); exact HO_284000.out⟩, ⟨by (with_reducible repeat (first | apply qJ | apply qI | apply qK)); exact HO_284001.out⟩, ⟨by (with_reducible repeat (first | refine qE ?_ _ | refine qH ?_ | refine qD ?_ _)); exact BK283.out⟩, ⟨by (with_reducible repeat (first | refine qE ?_ _ | refine qH ?_ | refine qD ?_ _)); exact BK284.out⟩, ⟨by repeat (first | (with_reducible first | exact HK.out | apply Kept.alloc | apply Kept.drewN | apply Kept.drew | refine Kept.setCell ?_ (.inr GW283.out) _ | refine Kept.setCell ?_ (.inr GW284.out) _) | exact HK.out)⟩, ⟨by repeat (first | (with_reducible first | exact HB.out | apply qG | apply qB | apply qF | refine qC ?_ GE283.out | refine qC ?_ GE284.out) | exact HB.out)⟩⟩
                      case rest =>
                        clear HC58
                        try clear c1
                        try clear c2
                        try clear p2
                        try clear q2
                        try clear hx2
                        try clear p3
                        try clear q3
                        try clear hx3
                        try clear c4
                        try clear c4b0
                        try clear c5
                        try clear p6
                        try clear c10
                        try clear c24
                        try clear c24b0
                        try clear c25
                        try clear c25b0
                        try clear c26
                        try clear c26b0
                        try clear c27
                        try clear c27b0
                        try clear c28
                        try clear c28b0
                        try clear c28b1
                        try clear c29
                        try clear c29b0
                        try clear p29
                        try clear q29
                        try clear hx29
                        try clear p30
                        try clear q30
                        try clear hx30
                        try clear c42
                        try clear c42b0
                        try clear c43
                        try clear c43b0
                        try clear c44
                        try clear c45
                        try clear c46
                        try clear c46b0
                        try clear c46b1
                        try clear c47
                        try clear c47b0
                        try clear c47b1
                        try clear c48
                        try clear c48b0
                        try clear c48b1
                        try clear c49
                        try clear c49b0
                        try clear c49b1
                        try clear c50
                        try clear c51
                        try clear c54
                        try clear c54b0
                        try clear c54b1
                        try clear c55
                        try clear c59
                        try clear c59b0
                        try clear c59b1
                        try clear hcz11_0
                        try clear hcz11_1
                        try clear hcz14_0
                        try clear hcz14_1
                        try clear hcz52_0
                        try clear hcz52_1
                        try clear hcz53_0
                        try clear hcz53_1
                        try clear hcz56_0
                        try clear hcz56_1
                        try clear hcz57_0
                        try clear hcz57_1
                        try clear hfz11_0
                        try clear hfz11_1
                        try clear hfz14_0
                        try clear hfz14_1
                        try clear hfz52_0
                        try clear hfz52_1
                        try clear hfz53_0
                        try clear hfz53_1
                        try clear hfz56_0
                        try clear hfz56_1
                        try clear hfz57_0
                        try clear hfz57_1
                        try clear hx297_0
                        try clear hx298_0
                        try clear hx299_0
                        try clear hx306_0
                        try clear p2
                        try clear p29
                        try clear p297
                        try clear p298
                        try clear p299
                        try clear p3
                        try clear p30
                        try clear p306
                        try clear p6
                        try clear q2
                        try clear q29
                        try clear q297
                        try clear q298
                        try clear q299
                        try clear q3
                        try clear q30
                        try clear q306
                        obtain ⟨kq, x69_57, rfl, HA, HJ57, HO_284000, HO_284001, BK283, BK284, HK, HB⟩ := hcut
                        cases kq with
                        | zero => exact absurd HA.out (by simp [flongref04_escape.j2])
                        | succ kj57 =>
                          have H := HA.out
                          clear HA
                          simp only [flongref04_escape.j2] at H
                          by_cases c60 : x69_57 = true
                          · subst c60
                            have H1 : ((flongref04_name.f kj57 l1 a2).bind fun bt307 => (if bt307.2 < 0 then ((flongref04_tell.f l0_0 l0_1 1 (wrap64 (a2 - 1))).bind fun bt309 => (some (bt309.1, bt309.2, (l1.length : Int)))) else ((flongref04_Name.f kj57 bt307.1).bind fun t315 => (if t315 < 0 then ((flongref04_tell.f l0_0 l0_1 2 (wrap64 (a2 - 1))).bind fun bt316 => (some (bt316.1, bt316.2, bt307.2))) else ((flongref04_Name.f kj57 bt307.1).bind fun t322 => ((flongref04_say.f l0_0 l0_1 1 (wrap32 (t322))).bind fun bt323 => (some (bt323.1, bt323.2, bt307.2)))))))) = some (r1, r2, r3) := by rw [if_pos rfl] at H; exact H
                            clear H
                            have H := H1
                            clear H1
                            replace H := Option.bind_eq_some_iff.mp H
                            obtain ⟨⟨t307, t308⟩, A610, H⟩ := H
                            replace H : (if t308 < 0 then ((flongref04_tell.f l0_0 l0_1 1 (wrap64 (a2 - 1))).bind fun bt309 => (some (bt309.1, bt309.2, (l1.length : Int)))) else ((flongref04_Name.f kj57 t307).bind fun t315 => (if t315 < 0 then ((flongref04_tell.f l0_0 l0_1 2 (wrap64 (a2 - 1))).bind fun bt316 => (some (bt316.1, bt316.2, t308))) else ((flongref04_Name.f kj57 t307).bind fun t322 => ((flongref04_say.f l0_0 l0_1 1 (wrap32 (t322))).bind fun bt323 => (some (bt323.1, bt323.2, t308))))))) = some (r1, r2, r3) := H
                            have A61 := qA A610
                            clear A610
                            by_cases c62 : t308 < 0
                            · rw [if_pos c62] at H
                              have c62b0 : decide (t308 < 0) = true := decide_eq_true c62
                              clear c62
                              replace H := Option.bind_eq_some_iff.mp H
                              obtain ⟨⟨t309, t312⟩, A630, H⟩ := H
                              replace H : (some (t309, t312, (l1.length : Int))) = some (r1, r2, r3) := H
                              have A63 := qA A630
                              clear A630
                              simp only [Option.some.injEq, Prod.mk.injEq] at H
                              obtain ⟨rfl, rfl, rfl⟩ := H
                              go_wp2_with (first | ((with_reducible refine gate_callee (f := 59) rfl ?_); refine goesL_ (some 75) rfl rfl Tryd.func59 (by kernel_rfl) rfl #[.slice (some ad306) l1.length c1, .int .i64 a2] rfl (by (try simp only [List.map_toArray, List.map_cons, List.map_nil]); first | done | rfl | (simp only [List.length_drop, List.length_take]; rfl)) ?_; (with_reducible refine (flongref04_name.calls kj57 _ _ l1 a2 t307 t308 _ ?side1 ?side2 A61.out).mono ?_); (case side1 => exact Kd.C_kept_now HR1.out (by repeat (first | (with_reducible first | exact HK.out | apply Kept.alloc | apply Kept.drewN | apply Kept.drew | refine Kept.setCell ?_ (.inr GW283.out) _ | refine Kept.setCell ?_ (.inr GW284.out) _) | exact HK.out))); (case side2 => exact HC1.out); rintro e w64 ⟨rfl, hb⟩; refine ⟨_, rfl, ?_⟩; have n0_ := qA (qT (by (with_reducible repeat (first | apply qJ | apply qI | apply qK)); exact HO_284000.out) hb); have n1_ := qA (qT (by (with_reducible repeat (first | apply qJ | apply qI | apply qK)); exact HO_284001.out) hb); have n2_ := qA (qX (g := gb283) (o := .cells #[.slice Ao16 l0_0.length co16, .slice Ao17 l0_1.length co17] 70 (0, 0)) (by (with_reducible repeat (first | refine qE ?_ _ | refine qH ?_ | refine qD ?_ _)); exact BK283.out) hb); have n3_ := qA (qX (g := gb284) (o := .cells #[.slice none 0 0, .slice none 0 0] 70 (0, 0)) (by (with_reducible repeat (first | refine qE ?_ _ | refine qH ?_ | refine qD ?_ _)); exact BK284.out) hb); have n4_ := qA (Kept.below (S := (fun k_ => P0_0_ k_ ∨ P0_1_ k_)) (by repeat (first | (with_reducible first | exact HK.out | apply Kept.alloc | apply Kept.drewN | apply Kept.drew | refine Kept.setCell ?_ (.inr GW283.out) _ | refine Kept.setCell ?_ (.inr GW284.out) _) | exact HK.out)) hb); have n5_ := qA (qR (by repeat (first | (with_reducible first | exact HB.out | apply qG | apply qB | apply qF | refine qC ?_ GE283.out | refine qC ?_ GE284.out) | exact HB.out)) hb); clear HO_284000; clear HO_284001; clear BK283; clear BK284; clear HK; clear HB; have HO_284000 := n0_; have HO_284001 := n1_; have BK283 := n2_; have BK284 := n3_; have HK := n4_; have HB := n5_; clear n0_ n1_ n2_ n3_ n4_ n5_; (try clear hb); (try clear hb2); (try clear hk); (try clear hi); have hnb65 := NB283_284.out; have hnc65 := NB284_283.out; have hcz66_0 : w64.cell? ⟨gb283, 0, none⟩ = some (.slice Ao16 l0_0.length co16) := (qQ BK283.out 0).trans rfl; have hcz66_1 : w64.cell? ⟨gb283, 1, none⟩ = some (.slice Ao17 l0_1.length co17) := (qQ BK283.out 1).trans rfl; have hfz66_0 := qL BK283.out 0; have hfz66_1 := qL BK283.out 1) | ((with_reducible refine gate_callee (f := 46) rfl ?_); refine goesL_ (some 82) rfl rfl Tryd.func46 (by kernel_rfl) rfl #[.agg #[.slice Ao16 l0_0.length co16, .slice Ao17 l0_1.length co17], .int .i64 1, .int .i64 (wrap64 (a2 - 1))] rfl (by (try simp only [List.map_toArray, List.map_cons, List.map_nil]); first | done | rfl | (simp only [List.length_drop, List.length_take]; rfl)) ?_; (with_reducible refine (flongref04_tell.calls (fun k_ => some k_ = (.slice Ao16 l0_0.length co16 : Value).ownBlock) (.slice Ao16 l0_0.length co16) l0_0 (fun k_ => some k_ = (.slice Ao17 l0_1.length co17 : Value).ownBlock) (.slice Ao17 l0_1.length co17) l0_1 1 (wrap64 (a2 - 1)) t309 t312 w0 _ ?side1 ?side2 ?side3 A63.out).mono ?_); (case side1 => repeat (first | (with_reducible first | exact HB.out | apply qG | apply qB | apply qF | refine qC ?_ GE283.out | refine qC ?_ GE284.out) | exact HB.out)); (case side2 => exact Kd.R_tight rfl HO_284000.out); (case side3 => exact Kd.R_tight rfl HO_284001.out); rintro e w67 ⟨v310, v313, rfl, ho0, ho1, hb, hkp⟩; refine ⟨_, rfl, ?_⟩; have n0_ := qA (blk_kept (by (with_reducible repeat (first | refine qE ?_ _ | refine qH ?_ | refine qD ?_ _)); exact BK283.out) hkp (fun hs_ => Or.elim hs_ (fun e_ => (fun e_ => (Kd.R_ne HO_284000.out BK283.out (by decide)) e_) e_) (fun e_ => (fun e_ => (Kd.R_ne HO_284001.out BK283.out (by decide)) e_) e_))); have n1_ := qA (blk_kept (by (with_reducible repeat (first | refine qE ?_ _ | refine qH ?_ | refine qD ?_ _)); exact BK284.out) hkp (fun hs_ => Or.elim hs_ (fun e_ => (fun e_ => (Kd.R_ne HO_284000.out BK284.out (by decide)) e_) e_) (fun e_ => (fun e_ => (Kd.R_ne HO_284001.out BK284.out (by decide)) e_) e_))); have n2_ := qA (qU (ok' := fun k_ => ((P0_0_ k_ ∨ P0_1_ k_) ∨ w.heap.size ≤ k_)) ho0 (fun k_ hk_ => Or.elim hk_ (fun hs_ => Or.elim hs_ (fun hs_ => (HO_284000.out.1 k_ (hs_).symm)) (fun hs_ => (HO_284001.out.1 k_ (hs_).symm))) (fun hn_ => (.inr (Nat.le_trans (by first | exact HK.out.1 | exact (show Kept w _ (fun k_ => P0_0_ k_ ∨ P0_1_ k_) from by repeat (first | (with_reducible first | exact HK.out | apply Kept.alloc | apply Kept.drewN | apply Kept.drew | refine Kept.setCell ?_ (.inr GW283.out) _ | refine Kept.setCell ?_ (.inr GW284.out) _) | exact HK.out)).1) hn_))))); have n3_ := qA (qU (ok' := fun k_ => ((P0_0_ k_ ∨ P0_1_ k_) ∨ w.heap.size ≤ k_)) ho1 (fun k_ hk_ => Or.elim hk_ (fun hs_ => Or.elim hs_ (fun hs_ => (HO_284000.out.1 k_ (hs_).symm)) (fun hs_ => (HO_284001.out.1 k_ (hs_).symm))) (fun hn_ => (.inr (Nat.le_trans (by first | exact HK.out.1 | exact (show Kept w _ (fun k_ => P0_0_ k_ ∨ P0_1_ k_) from by repeat (first | (with_reducible first | exact HK.out | apply Kept.alloc | apply Kept.drewN | apply Kept.drew | refine Kept.setCell ?_ (.inr GW283.out) _ | refine Kept.setCell ?_ (.inr GW284.out) _) | exact HK.out)).1) hn_))))); have n4_ := qA (Kept.then_ (S := (fun k_ => P0_0_ k_ ∨ P0_1_ k_)) (by repeat (first | (with_reducible first | exact HK.out | apply Kept.alloc | apply Kept.drewN | apply Kept.drew | refine Kept.setCell ?_ (.inr GW283.out) _ | refine Kept.setCell ?_ (.inr GW284.out) _) | exact HK.out)) hkp (fun k_ hs_ => Or.elim hs_ (fun e_ => (fun e_ => (HO_284000.out.1 k_ e_.symm)) e_) (fun e_ => (fun e_ => (HO_284001.out.1 k_ e_.symm)) e_))); have n5_ := qA (hb); clear BK283; clear BK284; clear HK; clear HB; clear HO_284000; clear HO_284001; have BK283 := n0_; have BK284 := n1_; have HO311 := n2_; have HO314 := n3_; have HK := n4_; have HB := n5_; clear n0_ n1_ n2_ n3_ n4_ n5_; (try clear hb); (try clear hkp); (try clear ho0); (try clear ho1); obtain ⟨Ao68, co68, eo68⟩ := Kd.R_slice HO311.out; subst eo68; have hcz69_0 : w67.cell? ⟨gb284, 0, none⟩ = some (.slice none 0 0) := (qQ BK284.out 0).trans rfl; have hcz69_1 : w67.cell? ⟨gb284, 1, none⟩ = some (.slice none 0 0) := (qQ BK284.out 1).trans rfl; have hfz69_0 := qL BK284.out 0; have hfz69_1 := qL BK284.out 1; obtain ⟨Ao70, co70, eo70⟩ := Kd.R_slice HO314.out; subst eo70))
                              refine bodyPost_ret (results_ct rfl _ _ gb284 70 #[.slice Ao68 t309.length co68, .slice Ao70 t312.length co70] (0, 0) _ rfl (by (with_reducible repeat (first | refine qE ?_ _ | refine qH ?_ | refine qD ?_ _)); refine qY (cs := #[.slice Ao68 t309.length co68, .slice none 0 0]) ?_ 1 _ rfl; (with_reducible repeat (first | refine qE ?_ _ | refine qH ?_ | refine qD ?_ _)); refine qY (cs := #[.slice none 0 0, .slice none 0 0]) ?_ 0 _ rfl; (with_reducible repeat (first | refine qE ?_ _ | refine qH ?_ | refine qD ?_ _)); exact BK284.out) Tryd.underlying70 rfl (by kernel_rfl)) rfl ?_
                              exact ⟨_, _, by first | rfl | (simp [errW_none, errW_some] <;> rfl) | (simp [*, errW_none, errW_some] <;> rfl), by (with_reducible repeat (first | apply qJ | apply qI | apply qK)); exact qU (qP (p := ⟨gb284, 1, none⟩) (qP (p := ⟨gb284, 0, none⟩) (qV HO311.out BK284.out (by decide)) (fun _ hk => hk.2) (.slice Ao68 t309.length co68)) (fun _ hk => hk.2) (.slice Ao70 t312.length co70)) (fun _ hk => hk.1), by (with_reducible repeat (first | apply qJ | apply qI | apply qK)); exact qU (qP (p := ⟨gb284, 1, none⟩) (qP (p := ⟨gb284, 0, none⟩) (qV HO314.out BK284.out (by decide)) (fun _ hk => hk.2) (.slice Ao68 t309.length co68)) (fun _ hk => hk.2) (.slice Ao70 t312.length co70)) (fun _ hk => hk.1), by repeat (first | (with_reducible first | exact HB.out | apply qG | apply qB | apply qF | refine qC ?_ GE283.out | refine qC ?_ GE284.out) | exact HB.out), by repeat (first | (with_reducible first | exact HK.out | apply Kept.alloc | apply Kept.drewN | apply Kept.drew | refine Kept.setCell ?_ (.inr GW283.out) _ | refine Kept.setCell ?_ (.inr GW284.out) _) | exact HK.out)⟩
                            · rw [if_neg c62] at H
                              have c62b0 : decide (t308 < 0) = false := decide_eq_false c62
                              clear c62
                              replace H := Option.bind_eq_some_iff.mp H
                              obtain ⟨t315, A710, H⟩ := H
                              replace H : (if t315 < 0 then ((flongref04_tell.f l0_0 l0_1 2 (wrap64 (a2 - 1))).bind fun bt316 => (some (bt316.1, bt316.2, t308))) else ((flongref04_Name.f kj57 t307).bind fun t322 => ((flongref04_say.f l0_0 l0_1 1 (wrap32 (t322))).bind fun bt323 => (some (bt323.1, bt323.2, t308))))) = some (r1, r2, r3) := H
                              have A71 := qA A710
                              clear A710
                              by_cases c72 : t315 < 0
                              · rw [if_pos c72] at H
                                have c72b0 : decide (t315 < 0) = true := decide_eq_true c72
                                clear c72
                                replace H := Option.bind_eq_some_iff.mp H
                                obtain ⟨⟨t316, t319⟩, A730, H⟩ := H
                                replace H : (some (t316, t319, t308)) = some (r1, r2, r3) := H
                                have A73 := qA A730
                                clear A730
                                simp only [Option.some.injEq, Prod.mk.injEq] at H
                                obtain ⟨rfl, rfl, rfl⟩ := H
                                go_wp2_with (first | ((with_reducible refine gate_callee (f := 59) rfl ?_); refine goesL_ (some 75) rfl rfl Tryd.func59 (by kernel_rfl) rfl #[.slice (some ad306) l1.length c1, .int .i64 a2] rfl (by (try simp only [List.map_toArray, List.map_cons, List.map_nil]); first | done | rfl | (simp only [List.length_drop, List.length_take]; rfl)) ?_; (with_reducible refine (flongref04_name.calls kj57 _ _ l1 a2 t307 t308 _ ?side1 ?side2 A61.out).mono ?_); (case side1 => exact Kd.C_kept_now HR1.out (by repeat (first | (with_reducible first | exact HK.out | apply Kept.alloc | apply Kept.drewN | apply Kept.drew | refine Kept.setCell ?_ (.inr GW283.out) _ | refine Kept.setCell ?_ (.inr GW284.out) _) | exact HK.out))); (case side2 => exact HC1.out); rintro e w74 ⟨rfl, hb⟩; refine ⟨_, rfl, ?_⟩; have n0_ := qA (qT (by (with_reducible repeat (first | apply qJ | apply qI | apply qK)); exact HO_284000.out) hb); have n1_ := qA (qT (by (with_reducible repeat (first | apply qJ | apply qI | apply qK)); exact HO_284001.out) hb); have n2_ := qA (qX (g := gb283) (o := .cells #[.slice Ao16 l0_0.length co16, .slice Ao17 l0_1.length co17] 70 (0, 0)) (by (with_reducible repeat (first | refine qE ?_ _ | refine qH ?_ | refine qD ?_ _)); exact BK283.out) hb); have n3_ := qA (qX (g := gb284) (o := .cells #[.slice none 0 0, .slice none 0 0] 70 (0, 0)) (by (with_reducible repeat (first | refine qE ?_ _ | refine qH ?_ | refine qD ?_ _)); exact BK284.out) hb); have n4_ := qA (Kept.below (S := (fun k_ => P0_0_ k_ ∨ P0_1_ k_)) (by repeat (first | (with_reducible first | exact HK.out | apply Kept.alloc | apply Kept.drewN | apply Kept.drew | refine Kept.setCell ?_ (.inr GW283.out) _ | refine Kept.setCell ?_ (.inr GW284.out) _) | exact HK.out)) hb); have n5_ := qA (qR (by repeat (first | (with_reducible first | exact HB.out | apply qG | apply qB | apply qF | refine qC ?_ GE283.out | refine qC ?_ GE284.out) | exact HB.out)) hb); clear HO_284000; clear HO_284001; clear BK283; clear BK284; clear HK; clear HB; have HO_284000 := n0_; have HO_284001 := n1_; have BK283 := n2_; have BK284 := n3_; have HK := n4_; have HB := n5_; clear n0_ n1_ n2_ n3_ n4_ n5_; (try clear hb); (try clear hb2); (try clear hk); (try clear hi)) | ((with_reducible refine gate_callee (f := 21) rfl ?_); refine goesL_ (some 86) rfl rfl Tryd.func21 (by kernel_rfl) rfl #[.string t307] rfl (by (try simp only [List.map_toArray, List.map_cons, List.map_nil]); first | done | rfl | (simp only [List.length_drop, List.length_take]; rfl)) ?_; (with_reducible refine (flongref04_Name.calls kj57 t307 t315 _ A71.out).mono ?_); rintro e w75 ⟨rfl, hb⟩; refine ⟨_, rfl, ?_⟩; have n0_ := qA (qT (by (with_reducible repeat (first | apply qJ | apply qI | apply qK)); exact HO_284000.out) hb); have n1_ := qA (qT (by (with_reducible repeat (first | apply qJ | apply qI | apply qK)); exact HO_284001.out) hb); have n2_ := qA (qX (g := gb283) (o := .cells #[.slice Ao16 l0_0.length co16, .slice Ao17 l0_1.length co17] 70 (0, 0)) (by (with_reducible repeat (first | refine qE ?_ _ | refine qH ?_ | refine qD ?_ _)); exact BK283.out) hb); have n3_ := qA (qX (g := gb284) (o := .cells #[.slice none 0 0, .slice none 0 0] 70 (0, 0)) (by (with_reducible repeat (first | refine qE ?_ _ | refine qH ?_ | refine qD ?_ _)); exact BK284.out) hb); have n4_ := qA (Kept.below (S := (fun k_ => P0_0_ k_ ∨ P0_1_ k_)) (by repeat (first | (with_reducible first | exact HK.out | apply Kept.alloc | apply Kept.drewN | apply Kept.drew | refine Kept.setCell ?_ (.inr GW283.out) _ | refine Kept.setCell ?_ (.inr GW284.out) _) | exact HK.out)) hb); have n5_ := qA (qR (by repeat (first | (with_reducible first | exact HB.out | apply qG | apply qB | apply qF | refine qC ?_ GE283.out | refine qC ?_ GE284.out) | exact HB.out)) hb); clear HO_284000; clear HO_284001; clear BK283; clear BK284; clear HK; clear HB; have HO_284000 := n0_; have HO_284001 := n1_; have BK283 := n2_; have BK284 := n3_; have HK := n4_; have HB := n5_; clear n0_ n1_ n2_ n3_ n4_ n5_; (try clear hb); (try clear hb2); (try clear hk); (try clear hi); have hnb76 := NB283_284.out; have hnc76 := NB284_283.out; have hcz77_0 : w75.cell? ⟨gb283, 0, none⟩ = some (.slice Ao16 l0_0.length co16) := (qQ BK283.out 0).trans rfl; have hcz77_1 : w75.cell? ⟨gb283, 1, none⟩ = some (.slice Ao17 l0_1.length co17) := (qQ BK283.out 1).trans rfl; have hfz77_0 := qL BK283.out 0; have hfz77_1 := qL BK283.out 1) | ((with_reducible refine gate_callee (f := 46) rfl ?_); refine goesL_ (some 90) rfl rfl Tryd.func46 (by kernel_rfl) rfl #[.agg #[.slice Ao16 l0_0.length co16, .slice Ao17 l0_1.length co17], .int .i64 2, .int .i64 (wrap64 (a2 - 1))] rfl (by (try simp only [List.map_toArray, List.map_cons, List.map_nil]); first | done | rfl | (simp only [List.length_drop, List.length_take]; rfl)) ?_; (with_reducible refine (flongref04_tell.calls (fun k_ => some k_ = (.slice Ao16 l0_0.length co16 : Value).ownBlock) (.slice Ao16 l0_0.length co16) l0_0 (fun k_ => some k_ = (.slice Ao17 l0_1.length co17 : Value).ownBlock) (.slice Ao17 l0_1.length co17) l0_1 2 (wrap64 (a2 - 1)) t316 t319 w0 _ ?side1 ?side2 ?side3 A73.out).mono ?_); (case side1 => repeat (first | (with_reducible first | exact HB.out | apply qG | apply qB | apply qF | refine qC ?_ GE283.out | refine qC ?_ GE284.out) | exact HB.out)); (case side2 => exact Kd.R_tight rfl HO_284000.out); (case side3 => exact Kd.R_tight rfl HO_284001.out); rintro e w78 ⟨v317, v320, rfl, ho0, ho1, hb, hkp⟩; refine ⟨_, rfl, ?_⟩; have n0_ := qA (blk_kept (by (with_reducible repeat (first | refine qE ?_ _ | refine qH ?_ | refine qD ?_ _)); exact BK283.out) hkp (fun hs_ => Or.elim hs_ (fun e_ => (fun e_ => (Kd.R_ne HO_284000.out BK283.out (by decide)) e_) e_) (fun e_ => (fun e_ => (Kd.R_ne HO_284001.out BK283.out (by decide)) e_) e_))); have n1_ := qA (blk_kept (by (with_reducible repeat (first | refine qE ?_ _ | refine qH ?_ | refine qD ?_ _)); exact BK284.out) hkp (fun hs_ => Or.elim hs_ (fun e_ => (fun e_ => (Kd.R_ne HO_284000.out BK284.out (by decide)) e_) e_) (fun e_ => (fun e_ => (Kd.R_ne HO_284001.out BK284.out (by decide)) e_) e_))); have n2_ := qA (qU (ok' := fun k_ => ((P0_0_ k_ ∨ P0_1_ k_) ∨ w.heap.size ≤ k_)) ho0 (fun k_ hk_ => Or.elim hk_ (fun hs_ => Or.elim hs_ (fun hs_ => (HO_284000.out.1 k_ (hs_).symm)) (fun hs_ => (HO_284001.out.1 k_ (hs_).symm))) (fun hn_ => (.inr (Nat.le_trans (by first | exact HK.out.1 | exact (show Kept w _ (fun k_ => P0_0_ k_ ∨ P0_1_ k_) from by repeat (first | (with_reducible first | exact HK.out | apply Kept.alloc | apply Kept.drewN | apply Kept.drew | refine Kept.setCell ?_ (.inr GW283.out) _ | refine Kept.setCell ?_ (.inr GW284.out) _) | exact HK.out)).1) hn_))))); have n3_ := qA (qU (ok' := fun k_ => ((P0_0_ k_ ∨ P0_1_ k_) ∨ w.heap.size ≤ k_)) ho1 (fun k_ hk_ => Or.elim hk_ (fun hs_ => Or.elim hs_ (fun hs_ => (HO_284000.out.1 k_ (hs_).symm)) (fun hs_ => (HO_284001.out.1 k_ (hs_).symm))) (fun hn_ => (.inr (Nat.le_trans (by first | exact HK.out.1 | exact (show Kept w _ (fun k_ => P0_0_ k_ ∨ P0_1_ k_) from by repeat (first | (with_reducible first | exact HK.out | apply Kept.alloc | apply Kept.drewN | apply Kept.drew | refine Kept.setCell ?_ (.inr GW283.out) _ | refine Kept.setCell ?_ (.inr GW284.out) _) | exact HK.out)).1) hn_))))); have n4_ := qA (Kept.then_ (S := (fun k_ => P0_0_ k_ ∨ P0_1_ k_)) (by repeat (first | (with_reducible first | exact HK.out | apply Kept.alloc | apply Kept.drewN | apply Kept.drew | refine Kept.setCell ?_ (.inr GW283.out) _ | refine Kept.setCell ?_ (.inr GW284.out) _) | exact HK.out)) hkp (fun k_ hs_ => Or.elim hs_ (fun e_ => (fun e_ => (HO_284000.out.1 k_ e_.symm)) e_) (fun e_ => (fun e_ => (HO_284001.out.1 k_ e_.symm)) e_))); have n5_ := qA (hb); clear BK283; clear BK284; clear HK; clear HB; clear HO_284000; clear HO_284001; have BK283 := n0_; have BK284 := n1_; have HO318 := n2_; have HO321 := n3_; have HK := n4_; have HB := n5_; clear n0_ n1_ n2_ n3_ n4_ n5_; (try clear hb); (try clear hkp); (try clear ho0); (try clear ho1); obtain ⟨Ao79, co79, eo79⟩ := Kd.R_slice HO318.out; subst eo79; have hcz80_0 : w78.cell? ⟨gb284, 0, none⟩ = some (.slice none 0 0) := (qQ BK284.out 0).trans rfl; have hcz80_1 : w78.cell? ⟨gb284, 1, none⟩ = some (.slice none 0 0) := (qQ BK284.out 1).trans rfl; have hfz80_0 := qL BK284.out 0; have hfz80_1 := qL BK284.out 1; obtain ⟨Ao81, co81, eo81⟩ := Kd.R_slice HO321.out; subst eo81))
                                refine bodyPost_ret (results_ct rfl _ _ gb284 70 #[.slice Ao79 t316.length co79, .slice Ao81 t319.length co81] (0, 0) _ rfl (by (with_reducible repeat (first | refine qE ?_ _ | refine qH ?_ | refine qD ?_ _)); refine qY (cs := #[.slice Ao79 t316.length co79, .slice none 0 0]) ?_ 1 _ rfl; (with_reducible repeat (first | refine qE ?_ _ | refine qH ?_ | refine qD ?_ _)); refine qY (cs := #[.slice none 0 0, .slice none 0 0]) ?_ 0 _ rfl; (with_reducible repeat (first | refine qE ?_ _ | refine qH ?_ | refine qD ?_ _)); exact BK284.out) Tryd.underlying70 rfl (by kernel_rfl)) rfl ?_
                                exact ⟨_, _, by first | rfl | (simp [errW_none, errW_some] <;> rfl) | (simp [*, errW_none, errW_some] <;> rfl), by (with_reducible repeat (first | apply qJ | apply qI | apply qK)); exact qU (qP (p := ⟨gb284, 1, none⟩) (qP (p := ⟨gb284, 0, none⟩) (qV HO318.out BK284.out (by decide)) (fun _ hk => hk.2) (.slice Ao79 t316.length co79)) (fun _ hk => hk.2) (.slice Ao81 t319.length co81)) (fun _ hk => hk.1), by (with_reducible repeat (first | apply qJ | apply qI | apply qK)); exact qU (qP (p := ⟨gb284, 1, none⟩) (qP (p := ⟨gb284, 0, none⟩) (qV HO321.out BK284.out (by decide)) (fun _ hk => hk.2) (.slice Ao79 t316.length co79)) (fun _ hk => hk.2) (.slice Ao81 t319.length co81)) (fun _ hk => hk.1), by repeat (first | (with_reducible first | exact HB.out | apply qG | apply qB | apply qF | refine qC ?_ GE283.out | refine qC ?_ GE284.out) | exact HB.out), by repeat (first | (with_reducible first | exact HK.out | apply Kept.alloc | apply Kept.drewN | apply Kept.drew | refine Kept.setCell ?_ (.inr GW283.out) _ | refine Kept.setCell ?_ (.inr GW284.out) _) | exact HK.out)⟩
                              · rw [if_neg c72] at H
                                have c72b0 : decide (t315 < 0) = false := decide_eq_false c72
                                clear c72
                                replace H := Option.bind_eq_some_iff.mp H
                                obtain ⟨t322, A820, H⟩ := H
                                replace H : ((flongref04_say.f l0_0 l0_1 1 (wrap32 (t322))).bind fun bt323 => (some (bt323.1, bt323.2, t308))) = some (r1, r2, r3) := H
                                have A82 := qA A820
                                clear A820
                                replace H := Option.bind_eq_some_iff.mp H
                                obtain ⟨⟨t323, t326⟩, A830, H⟩ := H
                                replace H : (some (t323, t326, t308)) = some (r1, r2, r3) := H
                                have A83 := qA A830
                                clear A830
                                simp only [Option.some.injEq, Prod.mk.injEq] at H
                                obtain ⟨rfl, rfl, rfl⟩ := H
                                try go_wp2_with (first | ((with_reducible refine gate_callee (f := 59) rfl ?_); refine goesL_ (some 75) rfl rfl Tryd.func59 (by kernel_rfl) rfl #[.slice (some ad306) l1.length c1, .int .i64 a2] rfl (by (try simp only [List.map_toArray, List.map_cons, List.map_nil]); first | done | rfl | (simp only [List.length_drop, List.length_take]; rfl)) ?_; (with_reducible refine (flongref04_name.calls kj57 _ _ l1 a2 t307 t308 _ ?side1 ?side2 A61.out).mono ?_); (case side1 => exact Kd.C_kept_now HR1.out (by repeat (first | (with_reducible first | exact HK.out | apply Kept.alloc | apply Kept.drewN | apply Kept.drew | refine Kept.setCell ?_ (.inr GW283.out) _ | refine Kept.setCell ?_ (.inr GW284.out) _) | exact HK.out))); (case side2 => exact HC1.out); rintro e w84 ⟨rfl, hb⟩; refine ⟨_, rfl, ?_⟩; have n0_ := qA (qT (by (with_reducible repeat (first | apply qJ | apply qI | apply qK)); exact HO_284000.out) hb); have n1_ := qA (qT (by (with_reducible repeat (first | apply qJ | apply qI | apply qK)); exact HO_284001.out) hb); have n2_ := qA (qX (g := gb283) (o := .cells #[.slice Ao16 l0_0.length co16, .slice Ao17 l0_1.length co17] 70 (0, 0)) (by (with_reducible repeat (first | refine qE ?_ _ | refine qH ?_ | refine qD ?_ _)); exact BK283.out) hb); have n3_ := qA (qX (g := gb284) (o := .cells #[.slice none 0 0, .slice none 0 0] 70 (0, 0)) (by (with_reducible repeat (first | refine qE ?_ _ | refine qH ?_ | refine qD ?_ _)); exact BK284.out) hb); have n4_ := qA (Kept.below (S := (fun k_ => P0_0_ k_ ∨ P0_1_ k_)) (by repeat (first | (with_reducible first | exact HK.out | apply Kept.alloc | apply Kept.drewN | apply Kept.drew | refine Kept.setCell ?_ (.inr GW283.out) _ | refine Kept.setCell ?_ (.inr GW284.out) _) | exact HK.out)) hb); have n5_ := qA (qR (by repeat (first | (with_reducible first | exact HB.out | apply qG | apply qB | apply qF | refine qC ?_ GE283.out | refine qC ?_ GE284.out) | exact HB.out)) hb); clear HO_284000; clear HO_284001; clear BK283; clear BK284; clear HK; clear HB; have HO_284000 := n0_; have HO_284001 := n1_; have BK283 := n2_; have BK284 := n3_; have HK := n4_; have HB := n5_; clear n0_ n1_ n2_ n3_ n4_ n5_; (try clear hb); (try clear hb2); (try clear hk); (try clear hi)) | ((with_reducible refine gate_callee (f := 21) rfl ?_); refine goesL_ (some 86) rfl rfl Tryd.func21 (by kernel_rfl) rfl #[.string t307] rfl (by (try simp only [List.map_toArray, List.map_cons, List.map_nil]); first | done | rfl | (simp only [List.length_drop, List.length_take]; rfl)) ?_; (with_reducible refine (flongref04_Name.calls kj57 t307 t315 _ A71.out).mono ?_); rintro e w85 ⟨rfl, hb⟩; refine ⟨_, rfl, ?_⟩; have n0_ := qA (qT (by (with_reducible repeat (first | apply qJ | apply qI | apply qK)); exact HO_284000.out) hb); have n1_ := qA (qT (by (with_reducible repeat (first | apply qJ | apply qI | apply qK)); exact HO_284001.out) hb); have n2_ := qA (qX (g := gb283) (o := .cells #[.slice Ao16 l0_0.length co16, .slice Ao17 l0_1.length co17] 70 (0, 0)) (by (with_reducible repeat (first | refine qE ?_ _ | refine qH ?_ | refine qD ?_ _)); exact BK283.out) hb); have n3_ := qA (qX (g := gb284) (o := .cells #[.slice none 0 0, .slice none 0 0] 70 (0, 0)) (by (with_reducible repeat (first | refine qE ?_ _ | refine qH ?_ | refine qD ?_ _)); exact BK284.out) hb); have n4_ := qA (Kept.below (S := (fun k_ => P0_0_ k_ ∨ P0_1_ k_)) (by repeat (first | (with_reducible first | exact HK.out | apply Kept.alloc | apply Kept.drewN | apply Kept.drew | refine Kept.setCell ?_ (.inr GW283.out) _ | refine Kept.setCell ?_ (.inr GW284.out) _) | exact HK.out)) hb); have n5_ := qA (qR (by repeat (first | (with_reducible first | exact HB.out | apply qG | apply qB | apply qF | refine qC ?_ GE283.out | refine qC ?_ GE284.out) | exact HB.out)) hb); clear HO_284000; clear HO_284001; clear BK283; clear BK284; clear HK; clear HB; have HO_284000 := n0_; have HO_284001 := n1_; have BK283 := n2_; have BK284 := n3_; have HK := n4_; have HB := n5_; clear n0_ n1_ n2_ n3_ n4_ n5_; (try clear hb); (try clear hb2); (try clear hk); (try clear hi)))
                                have n0_ := qA (qK HO_284000.out)
                                have n1_ := qA (qK HO_284001.out)
                                have n2_ := qA (qH BK283.out)
                                have n3_ := qA (qH BK284.out)
                                have n4_ := qA (Kept.drew HK.out)
                                have n5_ := qA (qF HB.out)
                                clear HO_284000
                                clear HO_284001
                                clear BK283
                                clear BK284
                                clear HK
                                clear HB
                                have HO_284000 := n0_
                                have HO_284001 := n1_
                                have BK283 := n2_
                                have BK284 := n3_
                                have HK := n4_
                                have HB := n5_
                                clear n0_ n1_ n2_ n3_ n4_ n5_
                                refine start_ (n := 8) (S := fun w' => w'.cell? ⟨gb283, 0, none⟩ = some (.slice Ao16 l0_0.length co16) ∧ w'.cell? ⟨gb283, 1, none⟩ = some (.slice Ao17 l0_1.length co17)) (ds := []) #[false, false, false, false, false, false, false, false] (by kernel_rfl) rfl rfl ⟨(qQ BK283.out 0).trans rfl, (qQ BK283.out 1).trans rfl⟩ (fun hHeld => ?_); refine with_tabW flongref04_escape.tab27 flongref04_escape.bits27 (fun HT_ HW_ => ?_)
                                generalize w85.drew = w86 at HO_284000 HO_284001 BK283 BK284 HK HB hHeld ⊢
                                refine pure_ (i := 1) (N := some 93) (v := ?_) (a' := ?_) #[false, true, false, false, false, false, false, false] rfl rfl (any_of HT_.out (by kernel_rfl)) (fun _ _ _ h => h) (Or.inl ⟨by rfl, ?_⟩) ?_ ?_
                                rotate_left
                                · intro w'
                                  go_simp
                                  with_reducible rfl
                                rotate_left
                                · simp only [Act.put, qM, qO, qN, i64_w, i32_w]
                                  rfl
                                refine pure_ (i := 5) (N := some 97) (v := ?_) (a' := ?_) #[false, true, false, false, false, true, false, false] rfl rfl (any_of HT_.out (by kernel_rfl)) (fun _ _ _ h => h) (Or.inl ⟨by rfl, ?_⟩) ?_ ?_
                                rotate_left
                                · intro w'
                                  go_simp
                                  with_reducible rfl
                                rotate_left
                                · simp only [Act.put, qM, qO, qN, i64_w, i32_w]
                                  rfl
                                refine take_ (i := 0) (N := some 92) (v := ?_) (a' := ?_) #[true, true, false, false, false, true, false, false] rfl rfl (take_ofW HT_.out HW_.out (by kernel_rfl)) (fun _ _ _ h => h) (Or.inl ⟨by rfl, ?_⟩) hHeld ?_ ?_
                                rotate_left
                                · rintro w' ⟨s0, s1⟩
                                  go_simp
                                  with_reducible rfl
                                rotate_left
                                · simp only [Act.put, qM, qO, qN, i64_w, i32_w]
                                  rfl
                                refine one_ (i := 2) (N := some 94) #[true, true, true, false, false, true, false, false] rfl rfl (one_of HT_.out (by kernel_rfl)) (by decide) (fun K hK => ?_)
                                refine goes_ Tryd.func21 (by kernel_rfl) rfl #[.string t307] (by rfl) rfl rfl (by (try simp only [List.map_toArray, List.map_cons, List.map_nil]); first | done | rfl | (simp only [List.length_drop, List.length_take]; rfl)) ?_
                                with_reducible refine (flongref04_Name.calls kj57 t307 t322 _ A82.out).mono ?_
                                rintro e w87 ⟨rfl, hb⟩
                                refine ⟨_, rfl, ?_⟩
                                have n0_ := qA (qT (by (with_reducible repeat (first | apply qJ | apply qI | apply qK)); exact HO_284000.out) hb)
                                have n1_ := qA (qT (by (with_reducible repeat (first | apply qJ | apply qI | apply qK)); exact HO_284001.out) hb)
                                have n2_ := qA (qX (g := gb283) (o := .cells #[.slice Ao16 l0_0.length co16, .slice Ao17 l0_1.length co17] 70 (0, 0)) (by (with_reducible repeat (first | refine qE ?_ _ | refine qH ?_ | refine qD ?_ _)); exact BK283.out) hb)
                                have n3_ := qA (qX (g := gb284) (o := .cells #[.slice none 0 0, .slice none 0 0] 70 (0, 0)) (by (with_reducible repeat (first | refine qE ?_ _ | refine qH ?_ | refine qD ?_ _)); exact BK284.out) hb)
                                have n4_ := qA (Kept.below (S := (fun k_ => P0_0_ k_ ∨ P0_1_ k_)) (by repeat (first | (with_reducible first | exact HK.out | apply Kept.alloc | apply Kept.drewN | apply Kept.drew | refine Kept.setCell ?_ (.inr GW283.out) _ | refine Kept.setCell ?_ (.inr GW284.out) _) | exact HK.out)) hb)
                                have n5_ := qA (qR (by repeat (first | (with_reducible first | exact HB.out | apply qG | apply qB | apply qF | refine qC ?_ GE283.out | refine qC ?_ GE284.out) | exact HB.out)) hb)
                                clear HO_284000
                                clear HO_284001
                                clear BK283
                                clear BK284
                                clear HK
                                clear HB
                                have HO_284000 := n0_
                                have HO_284001 := n1_
                                have BK283 := n2_
                                have BK284 := n3_
                                have HK := n4_
                                have HB := n5_
                                clear n0_ n1_ n2_ n3_ n4_ n5_
                                (try clear hb)
                                (try clear hb2)
                                (try clear hk)
                                (try clear hi)
                                refine hK.out _ _ ⟨(qQ BK283.out 0).trans rfl, (qQ BK283.out 1).trans rfl⟩ (fun hHeld => ?_)
                                clear hK K
                                refine norm_ (a' := ?_) ?_ ?_
                                rotate_left
                                · show Act.put _ (some 94) _ = _
                                  simp only [Act.put, qM, qO, qN, i64_w, i32_w]
                                  rfl
                                refine pure_ (i := 3) (N := some 95) (v := ?_) (a' := ?_) #[true, true, true, true, false, true, false, false] rfl rfl (any_of HT_.out (by kernel_rfl)) (fun _ _ _ h => h) (Or.inl ⟨by rfl, ?_⟩) ?_ ?_
                                rotate_left
                                · intro w'
                                  go_simp
                                  with_reducible rfl
                                rotate_left
                                · simp only [Act.put, qM, qO, qN, i64_w, i32_w]
                                  rfl
                                refine one_ (i := 4) (N := some 96) #[true, true, true, true, true, true, false, false] rfl rfl (one_of HT_.out (by kernel_rfl)) (by decide) (fun K hK => ?_)
                                refine goes_ Tryd.func45 (by kernel_rfl) rfl #[.agg #[.slice Ao16 l0_0.length co16, .slice Ao17 l0_1.length co17], .int .i64 1, .int .i32 (wrap32 (t322))] (by rfl) rfl rfl (by (try simp only [List.map_toArray, List.map_cons, List.map_nil]); first | done | rfl | (simp only [List.length_drop, List.length_take]; rfl)) ?_
                                with_reducible refine (flongref04_say.calls (fun k_ => some k_ = (.slice Ao16 l0_0.length co16 : Value).ownBlock) (.slice Ao16 l0_0.length co16) l0_0 (fun k_ => some k_ = (.slice Ao17 l0_1.length co17 : Value).ownBlock) (.slice Ao17 l0_1.length co17) l0_1 1 (wrap32 (t322)) t323 t326 w0 _ ?side1 ?side2 ?side3 A83.out).mono ?_
                                (case side1 => repeat (first | (with_reducible first | exact HB.out | apply qG | apply qB | apply qF | refine qC ?_ GE283.out | refine qC ?_ GE284.out) | exact HB.out))
                                (case side2 => exact Kd.R_tight rfl HO_284000.out)
                                (case side3 => exact Kd.R_tight rfl HO_284001.out)
                                rintro e w88 ⟨v324, v327, rfl, ho0, ho1, hb, hkp⟩
                                refine ⟨_, rfl, ?_⟩
                                have n0_ := qA (blk_kept (by (with_reducible repeat (first | refine qE ?_ _ | refine qH ?_ | refine qD ?_ _)); exact BK283.out) hkp (fun hs_ => Or.elim hs_ (fun e_ => (fun e_ => (Kd.R_ne HO_284000.out BK283.out (by decide)) e_) e_) (fun e_ => (fun e_ => (Kd.R_ne HO_284001.out BK283.out (by decide)) e_) e_)))
                                have n1_ := qA (blk_kept (by (with_reducible repeat (first | refine qE ?_ _ | refine qH ?_ | refine qD ?_ _)); exact BK284.out) hkp (fun hs_ => Or.elim hs_ (fun e_ => (fun e_ => (Kd.R_ne HO_284000.out BK284.out (by decide)) e_) e_) (fun e_ => (fun e_ => (Kd.R_ne HO_284001.out BK284.out (by decide)) e_) e_)))
                                have n2_ := qA (qU (ok' := fun k_ => ((P0_0_ k_ ∨ P0_1_ k_) ∨ w.heap.size ≤ k_)) ho0 (fun k_ hk_ => Or.elim hk_ (fun hs_ => Or.elim hs_ (fun hs_ => (HO_284000.out.1 k_ (hs_).symm)) (fun hs_ => (HO_284001.out.1 k_ (hs_).symm))) (fun hn_ => (.inr (Nat.le_trans (by first | exact HK.out.1 | exact (show Kept w _ (fun k_ => P0_0_ k_ ∨ P0_1_ k_) from by repeat (first | (with_reducible first | exact HK.out | apply Kept.alloc | apply Kept.drewN | apply Kept.drew | refine Kept.setCell ?_ (.inr GW283.out) _ | refine Kept.setCell ?_ (.inr GW284.out) _) | exact HK.out)).1) hn_)))))
                                have n3_ := qA (qU (ok' := fun k_ => ((P0_0_ k_ ∨ P0_1_ k_) ∨ w.heap.size ≤ k_)) ho1 (fun k_ hk_ => Or.elim hk_ (fun hs_ => Or.elim hs_ (fun hs_ => (HO_284000.out.1 k_ (hs_).symm)) (fun hs_ => (HO_284001.out.1 k_ (hs_).symm))) (fun hn_ => (.inr (Nat.le_trans (by first | exact HK.out.1 | exact (show Kept w _ (fun k_ => P0_0_ k_ ∨ P0_1_ k_) from by repeat (first | (with_reducible first | exact HK.out | apply Kept.alloc | apply Kept.drewN | apply Kept.drew | refine Kept.setCell ?_ (.inr GW283.out) _ | refine Kept.setCell ?_ (.inr GW284.out) _) | exact HK.out)).1) hn_)))))
                                have n4_ := qA (Kept.then_ (S := (fun k_ => P0_0_ k_ ∨ P0_1_ k_)) (by repeat (first | (with_reducible first | exact HK.out | apply Kept.alloc | apply Kept.drewN | apply Kept.drew | refine Kept.setCell ?_ (.inr GW283.out) _ | refine Kept.setCell ?_ (.inr GW284.out) _) | exact HK.out)) hkp (fun k_ hs_ => Or.elim hs_ (fun e_ => (fun e_ => (HO_284000.out.1 k_ e_.symm)) e_) (fun e_ => (fun e_ => (HO_284001.out.1 k_ e_.symm)) e_)))
                                have n5_ := qA (hb)
                                clear BK283
                                clear BK284
                                clear HK
                                clear HB
                                clear HO_284000
                                clear HO_284001
                                have BK283 := n0_
                                have BK284 := n1_
                                have HO325 := n2_
                                have HO328 := n3_
                                have HK := n4_
                                have HB := n5_
                                clear n0_ n1_ n2_ n3_ n4_ n5_
                                (try clear hb)
                                (try clear hkp)
                                (try clear ho0)
                                (try clear ho1)
                                obtain ⟨Ao89, co89, eo89⟩ := Kd.R_slice HO325.out
                                (first | subst eo89 | (injection eo89 with f1_ f2_ f3_; have f4_ := f1_.symm; have f5_ := f3_.symm; clear f1_ f2_ f3_; subst f4_; subst f5_))
                                obtain ⟨Ao91, co91, eo91⟩ := Kd.R_slice HO328.out
                                (first | subst eo91 | (injection eo91 with f1_ f2_ f3_; have f4_ := f1_.symm; have f5_ := f3_.symm; clear f1_ f2_ f3_; subst f4_; subst f5_))
                                refine hK.out _ _ ⟨(qQ BK283.out 0).trans rfl, (qQ BK283.out 1).trans rfl⟩ (fun hHeld => ?_)
                                clear hK K
                                refine norm_ (a' := ?_) ?_ ?_
                                rotate_left
                                · show Act.put _ (some 96) _ = _
                                  simp only [Act.put, qM, qO, qN, i64_w, i32_w]
                                  rfl
                                refine one_ (i := 6) (N := none) #[true, true, true, true, true, true, true, false] rfl rfl (one_of HT_.out (by kernel_rfl)) (by decide) (fun K hK => ?_)
                                have hs90 : w88.cell? ⟨gb284, 0, none⟩ = some (.slice none 0 0) := (qQ BK284.out 0).trans rfl
                                have hfs90 := qL BK284.out 0
                                have hns90_0 := NB283_284.out
                                have hms90_0 := NB284_283.out
                                have hs92 : w88.cell? ⟨gb284, 1, none⟩ = some (.slice none 0 0) := (qQ BK284.out 1).trans rfl
                                have hfs92 := qL BK284.out 1
                                have hns92_0 := NB283_284.out
                                have hms92_0 := NB284_283.out
                                refine skip_ (w1 := ?_) (by rfl) rfl ?_ ?_
                                rotate_left
                                · go_simp
                                  rfl
                                refine hK.out _ _ ⟨((cell_far (p := ⟨gb284, _, none⟩) NB283_284.out _).trans (((cell_far (p := ⟨gb284, _, none⟩) NB283_284.out _).trans (hHeld.1)))), ((cell_far (p := ⟨gb284, _, none⟩) NB283_284.out _).trans (((cell_far (p := ⟨gb284, _, none⟩) NB283_284.out _).trans (hHeld.2))))⟩ (fun hHeld => ?_)
                                clear hK K
                                refine pure_ (i := 7) (N := some 7) (v := ?_) (a' := ?_) #[true, true, true, true, true, true, true, true] rfl rfl (any_of HT_.out (by kernel_rfl)) (fun _ _ _ h => h) (Or.inl ⟨by rfl, ?_⟩) ?_ ?_
                                rotate_left
                                · intro w'
                                  go_simp
                                  with_reducible rfl
                                rotate_left
                                · simp only [Act.put, qM, qO, qN, i64_w, i32_w]
                                  rfl
                                refine done_ (done_of HT_.out (by kernel_rfl)) ?_
                                try go_wp2
                                refine bodyPost_ret (results_ct rfl _ _ gb284 70 #[.slice Ao89 t323.length co89, .slice Ao91 t326.length co91] (0, 0) _ rfl (by (with_reducible repeat (first | refine qE ?_ _ | refine qH ?_ | refine qD ?_ _)); refine qY (cs := #[.slice Ao89 t323.length co89, .slice none 0 0]) ?_ 1 _ rfl; (with_reducible repeat (first | refine qE ?_ _ | refine qH ?_ | refine qD ?_ _)); refine qY (cs := #[.slice none 0 0, .slice none 0 0]) ?_ 0 _ rfl; (with_reducible repeat (first | refine qE ?_ _ | refine qH ?_ | refine qD ?_ _)); exact BK284.out) Tryd.underlying70 rfl (by kernel_rfl)) rfl ?_
                                exact ⟨_, _, by first | rfl | (simp [errW_none, errW_some] <;> rfl) | (simp [*, errW_none, errW_some] <;> rfl), by (with_reducible repeat (first | apply qJ | apply qI | apply qK)); exact qU (qP (p := ⟨gb284, 1, none⟩) (qP (p := ⟨gb284, 0, none⟩) (qV HO325.out BK284.out (by decide)) (fun _ hk => hk.2) (.slice Ao89 t323.length co89)) (fun _ hk => hk.2) (.slice Ao91 t326.length co91)) (fun _ hk => hk.1), by (with_reducible repeat (first | apply qJ | apply qI | apply qK)); exact qU (qP (p := ⟨gb284, 1, none⟩) (qP (p := ⟨gb284, 0, none⟩) (qV HO328.out BK284.out (by decide)) (fun _ hk => hk.2) (.slice Ao89 t323.length co89)) (fun _ hk => hk.2) (.slice Ao91 t326.length co91)) (fun _ hk => hk.1), by repeat (first | (with_reducible first | exact HB.out | apply qG | apply qB | apply qF | refine qC ?_ GE283.out | refine qC ?_ GE284.out) | exact HB.out), by repeat (first | (with_reducible first | exact HK.out | apply Kept.alloc | apply Kept.drewN | apply Kept.drew | refine Kept.setCell ?_ (.inr GW283.out) _ | refine Kept.setCell ?_ (.inr GW284.out) _) | exact HK.out)⟩
                          · replace c60 := Bool.eq_false_iff.mpr c60
                            subst c60
                            have H1 : (if (rd l1 a2) = 102 then ((flongref04_name.f kj57 l1 (wrap64 (a2 + 1))).bind fun bt329 => (if bt329.2 < 0 then ((flongref04_tell.f l0_0 l0_1 1 (wrap64 (a2 - 1))).bind fun bt331 => (some (bt331.1, bt331.2, (l1.length : Int)))) else ((flongref04_Font.f kj57 bt329.1).bind fun t337 => (if t337 < 0 then ((flongref04_tell.f l0_0 l0_1 2 (wrap64 (a2 - 1))).bind fun bt338 => (some (bt338.1, bt338.2, bt329.2))) else ((flongref04_Font.f kj57 bt329.1).bind fun t344 => ((flongref04_say.f l0_0 l0_1 3 (wrap32 (t344))).bind fun bt345 => (some (bt345.1, bt345.2, bt329.2)))))))) else ((flongref04_tell.f l0_0 l0_1 1 (wrap64 (a2 - 1))).bind fun bt351 => (some (bt351.1, bt351.2, wrap64 (a2 + 1))))) = some (r1, r2, r3) := by rw [if_neg (show ¬ (false = true) by decide)] at H; exact H
                            clear H
                            have H := H1
                            clear H1
                            by_cases c93 : (rd l1 a2) = 102
                            · rw [if_pos c93] at H
                              have c93b0 : ((rd l1 a2) == 102) = true := beq_iff_eq.mpr c93
                              have c93b1 : ((rd l1 a2) != 102) = false := bne_eq_false_iff_eq.mpr c93
                              clear c93
                              replace H := Option.bind_eq_some_iff.mp H
                              obtain ⟨⟨t329, t330⟩, A940, H⟩ := H
                              replace H : (if t330 < 0 then ((flongref04_tell.f l0_0 l0_1 1 (wrap64 (a2 - 1))).bind fun bt331 => (some (bt331.1, bt331.2, (l1.length : Int)))) else ((flongref04_Font.f kj57 t329).bind fun t337 => (if t337 < 0 then ((flongref04_tell.f l0_0 l0_1 2 (wrap64 (a2 - 1))).bind fun bt338 => (some (bt338.1, bt338.2, t330))) else ((flongref04_Font.f kj57 t329).bind fun t344 => ((flongref04_say.f l0_0 l0_1 3 (wrap32 (t344))).bind fun bt345 => (some (bt345.1, bt345.2, t330))))))) = some (r1, r2, r3) := H
                              have A94 := qA A940
                              clear A940
                              by_cases c95 : t330 < 0
                              · rw [if_pos c95] at H
                                have c95b0 : decide (t330 < 0) = true := decide_eq_true c95
                                clear c95
                                replace H := Option.bind_eq_some_iff.mp H
                                obtain ⟨⟨t331, t334⟩, A960, H⟩ := H
                                replace H : (some (t331, t334, (l1.length : Int))) = some (r1, r2, r3) := H
                                have A96 := qA A960
                                clear A960
                                simp only [Option.some.injEq, Prod.mk.injEq] at H
                                obtain ⟨rfl, rfl, rfl⟩ := H
                                go_wp2_with (first | ((with_reducible refine gate_callee (f := 59) rfl ?_); refine goesL_ (some 104) rfl rfl Tryd.func59 (by kernel_rfl) rfl #[.slice (some ad306) l1.length c1, .int .i64 (wrap64 (a2 + 1))] rfl (by (try simp only [List.map_toArray, List.map_cons, List.map_nil]); first | done | rfl | (simp only [List.length_drop, List.length_take]; rfl)) ?_; (with_reducible refine (flongref04_name.calls kj57 _ _ l1 (wrap64 (a2 + 1)) t329 t330 _ ?side1 ?side2 A94.out).mono ?_); (case side1 => exact Kd.C_kept_now HR1.out (by repeat (first | (with_reducible first | exact HK.out | apply Kept.alloc | apply Kept.drewN | apply Kept.drew | refine Kept.setCell ?_ (.inr GW283.out) _ | refine Kept.setCell ?_ (.inr GW284.out) _) | exact HK.out))); (case side2 => exact HC1.out); rintro e w97 ⟨rfl, hb⟩; refine ⟨_, rfl, ?_⟩; have n0_ := qA (qT (by (with_reducible repeat (first | apply qJ | apply qI | apply qK)); exact HO_284000.out) hb); have n1_ := qA (qT (by (with_reducible repeat (first | apply qJ | apply qI | apply qK)); exact HO_284001.out) hb); have n2_ := qA (qX (g := gb283) (o := .cells #[.slice Ao16 l0_0.length co16, .slice Ao17 l0_1.length co17] 70 (0, 0)) (by (with_reducible repeat (first | refine qE ?_ _ | refine qH ?_ | refine qD ?_ _)); exact BK283.out) hb); have n3_ := qA (qX (g := gb284) (o := .cells #[.slice none 0 0, .slice none 0 0] 70 (0, 0)) (by (with_reducible repeat (first | refine qE ?_ _ | refine qH ?_ | refine qD ?_ _)); exact BK284.out) hb); have n4_ := qA (Kept.below (S := (fun k_ => P0_0_ k_ ∨ P0_1_ k_)) (by repeat (first | (with_reducible first | exact HK.out | apply Kept.alloc | apply Kept.drewN | apply Kept.drew | refine Kept.setCell ?_ (.inr GW283.out) _ | refine Kept.setCell ?_ (.inr GW284.out) _) | exact HK.out)) hb); have n5_ := qA (qR (by repeat (first | (with_reducible first | exact HB.out | apply qG | apply qB | apply qF | refine qC ?_ GE283.out | refine qC ?_ GE284.out) | exact HB.out)) hb); clear HO_284000; clear HO_284001; clear BK283; clear BK284; clear HK; clear HB; have HO_284000 := n0_; have HO_284001 := n1_; have BK283 := n2_; have BK284 := n3_; have HK := n4_; have HB := n5_; clear n0_ n1_ n2_ n3_ n4_ n5_; (try clear hb); (try clear hb2); (try clear hk); (try clear hi); have hnb98 := NB283_284.out; have hnc98 := NB284_283.out; have hcz99_0 : w97.cell? ⟨gb283, 0, none⟩ = some (.slice Ao16 l0_0.length co16) := (qQ BK283.out 0).trans rfl; have hcz99_1 : w97.cell? ⟨gb283, 1, none⟩ = some (.slice Ao17 l0_1.length co17) := (qQ BK283.out 1).trans rfl; have hfz99_0 := qL BK283.out 0; have hfz99_1 := qL BK283.out 1) | ((with_reducible refine gate_callee (f := 46) rfl ?_); refine goesL_ (some 111) rfl rfl Tryd.func46 (by kernel_rfl) rfl #[.agg #[.slice Ao16 l0_0.length co16, .slice Ao17 l0_1.length co17], .int .i64 1, .int .i64 (wrap64 (a2 - 1))] rfl (by (try simp only [List.map_toArray, List.map_cons, List.map_nil]); first | done | rfl | (simp only [List.length_drop, List.length_take]; rfl)) ?_; (with_reducible refine (flongref04_tell.calls (fun k_ => some k_ = (.slice Ao16 l0_0.length co16 : Value).ownBlock) (.slice Ao16 l0_0.length co16) l0_0 (fun k_ => some k_ = (.slice Ao17 l0_1.length co17 : Value).ownBlock) (.slice Ao17 l0_1.length co17) l0_1 1 (wrap64 (a2 - 1)) t331 t334 w0 _ ?side1 ?side2 ?side3 A96.out).mono ?_); (case side1 => repeat (first | (with_reducible first | exact HB.out | apply qG | apply qB | apply qF | refine qC ?_ GE283.out | refine qC ?_ GE284.out) | exact HB.out)); (case side2 => exact Kd.R_tight rfl HO_284000.out); (case side3 => exact Kd.R_tight rfl HO_284001.out); rintro e w100 ⟨v332, v335, rfl, ho0, ho1, hb, hkp⟩; refine ⟨_, rfl, ?_⟩; have n0_ := qA (blk_kept (by (with_reducible repeat (first | refine qE ?_ _ | refine qH ?_ | refine qD ?_ _)); exact BK283.out) hkp (fun hs_ => Or.elim hs_ (fun e_ => (fun e_ => (Kd.R_ne HO_284000.out BK283.out (by decide)) e_) e_) (fun e_ => (fun e_ => (Kd.R_ne HO_284001.out BK283.out (by decide)) e_) e_))); have n1_ := qA (blk_kept (by (with_reducible repeat (first | refine qE ?_ _ | refine qH ?_ | refine qD ?_ _)); exact BK284.out) hkp (fun hs_ => Or.elim hs_ (fun e_ => (fun e_ => (Kd.R_ne HO_284000.out BK284.out (by decide)) e_) e_) (fun e_ => (fun e_ => (Kd.R_ne HO_284001.out BK284.out (by decide)) e_) e_))); have n2_ := qA (qU (ok' := fun k_ => ((P0_0_ k_ ∨ P0_1_ k_) ∨ w.heap.size ≤ k_)) ho0 (fun k_ hk_ => Or.elim hk_ (fun hs_ => Or.elim hs_ (fun hs_ => (HO_284000.out.1 k_ (hs_).symm)) (fun hs_ => (HO_284001.out.1 k_ (hs_).symm))) (fun hn_ => (.inr (Nat.le_trans (by first | exact HK.out.1 | exact (show Kept w _ (fun k_ => P0_0_ k_ ∨ P0_1_ k_) from by repeat (first | (with_reducible first | exact HK.out | apply Kept.alloc | apply Kept.drewN | apply Kept.drew | refine Kept.setCell ?_ (.inr GW283.out) _ | refine Kept.setCell ?_ (.inr GW284.out) _) | exact HK.out)).1) hn_))))); have n3_ := qA (qU (ok' := fun k_ => ((P0_0_ k_ ∨ P0_1_ k_) ∨ w.heap.size ≤ k_)) ho1 (fun k_ hk_ => Or.elim hk_ (fun hs_ => Or.elim hs_ (fun hs_ => (HO_284000.out.1 k_ (hs_).symm)) (fun hs_ => (HO_284001.out.1 k_ (hs_).symm))) (fun hn_ => (.inr (Nat.le_trans (by first | exact HK.out.1 | exact (show Kept w _ (fun k_ => P0_0_ k_ ∨ P0_1_ k_) from by repeat (first | (with_reducible first | exact HK.out | apply Kept.alloc | apply Kept.drewN | apply Kept.drew | refine Kept.setCell ?_ (.inr GW283.out) _ | refine Kept.setCell ?_ (.inr GW284.out) _) | exact HK.out)).1) hn_))))); have n4_ := qA (Kept.then_ (S := (fun k_ => P0_0_ k_ ∨ P0_1_ k_)) (by repeat (first | (with_reducible first | exact HK.out | apply Kept.alloc | apply Kept.drewN | apply Kept.drew | refine Kept.setCell ?_ (.inr GW283.out) _ | refine Kept.setCell ?_ (.inr GW284.out) _) | exact HK.out)) hkp (fun k_ hs_ => Or.elim hs_ (fun e_ => (fun e_ => (HO_284000.out.1 k_ e_.symm)) e_) (fun e_ => (fun e_ => (HO_284001.out.1 k_ e_.symm)) e_))); have n5_ := qA (hb); clear BK283; clear BK284; clear HK; clear HB; clear HO_284000; clear HO_284001; have BK283 := n0_; have BK284 := n1_; have HO333 := n2_; have HO336 := n3_; have HK := n4_; have HB := n5_; clear n0_ n1_ n2_ n3_ n4_ n5_; (try clear hb); (try clear hkp); (try clear ho0); (try clear ho1); obtain ⟨Ao101, co101, eo101⟩ := Kd.R_slice HO333.out; subst eo101; have hcz102_0 : w100.cell? ⟨gb284, 0, none⟩ = some (.slice none 0 0) := (qQ BK284.out 0).trans rfl; have hcz102_1 : w100.cell? ⟨gb284, 1, none⟩ = some (.slice none 0 0) := (qQ BK284.out 1).trans rfl; have hfz102_0 := qL BK284.out 0; have hfz102_1 := qL BK284.out 1; obtain ⟨Ao103, co103, eo103⟩ := Kd.R_slice HO336.out; subst eo103))
                                refine bodyPost_ret (results_ct rfl _ _ gb284 70 #[.slice Ao101 t331.length co101, .slice Ao103 t334.length co103] (0, 0) _ rfl (by (with_reducible repeat (first | refine qE ?_ _ | refine qH ?_ | refine qD ?_ _)); refine qY (cs := #[.slice Ao101 t331.length co101, .slice none 0 0]) ?_ 1 _ rfl; (with_reducible repeat (first | refine qE ?_ _ | refine qH ?_ | refine qD ?_ _)); refine qY (cs := #[.slice none 0 0, .slice none 0 0]) ?_ 0 _ rfl; (with_reducible repeat (first | refine qE ?_ _ | refine qH ?_ | refine qD ?_ _)); exact BK284.out) Tryd.underlying70 rfl (by kernel_rfl)) rfl ?_
                                exact ⟨_, _, by first | rfl | (simp [errW_none, errW_some] <;> rfl) | (simp [*, errW_none, errW_some] <;> rfl), by (with_reducible repeat (first | apply qJ | apply qI | apply qK)); exact qU (qP (p := ⟨gb284, 1, none⟩) (qP (p := ⟨gb284, 0, none⟩) (qV HO333.out BK284.out (by decide)) (fun _ hk => hk.2) (.slice Ao101 t331.length co101)) (fun _ hk => hk.2) (.slice Ao103 t334.length co103)) (fun _ hk => hk.1), by (with_reducible repeat (first | apply qJ | apply qI | apply qK)); exact qU (qP (p := ⟨gb284, 1, none⟩) (qP (p := ⟨gb284, 0, none⟩) (qV HO336.out BK284.out (by decide)) (fun _ hk => hk.2) (.slice Ao101 t331.length co101)) (fun _ hk => hk.2) (.slice Ao103 t334.length co103)) (fun _ hk => hk.1), by repeat (first | (with_reducible first | exact HB.out | apply qG | apply qB | apply qF | refine qC ?_ GE283.out | refine qC ?_ GE284.out) | exact HB.out), by repeat (first | (with_reducible first | exact HK.out | apply Kept.alloc | apply Kept.drewN | apply Kept.drew | refine Kept.setCell ?_ (.inr GW283.out) _ | refine Kept.setCell ?_ (.inr GW284.out) _) | exact HK.out)⟩
                              · rw [if_neg c95] at H
                                have c95b0 : decide (t330 < 0) = false := decide_eq_false c95
                                clear c95
                                replace H := Option.bind_eq_some_iff.mp H
                                obtain ⟨t337, A1040, H⟩ := H
                                replace H : (if t337 < 0 then ((flongref04_tell.f l0_0 l0_1 2 (wrap64 (a2 - 1))).bind fun bt338 => (some (bt338.1, bt338.2, t330))) else ((flongref04_Font.f kj57 t329).bind fun t344 => ((flongref04_say.f l0_0 l0_1 3 (wrap32 (t344))).bind fun bt345 => (some (bt345.1, bt345.2, t330))))) = some (r1, r2, r3) := H
                                have A104 := qA A1040
                                clear A1040
                                by_cases c105 : t337 < 0
                                · rw [if_pos c105] at H
                                  have c105b0 : decide (t337 < 0) = true := decide_eq_true c105
                                  clear c105
                                  replace H := Option.bind_eq_some_iff.mp H
                                  obtain ⟨⟨t338, t341⟩, A1060, H⟩ := H
                                  replace H : (some (t338, t341, t330)) = some (r1, r2, r3) := H
                                  have A106 := qA A1060
                                  clear A1060
                                  simp only [Option.some.injEq, Prod.mk.injEq] at H
                                  obtain ⟨rfl, rfl, rfl⟩ := H
                                  go_wp2_with (first | ((with_reducible refine gate_callee (f := 59) rfl ?_); refine goesL_ (some 104) rfl rfl Tryd.func59 (by kernel_rfl) rfl #[.slice (some ad306) l1.length c1, .int .i64 (wrap64 (a2 + 1))] rfl (by (try simp only [List.map_toArray, List.map_cons, List.map_nil]); first | done | rfl | (simp only [List.length_drop, List.length_take]; rfl)) ?_; (with_reducible refine (flongref04_name.calls kj57 _ _ l1 (wrap64 (a2 + 1)) t329 t330 _ ?side1 ?side2 A94.out).mono ?_); (case side1 => exact Kd.C_kept_now HR1.out (by repeat (first | (with_reducible first | exact HK.out | apply Kept.alloc | apply Kept.drewN | apply Kept.drew | refine Kept.setCell ?_ (.inr GW283.out) _ | refine Kept.setCell ?_ (.inr GW284.out) _) | exact HK.out))); (case side2 => exact HC1.out); rintro e w107 ⟨rfl, hb⟩; refine ⟨_, rfl, ?_⟩; have n0_ := qA (qT (by (with_reducible repeat (first | apply qJ | apply qI | apply qK)); exact HO_284000.out) hb); have n1_ := qA (qT (by (with_reducible repeat (first | apply qJ | apply qI | apply qK)); exact HO_284001.out) hb); have n2_ := qA (qX (g := gb283) (o := .cells #[.slice Ao16 l0_0.length co16, .slice Ao17 l0_1.length co17] 70 (0, 0)) (by (with_reducible repeat (first | refine qE ?_ _ | refine qH ?_ | refine qD ?_ _)); exact BK283.out) hb); have n3_ := qA (qX (g := gb284) (o := .cells #[.slice none 0 0, .slice none 0 0] 70 (0, 0)) (by (with_reducible repeat (first | refine qE ?_ _ | refine qH ?_ | refine qD ?_ _)); exact BK284.out) hb); have n4_ := qA (Kept.below (S := (fun k_ => P0_0_ k_ ∨ P0_1_ k_)) (by repeat (first | (with_reducible first | exact HK.out | apply Kept.alloc | apply Kept.drewN | apply Kept.drew | refine Kept.setCell ?_ (.inr GW283.out) _ | refine Kept.setCell ?_ (.inr GW284.out) _) | exact HK.out)) hb); have n5_ := qA (qR (by repeat (first | (with_reducible first | exact HB.out | apply qG | apply qB | apply qF | refine qC ?_ GE283.out | refine qC ?_ GE284.out) | exact HB.out)) hb); clear HO_284000; clear HO_284001; clear BK283; clear BK284; clear HK; clear HB; have HO_284000 := n0_; have HO_284001 := n1_; have BK283 := n2_; have BK284 := n3_; have HK := n4_; have HB := n5_; clear n0_ n1_ n2_ n3_ n4_ n5_; (try clear hb); (try clear hb2); (try clear hk); (try clear hi)) | ((with_reducible refine gate_callee (f := 22) rfl ?_); refine goesL_ (some 115) rfl rfl Tryd.func22 (by kernel_rfl) rfl #[.string t329] rfl (by (try simp only [List.map_toArray, List.map_cons, List.map_nil]); first | done | rfl | (simp only [List.length_drop, List.length_take]; rfl)) ?_; (with_reducible refine (flongref04_Font.calls kj57 t329 t337 _ A104.out).mono ?_); rintro e w108 ⟨rfl, hb⟩; refine ⟨_, rfl, ?_⟩; have n0_ := qA (qT (by (with_reducible repeat (first | apply qJ | apply qI | apply qK)); exact HO_284000.out) hb); have n1_ := qA (qT (by (with_reducible repeat (first | apply qJ | apply qI | apply qK)); exact HO_284001.out) hb); have n2_ := qA (qX (g := gb283) (o := .cells #[.slice Ao16 l0_0.length co16, .slice Ao17 l0_1.length co17] 70 (0, 0)) (by (with_reducible repeat (first | refine qE ?_ _ | refine qH ?_ | refine qD ?_ _)); exact BK283.out) hb); have n3_ := qA (qX (g := gb284) (o := .cells #[.slice none 0 0, .slice none 0 0] 70 (0, 0)) (by (with_reducible repeat (first | refine qE ?_ _ | refine qH ?_ | refine qD ?_ _)); exact BK284.out) hb); have n4_ := qA (Kept.below (S := (fun k_ => P0_0_ k_ ∨ P0_1_ k_)) (by repeat (first | (with_reducible first | exact HK.out | apply Kept.alloc | apply Kept.drewN | apply Kept.drew | refine Kept.setCell ?_ (.inr GW283.out) _ | refine Kept.setCell ?_ (.inr GW284.out) _) | exact HK.out)) hb); have n5_ := qA (qR (by repeat (first | (with_reducible first | exact HB.out | apply qG | apply qB | apply qF | refine qC ?_ GE283.out | refine qC ?_ GE284.out) | exact HB.out)) hb); clear HO_284000; clear HO_284001; clear BK283; clear BK284; clear HK; clear HB; have HO_284000 := n0_; have HO_284001 := n1_; have BK283 := n2_; have BK284 := n3_; have HK := n4_; have HB := n5_; clear n0_ n1_ n2_ n3_ n4_ n5_; (try clear hb); (try clear hb2); (try clear hk); (try clear hi); have hnb109 := NB283_284.out; have hnc109 := NB284_283.out; have hcz110_0 : w108.cell? ⟨gb283, 0, none⟩ = some (.slice Ao16 l0_0.length co16) := (qQ BK283.out 0).trans rfl; have hcz110_1 : w108.cell? ⟨gb283, 1, none⟩ = some (.slice Ao17 l0_1.length co17) := (qQ BK283.out 1).trans rfl; have hfz110_0 := qL BK283.out 0; have hfz110_1 := qL BK283.out 1) | ((with_reducible refine gate_callee (f := 46) rfl ?_); refine goesL_ (some 119) rfl rfl Tryd.func46 (by kernel_rfl) rfl #[.agg #[.slice Ao16 l0_0.length co16, .slice Ao17 l0_1.length co17], .int .i64 2, .int .i64 (wrap64 (a2 - 1))] rfl (by (try simp only [List.map_toArray, List.map_cons, List.map_nil]); first | done | rfl | (simp only [List.length_drop, List.length_take]; rfl)) ?_; (with_reducible refine (flongref04_tell.calls (fun k_ => some k_ = (.slice Ao16 l0_0.length co16 : Value).ownBlock) (.slice Ao16 l0_0.length co16) l0_0 (fun k_ => some k_ = (.slice Ao17 l0_1.length co17 : Value).ownBlock) (.slice Ao17 l0_1.length co17) l0_1 2 (wrap64 (a2 - 1)) t338 t341 w0 _ ?side1 ?side2 ?side3 A106.out).mono ?_); (case side1 => repeat (first | (with_reducible first | exact HB.out | apply qG | apply qB | apply qF | refine qC ?_ GE283.out | refine qC ?_ GE284.out) | exact HB.out)); (case side2 => exact Kd.R_tight rfl HO_284000.out); (case side3 => exact Kd.R_tight rfl HO_284001.out); rintro e w111 ⟨v339, v342, rfl, ho0, ho1, hb, hkp⟩; refine ⟨_, rfl, ?_⟩; have n0_ := qA (blk_kept (by (with_reducible repeat (first | refine qE ?_ _ | refine qH ?_ | refine qD ?_ _)); exact BK283.out) hkp (fun hs_ => Or.elim hs_ (fun e_ => (fun e_ => (Kd.R_ne HO_284000.out BK283.out (by decide)) e_) e_) (fun e_ => (fun e_ => (Kd.R_ne HO_284001.out BK283.out (by decide)) e_) e_))); have n1_ := qA (blk_kept (by (with_reducible repeat (first | refine qE ?_ _ | refine qH ?_ | refine qD ?_ _)); exact BK284.out) hkp (fun hs_ => Or.elim hs_ (fun e_ => (fun e_ => (Kd.R_ne HO_284000.out BK284.out (by decide)) e_) e_) (fun e_ => (fun e_ => (Kd.R_ne HO_284001.out BK284.out (by decide)) e_) e_))); have n2_ := qA (qU (ok' := fun k_ => ((P0_0_ k_ ∨ P0_1_ k_) ∨ w.heap.size ≤ k_)) ho0 (fun k_ hk_ => Or.elim hk_ (fun hs_ => Or.elim hs_ (fun hs_ => (HO_284000.out.1 k_ (hs_).symm)) (fun hs_ => (HO_284001.out.1 k_ (hs_).symm))) (fun hn_ => (.inr (Nat.le_trans (by first | exact HK.out.1 | exact (show Kept w _ (fun k_ => P0_0_ k_ ∨ P0_1_ k_) from by repeat (first | (with_reducible first | exact HK.out | apply Kept.alloc | apply Kept.drewN | apply Kept.drew | refine Kept.setCell ?_ (.inr GW283.out) _ | refine Kept.setCell ?_ (.inr GW284.out) _) | exact HK.out)).1) hn_))))); have n3_ := qA (qU (ok' := fun k_ => ((P0_0_ k_ ∨ P0_1_ k_) ∨ w.heap.size ≤ k_)) ho1 (fun k_ hk_ => Or.elim hk_ (fun hs_ => Or.elim hs_ (fun hs_ => (HO_284000.out.1 k_ (hs_).symm)) (fun hs_ => (HO_284001.out.1 k_ (hs_).symm))) (fun hn_ => (.inr (Nat.le_trans (by first | exact HK.out.1 | exact (show Kept w _ (fun k_ => P0_0_ k_ ∨ P0_1_ k_) from by repeat (first | (with_reducible first | exact HK.out | apply Kept.alloc | apply Kept.drewN | apply Kept.drew | refine Kept.setCell ?_ (.inr GW283.out) _ | refine Kept.setCell ?_ (.inr GW284.out) _) | exact HK.out)).1) hn_))))); have n4_ := qA (Kept.then_ (S := (fun k_ => P0_0_ k_ ∨ P0_1_ k_)) (by repeat (first | (with_reducible first | exact HK.out | apply Kept.alloc | apply Kept.drewN | apply Kept.drew | refine Kept.setCell ?_ (.inr GW283.out) _ | refine Kept.setCell ?_ (.inr GW284.out) _) | exact HK.out)) hkp (fun k_ hs_ => Or.elim hs_ (fun e_ => (fun e_ => (HO_284000.out.1 k_ e_.symm)) e_) (fun e_ => (fun e_ => (HO_284001.out.1 k_ e_.symm)) e_))); have n5_ := qA (hb); clear BK283; clear BK284; clear HK; clear HB; clear HO_284000; clear HO_284001; have BK283 := n0_; have BK284 := n1_; have HO340 := n2_; have HO343 := n3_; have HK := n4_; have HB := n5_; clear n0_ n1_ n2_ n3_ n4_ n5_; (try clear hb); (try clear hkp); (try clear ho0); (try clear ho1); obtain ⟨Ao112, co112, eo112⟩ := Kd.R_slice HO340.out; subst eo112; have hcz113_0 : w111.cell? ⟨gb284, 0, none⟩ = some (.slice none 0 0) := (qQ BK284.out 0).trans rfl; have hcz113_1 : w111.cell? ⟨gb284, 1, none⟩ = some (.slice none 0 0) := (qQ BK284.out 1).trans rfl; have hfz113_0 := qL BK284.out 0; have hfz113_1 := qL BK284.out 1; obtain ⟨Ao114, co114, eo114⟩ := Kd.R_slice HO343.out; subst eo114))
                                  refine bodyPost_ret (results_ct rfl _ _ gb284 70 #[.slice Ao112 t338.length co112, .slice Ao114 t341.length co114] (0, 0) _ rfl (by (with_reducible repeat (first | refine qE ?_ _ | refine qH ?_ | refine qD ?_ _)); refine qY (cs := #[.slice Ao112 t338.length co112, .slice none 0 0]) ?_ 1 _ rfl; (with_reducible repeat (first | refine qE ?_ _ | refine qH ?_ | refine qD ?_ _)); refine qY (cs := #[.slice none 0 0, .slice none 0 0]) ?_ 0 _ rfl; (with_reducible repeat (first | refine qE ?_ _ | refine qH ?_ | refine qD ?_ _)); exact BK284.out) Tryd.underlying70 rfl (by kernel_rfl)) rfl ?_
                                  exact ⟨_, _, by first | rfl | (simp [errW_none, errW_some] <;> rfl) | (simp [*, errW_none, errW_some] <;> rfl), by (with_reducible repeat (first | apply qJ | apply qI | apply qK)); exact qU (qP (p := ⟨gb284, 1, none⟩) (qP (p := ⟨gb284, 0, none⟩) (qV HO340.out BK284.out (by decide)) (fun _ hk => hk.2) (.slice Ao112 t338.length co112)) (fun _ hk => hk.2) (.slice Ao114 t341.length co114)) (fun _ hk => hk.1), by (with_reducible repeat (first | apply qJ | apply qI | apply qK)); exact qU (qP (p := ⟨gb284, 1, none⟩) (qP (p := ⟨gb284, 0, none⟩) (qV HO343.out BK284.out (by decide)) (fun _ hk => hk.2) (.slice Ao112 t338.length co112)) (fun _ hk => hk.2) (.slice Ao114 t341.length co114)) (fun _ hk => hk.1), by repeat (first | (with_reducible first | exact HB.out | apply qG | apply qB | apply qF | refine qC ?_ GE283.out | refine qC ?_ GE284.out) | exact HB.out), by repeat (first | (with_reducible first | exact HK.out | apply Kept.alloc | apply Kept.drewN | apply Kept.drew | refine Kept.setCell ?_ (.inr GW283.out) _ | refine Kept.setCell ?_ (.inr GW284.out) _) | exact HK.out)⟩
                                · rw [if_neg c105] at H
                                  have c105b0 : decide (t337 < 0) = false := decide_eq_false c105
                                  clear c105
                                  replace H := Option.bind_eq_some_iff.mp H
                                  obtain ⟨t344, A1150, H⟩ := H
                                  replace H : ((flongref04_say.f l0_0 l0_1 3 (wrap32 (t344))).bind fun bt345 => (some (bt345.1, bt345.2, t330))) = some (r1, r2, r3) := H
                                  have A115 := qA A1150
                                  clear A1150
                                  replace H := Option.bind_eq_some_iff.mp H
                                  obtain ⟨⟨t345, t348⟩, A1160, H⟩ := H
                                  replace H : (some (t345, t348, t330)) = some (r1, r2, r3) := H
                                  have A116 := qA A1160
                                  clear A1160
                                  simp only [Option.some.injEq, Prod.mk.injEq] at H
                                  obtain ⟨rfl, rfl, rfl⟩ := H
                                  try go_wp2_with (first | ((with_reducible refine gate_callee (f := 59) rfl ?_); refine goesL_ (some 104) rfl rfl Tryd.func59 (by kernel_rfl) rfl #[.slice (some ad306) l1.length c1, .int .i64 (wrap64 (a2 + 1))] rfl (by (try simp only [List.map_toArray, List.map_cons, List.map_nil]); first | done | rfl | (simp only [List.length_drop, List.length_take]; rfl)) ?_; (with_reducible refine (flongref04_name.calls kj57 _ _ l1 (wrap64 (a2 + 1)) t329 t330 _ ?side1 ?side2 A94.out).mono ?_); (case side1 => exact Kd.C_kept_now HR1.out (by repeat (first | (with_reducible first | exact HK.out | apply Kept.alloc | apply Kept.drewN | apply Kept.drew | refine Kept.setCell ?_ (.inr GW283.out) _ | refine Kept.setCell ?_ (.inr GW284.out) _) | exact HK.out))); (case side2 => exact HC1.out); rintro e w117 ⟨rfl, hb⟩; refine ⟨_, rfl, ?_⟩; have n0_ := qA (qT (by (with_reducible repeat (first | apply qJ | apply qI | apply qK)); exact HO_284000.out) hb); have n1_ := qA (qT (by (with_reducible repeat (first | apply qJ | apply qI | apply qK)); exact HO_284001.out) hb); have n2_ := qA (qX (g := gb283) (o := .cells #[.slice Ao16 l0_0.length co16, .slice Ao17 l0_1.length co17] 70 (0, 0)) (by (with_reducible repeat (first | refine qE ?_ _ | refine qH ?_ | refine qD ?_ _)); exact BK283.out) hb); have n3_ := qA (qX (g := gb284) (o := .cells #[.slice none 0 0, .slice none 0 0] 70 (0, 0)) (by (with_reducible repeat (first | refine qE ?_ _ | refine qH ?_ | refine qD ?_ _)); exact BK284.out) hb); have n4_ := qA (Kept.below (S := (fun k_ => P0_0_ k_ ∨ P0_1_ k_)) (by repeat (first | (with_reducible first | exact HK.out | apply Kept.alloc | apply Kept.drewN | apply Kept.drew | refine Kept.setCell ?_ (.inr GW283.out) _ | refine Kept.setCell ?_ (.inr GW284.out) _) | exact HK.out)) hb); have n5_ := qA (qR (by repeat (first | (with_reducible first | exact HB.out | apply qG | apply qB | apply qF | refine qC ?_ GE283.out | refine qC ?_ GE284.out) | exact HB.out)) hb); clear HO_284000; clear HO_284001; clear BK283; clear BK284; clear HK; clear HB; have HO_284000 := n0_; have HO_284001 := n1_; have BK283 := n2_; have BK284 := n3_; have HK := n4_; have HB := n5_; clear n0_ n1_ n2_ n3_ n4_ n5_; (try clear hb); (try clear hb2); (try clear hk); (try clear hi)) | ((with_reducible refine gate_callee (f := 22) rfl ?_); refine goesL_ (some 115) rfl rfl Tryd.func22 (by kernel_rfl) rfl #[.string t329] rfl (by (try simp only [List.map_toArray, List.map_cons, List.map_nil]); first | done | rfl | (simp only [List.length_drop, List.length_take]; rfl)) ?_; (with_reducible refine (flongref04_Font.calls kj57 t329 t337 _ A104.out).mono ?_); rintro e w118 ⟨rfl, hb⟩; refine ⟨_, rfl, ?_⟩; have n0_ := qA (qT (by (with_reducible repeat (first | apply qJ | apply qI | apply qK)); exact HO_284000.out) hb); have n1_ := qA (qT (by (with_reducible repeat (first | apply qJ | apply qI | apply qK)); exact HO_284001.out) hb); have n2_ := qA (qX (g := gb283) (o := .cells #[.slice Ao16 l0_0.length co16, .slice Ao17 l0_1.length co17] 70 (0, 0)) (by (with_reducible repeat (first | refine qE ?_ _ | refine qH ?_ | refine qD ?_ _)); exact BK283.out) hb); have n3_ := qA (qX (g := gb284) (o := .cells #[.slice none 0 0, .slice none 0 0] 70 (0, 0)) (by (with_reducible repeat (first | refine qE ?_ _ | refine qH ?_ | refine qD ?_ _)); exact BK284.out) hb); have n4_ := qA (Kept.below (S := (fun k_ => P0_0_ k_ ∨ P0_1_ k_)) (by repeat (first | (with_reducible first | exact HK.out | apply Kept.alloc | apply Kept.drewN | apply Kept.drew | refine Kept.setCell ?_ (.inr GW283.out) _ | refine Kept.setCell ?_ (.inr GW284.out) _) | exact HK.out)) hb); have n5_ := qA (qR (by repeat (first | (with_reducible first | exact HB.out | apply qG | apply qB | apply qF | refine qC ?_ GE283.out | refine qC ?_ GE284.out) | exact HB.out)) hb); clear HO_284000; clear HO_284001; clear BK283; clear BK284; clear HK; clear HB; have HO_284000 := n0_; have HO_284001 := n1_; have BK283 := n2_; have BK284 := n3_; have HK := n4_; have HB := n5_; clear n0_ n1_ n2_ n3_ n4_ n5_; (try clear hb); (try clear hb2); (try clear hk); (try clear hi)))
                                  have n0_ := qA (qK HO_284000.out)
                                  have n1_ := qA (qK HO_284001.out)
                                  have n2_ := qA (qH BK283.out)
                                  have n3_ := qA (qH BK284.out)
                                  have n4_ := qA (Kept.drew HK.out)
                                  have n5_ := qA (qF HB.out)
                                  clear HO_284000
                                  clear HO_284001
                                  clear BK283
                                  clear BK284
                                  clear HK
                                  clear HB
                                  have HO_284000 := n0_
                                  have HO_284001 := n1_
                                  have BK283 := n2_
                                  have BK284 := n3_
                                  have HK := n4_
                                  have HB := n5_
                                  clear n0_ n1_ n2_ n3_ n4_ n5_
                                  refine start_ (n := 8) (S := fun w' => w'.cell? ⟨gb283, 0, none⟩ = some (.slice Ao16 l0_0.length co16) ∧ w'.cell? ⟨gb283, 1, none⟩ = some (.slice Ao17 l0_1.length co17)) (ds := []) #[false, false, false, false, false, false, false, false] (by kernel_rfl) rfl rfl ⟨(qQ BK283.out 0).trans rfl, (qQ BK283.out 1).trans rfl⟩ (fun hHeld => ?_); refine with_tabW flongref04_escape.tab34 flongref04_escape.bits34 (fun HT_ HW_ => ?_)
                                  generalize w118.drew = w119 at HO_284000 HO_284001 BK283 BK284 HK HB hHeld ⊢
                                  refine pure_ (i := 1) (N := some 122) (v := ?_) (a' := ?_) #[false, true, false, false, false, false, false, false] rfl rfl (any_of HT_.out (by kernel_rfl)) (fun _ _ _ h => h) (Or.inl ⟨by rfl, ?_⟩) ?_ ?_
                                  rotate_left
                                  · intro w'
                                    go_simp
                                    with_reducible rfl
                                  rotate_left
                                  · simp only [Act.put, qM, qO, qN, i64_w, i32_w]
                                    rfl
                                  refine pure_ (i := 5) (N := some 126) (v := ?_) (a' := ?_) #[false, true, false, false, false, true, false, false] rfl rfl (any_of HT_.out (by kernel_rfl)) (fun _ _ _ h => h) (Or.inl ⟨by rfl, ?_⟩) ?_ ?_
                                  rotate_left
                                  · intro w'
                                    go_simp
                                    with_reducible rfl
                                  rotate_left
                                  · simp only [Act.put, qM, qO, qN, i64_w, i32_w]
                                    rfl
                                  refine take_ (i := 0) (N := some 121) (v := ?_) (a' := ?_) #[true, true, false, false, false, true, false, false] rfl rfl (take_ofW HT_.out HW_.out (by kernel_rfl)) (fun _ _ _ h => h) (Or.inl ⟨by rfl, ?_⟩) hHeld ?_ ?_
                                  rotate_left
                                  · rintro w' ⟨s0, s1⟩
                                    go_simp
                                    with_reducible rfl
                                  rotate_left
                                  · simp only [Act.put, qM, qO, qN, i64_w, i32_w]
                                    rfl
                                  refine one_ (i := 2) (N := some 123) #[true, true, true, false, false, true, false, false] rfl rfl (one_of HT_.out (by kernel_rfl)) (by decide) (fun K hK => ?_)
                                  refine goes_ Tryd.func22 (by kernel_rfl) rfl #[.string t329] (by rfl) rfl rfl (by (try simp only [List.map_toArray, List.map_cons, List.map_nil]); first | done | rfl | (simp only [List.length_drop, List.length_take]; rfl)) ?_
                                  with_reducible refine (flongref04_Font.calls kj57 t329 t344 _ A115.out).mono ?_
                                  rintro e w120 ⟨rfl, hb⟩
                                  refine ⟨_, rfl, ?_⟩
                                  have n0_ := qA (qT (by (with_reducible repeat (first | apply qJ | apply qI | apply qK)); exact HO_284000.out) hb)
                                  have n1_ := qA (qT (by (with_reducible repeat (first | apply qJ | apply qI | apply qK)); exact HO_284001.out) hb)
                                  have n2_ := qA (qX (g := gb283) (o := .cells #[.slice Ao16 l0_0.length co16, .slice Ao17 l0_1.length co17] 70 (0, 0)) (by (with_reducible repeat (first | refine qE ?_ _ | refine qH ?_ | refine qD ?_ _)); exact BK283.out) hb)
                                  have n3_ := qA (qX (g := gb284) (o := .cells #[.slice none 0 0, .slice none 0 0] 70 (0, 0)) (by (with_reducible repeat (first | refine qE ?_ _ | refine qH ?_ | refine qD ?_ _)); exact BK284.out) hb)
                                  have n4_ := qA (Kept.below (S := (fun k_ => P0_0_ k_ ∨ P0_1_ k_)) (by repeat (first | (with_reducible first | exact HK.out | apply Kept.alloc | apply Kept.drewN | apply Kept.drew | refine Kept.setCell ?_ (.inr GW283.out) _ | refine Kept.setCell ?_ (.inr GW284.out) _) | exact HK.out)) hb)
                                  have n5_ := qA (qR (by repeat (first | (with_reducible first | exact HB.out | apply qG | apply qB | apply qF | refine qC ?_ GE283.out | refine qC ?_ GE284.out) | exact HB.out)) hb)
                                  clear HO_284000
                                  clear HO_284001
                                  clear BK283
                                  clear BK284
                                  clear HK
                                  clear HB
                                  have HO_284000 := n0_
                                  have HO_284001 := n1_
                                  have BK283 := n2_
                                  have BK284 := n3_
                                  have HK := n4_
                                  have HB := n5_
                                  clear n0_ n1_ n2_ n3_ n4_ n5_
                                  (try clear hb)
                                  (try clear hb2)
                                  (try clear hk)
                                  (try clear hi)
                                  refine hK.out _ _ ⟨(qQ BK283.out 0).trans rfl, (qQ BK283.out 1).trans rfl⟩ (fun hHeld => ?_)
                                  clear hK K
                                  refine norm_ (a' := ?_) ?_ ?_
                                  rotate_left
                                  · show Act.put _ (some 123) _ = _
                                    simp only [Act.put, qM, qO, qN, i64_w, i32_w]
                                    rfl
                                  refine pure_ (i := 3) (N := some 124) (v := ?_) (a' := ?_) #[true, true, true, true, false, true, false, false] rfl rfl (any_of HT_.out (by kernel_rfl)) (fun _ _ _ h => h) (Or.inl ⟨by rfl, ?_⟩) ?_ ?_
                                  rotate_left
                                  · intro w'
                                    go_simp
                                    with_reducible rfl
                                  rotate_left
                                  · simp only [Act.put, qM, qO, qN, i64_w, i32_w]
                                    rfl
                                  refine one_ (i := 4) (N := some 125) #[true, true, true, true, true, true, false, false] rfl rfl (one_of HT_.out (by kernel_rfl)) (by decide) (fun K hK => ?_)
                                  refine goes_ Tryd.func45 (by kernel_rfl) rfl #[.agg #[.slice Ao16 l0_0.length co16, .slice Ao17 l0_1.length co17], .int .i64 3, .int .i32 (wrap32 (t344))] (by rfl) rfl rfl (by (try simp only [List.map_toArray, List.map_cons, List.map_nil]); first | done | rfl | (simp only [List.length_drop, List.length_take]; rfl)) ?_
                                  with_reducible refine (flongref04_say.calls (fun k_ => some k_ = (.slice Ao16 l0_0.length co16 : Value).ownBlock) (.slice Ao16 l0_0.length co16) l0_0 (fun k_ => some k_ = (.slice Ao17 l0_1.length co17 : Value).ownBlock) (.slice Ao17 l0_1.length co17) l0_1 3 (wrap32 (t344)) t345 t348 w0 _ ?side1 ?side2 ?side3 A116.out).mono ?_
                                  (case side1 => repeat (first | (with_reducible first | exact HB.out | apply qG | apply qB | apply qF | refine qC ?_ GE283.out | refine qC ?_ GE284.out) | exact HB.out))
                                  (case side2 => exact Kd.R_tight rfl HO_284000.out)
                                  (case side3 => exact Kd.R_tight rfl HO_284001.out)
                                  rintro e w121 ⟨v346, v349, rfl, ho0, ho1, hb, hkp⟩
                                  refine ⟨_, rfl, ?_⟩
                                  have n0_ := qA (blk_kept (by (with_reducible repeat (first | refine qE ?_ _ | refine qH ?_ | refine qD ?_ _)); exact BK283.out) hkp (fun hs_ => Or.elim hs_ (fun e_ => (fun e_ => (Kd.R_ne HO_284000.out BK283.out (by decide)) e_) e_) (fun e_ => (fun e_ => (Kd.R_ne HO_284001.out BK283.out (by decide)) e_) e_)))
                                  have n1_ := qA (blk_kept (by (with_reducible repeat (first | refine qE ?_ _ | refine qH ?_ | refine qD ?_ _)); exact BK284.out) hkp (fun hs_ => Or.elim hs_ (fun e_ => (fun e_ => (Kd.R_ne HO_284000.out BK284.out (by decide)) e_) e_) (fun e_ => (fun e_ => (Kd.R_ne HO_284001.out BK284.out (by decide)) e_) e_)))
                                  have n2_ := qA (qU (ok' := fun k_ => ((P0_0_ k_ ∨ P0_1_ k_) ∨ w.heap.size ≤ k_)) ho0 (fun k_ hk_ => Or.elim hk_ (fun hs_ => Or.elim hs_ (fun hs_ => (HO_284000.out.1 k_ (hs_).symm)) (fun hs_ => (HO_284001.out.1 k_ (hs_).symm))) (fun hn_ => (.inr (Nat.le_trans (by first | exact HK.out.1 | exact (show Kept w _ (fun k_ => P0_0_ k_ ∨ P0_1_ k_) from by repeat (first | (with_reducible first | exact HK.out | apply Kept.alloc | apply Kept.drewN | apply Kept.drew | refine Kept.setCell ?_ (.inr GW283.out) _ | refine Kept.setCell ?_ (.inr GW284.out) _) | exact HK.out)).1) hn_)))))
                                  have n3_ := qA (qU (ok' := fun k_ => ((P0_0_ k_ ∨ P0_1_ k_) ∨ w.heap.size ≤ k_)) ho1 (fun k_ hk_ => Or.elim hk_ (fun hs_ => Or.elim hs_ (fun hs_ => (HO_284000.out.1 k_ (hs_).symm)) (fun hs_ => (HO_284001.out.1 k_ (hs_).symm))) (fun hn_ => (.inr (Nat.le_trans (by first | exact HK.out.1 | exact (show Kept w _ (fun k_ => P0_0_ k_ ∨ P0_1_ k_) from by repeat (first | (with_reducible first | exact HK.out | apply Kept.alloc | apply Kept.drewN | apply Kept.drew | refine Kept.setCell ?_ (.inr GW283.out) _ | refine Kept.setCell ?_ (.inr GW284.out) _) | exact HK.out)).1) hn_)))))
                                  have n4_ := qA (Kept.then_ (S := (fun k_ => P0_0_ k_ ∨ P0_1_ k_)) (by repeat (first | (with_reducible first | exact HK.out | apply Kept.alloc | apply Kept.drewN | apply Kept.drew | refine Kept.setCell ?_ (.inr GW283.out) _ | refine Kept.setCell ?_ (.inr GW284.out) _) | exact HK.out)) hkp (fun k_ hs_ => Or.elim hs_ (fun e_ => (fun e_ => (HO_284000.out.1 k_ e_.symm)) e_) (fun e_ => (fun e_ => (HO_284001.out.1 k_ e_.symm)) e_)))
                                  have n5_ := qA (hb)
                                  clear BK283
                                  clear BK284
                                  clear HK
                                  clear HB
                                  clear HO_284000
                                  clear HO_284001
                                  have BK283 := n0_
                                  have BK284 := n1_
                                  have HO347 := n2_
                                  have HO350 := n3_
                                  have HK := n4_
                                  have HB := n5_
                                  clear n0_ n1_ n2_ n3_ n4_ n5_
                                  (try clear hb)
                                  (try clear hkp)
                                  (try clear ho0)
                                  (try clear ho1)
                                  obtain ⟨Ao122, co122, eo122⟩ := Kd.R_slice HO347.out
                                  (first | subst eo122 | (injection eo122 with f1_ f2_ f3_; have f4_ := f1_.symm; have f5_ := f3_.symm; clear f1_ f2_ f3_; subst f4_; subst f5_))
                                  obtain ⟨Ao124, co124, eo124⟩ := Kd.R_slice HO350.out
                                  (first | subst eo124 | (injection eo124 with f1_ f2_ f3_; have f4_ := f1_.symm; have f5_ := f3_.symm; clear f1_ f2_ f3_; subst f4_; subst f5_))
                                  refine hK.out _ _ ⟨(qQ BK283.out 0).trans rfl, (qQ BK283.out 1).trans rfl⟩ (fun hHeld => ?_)
                                  clear hK K
                                  refine norm_ (a' := ?_) ?_ ?_
                                  rotate_left
                                  · show Act.put _ (some 125) _ = _
                                    simp only [Act.put, qM, qO, qN, i64_w, i32_w]
                                    rfl
                                  refine one_ (i := 6) (N := none) #[true, true, true, true, true, true, true, false] rfl rfl (one_of HT_.out (by kernel_rfl)) (by decide) (fun K hK => ?_)
                                  have hs123 : w121.cell? ⟨gb284, 0, none⟩ = some (.slice none 0 0) := (qQ BK284.out 0).trans rfl
                                  have hfs123 := qL BK284.out 0
                                  have hns123_0 := NB283_284.out
                                  have hms123_0 := NB284_283.out
                                  have hs125 : w121.cell? ⟨gb284, 1, none⟩ = some (.slice none 0 0) := (qQ BK284.out 1).trans rfl
                                  have hfs125 := qL BK284.out 1
                                  have hns125_0 := NB283_284.out
                                  have hms125_0 := NB284_283.out
                                  refine skip_ (w1 := ?_) (by rfl) rfl ?_ ?_
                                  rotate_left
                                  · go_simp
                                    rfl
                                  refine hK.out _ _ ⟨((cell_far (p := ⟨gb284, _, none⟩) NB283_284.out _).trans (((cell_far (p := ⟨gb284, _, none⟩) NB283_284.out _).trans (hHeld.1)))), ((cell_far (p := ⟨gb284, _, none⟩) NB283_284.out _).trans (((cell_far (p := ⟨gb284, _, none⟩) NB283_284.out _).trans (hHeld.2))))⟩ (fun hHeld => ?_)
                                  clear hK K
                                  refine pure_ (i := 7) (N := some 7) (v := ?_) (a' := ?_) #[true, true, true, true, true, true, true, true] rfl rfl (any_of HT_.out (by kernel_rfl)) (fun _ _ _ h => h) (Or.inl ⟨by rfl, ?_⟩) ?_ ?_
                                  rotate_left
                                  · intro w'
                                    go_simp
                                    with_reducible rfl
                                  rotate_left
                                  · simp only [Act.put, qM, qO, qN, i64_w, i32_w]
                                    rfl
                                  refine done_ (done_of HT_.out (by kernel_rfl)) ?_
                                  try go_wp2
                                  refine bodyPost_ret (results_ct rfl _ _ gb284 70 #[.slice Ao122 t345.length co122, .slice Ao124 t348.length co124] (0, 0) _ rfl (by (with_reducible repeat (first | refine qE ?_ _ | refine qH ?_ | refine qD ?_ _)); refine qY (cs := #[.slice Ao122 t345.length co122, .slice none 0 0]) ?_ 1 _ rfl; (with_reducible repeat (first | refine qE ?_ _ | refine qH ?_ | refine qD ?_ _)); refine qY (cs := #[.slice none 0 0, .slice none 0 0]) ?_ 0 _ rfl; (with_reducible repeat (first | refine qE ?_ _ | refine qH ?_ | refine qD ?_ _)); exact BK284.out) Tryd.underlying70 rfl (by kernel_rfl)) rfl ?_
                                  exact ⟨_, _, by first | rfl | (simp [errW_none, errW_some] <;> rfl) | (simp [*, errW_none, errW_some] <;> rfl), by (with_reducible repeat (first | apply qJ | apply qI | apply qK)); exact qU (qP (p := ⟨gb284, 1, none⟩) (qP (p := ⟨gb284, 0, none⟩) (qV HO347.out BK284.out (by decide)) (fun _ hk => hk.2) (.slice Ao122 t345.length co122)) (fun _ hk => hk.2) (.slice Ao124 t348.length co124)) (fun _ hk => hk.1), by (with_reducible repeat (first | apply qJ | apply qI | apply qK)); exact qU (qP (p := ⟨gb284, 1, none⟩) (qP (p := ⟨gb284, 0, none⟩) (qV HO350.out BK284.out (by decide)) (fun _ hk => hk.2) (.slice Ao122 t345.length co122)) (fun _ hk => hk.2) (.slice Ao124 t348.length co124)) (fun _ hk => hk.1), by repeat (first | (with_reducible first | exact HB.out | apply qG | apply qB | apply qF | refine qC ?_ GE283.out | refine qC ?_ GE284.out) | exact HB.out), by repeat (first | (with_reducible first | exact HK.out | apply Kept.alloc | apply Kept.drewN | apply Kept.drew | refine Kept.setCell ?_ (.inr GW283.out) _ | refine Kept.setCell ?_ (.inr GW284.out) _) | exact HK.out)⟩
                            · rw [if_neg c93] at H
                              have c93b0 : ((rd l1 a2) == 102) = false := beq_eq_false_iff_ne.mpr c93
                              have c93b1 : ((rd l1 a2) != 102) = true := bne_iff_ne.mpr c93
                              replace H := Option.bind_eq_some_iff.mp H
                              obtain ⟨⟨t351, t354⟩, A1260, H⟩ := H
                              replace H : (some (t351, t354, wrap64 (a2 + 1))) = some (r1, r2, r3) := H
                              have A126 := qA A1260
                              clear A1260
                              simp only [Option.some.injEq, Prod.mk.injEq] at H
                              obtain ⟨rfl, rfl, rfl⟩ := H
                              have hnb127 := NB283_284.out
                              have hnc127 := NB284_283.out
                              have hcz128_0 : wc.cell? ⟨gb283, 0, none⟩ = some (.slice Ao16 l0_0.length co16) := (qQ BK283.out 0).trans rfl
                              have hcz128_1 : wc.cell? ⟨gb283, 1, none⟩ = some (.slice Ao17 l0_1.length co17) := (qQ BK283.out 1).trans rfl
                              have hfz128_0 := qL BK283.out 0
                              have hfz128_1 := qL BK283.out 1
                              go_wp2_with (first | ((with_reducible refine gate_callee (f := 46) rfl ?_); refine goesL_ (some 129) rfl rfl Tryd.func46 (by kernel_rfl) rfl #[.agg #[.slice Ao16 l0_0.length co16, .slice Ao17 l0_1.length co17], .int .i64 1, .int .i64 (wrap64 (a2 - 1))] rfl (by (try simp only [List.map_toArray, List.map_cons, List.map_nil]); first | done | rfl | (simp only [List.length_drop, List.length_take]; rfl)) ?_; (with_reducible refine (flongref04_tell.calls (fun k_ => some k_ = (.slice Ao16 l0_0.length co16 : Value).ownBlock) (.slice Ao16 l0_0.length co16) l0_0 (fun k_ => some k_ = (.slice Ao17 l0_1.length co17 : Value).ownBlock) (.slice Ao17 l0_1.length co17) l0_1 1 (wrap64 (a2 - 1)) t351 t354 w0 _ ?side1 ?side2 ?side3 A126.out).mono ?_); (case side1 => repeat (first | (with_reducible first | exact HB.out | apply qG | apply qB | apply qF | refine qC ?_ GE283.out | refine qC ?_ GE284.out) | exact HB.out)); (case side2 => exact Kd.R_tight rfl HO_284000.out); (case side3 => exact Kd.R_tight rfl HO_284001.out); rintro e w129 ⟨v352, v355, rfl, ho0, ho1, hb, hkp⟩; refine ⟨_, rfl, ?_⟩; have n0_ := qA (blk_kept (by (with_reducible repeat (first | refine qE ?_ _ | refine qH ?_ | refine qD ?_ _)); exact BK283.out) hkp (fun hs_ => Or.elim hs_ (fun e_ => (fun e_ => (Kd.R_ne HO_284000.out BK283.out (by decide)) e_) e_) (fun e_ => (fun e_ => (Kd.R_ne HO_284001.out BK283.out (by decide)) e_) e_))); have n1_ := qA (blk_kept (by (with_reducible repeat (first | refine qE ?_ _ | refine qH ?_ | refine qD ?_ _)); exact BK284.out) hkp (fun hs_ => Or.elim hs_ (fun e_ => (fun e_ => (Kd.R_ne HO_284000.out BK284.out (by decide)) e_) e_) (fun e_ => (fun e_ => (Kd.R_ne HO_284001.out BK284.out (by decide)) e_) e_))); have n2_ := qA (qU (ok' := fun k_ => ((P0_0_ k_ ∨ P0_1_ k_) ∨ w.heap.size ≤ k_)) ho0 (fun k_ hk_ => Or.elim hk_ (fun hs_ => Or.elim hs_ (fun hs_ => (HO_284000.out.1 k_ (hs_).symm)) (fun hs_ => (HO_284001.out.1 k_ (hs_).symm))) (fun hn_ => (.inr (Nat.le_trans (by first | exact HK.out.1 | exact (show Kept w _ (fun k_ => P0_0_ k_ ∨ P0_1_ k_) from by repeat (first | (with_reducible first | exact HK.out | apply Kept.alloc | apply Kept.drewN | apply Kept.drew | refine Kept.setCell ?_ (.inr GW283.out) _ | refine Kept.setCell ?_ (.inr GW284.out) _) | exact HK.out)).1) hn_))))); have n3_ := qA (qU (ok' := fun k_ => ((P0_0_ k_ ∨ P0_1_ k_) ∨ w.heap.size ≤ k_)) ho1 (fun k_ hk_ => Or.elim hk_ (fun hs_ => Or.elim hs_ (fun hs_ => (HO_284000.out.1 k_ (hs_).symm)) (fun hs_ => (HO_284001.out.1 k_ (hs_).symm))) (fun hn_ => (.inr (Nat.le_trans (by first | exact HK.out.1 | exact (show Kept w _ (fun k_ => P0_0_ k_ ∨ P0_1_ k_) from by repeat (first | (with_reducible first | exact HK.out | apply Kept.alloc | apply Kept.drewN | apply Kept.drew | refine Kept.setCell ?_ (.inr GW283.out) _ | refine Kept.setCell ?_ (.inr GW284.out) _) | exact HK.out)).1) hn_))))); have n4_ := qA (Kept.then_ (S := (fun k_ => P0_0_ k_ ∨ P0_1_ k_)) (by repeat (first | (with_reducible first | exact HK.out | apply Kept.alloc | apply Kept.drewN | apply Kept.drew | refine Kept.setCell ?_ (.inr GW283.out) _ | refine Kept.setCell ?_ (.inr GW284.out) _) | exact HK.out)) hkp (fun k_ hs_ => Or.elim hs_ (fun e_ => (fun e_ => (HO_284000.out.1 k_ e_.symm)) e_) (fun e_ => (fun e_ => (HO_284001.out.1 k_ e_.symm)) e_))); have n5_ := qA (hb); clear BK283; clear BK284; clear HK; clear HB; clear HO_284000; clear HO_284001; have BK283 := n0_; have BK284 := n1_; have HO353 := n2_; have HO356 := n3_; have HK := n4_; have HB := n5_; clear n0_ n1_ n2_ n3_ n4_ n5_; (try clear hb); (try clear hkp); (try clear ho0); (try clear ho1); obtain ⟨Ao130, co130, eo130⟩ := Kd.R_slice HO353.out; subst eo130; have hcz131_0 : w129.cell? ⟨gb284, 0, none⟩ = some (.slice none 0 0) := (qQ BK284.out 0).trans rfl; have hcz131_1 : w129.cell? ⟨gb284, 1, none⟩ = some (.slice none 0 0) := (qQ BK284.out 1).trans rfl; have hfz131_0 := qL BK284.out 0; have hfz131_1 := qL BK284.out 1; obtain ⟨Ao132, co132, eo132⟩ := Kd.R_slice HO356.out; subst eo132))
                              refine bodyPost_ret (results_ct rfl _ _ gb284 70 #[.slice Ao130 t351.length co130, .slice Ao132 t354.length co132] (0, 0) _ rfl (by (with_reducible repeat (first | refine qE ?_ _ | refine qH ?_ | refine qD ?_ _)); refine qY (cs := #[.slice Ao130 t351.length co130, .slice none 0 0]) ?_ 1 _ rfl; (with_reducible repeat (first | refine qE ?_ _ | refine qH ?_ | refine qD ?_ _)); refine qY (cs := #[.slice none 0 0, .slice none 0 0]) ?_ 0 _ rfl; (with_reducible repeat (first | refine qE ?_ _ | refine qH ?_ | refine qD ?_ _)); exact BK284.out) Tryd.underlying70 rfl (by kernel_rfl)) rfl ?_
                              exact ⟨_, _, by first | rfl | (simp [errW_none, errW_some] <;> rfl) | (simp [*, errW_none, errW_some] <;> rfl), by (with_reducible repeat (first | apply qJ | apply qI | apply qK)); exact qU (qP (p := ⟨gb284, 1, none⟩) (qP (p := ⟨gb284, 0, none⟩) (qV HO353.out BK284.out (by decide)) (fun _ hk => hk.2) (.slice Ao130 t351.length co130)) (fun _ hk => hk.2) (.slice Ao132 t354.length co132)) (fun _ hk => hk.1), by (with_reducible repeat (first | apply qJ | apply qI | apply qK)); exact qU (qP (p := ⟨gb284, 1, none⟩) (qP (p := ⟨gb284, 0, none⟩) (qV HO356.out BK284.out (by decide)) (fun _ hk => hk.2) (.slice Ao130 t351.length co130)) (fun _ hk => hk.2) (.slice Ao132 t354.length co132)) (fun _ hk => hk.1), by repeat (first | (with_reducible first | exact HB.out | apply qG | apply qB | apply qF | refine qC ?_ GE283.out | refine qC ?_ GE284.out) | exact HB.out), by repeat (first | (with_reducible first | exact HK.out | apply Kept.alloc | apply Kept.drewN | apply Kept.drew | refine Kept.setCell ?_ (.inr GW283.out) _ | refine Kept.setCell ?_ (.inr GW284.out) _) | exact HK.out)⟩
            · rw [if_neg c43] at H
              exact absurd H (by simp)
          · rw [if_neg c42] at H
            exact absurd H (by simp)
end Go.Proofs.YtdogljnddalgdaaDoor.A6
end
section
namespace Go.Proofs.YtdogljnddalgdaaDoor.A6
open Go.RowKit Go.Proofs.YtdogljnddalgdaaDoorW.PrintWords Go.Proofs.YtdogljnddalgdaaDoorW.PrintLast Go.Proofs.YtdogljnddalgdaaDoorW.PrintMore
open Go.Proofs.YtdogljnddalgdaaDoorW.PrintWords.Aside0 renaming mk → qA
open Go.Proofs.YtdogljnddalgdaaDoorW.PrintWords renaming pw_below_drewN → qB, below_set → qC, blk_alloc → qD, blk_drewN → qE, below_drew1 → qF, below_alloc → qG, blk_drew → qH, blk_frozen → qL, blk_cell → qQ, below_step → qR, below_size → qS, blk_below → qX, blk_put → qY
open Go.Proofs.YtdogljnddalgdaaDoorW.PrintWords.Kd renaming R_drewN → qI, R_alloc → qJ, R_drew → qK, R_far → qP, R_below → qT, R_mono → qU, R_types → qV, R_lower → qW
attribute [local go_sem] max2_int min2_int max_two min_two max_three min_three max_four min_four   -- for this text's walks alone
set_option linter.unusedVariables false
set_option linter.unusedSimpArgs false
mutual
def flongref04_Scan.l0 : Nat → List Int → Int → List (S38) → List (S41) → Option ((List (S38)) × (List (S41)))
  | 0, _, _, _, _ => none
  | k + 1, x4, x6, x364000, x364001 => if x6 < (x4.length : Int) then (if 0 ≤ x6 then (if (rd x4 x6) = 92 then ((flongref04_escape.f k x364000 x364001 x4 (wrap64 (x6 + 1))).bind fun bt365 => (flongref04_Scan.l0 k x4 bt365.2.2 bt365.1 bt365.2.1)) else (if (rd x4 x6) = 32 then (flongref04_Scan.j1 k x4 x6 (rd x4 x6) true x364000 x364001) else (flongref04_Scan.j1 k x4 x6 (rd x4 x6) ((rd x4 x6) == 9) x364000 x364001))) else (none)) else (some (x364000, x364001))
def flongref04_Scan.j1 : Nat → List Int → Int → Int → Bool → List (S38) → List (S41) → Option ((List (S38)) × (List (S41)))
  | 0, _, _, _, _, _, _ => none
  | k + 1, x4, x6, x7, x39, x364000, x364001 => if x39 = true then ((flongref04_say.f x364000 x364001 2 0).bind fun bt373 => (flongref04_Scan.l0 k x4 (wrap64 (x6 + 1)) bt373.1 bt373.2)) else ((flongref02_Control.f x7).bind fun t379 => (if t379 = true then ((flongref04_say.f x364000 x364001 1 65533).bind fun bt380 => ((flongref04_tell.f bt380.1 bt380.2 3 x6).bind fun bt386 => (flongref04_Scan.l0 k x4 (wrap64 (x6 + 1)) bt386.1 bt386.2))) else ((flongref04_say.f x364000 x364001 1 x7).bind fun bt392 => (flongref04_Scan.l0 k x4 (wrap64 (x6 + 1)) bt392.1 bt392.2))))
end
def flongref04_Scan.f (k : Nat) (a0 : ByteArray) : Option ((List (S38)) × (List (S41))) := if a0.size ≤ 9223372036854775807 then ((some (bytesOf a0)).bind fun t357 => ((flongref02_Decode.f k t357).bind fun t360 => (flongref04_Scan.l0 k t360 0 ([] : List (S38)) ([] : List (S41))))) else (none)
set_option maxHeartbeats 8000000 in
set_option maxRecDepth 100000 in
theorem flongref04_Scan.calls (k : Nat) (a0 : ByteArray) (r1 : List (S38)) (r2 : List (S41)) (w : World) (h : flongref04_Scan.f k a0 = some (r1, r2)) :
    Calls Tryd.prog 16 #[.string a0] w fun e w' => ∃ v0_ v1_ : Value, e = .returned (.tuple #[v0_, v1_]) ∧ Kd.R k38 38 w' w.heap.size (fun _ => True) v0_ r1 ∧ Kd.R k41 41 w' w.heap.size (fun _ => True) v1_ r2 ∧ Below w.heap.size w w' := by
  have hu70 := Tryd.underlying70
  have HB := qA (Below.refl w.heap.size w)
  have H : (if a0.size ≤ 9223372036854775807 then ((some (bytesOf a0)).bind fun t357 => ((flongref02_Decode.f k t357).bind fun t360 => (flongref04_Scan.l0 k t360 0 ([] : List (S38)) ([] : List (S41))))) else (none)) = some (r1, r2) := h
  clear h
  by_cases c2 : a0.size ≤ 9223372036854775807
  · rw [if_pos c2] at H
    have c2b0 := eq_true c2
    have c2b1 : decide (a0.size ≤ 9223372036854775807) = true := decide_eq_true c2
    try have c2b2 : (9223372036854775807 < a0.size) = False := eq_false (Nat.not_lt.2 c2)
    clear c2
    replace H := Option.bind_eq_some_iff.mp H
    obtain ⟨t357, A30, H⟩ := H
    replace H : ((flongref02_Decode.f k t357).bind fun t360 => (flongref04_Scan.l0 k t360 0 ([] : List (S38)) ([] : List (S41)))) = some (r1, r2) := H
    have A3 := qA A30
    clear A30
    replace H := Option.bind_eq_some_iff.mp H
    obtain ⟨t360, A40, H⟩ := H
    replace H : (flongref04_Scan.l0 k t360 0 ([] : List (S38)) ([] : List (S41))) = some (r1, r2) := H
    have A4 := qA A40
    clear A40
    have H' := qA H
    clear H
    go_enter Tryd.func16, Tryd.ntmps16
    go_wp2_with (first | ((with_reducible refine gate_dst (N := 11) rfl ?_); refine conv_step (by rfl) 9 36 5 _ rfl Tryd.underlying9 Tryd.underlying36 Tryd.underlying5 a0 (of_decide_eq_true (by first | (with_reducible assumption) | assumption)) (by rfl) t357 A3.out ?_; rintro e w5 ⟨v358, rfl, ho0, hb⟩; have n0_ := qA (Kd.V_lower (Kd.V_mono (ok' := fun k_ => True) ho0 (fun k_ hk_ => trivial)) (qS (by repeat (first | (with_reducible first | exact HB.out | apply qG | apply qB | apply qF) | exact HB.out)))); have n1_ := qA (qR (by repeat (first | (with_reducible first | exact HB.out | apply qG | apply qB | apply qF) | exact HB.out)) hb); clear HB; have HO359 := n0_; have HB := n1_; clear n0_ n1_; (try clear hb); (try clear hb2); (try clear hk); (try clear hi); (try clear ho0); obtain ⟨Ao6, co6, eo6⟩ := Kd.V_slice HO359.out; subst eo6) | (go_at_call 25; (with_reducible refine (flongref02_Decode.calls k _ _ t357 t360 _ ?side1 ?side2 A4.out).mono ?_); (case side1 => repeat (first | exact (Kd.V_reads' HO359.out).2.2 | (with_reducible refine Kd.C_alloc ?_ _) | (with_reducible refine Kd.C_drewN ?_ _) | (with_reducible refine Kd.C_drew ?_))); (case side2 => exact (Kd.V_reads' HO359.out).2.1); rintro e w7 ⟨v361, rfl, ho0, hb⟩; have n0_ := qA (Kd.V_elder' (by (with_reducible repeat (first | apply Kd.V_alloc | apply Kd.V_drewN | apply Kd.V_drew)); exact HO359.out) (Kd.R_base ho0) hb); have n1_ := qA (qW ho0 (qS (by repeat (first | (with_reducible first | exact HB.out | apply qG | apply qB | apply qF) | exact HB.out)))); have n2_ := qA (qR (by repeat (first | (with_reducible first | exact HB.out | apply qG | apply qB | apply qF) | exact HB.out)) hb); clear HO359; clear HB; have HO359 := n0_; have HO362 := n1_; have HB := n2_; clear n0_ n1_ n2_; (try clear hb); (try clear hb2); (try clear hk); (try clear hi); (try clear ho0)) | ((with_reducible refine gate_dst (N := 5) rfl ?_); refine box_event ?hg (N := 5) ?hd (cs := #[.slice none 0 0, .slice none 0 0]) (t := 70) ?hr ?_; (case hd => rfl); (case hg => rfl); (case hr => first | (go_simp; done) | (go_simp; rfl)); intro gb363 hg w8 hbox hb; have n0_ := qA (Kd.V_below (Kd.V_elderB (by (with_reducible repeat (first | apply Kd.V_alloc | apply Kd.V_drewN | apply Kd.V_drew)); exact HO359.out) gb363 (Nat.le_of_eq hg.symm)) hb); have n1_ := qA (qT (by (with_reducible repeat (first | apply qJ | apply qI | apply qK)); exact HO362.out) hb); have n2_ := qA (qR (by repeat (first | (with_reducible first | exact HB.out | apply qG | apply qB | apply qF) | exact HB.out)) hb); have n3_ := qA (hbox); have n4_ := qA ((by rw [hg]; exact (qS (by repeat (first | (with_reducible first | exact HB.out | apply qG | apply qB | apply qF) | exact HB.out))) : w.heap.size ≤ gb363)); have n5_ := qA ((by rw [hg]; exact (qS (by repeat (first | (with_reducible first | exact HB.out | apply qG | apply qB | apply qF) | exact HB.out))) : w.heap.size ≤ gb363)); clear HO359; clear HO362; clear HB; have HO359 := n0_; have HO362 := n1_; have HB := n2_; have BK363 := n3_; have GW363 := n4_; have GE363 := n5_; clear n0_ n1_ n2_ n3_ n4_ n5_; clear hb hbox hg; have hcz9_0 : w8.cell? ⟨gb363, 0, none⟩ = some (.slice none 0 0) := (qQ BK363.out 0).trans rfl; have hcz9_1 : w8.cell? ⟨gb363, 1, none⟩ = some (.slice none 0 0) := (qQ BK363.out 1).trans rfl; have hfz9_0 := qL BK363.out 0; have hfz9_1 := qL BK363.out 1))
    repeat (go_quiet (first | ((with_reducible refine gate_dst (N := 11) rfl ?_); refine conv_step (by rfl) 9 36 5 _ rfl Tryd.underlying9 Tryd.underlying36 Tryd.underlying5 a0 (of_decide_eq_true (by first | (with_reducible assumption) | assumption)) (by rfl) t357 A3.out ?_; rintro e w5 ⟨v358, rfl, ho0, hb⟩; have n0_ := qA (Kd.V_lower (Kd.V_mono (ok' := fun k_ => True) ho0 (fun k_ hk_ => trivial)) (qS (by repeat (first | (with_reducible first | exact HB.out | apply qG | apply qB | apply qF) | exact HB.out)))); have n1_ := qA (qR (by repeat (first | (with_reducible first | exact HB.out | apply qG | apply qB | apply qF) | exact HB.out)) hb); clear HB; have HO359 := n0_; have HB := n1_; clear n0_ n1_; (try clear hb); (try clear hb2); (try clear hk); (try clear hi); (try clear ho0); obtain ⟨Ao6, co6, eo6⟩ := Kd.V_slice HO359.out; subst eo6) | (go_at_call 25; (with_reducible refine (flongref02_Decode.calls k _ _ t357 t360 _ ?side1 ?side2 A4.out).mono ?_); (case side1 => repeat (first | exact (Kd.V_reads' HO359.out).2.2 | (with_reducible refine Kd.C_alloc ?_ _) | (with_reducible refine Kd.C_drewN ?_ _) | (with_reducible refine Kd.C_drew ?_))); (case side2 => exact (Kd.V_reads' HO359.out).2.1); rintro e w7 ⟨v361, rfl, ho0, hb⟩; have n0_ := qA (Kd.V_elder' (by (with_reducible repeat (first | apply Kd.V_alloc | apply Kd.V_drewN | apply Kd.V_drew)); exact HO359.out) (Kd.R_base ho0) hb); have n1_ := qA (qW ho0 (qS (by repeat (first | (with_reducible first | exact HB.out | apply qG | apply qB | apply qF) | exact HB.out)))); have n2_ := qA (qR (by repeat (first | (with_reducible first | exact HB.out | apply qG | apply qB | apply qF) | exact HB.out)) hb); clear HO359; clear HB; have HO359 := n0_; have HO362 := n1_; have HB := n2_; clear n0_ n1_ n2_; (try clear hb); (try clear hb2); (try clear hk); (try clear hi); (try clear ho0)) | ((with_reducible refine gate_dst (N := 5) rfl ?_); refine box_event ?hg (N := 5) ?hd (cs := #[.slice none 0 0, .slice none 0 0]) (t := 70) ?hr ?_; (case hd => rfl); (case hg => rfl); (case hr => first | (go_simp; done) | (go_simp; rfl)); intro gb363 hg w8 hbox hb; have n0_ := qA (Kd.V_below (Kd.V_elderB (by (with_reducible repeat (first | apply Kd.V_alloc | apply Kd.V_drewN | apply Kd.V_drew)); exact HO359.out) gb363 (Nat.le_of_eq hg.symm)) hb); have n1_ := qA (qT (by (with_reducible repeat (first | apply qJ | apply qI | apply qK)); exact HO362.out) hb); have n2_ := qA (qR (by repeat (first | (with_reducible first | exact HB.out | apply qG | apply qB | apply qF) | exact HB.out)) hb); have n3_ := qA (hbox); have n4_ := qA ((by rw [hg]; exact (qS (by repeat (first | (with_reducible first | exact HB.out | apply qG | apply qB | apply qF) | exact HB.out))) : w.heap.size ≤ gb363)); have n5_ := qA ((by rw [hg]; exact (qS (by repeat (first | (with_reducible first | exact HB.out | apply qG | apply qB | apply qF) | exact HB.out))) : w.heap.size ≤ gb363)); clear HO359; clear HO362; clear HB; have HO359 := n0_; have HO362 := n1_; have HB := n2_; have BK363 := n3_; have GW363 := n4_; have GE363 := n5_; clear n0_ n1_ n2_ n3_ n4_ n5_; clear hb hbox hg; have hcz9_0 : w8.cell? ⟨gb363, 0, none⟩ = some (.slice none 0 0) := (qQ BK363.out 0).trans rfl; have hcz9_1 : w8.cell? ⟨gb363, 1, none⟩ = some (.slice none 0 0) := (qQ BK363.out 1).trans rfl; have hfz9_0 := qL BK363.out 0; have hfz9_1 := qL BK363.out 1)); try go_wp2_with (first | ((with_reducible refine gate_dst (N := 11) rfl ?_); refine conv_step (by rfl) 9 36 5 _ rfl Tryd.underlying9 Tryd.underlying36 Tryd.underlying5 a0 (of_decide_eq_true (by first | (with_reducible assumption) | assumption)) (by rfl) t357 A3.out ?_; rintro e w5 ⟨v358, rfl, ho0, hb⟩; have n0_ := qA (Kd.V_lower (Kd.V_mono (ok' := fun k_ => True) ho0 (fun k_ hk_ => trivial)) (qS (by repeat (first | (with_reducible first | exact HB.out | apply qG | apply qB | apply qF) | exact HB.out)))); have n1_ := qA (qR (by repeat (first | (with_reducible first | exact HB.out | apply qG | apply qB | apply qF) | exact HB.out)) hb); clear HB; have HO359 := n0_; have HB := n1_; clear n0_ n1_; (try clear hb); (try clear hb2); (try clear hk); (try clear hi); (try clear ho0); obtain ⟨Ao6, co6, eo6⟩ := Kd.V_slice HO359.out; subst eo6) | (go_at_call 25; (with_reducible refine (flongref02_Decode.calls k _ _ t357 t360 _ ?side1 ?side2 A4.out).mono ?_); (case side1 => repeat (first | exact (Kd.V_reads' HO359.out).2.2 | (with_reducible refine Kd.C_alloc ?_ _) | (with_reducible refine Kd.C_drewN ?_ _) | (with_reducible refine Kd.C_drew ?_))); (case side2 => exact (Kd.V_reads' HO359.out).2.1); rintro e w7 ⟨v361, rfl, ho0, hb⟩; have n0_ := qA (Kd.V_elder' (by (with_reducible repeat (first | apply Kd.V_alloc | apply Kd.V_drewN | apply Kd.V_drew)); exact HO359.out) (Kd.R_base ho0) hb); have n1_ := qA (qW ho0 (qS (by repeat (first | (with_reducible first | exact HB.out | apply qG | apply qB | apply qF) | exact HB.out)))); have n2_ := qA (qR (by repeat (first | (with_reducible first | exact HB.out | apply qG | apply qB | apply qF) | exact HB.out)) hb); clear HO359; clear HB; have HO359 := n0_; have HO362 := n1_; have HB := n2_; clear n0_ n1_ n2_; (try clear hb); (try clear hb2); (try clear hk); (try clear hi); (try clear ho0)) | ((with_reducible refine gate_dst (N := 5) rfl ?_); refine box_event ?hg (N := 5) ?hd (cs := #[.slice none 0 0, .slice none 0 0]) (t := 70) ?hr ?_; (case hd => rfl); (case hg => rfl); (case hr => first | (go_simp; done) | (go_simp; rfl)); intro gb363 hg w8 hbox hb; have n0_ := qA (Kd.V_below (Kd.V_elderB (by (with_reducible repeat (first | apply Kd.V_alloc | apply Kd.V_drewN | apply Kd.V_drew)); exact HO359.out) gb363 (Nat.le_of_eq hg.symm)) hb); have n1_ := qA (qT (by (with_reducible repeat (first | apply qJ | apply qI | apply qK)); exact HO362.out) hb); have n2_ := qA (qR (by repeat (first | (with_reducible first | exact HB.out | apply qG | apply qB | apply qF) | exact HB.out)) hb); have n3_ := qA (hbox); have n4_ := qA ((by rw [hg]; exact (qS (by repeat (first | (with_reducible first | exact HB.out | apply qG | apply qB | apply qF) | exact HB.out))) : w.heap.size ≤ gb363)); have n5_ := qA ((by rw [hg]; exact (qS (by repeat (first | (with_reducible first | exact HB.out | apply qG | apply qB | apply qF) | exact HB.out))) : w.heap.size ≤ gb363)); clear HO359; clear HO362; clear HB; have HO359 := n0_; have HO362 := n1_; have HB := n2_; have BK363 := n3_; have GW363 := n4_; have GE363 := n5_; clear n0_ n1_ n2_ n3_ n4_ n5_; clear hb hbox hg; have hcz9_0 : w8.cell? ⟨gb363, 0, none⟩ = some (.slice none 0 0) := (qQ BK363.out 0).trans rfl; have hcz9_1 : w8.cell? ⟨gb363, 1, none⟩ = some (.slice none 0 0) := (qQ BK363.out 1).trans rfl; have hfz9_0 := qL BK363.out 0; have hfz9_1 := qL BK363.out 1)))
    go_loopg [6] k (fun kq v6 w' => ∃ (x6_1 : Int) (x364000_1 : List (S38)) (x364001_1 : List (S41)) (u364000 : Value) (u364001 : Value), v6 = .int .i64 x6_1 ∧ Aside0 (flongref04_Scan.l0 kq t360 x6_1 x364000_1 x364001_1 = some (r1, r2)) ∧ Aside0 (kq ≤ k) ∧ Aside0 (Kd.R (Kd.int .i32) 21 w' w.heap.size (fun _ => True) v361 t360) ∧ Aside0 (Kd.R k38 38 w' w.heap.size (fun _ => True) u364000 x364000_1) ∧ Aside0 (Kd.R k41 41 w' w.heap.size (fun _ => True) u364001 x364001_1) ∧ Aside0 (w'.heap[gb363]? = some (.cells #[u364000, u364001] 70 (0, 0))) ∧ Aside0 (Below w.heap.size w w'))
    case atStart => exact ⟨(0), (([] : List (S38))), (([] : List (S41))), (.slice none 0 0), (.slice none 0 0), (by first | rfl | (simp; done) | (simp [*]; done)), H', ⟨Nat.le_refl _⟩, ⟨by (with_reducible repeat (first | apply qJ | apply qI | apply qK)); exact qU (qP (p := ⟨gb363, 1, none⟩) (qP (p := ⟨gb363, 0, none⟩) (qV HO362.out BK363.out (by decide)) (fun _ hk => hk.2) (.slice none 0 0)) (fun _ hk => hk.2) (.slice none 0 0)) (fun _ hk => trivial)⟩, ⟨by first | exact Kd.R_nil _ _ _ _ _ | exact Kd.N_nil _ _ _ _ _ | exact Kd.V_nil _ _ _ _ _ | exact Kd.Q_nil _ _ _ _ _ | exact Kd.S_nil _ _ _ _ _⟩, ⟨by first | exact Kd.R_nil _ _ _ _ _ | exact Kd.N_nil _ _ _ _ _ | exact Kd.V_nil _ _ _ _ _ | exact Kd.Q_nil _ _ _ _ _ | exact Kd.S_nil _ _ _ _ _⟩, ⟨by (with_reducible repeat (first | refine qE ?_ _ | refine qH ?_ | refine qD ?_ _)); refine qY (cs := #[.slice none 0 0, .slice none 0 0]) ?_ 1 _ rfl; (with_reducible repeat (first | refine qE ?_ _ | refine qH ?_ | refine qD ?_ _)); refine qY (cs := #[.slice none 0 0, .slice none 0 0]) ?_ 0 _ rfl; (with_reducible repeat (first | refine qE ?_ _ | refine qH ?_ | refine qD ?_ _)); exact BK363.out⟩, ⟨by repeat (first | (with_reducible first | exact HB.out | apply qG | apply qB | apply qF | refine qC ?_ GE363.out) | exact HB.out)⟩⟩
    case round =>
      clear H'
      try clear c1
      try clear c2
      try clear c2b0
      try clear c2b1
      try clear c2b2
      try clear p2
      try clear hcz9_0
      try clear hcz9_1
      try clear hfz9_0
      try clear hfz9_1
      obtain ⟨x6_1, x364000_1, x364001_1, u364000, u364001, rfl, HA, HK1, HO_4, HO_364000, HO_364001, BK363, HB⟩ := hrel
      cases gk with
      | zero => exact absurd HA.out (by simp [flongref04_Scan.l0])
      | succ k1 =>
        have H := HA.out
        clear HA
        simp only [flongref04_Scan.l0] at H
        by_cases c10 : x6_1 < (t360.length : Int)
        · rw [if_pos c10] at H
          have c10b0 : decide (x6_1 < (t360.length : Int)) = true := decide_eq_true c10
          clear c10
          by_cases c11 : 0 ≤ x6_1
          · rw [if_pos c11] at H
            have c11b0 : decide (0 ≤ x6_1) = true := decide_eq_true c11
            clear c11
            by_cases c12 : (rd t360 x6_1) = 92
            · rw [if_pos c12] at H
              have c12b0 : ((rd t360 x6_1) == 92) = true := beq_iff_eq.mpr c12
              have c12b1 : ((rd t360 x6_1) != 92) = false := bne_eq_false_iff_eq.mpr c12
              clear c12
              replace H := Option.bind_eq_some_iff.mp H
              obtain ⟨⟨t365, t368, t371⟩, A130, H⟩ := H
              replace H : (flongref04_Scan.l0 k1 t360 t371 t365 t368) = some (r1, r2) := H
              have A13 := qA A130
              clear A130
              have H' := qA H
              clear H
              obtain ⟨Ao14, co14, eo14⟩ := Kd.R_slice HO_4.out
              subst eo14
              have p364 : 0 ≤ (x6_1 : Int) := of_decide_eq_true (by first | (with_reducible assumption) | assumption)
              have q364 : x6_1 < (t360.length : Int) := of_decide_eq_true (by first | (with_reducible assumption) | assumption)
              obtain ⟨ad364, e364, hx364_0⟩ := Kd.at_int (Kd.R_reads' HO_4.out).2.2 x6_1 p364 q364
              cases e364
              replace p364 := eq_true p364
              replace q364 := eq_true q364
              have hcz15_0 : wr.cell? ⟨gb363, 0, none⟩ = some (u364000) := (qQ BK363.out 0).trans rfl
              have hcz15_1 : wr.cell? ⟨gb363, 1, none⟩ = some (u364001) := (qQ BK363.out 1).trans rfl
              have hfz15_0 := qL BK363.out 0
              have hfz15_1 := qL BK363.out 1
              obtain ⟨Ao16, co16, eo16⟩ := Kd.R_slice HO_364000.out
              subst eo16
              obtain ⟨Ao17, co17, eo17⟩ := Kd.R_slice HO_364001.out
              subst eo17
              go_wp2_with (first | (go_at_call 44; (with_reducible refine (flongref04_escape.calls k1 (fun k_ => some k_ = (.slice Ao16 x364000_1.length co16 : Value).ownBlock) (.slice Ao16 x364000_1.length co16) x364000_1 (fun k_ => some k_ = (.slice Ao17 x364001_1.length co17 : Value).ownBlock) (.slice Ao17 x364001_1.length co17) x364001_1 _ _ t360 (wrap64 (x6_1 + 1)) t365 t368 t371 w _ ?side1 ?side2 ?side3 ?side4 ?side5 A13.out).mono ?_); (case side1 => repeat (first | (with_reducible first | exact HB.out | apply qG | apply qB | apply qF | refine qC ?_ GE363.out) | exact HB.out)); (case side2 => exact Kd.R_tight rfl HO_364000.out); (case side3 => exact Kd.R_tight rfl HO_364001.out); (case side4 => exact Kd.C_kept_own ((Kd.R_apart' (Kd.R_apart' HO_4.out (Kd.R_typed HO_364000.out) (by decide)) (Kd.R_typed HO_364001.out) (by decide))) (fun k_ hk_ hs_ => Or.elim hs_ (fun e_ => (hk_.1.2) e_) (fun e_ => (hk_.2) e_))); (case side5 => exact (Kd.R_reads' HO_4.out).2.1); rintro e w18 ⟨v366, v369, rfl, ho0, ho1, hb, hkp⟩; have n0_ := qA (qU (ok' := fun k_ => True) (Kd.R_keptB ((Kd.R_apart' (Kd.R_apart' HO_4.out (Kd.R_typed HO_364000.out) (by decide)) (Kd.R_typed HO_364001.out) (by decide))) hkp (fun k_ hk_ hs_ => Or.elim hs_ (fun e_ => (hk_.1.2) e_) (fun e_ => (hk_.2) e_))) (fun k_ hk_ => trivial)); have n1_ := qA (blk_kept (by (with_reducible repeat (first | refine qE ?_ _ | refine qH ?_ | refine qD ?_ _)); exact BK363.out) hkp (fun hs_ => Or.elim hs_ (fun e_ => (fun e_ => (Kd.R_ne HO_364000.out BK363.out (by decide)) e_) e_) (fun e_ => (fun e_ => (Kd.R_ne HO_364001.out BK363.out (by decide)) e_) e_))); have n2_ := qA (qU (ok' := fun k_ => True) ho0 (fun k_ hk_ => trivial)); have n3_ := qA (qU (ok' := fun k_ => True) ho1 (fun k_ hk_ => trivial)); have n4_ := qA (hb); clear HO_4; clear BK363; clear HB; clear HO_364000; clear HO_364001; have HO_4 := n0_; have BK363 := n1_; have HO367 := n2_; have HO370 := n3_; have HB := n4_; clear n0_ n1_ n2_ n3_ n4_; (try clear hb); (try clear hkp); (try clear ho0); (try clear ho1)) | ((with_reducible refine gate_dst (N := 8) rfl ?_); refine box_event ?hg (N := 8) ?hd (cs := #[.slice none 0 0, .slice none 0 0]) (t := 70) ?hr ?_; (case hd => rfl); (case hg => rfl); (case hr => first | (go_simp; done) | (go_simp; rfl)); intro gb372 hg w19 hbox hb; have n0_ := qA (qT (by (with_reducible repeat (first | apply qJ | apply qI | apply qK)); exact HO_4.out) hb); have n1_ := qA (qT (by (with_reducible repeat (first | apply qJ | apply qI | apply qK)); exact HO367.out) hb); have n2_ := qA (qT (by (with_reducible repeat (first | apply qJ | apply qI | apply qK)); exact HO370.out) hb); have n3_ := qA (qX (g := gb363) (o := .cells #[.slice Ao16 x364000_1.length co16, .slice Ao17 x364001_1.length co17] 70 (0, 0)) (by (with_reducible repeat (first | refine qE ?_ _ | refine qH ?_ | refine qD ?_ _)); exact BK363.out) hb); have n4_ := qA (qR (by repeat (first | (with_reducible first | exact HB.out | apply qG | apply qB | apply qF | refine qC ?_ GE363.out) | exact HB.out)) hb); have n5_ := qA (hbox); have n6_ := qA ((by rw [hg]; exact (qS (by repeat (first | (with_reducible first | exact HB.out | apply qG | apply qB | apply qF | refine qC ?_ GE363.out) | exact HB.out))) : w.heap.size ≤ gb372)); have n7_ := qA ((by rw [hg]; exact (qS (by repeat (first | (with_reducible first | exact HB.out | apply qG | apply qB | apply qF | refine qC ?_ GE363.out) | exact HB.out))) : w.heap.size ≤ gb372)); have n8_ := qA ((by rw [hg]; exact Nat.ne_of_lt (blk_lt (g := gb363) (o := .cells #[.slice Ao16 x364000_1.length co16, .slice Ao17 x364001_1.length co17] 70 (0, 0)) (by (with_reducible repeat (first | refine qE ?_ _ | refine qH ?_ | refine qD ?_ _)); exact BK363.out)) : gb363 ≠ gb372)); have n9_ := qA ((by rw [hg]; exact Nat.ne_of_gt (blk_lt (g := gb363) (o := .cells #[.slice Ao16 x364000_1.length co16, .slice Ao17 x364001_1.length co17] 70 (0, 0)) (by (with_reducible repeat (first | refine qE ?_ _ | refine qH ?_ | refine qD ?_ _)); exact BK363.out)) : gb372 ≠ gb363)); clear HO_4; clear HO367; clear HO370; clear BK363; clear HB; have HO_4 := n0_; have HO367 := n1_; have HO370 := n2_; have BK363 := n3_; have HB := n4_; have BK372 := n5_; have GW372 := n6_; have GE372 := n7_; have NB363_372 := n8_; have NB372_363 := n9_; clear n0_ n1_ n2_ n3_ n4_ n5_ n6_ n7_ n8_ n9_; clear hb hbox hg; obtain ⟨Ao20, co20, eo20⟩ := Kd.R_slice HO367.out; subst eo20; have hnb21 := NB372_363.out; have hnc21 := NB363_372.out; have hcz22_0 : w19.cell? ⟨gb372, 0, none⟩ = some (.slice none 0 0) := (qQ BK372.out 0).trans rfl; have hcz22_1 : w19.cell? ⟨gb372, 1, none⟩ = some (.slice none 0 0) := (qQ BK372.out 1).trans rfl; have hfz22_0 := qL BK372.out 0; have hfz22_1 := qL BK372.out 1; obtain ⟨Ao23, co23, eo23⟩ := Kd.R_slice HO370.out; subst eo23; have hcz24_0 : w19.cell? ⟨gb363, 0, none⟩ = some (.slice Ao16 x364000_1.length co16) := (qQ BK363.out 0).trans rfl; have hcz24_1 : w19.cell? ⟨gb363, 1, none⟩ = some (.slice Ao17 x364001_1.length co17) := (qQ BK363.out 1).trans rfl; have hfz24_0 := qL BK363.out 0; have hfz24_1 := qL BK363.out 1))
              repeat (go_quiet (first | (go_at_call 44; (with_reducible refine (flongref04_escape.calls k1 (fun k_ => some k_ = (.slice Ao16 x364000_1.length co16 : Value).ownBlock) (.slice Ao16 x364000_1.length co16) x364000_1 (fun k_ => some k_ = (.slice Ao17 x364001_1.length co17 : Value).ownBlock) (.slice Ao17 x364001_1.length co17) x364001_1 _ _ t360 (wrap64 (x6_1 + 1)) t365 t368 t371 w _ ?side1 ?side2 ?side3 ?side4 ?side5 A13.out).mono ?_); (case side1 => repeat (first | (with_reducible first | exact HB.out | apply qG | apply qB | apply qF | refine qC ?_ GE363.out) | exact HB.out)); (case side2 => exact Kd.R_tight rfl HO_364000.out); (case side3 => exact Kd.R_tight rfl HO_364001.out); (case side4 => exact Kd.C_kept_own ((Kd.R_apart' (Kd.R_apart' HO_4.out (Kd.R_typed HO_364000.out) (by decide)) (Kd.R_typed HO_364001.out) (by decide))) (fun k_ hk_ hs_ => Or.elim hs_ (fun e_ => (hk_.1.2) e_) (fun e_ => (hk_.2) e_))); (case side5 => exact (Kd.R_reads' HO_4.out).2.1); rintro e w18 ⟨v366, v369, rfl, ho0, ho1, hb, hkp⟩; have n0_ := qA (qU (ok' := fun k_ => True) (Kd.R_keptB ((Kd.R_apart' (Kd.R_apart' HO_4.out (Kd.R_typed HO_364000.out) (by decide)) (Kd.R_typed HO_364001.out) (by decide))) hkp (fun k_ hk_ hs_ => Or.elim hs_ (fun e_ => (hk_.1.2) e_) (fun e_ => (hk_.2) e_))) (fun k_ hk_ => trivial)); have n1_ := qA (blk_kept (by (with_reducible repeat (first | refine qE ?_ _ | refine qH ?_ | refine qD ?_ _)); exact BK363.out) hkp (fun hs_ => Or.elim hs_ (fun e_ => (fun e_ => (Kd.R_ne HO_364000.out BK363.out (by decide)) e_) e_) (fun e_ => (fun e_ => (Kd.R_ne HO_364001.out BK363.out (by decide)) e_) e_))); have n2_ := qA (qU (ok' := fun k_ => True) ho0 (fun k_ hk_ => trivial)); have n3_ := qA (qU (ok' := fun k_ => True) ho1 (fun k_ hk_ => trivial)); have n4_ := qA (hb); clear HO_4; clear BK363; clear HB; clear HO_364000; clear HO_364001; have HO_4 := n0_; have BK363 := n1_; have HO367 := n2_; have HO370 := n3_; have HB := n4_; clear n0_ n1_ n2_ n3_ n4_; (try clear hb); (try clear hkp); (try clear ho0); (try clear ho1)) | ((with_reducible refine gate_dst (N := 8) rfl ?_); refine box_event ?hg (N := 8) ?hd (cs := #[.slice none 0 0, .slice none 0 0]) (t := 70) ?hr ?_; (case hd => rfl); (case hg => rfl); (case hr => first | (go_simp; done) | (go_simp; rfl)); intro gb372 hg w19 hbox hb; have n0_ := qA (qT (by (with_reducible repeat (first | apply qJ | apply qI | apply qK)); exact HO_4.out) hb); have n1_ := qA (qT (by (with_reducible repeat (first | apply qJ | apply qI | apply qK)); exact HO367.out) hb); have n2_ := qA (qT (by (with_reducible repeat (first | apply qJ | apply qI | apply qK)); exact HO370.out) hb); have n3_ := qA (qX (g := gb363) (o := .cells #[.slice Ao16 x364000_1.length co16, .slice Ao17 x364001_1.length co17] 70 (0, 0)) (by (with_reducible repeat (first | refine qE ?_ _ | refine qH ?_ | refine qD ?_ _)); exact BK363.out) hb); have n4_ := qA (qR (by repeat (first | (with_reducible first | exact HB.out | apply qG | apply qB | apply qF | refine qC ?_ GE363.out) | exact HB.out)) hb); have n5_ := qA (hbox); have n6_ := qA ((by rw [hg]; exact (qS (by repeat (first | (with_reducible first | exact HB.out | apply qG | apply qB | apply qF | refine qC ?_ GE363.out) | exact HB.out))) : w.heap.size ≤ gb372)); have n7_ := qA ((by rw [hg]; exact (qS (by repeat (first | (with_reducible first | exact HB.out | apply qG | apply qB | apply qF | refine qC ?_ GE363.out) | exact HB.out))) : w.heap.size ≤ gb372)); have n8_ := qA ((by rw [hg]; exact Nat.ne_of_lt (blk_lt (g := gb363) (o := .cells #[.slice Ao16 x364000_1.length co16, .slice Ao17 x364001_1.length co17] 70 (0, 0)) (by (with_reducible repeat (first | refine qE ?_ _ | refine qH ?_ | refine qD ?_ _)); exact BK363.out)) : gb363 ≠ gb372)); have n9_ := qA ((by rw [hg]; exact Nat.ne_of_gt (blk_lt (g := gb363) (o := .cells #[.slice Ao16 x364000_1.length co16, .slice Ao17 x364001_1.length co17] 70 (0, 0)) (by (with_reducible repeat (first | refine qE ?_ _ | refine qH ?_ | refine qD ?_ _)); exact BK363.out)) : gb372 ≠ gb363)); clear HO_4; clear HO367; clear HO370; clear BK363; clear HB; have HO_4 := n0_; have HO367 := n1_; have HO370 := n2_; have BK363 := n3_; have HB := n4_; have BK372 := n5_; have GW372 := n6_; have GE372 := n7_; have NB363_372 := n8_; have NB372_363 := n9_; clear n0_ n1_ n2_ n3_ n4_ n5_ n6_ n7_ n8_ n9_; clear hb hbox hg; obtain ⟨Ao20, co20, eo20⟩ := Kd.R_slice HO367.out; subst eo20; have hnb21 := NB372_363.out; have hnc21 := NB363_372.out; have hcz22_0 : w19.cell? ⟨gb372, 0, none⟩ = some (.slice none 0 0) := (qQ BK372.out 0).trans rfl; have hcz22_1 : w19.cell? ⟨gb372, 1, none⟩ = some (.slice none 0 0) := (qQ BK372.out 1).trans rfl; have hfz22_0 := qL BK372.out 0; have hfz22_1 := qL BK372.out 1; obtain ⟨Ao23, co23, eo23⟩ := Kd.R_slice HO370.out; subst eo23; have hcz24_0 : w19.cell? ⟨gb363, 0, none⟩ = some (.slice Ao16 x364000_1.length co16) := (qQ BK363.out 0).trans rfl; have hcz24_1 : w19.cell? ⟨gb363, 1, none⟩ = some (.slice Ao17 x364001_1.length co17) := (qQ BK363.out 1).trans rfl; have hfz24_0 := qL BK363.out 0; have hfz24_1 := qL BK363.out 1)); try go_wp2_with (first | (go_at_call 44; (with_reducible refine (flongref04_escape.calls k1 (fun k_ => some k_ = (.slice Ao16 x364000_1.length co16 : Value).ownBlock) (.slice Ao16 x364000_1.length co16) x364000_1 (fun k_ => some k_ = (.slice Ao17 x364001_1.length co17 : Value).ownBlock) (.slice Ao17 x364001_1.length co17) x364001_1 _ _ t360 (wrap64 (x6_1 + 1)) t365 t368 t371 w _ ?side1 ?side2 ?side3 ?side4 ?side5 A13.out).mono ?_); (case side1 => repeat (first | (with_reducible first | exact HB.out | apply qG | apply qB | apply qF | refine qC ?_ GE363.out) | exact HB.out)); (case side2 => exact Kd.R_tight rfl HO_364000.out); (case side3 => exact Kd.R_tight rfl HO_364001.out); (case side4 => exact Kd.C_kept_own ((Kd.R_apart' (Kd.R_apart' HO_4.out (Kd.R_typed HO_364000.out) (by decide)) (Kd.R_typed HO_364001.out) (by decide))) (fun k_ hk_ hs_ => Or.elim hs_ (fun e_ => (hk_.1.2) e_) (fun e_ => (hk_.2) e_))); (case side5 => exact (Kd.R_reads' HO_4.out).2.1); rintro e w18 ⟨v366, v369, rfl, ho0, ho1, hb, hkp⟩; have n0_ := qA (qU (ok' := fun k_ => True) (Kd.R_keptB ((Kd.R_apart' (Kd.R_apart' HO_4.out (Kd.R_typed HO_364000.out) (by decide)) (Kd.R_typed HO_364001.out) (by decide))) hkp (fun k_ hk_ hs_ => Or.elim hs_ (fun e_ => (hk_.1.2) e_) (fun e_ => (hk_.2) e_))) (fun k_ hk_ => trivial)); have n1_ := qA (blk_kept (by (with_reducible repeat (first | refine qE ?_ _ | refine qH ?_ | refine qD ?_ _)); exact BK363.out) hkp (fun hs_ => Or.elim hs_ (fun e_ => (fun e_ => (Kd.R_ne HO_364000.out BK363.out (by decide)) e_) e_) (fun e_ => (fun e_ => (Kd.R_ne HO_364001.out BK363.out (by decide)) e_) e_))); have n2_ := qA (qU (ok' := fun k_ => True) ho0 (fun k_ hk_ => trivial)); have n3_ := qA (qU (ok' := fun k_ => True) ho1 (fun k_ hk_ => trivial)); have n4_ := qA (hb); clear HO_4; clear BK363; clear HB; clear HO_364000; clear HO_364001; have HO_4 := n0_; have BK363 := n1_; have HO367 := n2_; have HO370 := n3_; have HB := n4_; clear n0_ n1_ n2_ n3_ n4_; (try clear hb); (try clear hkp); (try clear ho0); (try clear ho1)) | ((with_reducible refine gate_dst (N := 8) rfl ?_); refine box_event ?hg (N := 8) ?hd (cs := #[.slice none 0 0, .slice none 0 0]) (t := 70) ?hr ?_; (case hd => rfl); (case hg => rfl); (case hr => first | (go_simp; done) | (go_simp; rfl)); intro gb372 hg w19 hbox hb; have n0_ := qA (qT (by (with_reducible repeat (first | apply qJ | apply qI | apply qK)); exact HO_4.out) hb); have n1_ := qA (qT (by (with_reducible repeat (first | apply qJ | apply qI | apply qK)); exact HO367.out) hb); have n2_ := qA (qT (by (with_reducible repeat (first | apply qJ | apply qI | apply qK)); exact HO370.out) hb); have n3_ := qA (qX (g := gb363) (o := .cells #[.slice Ao16 x364000_1.length co16, .slice Ao17 x364001_1.length co17] 70 (0, 0)) (by (with_reducible repeat (first | refine qE ?_ _ | refine qH ?_ | refine qD ?_ _)); exact BK363.out) hb); have n4_ := qA (qR (by repeat (first | (with_reducible first | exact HB.out | apply qG | apply qB | apply qF | refine qC ?_ GE363.out) | exact HB.out)) hb); have n5_ := qA (hbox); have n6_ := qA ((by rw [hg]; exact (qS (by repeat (first | (with_reducible first | exact HB.out | apply qG | apply qB | apply qF | refine qC ?_ GE363.out) | exact HB.out))) : w.heap.size ≤ gb372)); have n7_ := qA ((by rw [hg]; exact (qS (by repeat (first | (with_reducible first | exact HB.out | apply qG | apply qB | apply qF | refine qC ?_ GE363.out) | exact HB.out))) : w.heap.size ≤ gb372)); have n8_ := qA ((by rw [hg]; exact Nat.ne_of_lt (blk_lt (g := gb363) (o := .cells #[.slice Ao16 x364000_1.length co16, .slice Ao17 x364001_1.length co17] 70 (0, 0)) (by (with_reducible repeat (first | refine qE ?_ _ | refine qH ?_ | refine qD ?_ _)); exact BK363.out)) : gb363 ≠ gb372)); have n9_ := qA ((by rw [hg]; exact Nat.ne_of_gt (blk_lt (g := gb363) (o := .cells #[.slice Ao16 x364000_1.length co16, .slice Ao17 x364001_1.length co17] 70 (0, 0)) (by (with_reducible repeat (first | refine qE ?_ _ | refine qH ?_ | refine qD ?_ _)); exact BK363.out)) : gb372 ≠ gb363)); clear HO_4; clear HO367; clear HO370; clear BK363; clear HB; have HO_4 := n0_; have HO367 := n1_; have HO370 := n2_; have BK363 := n3_; have HB := n4_; have BK372 := n5_; have GW372 := n6_; have GE372 := n7_; have NB363_372 := n8_; have NB372_363 := n9_; clear n0_ n1_ n2_ n3_ n4_ n5_ n6_ n7_ n8_ n9_; clear hb hbox hg; obtain ⟨Ao20, co20, eo20⟩ := Kd.R_slice HO367.out; subst eo20; have hnb21 := NB372_363.out; have hnc21 := NB363_372.out; have hcz22_0 : w19.cell? ⟨gb372, 0, none⟩ = some (.slice none 0 0) := (qQ BK372.out 0).trans rfl; have hcz22_1 : w19.cell? ⟨gb372, 1, none⟩ = some (.slice none 0 0) := (qQ BK372.out 1).trans rfl; have hfz22_0 := qL BK372.out 0; have hfz22_1 := qL BK372.out 1; obtain ⟨Ao23, co23, eo23⟩ := Kd.R_slice HO370.out; subst eo23; have hcz24_0 : w19.cell? ⟨gb363, 0, none⟩ = some (.slice Ao16 x364000_1.length co16) := (qQ BK363.out 0).trans rfl; have hcz24_1 : w19.cell? ⟨gb363, 1, none⟩ = some (.slice Ao17 x364001_1.length co17) := (qQ BK363.out 1).trans rfl; have hfz24_0 := qL BK363.out 0; have hfz24_1 := qL BK363.out 1)))
              go_roundg k1
              case measure => have := HK1.out; omega
              case rel => exact ⟨(t371), (t365), (t368), (.slice Ao20 t365.length co20), (.slice Ao23 t368.length co23), (by first | rfl | (simp; done) | (simp [*]; done)), H', ⟨by have := HK1.out; omega⟩, ⟨by (with_reducible repeat (first | apply qJ | apply qI | apply qK)); exact qU (qP (p := ⟨gb363, 1, none⟩) (qP (p := ⟨gb363, 0, none⟩) (qP (p := ⟨gb372, 1, none⟩) (qP (p := ⟨gb372, 0, none⟩) (qV (qV HO_4.out BK372.out (by decide)) BK363.out (by decide)) (fun _ hk => hk.1.2) (.slice Ao20 t365.length co20)) (fun _ hk => hk.1.2) (.slice Ao23 t368.length co23)) (fun _ hk => hk.2) (.slice Ao20 t365.length co20)) (fun _ hk => hk.2) (.slice Ao23 t368.length co23)) (fun _ hk => trivial)⟩, ⟨by (with_reducible repeat (first | apply qJ | apply qI | apply qK)); exact qU (qP (p := ⟨gb363, 1, none⟩) (qP (p := ⟨gb363, 0, none⟩) (qP (p := ⟨gb372, 1, none⟩) (qP (p := ⟨gb372, 0, none⟩) (qV (qV HO367.out BK372.out (by decide)) BK363.out (by decide)) (fun _ hk => hk.1.2) (.slice Ao20 t365.length co20)) (fun _ hk => hk.1.2) (.slice Ao23 t368.length co23)) (fun _ hk => hk.2) (.slice Ao20 t365.length co20)) (fun _ hk => hk.2) (.slice Ao23 t368.length co23)) (fun _ hk => trivial)⟩, ⟨by (with_reducible repeat (first | apply qJ | apply qI | apply qK)); exact qU (qP (p := ⟨gb363, 1, none⟩) (qP (p := ⟨gb363, 0, none⟩) (qP (p := ⟨gb372, 1, none⟩) (qP (p := ⟨gb372, 0, none⟩) (qV (qV HO370.out BK372.out (by decide)) BK363.out (by decide)) (fun _ hk => hk.1.2) (.slice Ao20 t365.length co20)) (fun _ hk => hk.1.2) (.slice Ao23 t368.length co23)) (fun _ hk => hk.2) (.slice Ao20 t365.length co20)) (fun _ hk => hk.2) (.slice Ao23 t368.length co23)) (fun _ hk => trivial)⟩, ⟨by (with_reducible repeat (first | refine qE ?_ _ | refine qH ?_ | refine qD ?_ _)); refine qY (cs := #[.slice Ao20 t365.length co20, .slice Ao17 x364001_1.length co17]) ?_ 1 _ rfl; (with_reducible repeat (first | refine qE ?_ _ | refine qH ?_ | refine qD ?_ _)); refine qY (cs := #[.slice Ao16 x364000_1.length co16, .slice Ao17 x364001_1.length co17]) ?_ 0 _ rfl; (with_reducible repeat (first | refine qE ?_ _ | refine qH ?_ | refine qD ?_ _)); refine blk_far ?_ NB363_372.out _; (with_reducible repeat (first | refine qE ?_ _ | refine qH ?_ | refine qD ?_ _)); refine blk_far ?_ NB363_372.out _; (with_reducible repeat (first | refine qE ?_ _ | refine qH ?_ | refine qD ?_ _)); exact BK363.out⟩, ⟨by repeat (first | (with_reducible first | exact HB.out | apply qG | apply qB | apply qF | refine qC ?_ GE363.out | refine qC ?_ GE372.out) | exact HB.out)⟩⟩
            · rw [if_neg c12] at H
              have c12b0 : ((rd t360 x6_1) == 92) = false := beq_eq_false_iff_ne.mpr c12
              have c12b1 : ((rd t360 x6_1) != 92) = true := bne_iff_ne.mpr c12
              have HC25 := qA H
              clear H
              obtain ⟨Ao26, co26, eo26⟩ := Kd.R_slice HO_4.out
              subst eo26
              have p364 : 0 ≤ (x6_1 : Int) := of_decide_eq_true (by first | (with_reducible assumption) | assumption)
              have q364 : x6_1 < (t360.length : Int) := of_decide_eq_true (by first | (with_reducible assumption) | assumption)
              obtain ⟨ad364, e364, hx364_0⟩ := Kd.at_int (Kd.R_reads' HO_4.out).2.2 x6_1 p364 q364
              cases e364
              replace p364 := eq_true p364
              replace q364 := eq_true q364
              go_upto_region 10 with (fail)
              repeat (go_quiet (fail); go_upto_region 10 with (fail))
              go_cut [39] (fun v39 wc => ∃ (kq : Nat) (x39_24 : Bool), v39 = .bool x39_24 ∧ Aside0 (flongref04_Scan.j1 kq t360 x6_1 (rd t360 x6_1) x39_24 x364000_1 x364001_1 = some (r1, r2)) ∧ Aside0 (kq ≤ k1) ∧ Aside0 (Kd.R (Kd.int .i32) 21 wc w.heap.size (fun _ => True) (.slice (some ad364) t360.length co26) t360) ∧ Aside0 (Kd.R k38 38 wc w.heap.size (fun _ => True) u364000 x364000_1) ∧ Aside0 (Kd.R k41 41 wc w.heap.size (fun _ => True) u364001 x364001_1) ∧ Aside0 (wc.heap[gb363]? = some (.cells #[u364000, u364001] 70 (0, 0))) ∧ Aside0 (Below w.heap.size w wc))
              case first =>
                have H := HC25.out
                clear HC25
                by_cases c27 : (rd t360 x6_1) = 32
                · rw [if_pos c27] at H
                  have c27b0 : ((rd t360 x6_1) == 32) = true := beq_iff_eq.mpr c27
                  have c27b1 : ((rd t360 x6_1) != 32) = false := bne_eq_false_iff_eq.mpr c27
                  clear c27
                  (first | rw [c27b0] | (simp only [i64_w, i32_w]; rw [c27b0]) | skip)
                  have H' := qA H
                  clear H
                  go_wp2
                  repeat (go_quiet (fail); try go_wp2)
                  go_meet
                  case rel => exact ⟨_, (true), (by first | rfl | (simp; done) | (simp [*]; done)), H', ⟨by have := HK1.out; first | omega | exact Nat.le_refl _⟩, ⟨by (with_reducible repeat (first | apply qJ | apply qI | apply qK)); exact HO_4.out⟩, ⟨by (with_reducible repeat (first | apply qJ | apply qI | apply qK)); exact HO_364000.out⟩, ⟨by (with_reducible repeat (first | apply qJ | apply qI | apply qK)); exact HO_364001.out⟩, ⟨by (with_reducible repeat (first | refine qE ?_ _ | refine qH ?_ | refine qD ?_ _)); exact BK363.out⟩, ⟨by repeat (first | (with_reducible first | exact HB.out | apply qG | apply qB | apply qF | refine qC ?_ GE363.out) | exact HB.out)⟩⟩
                · rw [if_neg c27] at H
                  have c27b0 : ((rd t360 x6_1) == 32) = false := beq_eq_false_iff_ne.mpr c27
                  have c27b1 : ((rd t360 x6_1) != 32) = true := bne_iff_ne.mpr c27
                  (first | rw [c27b0] | (simp only [i64_w, i32_w]; rw [c27b0]) | skip)
                  have H' := qA H
                  clear H
                  go_wp2
                  repeat (go_quiet (fail); try go_wp2)
                  go_meet
                  case rel => exact ⟨_, (((rd t360 x6_1) == 9)), (by first | rfl | (simp; done) | (simp [*]; done)), H', ⟨by have := HK1.out; first | omega | exact Nat.le_refl _⟩, ⟨by (with_reducible repeat (first | apply qJ | apply qI | apply qK)); exact HO_4.out⟩, ⟨by (with_reducible repeat (first | apply qJ | apply qI | apply qK)); exact HO_364000.out⟩, ⟨by (with_reducible repeat (first | apply qJ | apply qI | apply qK)); exact HO_364001.out⟩, ⟨by (with_reducible repeat (first | refine qE ?_ _ | refine qH ?_ | refine qD ?_ _)); exact BK363.out⟩, ⟨by repeat (first | (with_reducible first | exact HB.out | apply qG | apply qB | apply qF | refine qC ?_ GE363.out) | exact HB.out)⟩⟩
              case rest =>
                clear HC25
                try clear c1
                try clear c2
                try clear c2b0
                try clear c2b1
                try clear c2b2
                try clear p2
                try clear p3
                try clear q3
                try clear hx3
                try clear p6
                try clear c10
                try clear c10b0
                try clear c11
                try clear c11b0
                try clear c12
                try clear c12b0
                try clear c12b1
                try clear c16
                try clear c21
                try clear c27
                try clear c27b0
                try clear c27b1
                try clear hcz15_0
                try clear hcz15_1
                try clear hcz22_0
                try clear hcz22_1
                try clear hcz24_0
                try clear hcz24_1
                try clear hcz9_0
                try clear hcz9_1
                try clear hfz15_0
                try clear hfz15_1
                try clear hfz22_0
                try clear hfz22_1
                try clear hfz24_0
                try clear hfz24_1
                try clear hfz9_0
                try clear hfz9_1
                try clear hx364_0
                try clear p2
                try clear p364
                try clear q364
                obtain ⟨kq, x39_24, rfl, HA, HJ24, HO_4, HO_364000, HO_364001, BK363, HB⟩ := hcut
                cases kq with
                | zero => exact absurd HA.out (by simp [flongref04_Scan.j1])
                | succ kj24 =>
                  have H := HA.out
                  clear HA
                  simp only [flongref04_Scan.j1] at H
                  by_cases c28 : x39_24 = true
                  · subst c28
                    have H1 : ((flongref04_say.f x364000_1 x364001_1 2 0).bind fun bt373 => (flongref04_Scan.l0 kj24 t360 (wrap64 (x6_1 + 1)) bt373.1 bt373.2)) = some (r1, r2) := by rw [if_pos rfl] at H; exact H
                    clear H
                    have H := H1
                    clear H1
                    replace H := Option.bind_eq_some_iff.mp H
                    obtain ⟨⟨t373, t376⟩, A290, H⟩ := H
                    replace H : (flongref04_Scan.l0 kj24 t360 (wrap64 (x6_1 + 1)) t373 t376) = some (r1, r2) := H
                    have A29 := qA A290
                    clear A290
                    have H' := qA H
                    clear H
                    have hcz30_0 : wc.cell? ⟨gb363, 0, none⟩ = some (u364000) := (qQ BK363.out 0).trans rfl
                    have hcz30_1 : wc.cell? ⟨gb363, 1, none⟩ = some (u364001) := (qQ BK363.out 1).trans rfl
                    have hfz30_0 := qL BK363.out 0
                    have hfz30_1 := qL BK363.out 1
                    obtain ⟨Ao31, co31, eo31⟩ := Kd.R_slice HO_364000.out
                    subst eo31
                    obtain ⟨Ao32, co32, eo32⟩ := Kd.R_slice HO_364001.out
                    subst eo32
                    go_wp2_with (first | (go_at_call 45; (with_reducible refine (flongref04_say.calls (fun k_ => some k_ = (.slice Ao31 x364000_1.length co31 : Value).ownBlock) (.slice Ao31 x364000_1.length co31) x364000_1 (fun k_ => some k_ = (.slice Ao32 x364001_1.length co32 : Value).ownBlock) (.slice Ao32 x364001_1.length co32) x364001_1 2 0 t373 t376 w _ ?side1 ?side2 ?side3 A29.out).mono ?_); (case side1 => repeat (first | (with_reducible first | exact HB.out | apply qG | apply qB | apply qF | refine qC ?_ GE363.out) | exact HB.out)); (case side2 => exact Kd.R_tight rfl HO_364000.out); (case side3 => exact Kd.R_tight rfl HO_364001.out); rintro e w33 ⟨v374, v377, rfl, ho0, ho1, hb, hkp⟩; have n0_ := qA (qU (ok' := fun k_ => True) (Kd.R_keptB ((Kd.R_apart' (Kd.R_apart' HO_4.out (Kd.R_typed HO_364000.out) (by decide)) (Kd.R_typed HO_364001.out) (by decide))) hkp (fun k_ hk_ hs_ => Or.elim hs_ (fun e_ => (hk_.1.2) e_) (fun e_ => (hk_.2) e_))) (fun k_ hk_ => trivial)); have n1_ := qA (blk_kept (by (with_reducible repeat (first | refine qE ?_ _ | refine qH ?_ | refine qD ?_ _)); exact BK363.out) hkp (fun hs_ => Or.elim hs_ (fun e_ => (fun e_ => (Kd.R_ne HO_364000.out BK363.out (by decide)) e_) e_) (fun e_ => (fun e_ => (Kd.R_ne HO_364001.out BK363.out (by decide)) e_) e_))); have n2_ := qA (qU (ok' := fun k_ => True) ho0 (fun k_ hk_ => trivial)); have n3_ := qA (qU (ok' := fun k_ => True) ho1 (fun k_ hk_ => trivial)); have n4_ := qA (hb); clear HO_4; clear BK363; clear HB; clear HO_364000; clear HO_364001; have HO_4 := n0_; have BK363 := n1_; have HO375 := n2_; have HO378 := n3_; have HB := n4_; clear n0_ n1_ n2_ n3_ n4_; (try clear hb); (try clear hkp); (try clear ho0); (try clear ho1); obtain ⟨Ao34, co34, eo34⟩ := Kd.R_slice HO375.out; subst eo34; have hcz35_0 : w33.cell? ⟨gb363, 0, none⟩ = some (.slice Ao31 x364000_1.length co31) := (qQ BK363.out 0).trans rfl; have hcz35_1 : w33.cell? ⟨gb363, 1, none⟩ = some (.slice Ao32 x364001_1.length co32) := (qQ BK363.out 1).trans rfl; have hfz35_0 := qL BK363.out 0; have hfz35_1 := qL BK363.out 1; obtain ⟨Ao36, co36, eo36⟩ := Kd.R_slice HO378.out; subst eo36))
                    repeat (go_quiet (first | (go_at_call 45; (with_reducible refine (flongref04_say.calls (fun k_ => some k_ = (.slice Ao31 x364000_1.length co31 : Value).ownBlock) (.slice Ao31 x364000_1.length co31) x364000_1 (fun k_ => some k_ = (.slice Ao32 x364001_1.length co32 : Value).ownBlock) (.slice Ao32 x364001_1.length co32) x364001_1 2 0 t373 t376 w _ ?side1 ?side2 ?side3 A29.out).mono ?_); (case side1 => repeat (first | (with_reducible first | exact HB.out | apply qG | apply qB | apply qF | refine qC ?_ GE363.out) | exact HB.out)); (case side2 => exact Kd.R_tight rfl HO_364000.out); (case side3 => exact Kd.R_tight rfl HO_364001.out); rintro e w33 ⟨v374, v377, rfl, ho0, ho1, hb, hkp⟩; have n0_ := qA (qU (ok' := fun k_ => True) (Kd.R_keptB ((Kd.R_apart' (Kd.R_apart' HO_4.out (Kd.R_typed HO_364000.out) (by decide)) (Kd.R_typed HO_364001.out) (by decide))) hkp (fun k_ hk_ hs_ => Or.elim hs_ (fun e_ => (hk_.1.2) e_) (fun e_ => (hk_.2) e_))) (fun k_ hk_ => trivial)); have n1_ := qA (blk_kept (by (with_reducible repeat (first | refine qE ?_ _ | refine qH ?_ | refine qD ?_ _)); exact BK363.out) hkp (fun hs_ => Or.elim hs_ (fun e_ => (fun e_ => (Kd.R_ne HO_364000.out BK363.out (by decide)) e_) e_) (fun e_ => (fun e_ => (Kd.R_ne HO_364001.out BK363.out (by decide)) e_) e_))); have n2_ := qA (qU (ok' := fun k_ => True) ho0 (fun k_ hk_ => trivial)); have n3_ := qA (qU (ok' := fun k_ => True) ho1 (fun k_ hk_ => trivial)); have n4_ := qA (hb); clear HO_4; clear BK363; clear HB; clear HO_364000; clear HO_364001; have HO_4 := n0_; have BK363 := n1_; have HO375 := n2_; have HO378 := n3_; have HB := n4_; clear n0_ n1_ n2_ n3_ n4_; (try clear hb); (try clear hkp); (try clear ho0); (try clear ho1); obtain ⟨Ao34, co34, eo34⟩ := Kd.R_slice HO375.out; subst eo34; have hcz35_0 : w33.cell? ⟨gb363, 0, none⟩ = some (.slice Ao31 x364000_1.length co31) := (qQ BK363.out 0).trans rfl; have hcz35_1 : w33.cell? ⟨gb363, 1, none⟩ = some (.slice Ao32 x364001_1.length co32) := (qQ BK363.out 1).trans rfl; have hfz35_0 := qL BK363.out 0; have hfz35_1 := qL BK363.out 1; obtain ⟨Ao36, co36, eo36⟩ := Kd.R_slice HO378.out; subst eo36)); try go_wp2_with (first | (go_at_call 45; (with_reducible refine (flongref04_say.calls (fun k_ => some k_ = (.slice Ao31 x364000_1.length co31 : Value).ownBlock) (.slice Ao31 x364000_1.length co31) x364000_1 (fun k_ => some k_ = (.slice Ao32 x364001_1.length co32 : Value).ownBlock) (.slice Ao32 x364001_1.length co32) x364001_1 2 0 t373 t376 w _ ?side1 ?side2 ?side3 A29.out).mono ?_); (case side1 => repeat (first | (with_reducible first | exact HB.out | apply qG | apply qB | apply qF | refine qC ?_ GE363.out) | exact HB.out)); (case side2 => exact Kd.R_tight rfl HO_364000.out); (case side3 => exact Kd.R_tight rfl HO_364001.out); rintro e w33 ⟨v374, v377, rfl, ho0, ho1, hb, hkp⟩; have n0_ := qA (qU (ok' := fun k_ => True) (Kd.R_keptB ((Kd.R_apart' (Kd.R_apart' HO_4.out (Kd.R_typed HO_364000.out) (by decide)) (Kd.R_typed HO_364001.out) (by decide))) hkp (fun k_ hk_ hs_ => Or.elim hs_ (fun e_ => (hk_.1.2) e_) (fun e_ => (hk_.2) e_))) (fun k_ hk_ => trivial)); have n1_ := qA (blk_kept (by (with_reducible repeat (first | refine qE ?_ _ | refine qH ?_ | refine qD ?_ _)); exact BK363.out) hkp (fun hs_ => Or.elim hs_ (fun e_ => (fun e_ => (Kd.R_ne HO_364000.out BK363.out (by decide)) e_) e_) (fun e_ => (fun e_ => (Kd.R_ne HO_364001.out BK363.out (by decide)) e_) e_))); have n2_ := qA (qU (ok' := fun k_ => True) ho0 (fun k_ hk_ => trivial)); have n3_ := qA (qU (ok' := fun k_ => True) ho1 (fun k_ hk_ => trivial)); have n4_ := qA (hb); clear HO_4; clear BK363; clear HB; clear HO_364000; clear HO_364001; have HO_4 := n0_; have BK363 := n1_; have HO375 := n2_; have HO378 := n3_; have HB := n4_; clear n0_ n1_ n2_ n3_ n4_; (try clear hb); (try clear hkp); (try clear ho0); (try clear ho1); obtain ⟨Ao34, co34, eo34⟩ := Kd.R_slice HO375.out; subst eo34; have hcz35_0 : w33.cell? ⟨gb363, 0, none⟩ = some (.slice Ao31 x364000_1.length co31) := (qQ BK363.out 0).trans rfl; have hcz35_1 : w33.cell? ⟨gb363, 1, none⟩ = some (.slice Ao32 x364001_1.length co32) := (qQ BK363.out 1).trans rfl; have hfz35_0 := qL BK363.out 0; have hfz35_1 := qL BK363.out 1; obtain ⟨Ao36, co36, eo36⟩ := Kd.R_slice HO378.out; subst eo36)))
                    go_roundg kj24
                    case measure => have := HK1.out; have := HJ24.out; omega
                    case rel => exact ⟨(wrap64 (x6_1 + 1)), (t373), (t376), (.slice Ao34 t373.length co34), (.slice Ao36 t376.length co36), (by first | rfl | (simp; done) | (simp [*]; done)), H', ⟨by have := HK1.out; have := HJ24.out; omega⟩, ⟨by (with_reducible repeat (first | apply qJ | apply qI | apply qK)); exact qU (qP (p := ⟨gb363, 1, none⟩) (qP (p := ⟨gb363, 0, none⟩) (qV HO_4.out BK363.out (by decide)) (fun _ hk => hk.2) (.slice Ao34 t373.length co34)) (fun _ hk => hk.2) (.slice Ao36 t376.length co36)) (fun _ hk => trivial)⟩, ⟨by (with_reducible repeat (first | apply qJ | apply qI | apply qK)); exact qU (qP (p := ⟨gb363, 1, none⟩) (qP (p := ⟨gb363, 0, none⟩) (qV HO375.out BK363.out (by decide)) (fun _ hk => hk.2) (.slice Ao34 t373.length co34)) (fun _ hk => hk.2) (.slice Ao36 t376.length co36)) (fun _ hk => trivial)⟩, ⟨by (with_reducible repeat (first | apply qJ | apply qI | apply qK)); exact qU (qP (p := ⟨gb363, 1, none⟩) (qP (p := ⟨gb363, 0, none⟩) (qV HO378.out BK363.out (by decide)) (fun _ hk => hk.2) (.slice Ao34 t373.length co34)) (fun _ hk => hk.2) (.slice Ao36 t376.length co36)) (fun _ hk => trivial)⟩, ⟨by (with_reducible repeat (first | refine qE ?_ _ | refine qH ?_ | refine qD ?_ _)); refine qY (cs := #[.slice Ao34 t373.length co34, .slice Ao32 x364001_1.length co32]) ?_ 1 _ rfl; (with_reducible repeat (first | refine qE ?_ _ | refine qH ?_ | refine qD ?_ _)); refine qY (cs := #[.slice Ao31 x364000_1.length co31, .slice Ao32 x364001_1.length co32]) ?_ 0 _ rfl; (with_reducible repeat (first | refine qE ?_ _ | refine qH ?_ | refine qD ?_ _)); exact BK363.out⟩, ⟨by repeat (first | (with_reducible first | exact HB.out | apply qG | apply qB | apply qF | refine qC ?_ GE363.out) | exact HB.out)⟩⟩
                  · replace c28 := Bool.eq_false_iff.mpr c28
                    subst c28
                    have H1 : ((flongref02_Control.f (rd t360 x6_1)).bind fun t379 => (if t379 = true then ((flongref04_say.f x364000_1 x364001_1 1 65533).bind fun bt380 => ((flongref04_tell.f bt380.1 bt380.2 3 x6_1).bind fun bt386 => (flongref04_Scan.l0 kj24 t360 (wrap64 (x6_1 + 1)) bt386.1 bt386.2))) else ((flongref04_say.f x364000_1 x364001_1 1 (rd t360 x6_1)).bind fun bt392 => (flongref04_Scan.l0 kj24 t360 (wrap64 (x6_1 + 1)) bt392.1 bt392.2)))) = some (r1, r2) := by rw [if_neg (show ¬ (false = true) by decide)] at H; exact H
                    clear H
                    have H := H1
                    clear H1
                    replace H := Option.bind_eq_some_iff.mp H
                    obtain ⟨t379, A370, H⟩ := H
                    replace H : (if t379 = true then ((flongref04_say.f x364000_1 x364001_1 1 65533).bind fun bt380 => ((flongref04_tell.f bt380.1 bt380.2 3 x6_1).bind fun bt386 => (flongref04_Scan.l0 kj24 t360 (wrap64 (x6_1 + 1)) bt386.1 bt386.2))) else ((flongref04_say.f x364000_1 x364001_1 1 (rd t360 x6_1)).bind fun bt392 => (flongref04_Scan.l0 kj24 t360 (wrap64 (x6_1 + 1)) bt392.1 bt392.2))) = some (r1, r2) := H
                    have A37 := qA A370
                    clear A370
                    by_cases c38 : t379 = true
                    · subst c38
                      have H1 : ((flongref04_say.f x364000_1 x364001_1 1 65533).bind fun bt380 => ((flongref04_tell.f bt380.1 bt380.2 3 x6_1).bind fun bt386 => (flongref04_Scan.l0 kj24 t360 (wrap64 (x6_1 + 1)) bt386.1 bt386.2))) = some (r1, r2) := by rw [if_pos rfl] at H; exact H
                      clear H
                      have H := H1
                      clear H1
                      replace H := Option.bind_eq_some_iff.mp H
                      obtain ⟨⟨t380, t383⟩, A390, H⟩ := H
                      replace H : ((flongref04_tell.f t380 t383 3 x6_1).bind fun bt386 => (flongref04_Scan.l0 kj24 t360 (wrap64 (x6_1 + 1)) bt386.1 bt386.2)) = some (r1, r2) := H
                      have A39 := qA A390
                      clear A390
                      replace H := Option.bind_eq_some_iff.mp H
                      obtain ⟨⟨t386, t389⟩, A400, H⟩ := H
                      replace H : (flongref04_Scan.l0 kj24 t360 (wrap64 (x6_1 + 1)) t386 t389) = some (r1, r2) := H
                      have A40 := qA A400
                      clear A400
                      have H' := qA H
                      clear H
                      go_wp2_with (first | (go_at_call 27; (with_reducible refine (flongref02_Control.calls (rd t360 x6_1) true _ A37.out).mono ?_); rintro e w' ⟨rfl, ⟨nd, rfl⟩⟩; (try first | exact ⟨rfl, _, World.drewN_drewN _ _ _⟩ | exact ⟨rfl, _, Eq.trans (World.drewN_drewN _ _ _) (congrArg (World.drewN _) (Nat.add_assoc _ _ _))⟩); have hcz41_0 : wc.cell? ⟨gb363, 0, none⟩ = some (u364000) := (qQ BK363.out 0).trans rfl; have hcz41_1 : wc.cell? ⟨gb363, 1, none⟩ = some (u364001) := (qQ BK363.out 1).trans rfl; have hfz41_0 := qL BK363.out 0; have hfz41_1 := qL BK363.out 1; obtain ⟨Ao42, co42, eo42⟩ := Kd.R_slice HO_364000.out; subst eo42; obtain ⟨Ao43, co43, eo43⟩ := Kd.R_slice HO_364001.out; subst eo43) | (go_at_call 45; (with_reducible refine (flongref04_say.calls (fun k_ => some k_ = (.slice Ao42 x364000_1.length co42 : Value).ownBlock) (.slice Ao42 x364000_1.length co42) x364000_1 (fun k_ => some k_ = (.slice Ao43 x364001_1.length co43 : Value).ownBlock) (.slice Ao43 x364001_1.length co43) x364001_1 1 65533 t380 t383 w _ ?side1 ?side2 ?side3 A39.out).mono ?_); (case side1 => repeat (first | (with_reducible first | exact HB.out | apply qG | apply qB | apply qF | refine qC ?_ GE363.out) | exact HB.out)); (case side2 => exact Kd.R_tight rfl HO_364000.out); (case side3 => exact Kd.R_tight rfl HO_364001.out); rintro e w44 ⟨v381, v384, rfl, ho0, ho1, hb, hkp⟩; have n0_ := qA (qU (ok' := fun k_ => True) (Kd.R_keptB ((Kd.R_apart' (Kd.R_apart' HO_4.out (Kd.R_typed HO_364000.out) (by decide)) (Kd.R_typed HO_364001.out) (by decide))) hkp (fun k_ hk_ hs_ => Or.elim hs_ (fun e_ => (hk_.1.2) e_) (fun e_ => (hk_.2) e_))) (fun k_ hk_ => trivial)); have n1_ := qA (blk_kept (by (with_reducible repeat (first | refine qE ?_ _ | refine qH ?_ | refine qD ?_ _)); exact BK363.out) hkp (fun hs_ => Or.elim hs_ (fun e_ => (fun e_ => (Kd.R_ne HO_364000.out BK363.out (by decide)) e_) e_) (fun e_ => (fun e_ => (Kd.R_ne HO_364001.out BK363.out (by decide)) e_) e_))); have n2_ := qA (qU (ok' := fun k_ => True) ho0 (fun k_ hk_ => trivial)); have n3_ := qA (qU (ok' := fun k_ => True) ho1 (fun k_ hk_ => trivial)); have n4_ := qA (hb); clear HO_4; clear BK363; clear HB; clear HO_364000; clear HO_364001; have HO_4 := n0_; have BK363 := n1_; have HO382 := n2_; have HO385 := n3_; have HB := n4_; clear n0_ n1_ n2_ n3_ n4_; (try clear hb); (try clear hkp); (try clear ho0); (try clear ho1); obtain ⟨Ao45, co45, eo45⟩ := Kd.R_slice HO382.out; subst eo45; obtain ⟨Ao46, co46, eo46⟩ := Kd.R_slice HO385.out; subst eo46) | (go_at_call 46; (with_reducible refine (flongref04_tell.calls (fun k_ => some k_ = (.slice Ao45 t380.length co45 : Value).ownBlock) (.slice Ao45 t380.length co45) t380 (fun k_ => some k_ = (.slice Ao46 t383.length co46 : Value).ownBlock) (.slice Ao46 t383.length co46) t383 3 x6_1 t386 t389 w _ ?side1 ?side2 ?side3 A40.out).mono ?_); (case side1 => repeat (first | (with_reducible first | exact HB.out | apply qG | apply qB | apply qF | refine qC ?_ GE363.out) | exact HB.out)); (case side2 => exact Kd.R_tight rfl HO382.out); (case side3 => exact Kd.R_tight rfl HO385.out); rintro e w47 ⟨v387, v390, rfl, ho0, ho1, hb, hkp⟩; have n0_ := qA (qU (ok' := fun k_ => True) (Kd.R_keptB ((Kd.R_apart' (Kd.R_apart' HO_4.out (Kd.R_typed HO382.out) (by decide)) (Kd.R_typed HO385.out) (by decide))) hkp (fun k_ hk_ hs_ => Or.elim hs_ (fun e_ => (hk_.1.2) e_) (fun e_ => (hk_.2) e_))) (fun k_ hk_ => trivial)); have n1_ := qA (blk_kept (by (with_reducible repeat (first | refine qE ?_ _ | refine qH ?_ | refine qD ?_ _)); exact BK363.out) hkp (fun hs_ => Or.elim hs_ (fun e_ => (fun e_ => (Kd.R_ne HO382.out BK363.out (by decide)) e_) e_) (fun e_ => (fun e_ => (Kd.R_ne HO385.out BK363.out (by decide)) e_) e_))); have n2_ := qA (qU (ok' := fun k_ => True) ho0 (fun k_ hk_ => trivial)); have n3_ := qA (qU (ok' := fun k_ => True) ho1 (fun k_ hk_ => trivial)); have n4_ := qA (hb); clear HO_4; clear BK363; clear HB; clear HO382; clear HO385; have HO_4 := n0_; have BK363 := n1_; have HO388 := n2_; have HO391 := n3_; have HB := n4_; clear n0_ n1_ n2_ n3_ n4_; (try clear hb); (try clear hkp); (try clear ho0); (try clear ho1); obtain ⟨Ao48, co48, eo48⟩ := Kd.R_slice HO388.out; subst eo48; have hcz49_0 : w47.cell? ⟨gb363, 0, none⟩ = some (.slice Ao42 x364000_1.length co42) := (qQ BK363.out 0).trans rfl; have hcz49_1 : w47.cell? ⟨gb363, 1, none⟩ = some (.slice Ao43 x364001_1.length co43) := (qQ BK363.out 1).trans rfl; have hfz49_0 := qL BK363.out 0; have hfz49_1 := qL BK363.out 1; obtain ⟨Ao50, co50, eo50⟩ := Kd.R_slice HO391.out; subst eo50))
                      repeat (go_quiet (first | (go_at_call 27; (with_reducible refine (flongref02_Control.calls (rd t360 x6_1) true _ A37.out).mono ?_); rintro e w' ⟨rfl, ⟨nd, rfl⟩⟩; (try first | exact ⟨rfl, _, World.drewN_drewN _ _ _⟩ | exact ⟨rfl, _, Eq.trans (World.drewN_drewN _ _ _) (congrArg (World.drewN _) (Nat.add_assoc _ _ _))⟩); have hcz41_0 : wc.cell? ⟨gb363, 0, none⟩ = some (u364000) := (qQ BK363.out 0).trans rfl; have hcz41_1 : wc.cell? ⟨gb363, 1, none⟩ = some (u364001) := (qQ BK363.out 1).trans rfl; have hfz41_0 := qL BK363.out 0; have hfz41_1 := qL BK363.out 1; obtain ⟨Ao42, co42, eo42⟩ := Kd.R_slice HO_364000.out; subst eo42; obtain ⟨Ao43, co43, eo43⟩ := Kd.R_slice HO_364001.out; subst eo43) | (go_at_call 45; (with_reducible refine (flongref04_say.calls (fun k_ => some k_ = (.slice Ao42 x364000_1.length co42 : Value).ownBlock) (.slice Ao42 x364000_1.length co42) x364000_1 (fun k_ => some k_ = (.slice Ao43 x364001_1.length co43 : Value).ownBlock) (.slice Ao43 x364001_1.length co43) x364001_1 1 65533 t380 t383 w _ ?side1 ?side2 ?side3 A39.out).mono ?_); (case side1 => repeat (first | (with_reducible first | exact HB.out | apply qG | apply qB | apply qF | refine qC ?_ GE363.out) | exact HB.out)); (case side2 => exact Kd.R_tight rfl HO_364000.out); (case side3 => exact Kd.R_tight rfl HO_364001.out); rintro e w44 ⟨v381, v384, rfl, ho0, ho1, hb, hkp⟩; have n0_ := qA (qU (ok' := fun k_ => True) (Kd.R_keptB ((Kd.R_apart' (Kd.R_apart' HO_4.out (Kd.R_typed HO_364000.out) (by decide)) (Kd.R_typed HO_364001.out) (by decide))) hkp (fun k_ hk_ hs_ => Or.elim hs_ (fun e_ => (hk_.1.2) e_) (fun e_ => (hk_.2) e_))) (fun k_ hk_ => trivial)); have n1_ := qA (blk_kept (by (with_reducible repeat (first | refine qE ?_ _ | refine qH ?_ | refine qD ?_ _)); exact BK363.out) hkp (fun hs_ => Or.elim hs_ (fun e_ => (fun e_ => (Kd.R_ne HO_364000.out BK363.out (by decide)) e_) e_) (fun e_ => (fun e_ => (Kd.R_ne HO_364001.out BK363.out (by decide)) e_) e_))); have n2_ := qA (qU (ok' := fun k_ => True) ho0 (fun k_ hk_ => trivial)); have n3_ := qA (qU (ok' := fun k_ => True) ho1 (fun k_ hk_ => trivial)); have n4_ := qA (hb); clear HO_4; clear BK363; clear HB; clear HO_364000; clear HO_364001; have HO_4 := n0_; have BK363 := n1_; have HO382 := n2_; have HO385 := n3_; have HB := n4_; clear n0_ n1_ n2_ n3_ n4_; (try clear hb); (try clear hkp); (try clear ho0); (try clear ho1); obtain ⟨Ao45, co45, eo45⟩ := Kd.R_slice HO382.out; subst eo45; obtain ⟨Ao46, co46, eo46⟩ := Kd.R_slice HO385.out; subst eo46) | (go_at_call 46; (with_reducible refine (flongref04_tell.calls (fun k_ => some k_ = (.slice Ao45 t380.length co45 : Value).ownBlock) (.slice Ao45 t380.length co45) t380 (fun k_ => some k_ = (.slice Ao46 t383.length co46 : Value).ownBlock) (.slice Ao46 t383.length co46) t383 3 x6_1 t386 t389 w _ ?side1 ?side2 ?side3 A40.out).mono ?_); (case side1 => repeat (first | (with_reducible first | exact HB.out | apply qG | apply qB | apply qF | refine qC ?_ GE363.out) | exact HB.out)); (case side2 => exact Kd.R_tight rfl HO382.out); (case side3 => exact Kd.R_tight rfl HO385.out); rintro e w47 ⟨v387, v390, rfl, ho0, ho1, hb, hkp⟩; have n0_ := qA (qU (ok' := fun k_ => True) (Kd.R_keptB ((Kd.R_apart' (Kd.R_apart' HO_4.out (Kd.R_typed HO382.out) (by decide)) (Kd.R_typed HO385.out) (by decide))) hkp (fun k_ hk_ hs_ => Or.elim hs_ (fun e_ => (hk_.1.2) e_) (fun e_ => (hk_.2) e_))) (fun k_ hk_ => trivial)); have n1_ := qA (blk_kept (by (with_reducible repeat (first | refine qE ?_ _ | refine qH ?_ | refine qD ?_ _)); exact BK363.out) hkp (fun hs_ => Or.elim hs_ (fun e_ => (fun e_ => (Kd.R_ne HO382.out BK363.out (by decide)) e_) e_) (fun e_ => (fun e_ => (Kd.R_ne HO385.out BK363.out (by decide)) e_) e_))); have n2_ := qA (qU (ok' := fun k_ => True) ho0 (fun k_ hk_ => trivial)); have n3_ := qA (qU (ok' := fun k_ => True) ho1 (fun k_ hk_ => trivial)); have n4_ := qA (hb); clear HO_4; clear BK363; clear HB; clear HO382; clear HO385; have HO_4 := n0_; have BK363 := n1_; have HO388 := n2_; have HO391 := n3_; have HB := n4_; clear n0_ n1_ n2_ n3_ n4_; (try clear hb); (try clear hkp); (try clear ho0); (try clear ho1); obtain ⟨Ao48, co48, eo48⟩ := Kd.R_slice HO388.out; subst eo48; have hcz49_0 : w47.cell? ⟨gb363, 0, none⟩ = some (.slice Ao42 x364000_1.length co42) := (qQ BK363.out 0).trans rfl; have hcz49_1 : w47.cell? ⟨gb363, 1, none⟩ = some (.slice Ao43 x364001_1.length co43) := (qQ BK363.out 1).trans rfl; have hfz49_0 := qL BK363.out 0; have hfz49_1 := qL BK363.out 1; obtain ⟨Ao50, co50, eo50⟩ := Kd.R_slice HO391.out; subst eo50)); try go_wp2_with (first | (go_at_call 27; (with_reducible refine (flongref02_Control.calls (rd t360 x6_1) true _ A37.out).mono ?_); rintro e w' ⟨rfl, ⟨nd, rfl⟩⟩; (try first | exact ⟨rfl, _, World.drewN_drewN _ _ _⟩ | exact ⟨rfl, _, Eq.trans (World.drewN_drewN _ _ _) (congrArg (World.drewN _) (Nat.add_assoc _ _ _))⟩); have hcz41_0 : wc.cell? ⟨gb363, 0, none⟩ = some (u364000) := (qQ BK363.out 0).trans rfl; have hcz41_1 : wc.cell? ⟨gb363, 1, none⟩ = some (u364001) := (qQ BK363.out 1).trans rfl; have hfz41_0 := qL BK363.out 0; have hfz41_1 := qL BK363.out 1; obtain ⟨Ao42, co42, eo42⟩ := Kd.R_slice HO_364000.out; subst eo42; obtain ⟨Ao43, co43, eo43⟩ := Kd.R_slice HO_364001.out; subst eo43) | (go_at_call 45; (with_reducible refine (flongref04_say.calls (fun k_ => some k_ = (.slice Ao42 x364000_1.length co42 : Value).ownBlock) (.slice Ao42 x364000_1.length co42) x364000_1 (fun k_ => some k_ = (.slice Ao43 x364001_1.length co43 : Value).ownBlock) (.slice Ao43 x364001_1.length co43) x364001_1 1 65533 t380 t383 w _ ?side1 ?side2 ?side3 A39.out).mono ?_); (case side1 => repeat (first | (with_reducible first | exact HB.out | apply qG | apply qB | apply qF | refine qC ?_ GE363.out) | exact HB.out)); (case side2 => exact Kd.R_tight rfl HO_364000.out); (case side3 => exact Kd.R_tight rfl HO_364001.out); rintro e w44 ⟨v381, v384, rfl, ho0, ho1, hb, hkp⟩; have n0_ := qA (qU (ok' := fun k_ => True) (Kd.R_keptB ((Kd.R_apart' (Kd.R_apart' HO_4.out (Kd.R_typed HO_364000.out) (by decide)) (Kd.R_typed HO_364001.out) (by decide))) hkp (fun k_ hk_ hs_ => Or.elim hs_ (fun e_ => (hk_.1.2) e_) (fun e_ => (hk_.2) e_))) (fun k_ hk_ => trivial)); have n1_ := qA (blk_kept (by (with_reducible repeat (first | refine qE ?_ _ | refine qH ?_ | refine qD ?_ _)); exact BK363.out) hkp (fun hs_ => Or.elim hs_ (fun e_ => (fun e_ => (Kd.R_ne HO_364000.out BK363.out (by decide)) e_) e_) (fun e_ => (fun e_ => (Kd.R_ne HO_364001.out BK363.out (by decide)) e_) e_))); have n2_ := qA (qU (ok' := fun k_ => True) ho0 (fun k_ hk_ => trivial)); have n3_ := qA (qU (ok' := fun k_ => True) ho1 (fun k_ hk_ => trivial)); have n4_ := qA (hb); clear HO_4; clear BK363; clear HB; clear HO_364000; clear HO_364001; have HO_4 := n0_; have BK363 := n1_; have HO382 := n2_; have HO385 := n3_; have HB := n4_; clear n0_ n1_ n2_ n3_ n4_; (try clear hb); (try clear hkp); (try clear ho0); (try clear ho1); obtain ⟨Ao45, co45, eo45⟩ := Kd.R_slice HO382.out; subst eo45; obtain ⟨Ao46, co46, eo46⟩ := Kd.R_slice HO385.out; subst eo46) | (go_at_call 46; (with_reducible refine (flongref04_tell.calls (fun k_ => some k_ = (.slice Ao45 t380.length co45 : Value).ownBlock) (.slice Ao45 t380.length co45) t380 (fun k_ => some k_ = (.slice Ao46 t383.length co46 : Value).ownBlock) (.slice Ao46 t383.length co46) t383 3 x6_1 t386 t389 w _ ?side1 ?side2 ?side3 A40.out).mono ?_); (case side1 => repeat (first | (with_reducible first | exact HB.out | apply qG | apply qB | apply qF | refine qC ?_ GE363.out) | exact HB.out)); (case side2 => exact Kd.R_tight rfl HO382.out); (case side3 => exact Kd.R_tight rfl HO385.out); rintro e w47 ⟨v387, v390, rfl, ho0, ho1, hb, hkp⟩; have n0_ := qA (qU (ok' := fun k_ => True) (Kd.R_keptB ((Kd.R_apart' (Kd.R_apart' HO_4.out (Kd.R_typed HO382.out) (by decide)) (Kd.R_typed HO385.out) (by decide))) hkp (fun k_ hk_ hs_ => Or.elim hs_ (fun e_ => (hk_.1.2) e_) (fun e_ => (hk_.2) e_))) (fun k_ hk_ => trivial)); have n1_ := qA (blk_kept (by (with_reducible repeat (first | refine qE ?_ _ | refine qH ?_ | refine qD ?_ _)); exact BK363.out) hkp (fun hs_ => Or.elim hs_ (fun e_ => (fun e_ => (Kd.R_ne HO382.out BK363.out (by decide)) e_) e_) (fun e_ => (fun e_ => (Kd.R_ne HO385.out BK363.out (by decide)) e_) e_))); have n2_ := qA (qU (ok' := fun k_ => True) ho0 (fun k_ hk_ => trivial)); have n3_ := qA (qU (ok' := fun k_ => True) ho1 (fun k_ hk_ => trivial)); have n4_ := qA (hb); clear HO_4; clear BK363; clear HB; clear HO382; clear HO385; have HO_4 := n0_; have BK363 := n1_; have HO388 := n2_; have HO391 := n3_; have HB := n4_; clear n0_ n1_ n2_ n3_ n4_; (try clear hb); (try clear hkp); (try clear ho0); (try clear ho1); obtain ⟨Ao48, co48, eo48⟩ := Kd.R_slice HO388.out; subst eo48; have hcz49_0 : w47.cell? ⟨gb363, 0, none⟩ = some (.slice Ao42 x364000_1.length co42) := (qQ BK363.out 0).trans rfl; have hcz49_1 : w47.cell? ⟨gb363, 1, none⟩ = some (.slice Ao43 x364001_1.length co43) := (qQ BK363.out 1).trans rfl; have hfz49_0 := qL BK363.out 0; have hfz49_1 := qL BK363.out 1; obtain ⟨Ao50, co50, eo50⟩ := Kd.R_slice HO391.out; subst eo50)))
                      go_roundg kj24
                      case measure => have := HK1.out; have := HJ24.out; omega
                      case rel => exact ⟨(wrap64 (x6_1 + 1)), (t386), (t389), (.slice Ao48 t386.length co48), (.slice Ao50 t389.length co50), (by first | rfl | (simp; done) | (simp [*]; done)), H', ⟨by have := HK1.out; have := HJ24.out; omega⟩, ⟨by (with_reducible repeat (first | apply qJ | apply qI | apply qK)); exact qU (qP (p := ⟨gb363, 1, none⟩) (qP (p := ⟨gb363, 0, none⟩) (qV HO_4.out BK363.out (by decide)) (fun _ hk => hk.2) (.slice Ao48 t386.length co48)) (fun _ hk => hk.2) (.slice Ao50 t389.length co50)) (fun _ hk => trivial)⟩, ⟨by (with_reducible repeat (first | apply qJ | apply qI | apply qK)); exact qU (qP (p := ⟨gb363, 1, none⟩) (qP (p := ⟨gb363, 0, none⟩) (qV HO388.out BK363.out (by decide)) (fun _ hk => hk.2) (.slice Ao48 t386.length co48)) (fun _ hk => hk.2) (.slice Ao50 t389.length co50)) (fun _ hk => trivial)⟩, ⟨by (with_reducible repeat (first | apply qJ | apply qI | apply qK)); exact qU (qP (p := ⟨gb363, 1, none⟩) (qP (p := ⟨gb363, 0, none⟩) (qV HO391.out BK363.out (by decide)) (fun _ hk => hk.2) (.slice Ao48 t386.length co48)) (fun _ hk => hk.2) (.slice Ao50 t389.length co50)) (fun _ hk => trivial)⟩, ⟨by (with_reducible repeat (first | refine qE ?_ _ | refine qH ?_ | refine qD ?_ _)); refine qY (cs := #[.slice Ao48 t386.length co48, .slice Ao43 x364001_1.length co43]) ?_ 1 _ rfl; (with_reducible repeat (first | refine qE ?_ _ | refine qH ?_ | refine qD ?_ _)); refine qY (cs := #[.slice Ao42 x364000_1.length co42, .slice Ao43 x364001_1.length co43]) ?_ 0 _ rfl; (with_reducible repeat (first | refine qE ?_ _ | refine qH ?_ | refine qD ?_ _)); exact BK363.out⟩, ⟨by repeat (first | (with_reducible first | exact HB.out | apply qG | apply qB | apply qF | refine qC ?_ GE363.out) | exact HB.out)⟩⟩
                    · replace c38 := Bool.eq_false_iff.mpr c38
                      subst c38
                      have H1 : ((flongref04_say.f x364000_1 x364001_1 1 (rd t360 x6_1)).bind fun bt392 => (flongref04_Scan.l0 kj24 t360 (wrap64 (x6_1 + 1)) bt392.1 bt392.2)) = some (r1, r2) := by rw [if_neg (show ¬ (false = true) by decide)] at H; exact H
                      clear H
                      have H := H1
                      clear H1
                      replace H := Option.bind_eq_some_iff.mp H
                      obtain ⟨⟨t392, t395⟩, A510, H⟩ := H
                      replace H : (flongref04_Scan.l0 kj24 t360 (wrap64 (x6_1 + 1)) t392 t395) = some (r1, r2) := H
                      have A51 := qA A510
                      clear A510
                      have H' := qA H
                      clear H
                      go_wp2_with (first | (go_at_call 27; (with_reducible refine (flongref02_Control.calls (rd t360 x6_1) false _ A37.out).mono ?_); rintro e w' ⟨rfl, ⟨nd, rfl⟩⟩; (try first | exact ⟨rfl, _, World.drewN_drewN _ _ _⟩ | exact ⟨rfl, _, Eq.trans (World.drewN_drewN _ _ _) (congrArg (World.drewN _) (Nat.add_assoc _ _ _))⟩); have hcz52_0 : wc.cell? ⟨gb363, 0, none⟩ = some (u364000) := (qQ BK363.out 0).trans rfl; have hcz52_1 : wc.cell? ⟨gb363, 1, none⟩ = some (u364001) := (qQ BK363.out 1).trans rfl; have hfz52_0 := qL BK363.out 0; have hfz52_1 := qL BK363.out 1; obtain ⟨Ao53, co53, eo53⟩ := Kd.R_slice HO_364000.out; subst eo53; obtain ⟨Ao54, co54, eo54⟩ := Kd.R_slice HO_364001.out; subst eo54) | (go_at_call 45; (with_reducible refine (flongref04_say.calls (fun k_ => some k_ = (.slice Ao53 x364000_1.length co53 : Value).ownBlock) (.slice Ao53 x364000_1.length co53) x364000_1 (fun k_ => some k_ = (.slice Ao54 x364001_1.length co54 : Value).ownBlock) (.slice Ao54 x364001_1.length co54) x364001_1 1 (rd t360 x6_1) t392 t395 w _ ?side1 ?side2 ?side3 A51.out).mono ?_); (case side1 => repeat (first | (with_reducible first | exact HB.out | apply qG | apply qB | apply qF | refine qC ?_ GE363.out) | exact HB.out)); (case side2 => exact Kd.R_tight rfl HO_364000.out); (case side3 => exact Kd.R_tight rfl HO_364001.out); rintro e w55 ⟨v393, v396, rfl, ho0, ho1, hb, hkp⟩; have n0_ := qA (qU (ok' := fun k_ => True) (Kd.R_keptB ((Kd.R_apart' (Kd.R_apart' HO_4.out (Kd.R_typed HO_364000.out) (by decide)) (Kd.R_typed HO_364001.out) (by decide))) hkp (fun k_ hk_ hs_ => Or.elim hs_ (fun e_ => (hk_.1.2) e_) (fun e_ => (hk_.2) e_))) (fun k_ hk_ => trivial)); have n1_ := qA (blk_kept (by (with_reducible repeat (first | refine qE ?_ _ | refine qH ?_ | refine qD ?_ _)); exact BK363.out) hkp (fun hs_ => Or.elim hs_ (fun e_ => (fun e_ => (Kd.R_ne HO_364000.out BK363.out (by decide)) e_) e_) (fun e_ => (fun e_ => (Kd.R_ne HO_364001.out BK363.out (by decide)) e_) e_))); have n2_ := qA (qU (ok' := fun k_ => True) ho0 (fun k_ hk_ => trivial)); have n3_ := qA (qU (ok' := fun k_ => True) ho1 (fun k_ hk_ => trivial)); have n4_ := qA (hb); clear HO_4; clear BK363; clear HB; clear HO_364000; clear HO_364001; have HO_4 := n0_; have BK363 := n1_; have HO394 := n2_; have HO397 := n3_; have HB := n4_; clear n0_ n1_ n2_ n3_ n4_; (try clear hb); (try clear hkp); (try clear ho0); (try clear ho1); obtain ⟨Ao56, co56, eo56⟩ := Kd.R_slice HO394.out; subst eo56; have hcz57_0 : w55.cell? ⟨gb363, 0, none⟩ = some (.slice Ao53 x364000_1.length co53) := (qQ BK363.out 0).trans rfl; have hcz57_1 : w55.cell? ⟨gb363, 1, none⟩ = some (.slice Ao54 x364001_1.length co54) := (qQ BK363.out 1).trans rfl; have hfz57_0 := qL BK363.out 0; have hfz57_1 := qL BK363.out 1; obtain ⟨Ao58, co58, eo58⟩ := Kd.R_slice HO397.out; subst eo58))
                      repeat (go_quiet (first | (go_at_call 27; (with_reducible refine (flongref02_Control.calls (rd t360 x6_1) false _ A37.out).mono ?_); rintro e w' ⟨rfl, ⟨nd, rfl⟩⟩; (try first | exact ⟨rfl, _, World.drewN_drewN _ _ _⟩ | exact ⟨rfl, _, Eq.trans (World.drewN_drewN _ _ _) (congrArg (World.drewN _) (Nat.add_assoc _ _ _))⟩); have hcz52_0 : wc.cell? ⟨gb363, 0, none⟩ = some (u364000) := (qQ BK363.out 0).trans rfl; have hcz52_1 : wc.cell? ⟨gb363, 1, none⟩ = some (u364001) := (qQ BK363.out 1).trans rfl; have hfz52_0 := qL BK363.out 0; have hfz52_1 := qL BK363.out 1; obtain ⟨Ao53, co53, eo53⟩ := Kd.R_slice HO_364000.out; subst eo53; obtain ⟨Ao54, co54, eo54⟩ := Kd.R_slice HO_364001.out; subst eo54) | (go_at_call 45; (with_reducible refine (flongref04_say.calls (fun k_ => some k_ = (.slice Ao53 x364000_1.length co53 : Value).ownBlock) (.slice Ao53 x364000_1.length co53) x364000_1 (fun k_ => some k_ = (.slice Ao54 x364001_1.length co54 : Value).ownBlock) (.slice Ao54 x364001_1.length co54) x364001_1 1 (rd t360 x6_1) t392 t395 w _ ?side1 ?side2 ?side3 A51.out).mono ?_); (case side1 => repeat (first | (with_reducible first | exact HB.out | apply qG | apply qB | apply qF | refine qC ?_ GE363.out) | exact HB.out)); (case side2 => exact Kd.R_tight rfl HO_364000.out); (case side3 => exact Kd.R_tight rfl HO_364001.out); rintro e w55 ⟨v393, v396, rfl, ho0, ho1, hb, hkp⟩; have n0_ := qA (qU (ok' := fun k_ => True) (Kd.R_keptB ((Kd.R_apart' (Kd.R_apart' HO_4.out (Kd.R_typed HO_364000.out) (by decide)) (Kd.R_typed HO_364001.out) (by decide))) hkp (fun k_ hk_ hs_ => Or.elim hs_ (fun e_ => (hk_.1.2) e_) (fun e_ => (hk_.2) e_))) (fun k_ hk_ => trivial)); have n1_ := qA (blk_kept (by (with_reducible repeat (first | refine qE ?_ _ | refine qH ?_ | refine qD ?_ _)); exact BK363.out) hkp (fun hs_ => Or.elim hs_ (fun e_ => (fun e_ => (Kd.R_ne HO_364000.out BK363.out (by decide)) e_) e_) (fun e_ => (fun e_ => (Kd.R_ne HO_364001.out BK363.out (by decide)) e_) e_))); have n2_ := qA (qU (ok' := fun k_ => True) ho0 (fun k_ hk_ => trivial)); have n3_ := qA (qU (ok' := fun k_ => True) ho1 (fun k_ hk_ => trivial)); have n4_ := qA (hb); clear HO_4; clear BK363; clear HB; clear HO_364000; clear HO_364001; have HO_4 := n0_; have BK363 := n1_; have HO394 := n2_; have HO397 := n3_; have HB := n4_; clear n0_ n1_ n2_ n3_ n4_; (try clear hb); (try clear hkp); (try clear ho0); (try clear ho1); obtain ⟨Ao56, co56, eo56⟩ := Kd.R_slice HO394.out; subst eo56; have hcz57_0 : w55.cell? ⟨gb363, 0, none⟩ = some (.slice Ao53 x364000_1.length co53) := (qQ BK363.out 0).trans rfl; have hcz57_1 : w55.cell? ⟨gb363, 1, none⟩ = some (.slice Ao54 x364001_1.length co54) := (qQ BK363.out 1).trans rfl; have hfz57_0 := qL BK363.out 0; have hfz57_1 := qL BK363.out 1; obtain ⟨Ao58, co58, eo58⟩ := Kd.R_slice HO397.out; subst eo58)); try go_wp2_with (first | (go_at_call 27; (with_reducible refine (flongref02_Control.calls (rd t360 x6_1) false _ A37.out).mono ?_); rintro e w' ⟨rfl, ⟨nd, rfl⟩⟩; (try first | exact ⟨rfl, _, World.drewN_drewN _ _ _⟩ | exact ⟨rfl, _, Eq.trans (World.drewN_drewN _ _ _) (congrArg (World.drewN _) (Nat.add_assoc _ _ _))⟩); have hcz52_0 : wc.cell? ⟨gb363, 0, none⟩ = some (u364000) := (qQ BK363.out 0).trans rfl; have hcz52_1 : wc.cell? ⟨gb363, 1, none⟩ = some (u364001) := (qQ BK363.out 1).trans rfl; have hfz52_0 := qL BK363.out 0; have hfz52_1 := qL BK363.out 1; obtain ⟨Ao53, co53, eo53⟩ := Kd.R_slice HO_364000.out; subst eo53; obtain ⟨Ao54, co54, eo54⟩ := Kd.R_slice HO_364001.out; subst eo54) | (go_at_call 45; (with_reducible refine (flongref04_say.calls (fun k_ => some k_ = (.slice Ao53 x364000_1.length co53 : Value).ownBlock) (.slice Ao53 x364000_1.length co53) x364000_1 (fun k_ => some k_ = (.slice Ao54 x364001_1.length co54 : Value).ownBlock) (.slice Ao54 x364001_1.length co54) x364001_1 1 (rd t360 x6_1) t392 t395 w _ ?side1 ?side2 ?side3 A51.out).mono ?_); (case side1 => repeat (first | (with_reducible first | exact HB.out | apply qG | apply qB | apply qF | refine qC ?_ GE363.out) | exact HB.out)); (case side2 => exact Kd.R_tight rfl HO_364000.out); (case side3 => exact Kd.R_tight rfl HO_364001.out); rintro e w55 ⟨v393, v396, rfl, ho0, ho1, hb, hkp⟩; have n0_ := qA (qU (ok' := fun k_ => True) (Kd.R_keptB ((Kd.R_apart' (Kd.R_apart' HO_4.out (Kd.R_typed HO_364000.out) (by decide)) (Kd.R_typed HO_364001.out) (by decide))) hkp (fun k_ hk_ hs_ => Or.elim hs_ (fun e_ => (hk_.1.2) e_) (fun e_ => (hk_.2) e_))) (fun k_ hk_ => trivial)); have n1_ := qA (blk_kept (by (with_reducible repeat (first | refine qE ?_ _ | refine qH ?_ | refine qD ?_ _)); exact BK363.out) hkp (fun hs_ => Or.elim hs_ (fun e_ => (fun e_ => (Kd.R_ne HO_364000.out BK363.out (by decide)) e_) e_) (fun e_ => (fun e_ => (Kd.R_ne HO_364001.out BK363.out (by decide)) e_) e_))); have n2_ := qA (qU (ok' := fun k_ => True) ho0 (fun k_ hk_ => trivial)); have n3_ := qA (qU (ok' := fun k_ => True) ho1 (fun k_ hk_ => trivial)); have n4_ := qA (hb); clear HO_4; clear BK363; clear HB; clear HO_364000; clear HO_364001; have HO_4 := n0_; have BK363 := n1_; have HO394 := n2_; have HO397 := n3_; have HB := n4_; clear n0_ n1_ n2_ n3_ n4_; (try clear hb); (try clear hkp); (try clear ho0); (try clear ho1); obtain ⟨Ao56, co56, eo56⟩ := Kd.R_slice HO394.out; subst eo56; have hcz57_0 : w55.cell? ⟨gb363, 0, none⟩ = some (.slice Ao53 x364000_1.length co53) := (qQ BK363.out 0).trans rfl; have hcz57_1 : w55.cell? ⟨gb363, 1, none⟩ = some (.slice Ao54 x364001_1.length co54) := (qQ BK363.out 1).trans rfl; have hfz57_0 := qL BK363.out 0; have hfz57_1 := qL BK363.out 1; obtain ⟨Ao58, co58, eo58⟩ := Kd.R_slice HO397.out; subst eo58)))
                      go_roundg kj24
                      case measure => have := HK1.out; have := HJ24.out; omega
                      case rel => exact ⟨(wrap64 (x6_1 + 1)), (t392), (t395), (.slice Ao56 t392.length co56), (.slice Ao58 t395.length co58), (by first | rfl | (simp; done) | (simp [*]; done)), H', ⟨by have := HK1.out; have := HJ24.out; omega⟩, ⟨by (with_reducible repeat (first | apply qJ | apply qI | apply qK)); exact qU (qP (p := ⟨gb363, 1, none⟩) (qP (p := ⟨gb363, 0, none⟩) (qV HO_4.out BK363.out (by decide)) (fun _ hk => hk.2) (.slice Ao56 t392.length co56)) (fun _ hk => hk.2) (.slice Ao58 t395.length co58)) (fun _ hk => trivial)⟩, ⟨by (with_reducible repeat (first | apply qJ | apply qI | apply qK)); exact qU (qP (p := ⟨gb363, 1, none⟩) (qP (p := ⟨gb363, 0, none⟩) (qV HO394.out BK363.out (by decide)) (fun _ hk => hk.2) (.slice Ao56 t392.length co56)) (fun _ hk => hk.2) (.slice Ao58 t395.length co58)) (fun _ hk => trivial)⟩, ⟨by (with_reducible repeat (first | apply qJ | apply qI | apply qK)); exact qU (qP (p := ⟨gb363, 1, none⟩) (qP (p := ⟨gb363, 0, none⟩) (qV HO397.out BK363.out (by decide)) (fun _ hk => hk.2) (.slice Ao56 t392.length co56)) (fun _ hk => hk.2) (.slice Ao58 t395.length co58)) (fun _ hk => trivial)⟩, ⟨by (with_reducible repeat (first | refine qE ?_ _ | refine qH ?_ | refine qD ?_ _)); refine qY (cs := #[.slice Ao56 t392.length co56, .slice Ao54 x364001_1.length co54]) ?_ 1 _ rfl; (with_reducible repeat (first | refine qE ?_ _ | refine qH ?_ | refine qD ?_ _)); refine qY (cs := #[.slice Ao53 x364000_1.length co53, .slice Ao54 x364001_1.length co54]) ?_ 0 _ rfl; (with_reducible repeat (first | refine qE ?_ _ | refine qH ?_ | refine qD ?_ _)); exact BK363.out⟩, ⟨by repeat (first | (with_reducible first | exact HB.out | apply qG | apply qB | apply qF | refine qC ?_ GE363.out) | exact HB.out)⟩⟩
          · rw [if_neg c11] at H
            exact absurd H (by simp)
        · rw [if_neg c10] at H
          have c10b0 : decide (x6_1 < (t360.length : Int)) = false := decide_eq_false c10
          clear c10
          simp only [Option.some.injEq, Prod.mk.injEq] at H
          obtain ⟨rfl, rfl⟩ := H
          obtain ⟨Ao59, co59, eo59⟩ := Kd.R_slice HO_4.out
          subst eo59
          have hcz60_0 : wr.cell? ⟨gb363, 0, none⟩ = some (u364000) := (qQ BK363.out 0).trans rfl
          have hcz60_1 : wr.cell? ⟨gb363, 1, none⟩ = some (u364001) := (qQ BK363.out 1).trans rfl
          have hfz60_0 := qL BK363.out 0
          have hfz60_1 := qL BK363.out 1
          go_wp2
          repeat (go_quiet (fail); try go_wp2)
          go_ret2
          exact ⟨_, _, by first | rfl | (simp [errW_none, errW_some] <;> rfl) | (simp [*, errW_none, errW_some] <;> rfl), by (with_reducible repeat (first | apply qJ | apply qI | apply qK)); exact HO_364000.out, by (with_reducible repeat (first | apply qJ | apply qI | apply qK)); exact HO_364001.out, by repeat (first | (with_reducible first | exact HB.out | apply qG | apply qB | apply qF | refine qC ?_ GE363.out) | exact HB.out)⟩
  · rw [if_neg c2] at H
    exact absurd H (by simp)
end Go.Proofs.YtdogljnddalgdaaDoor.A6
end
