/- The law StylesSets holds: at the door, for all its arguments, the program's law answers true. Conditions: those of the card alone (the arguments are good, the laid package variables that the row lists hold what the initialiser laid, no trouble of size). -/
import Derived.ShutString
import Derived.SizedLaws
import Derived.Test.YtdogljnddalgdaaDoorBSets12
import Derived.Test.YtdogljnddalgdaaDoorBSets13
import Derived.Test.YtdogljnddalgdaaDoorBSets14
section
namespace Go.Proofs.YtdogljnddalgdaaDoor.stylesSets
open Go.ChangeShapes Go.WideShapes Go.ChangeAt Go.RowKit
open Go.ChangeMaps (open_string shut_string)
open Go.Joins
set_option linter.unusedVariables false
theorem own : ownKnob Tryd.prog.godebug = none := by kernel_rfl
set_option maxRecDepth 100000 in
theorem lifted (os : Os) (started : os.Started) (H : Type) (enc : TypeId × Value → H) :
    ReturnsInHanded {} Tryd.checked os 10 .any (fun w args => (Rows.stylesSetsSpec.pre enc Tryd.prog Tryd.f10 [] false w args ∧ laidMetH Tryd.prog [("flong/escape.names", Rows.laid_flong_escape_names), ("flong/escape.fonts", Rows.laid_flong_escape_fonts), ("flong/styles.gap", Rows.laid_flong_styles_gap)] w) ∧ sizedMet enc Tryd.prog Tryd.f10 (OpenSpec.ofChange Rows.stylesSetsSpec) false w args) (Rows.stylesSetsSpec.post enc Tryd.prog Tryd.f10 false true false false) := by
  refine returnsInHanded_of_change_and (C := Tryd.checked) (X := fun w _ => laidMetH Tryd.prog [("flong/escape.names", Rows.laid_flong_escape_names), ("flong/escape.fonts", Rows.laid_flong_escape_fonts), ("flong/styles.gap", Rows.laid_flong_styles_gap)] w) (fun _ _ _ hh h => h.of_heap hh) own started (by kernel_rfl) Tryd.func10
    (ChangeSpec.witness_shaped (enc := enc) (C := Tryd.checked) (os := os) (X := fun w _ => laidMetH Tryd.prog [("flong/escape.names", Rows.laid_flong_escape_names), ("flong/escape.fonts", Rows.laid_flong_escape_fonts), ("flong/styles.gap", Rows.laid_flong_styles_gap)] w) false (World.doorLaid Tryd.prog 219 os) #[.agg #[.int .u8 0, .int .u8 0], .slice none 0 0, .string ByteArray.empty] 8 rfl (World.shaped_of_RefB (by kernel_rfl) (by kernel_rfl)) (by kernel_rfl) (by kernel_rfl) (by kernel_rfl) (door_met os _)) ?_
  intro W base args ds gs before hval0 hW hcnd hsz0 hL _
  have hsz : (DataW.weightsEach Tryd.prog (Tryd.f10.params.toList ++ Rows.stylesSetsSpec.plain.varTypes Tryd.prog) (ds ++ gs)).all (· ≤ reachBytes) = true := hsz0
  have hval : ∀ (j : Nat) t v, Tryd.f10.params[j]? = some t → args[j]? = some v → Value.okWide Tryd.prog W .any base t v := hval0
  have hW' := hW
  obtain ⟨p, q, hA0, hV, rfl, hfz, hnd⟩ := hW
  have hA : DataW.TrodAll enc Tryd.prog W 0 (fun _ => true) true Tryd.f10.params.toList args.toList ds p := hA0
  rw [Tryd.params10] at hA hval hsz
  have lay : laidOutB Tryd.prog = true := by kernel_rfl
  obtain ⟨v0, vs0, d0, ds0, p0, q0, hargs, rfl, rfl, h0, r0⟩ := trodAll_cons hA
  obtain ⟨v1, vs1, d1, ds1, p1, q1, rfl, rfl, rfl, h1, r1⟩ := trodAll_cons r0
  obtain ⟨v2, vs2, d2, ds2, p2, q2, rfl, rfl, rfl, h2, r2⟩ := trodAll_cons r1
  obtain ⟨rfl, rfl, rfl⟩ := trodAll_nil r2
  obtain rfl : args = #[v0, v1, v2] := by cases args; simp_all
  obtain ⟨rfl, rfl⟩ := trodVars_none hV
  obtain ⟨c0, c1, y0, y1, n, e0_, e0d, e0p, hy0, hy1⟩ := open_agg2 Tryd.underlying47 (by kernel_rfl) (by kernel_rfl) (hval 0 47 v0 rfl rfl) h0
  have i0 := A6.int_trod Tryd.underlying5 hy0
  have i1 := A6.int_trod Tryd.underlying5 hy1
  obtain ⟨A, cp, l, e1_, hcp, hK⟩ := A6.open_tokens (hval 1 23 v1 rfl rfl) h1
  obtain ⟨s, hs⟩ : ∃ s, v2 = .string s := okWide_string Tryd.underlying9 (hval 2 9 v2 rfl rfl)
  obtain ⟨k, hk⟩ := (A6.Ev_StylesSets (A6.intOf c0) (A6.intOf c1) l s).rounds
  have hcall := A6.flonglaw06_StylesSets.calls k (A6.intOf c0) (A6.intOf c1) A cp l s true W (of_laid hL) hK hcp hk
  have hargs2 : #[v0, v1, v2] = #[.agg #[.int .u8 (A6.intOf c0), .int .u8 (A6.intOf c1)], .slice A l.length cp, .string s] := by
    rw [e0_, e1_, hs, ← i0.1, ← i1.1]
  rw [hargs2]
  refine hcall.mono fun e W' ⟨he, bel⟩ => ?_
  subst he
  rw [← hargs2]
  exact ⟨_, rfl, _, _, _, [], _, [], hW', trodAll_mk1 (shut_bool Tryd.underlying4 _), (trodAll_cons_mk (Below.trod lay (by kernel_rfl) (of_decide_eq_true (by kernel_rfl)) h0 bel (A6.trod_lt' h0)) (trodAll_cons_mk (Below.trod lay (by kernel_rfl) (of_decide_eq_true (by kernel_rfl)) h1 bel (A6.trod_lt' h1)) (trodAll_cons_mk (Below.trod lay (by kernel_rfl) (of_decide_eq_true (by kernel_rfl)) h2 bel (A6.trod_lt' h2)) trodAll_mk0))), rfl, bel.frame _, fun h => by cases h⟩
theorem over : Rows.stylesSetsRow.holds Tryd.pinned (OpenSpec.ofChange Rows.stylesSetsSpec) :=
  OpenClaim.holds_of_wide 10 Tryd.f10 rfl rfl rfl rfl rfl rfl rfl ⟨rfl, rfl, rfl, rfl, rfl⟩ rfl rfl rfl rfl rfl (by kernel_rfl) Tryd.func10 (by kernel_rfl)
    (of_decide_eq_true (by kernel_rfl)) (by unfold Func.isWrapper; first | (rw [if_pos (by decide +kernel)]; kernel_rfl) | (rw [if_neg (by decide +kernel)]; exact ⟨rfl, rfl⟩))
    (fun os started H enc _ => lifted os started H enc)
end Go.Proofs.YtdogljnddalgdaaDoor.stylesSets
namespace Go.Proofs.YtdogljnddalgdaaDoor
open Go
set_option maxRecDepth 1000000 in
theorem stylesSets_holds : Rows.StylesSetsCardSaid :=
  Claim7.holds_tied_plain_at .later [] [.mapped, .mapped, .data] true (true, "6d8f3d2ee16da88328d35f575065c5a1bf3b6abae7abf90be03ffb1633820bb6") false
    stylesSets.over (fun _ h => by cases h) (by kernel_rfl) (fun _ h => by cases h) stylesSets_row_tie rfl ⟨rfl, rfl⟩ (by kernel_rfl) rfl
    (fun f fn hf hfn => by
      obtain rfl : f = 10 := Option.some.inj ((show Tryd.prog.funcNamed "flong/flonglaw06.StylesSets" = some 10 by kernel_rfl).symm.trans hf) |>.symm
      obtain rfl : fn = Tryd.f10 := (Option.some.inj (Tryd.func10.symm.trans hfn)).symm
      exact ⟨by kernel_rfl, fun j t ht => by
        rw [Tryd.params10] at ht
        have hm : t ∈ [47, 23, 9] := by simpa using Array.mem_of_getElem? ht
        have hall : ([47, 23, 9].all fun u => !Tryd.prog.wantsStandIn u) = true := by kernel_rfl
        exact (show Tryd.prog.wantsStandIn t = false by simpa using List.all_eq_true.1 hall t hm)⟩)
    (by kernel_rfl)
end Go.Proofs.YtdogljnddalgdaaDoor
end
