/- The law TreeSame holds: at the door, for all its arguments, the program's law answers true. Conditions: those of the card alone (the arguments are good, the laid package variables that the row lists hold what the initialiser laid, no trouble of size). -/
import Derived.Test.YtlnnnfogbakimaaDoorBT5
set_option linter.unusedSimpArgs false
set_option linter.unusedVariables false
section
namespace Go.Proofs.YtlnnnfogbakimaaDoor.treeSame
open Go.ChangeShapes Go.WideShapes Go.ChangeAt Go.RowKit Ev
set_option linter.unusedVariables false
theorem own : ownKnob Tryd.prog.godebug = none := by kernel_rfl
set_option maxRecDepth 100000 in
theorem lifted (os : Os) (started : os.Started) (H : Type) (enc : TypeId × Value → H) :
    ReturnsInHanded {} Tryd.checked os 4 .any (fun w args => (Rows.treeSameSpec.pre enc Tryd.prog Tryd.f4 [] false w args ∧ laidMetH Tryd.prog laidR w) ∧ sizedMet enc Tryd.prog Tryd.f4 (OpenSpec.ofChange Rows.treeSameSpec) false w args) (Rows.treeSameSpec.post enc Tryd.prog Tryd.f4 false true false false) := by
  refine returnsInHanded_of_change_and (C := Tryd.checked) (X := fun w _ => laidMetH Tryd.prog laidR w) (fun _ _ _ hh h => h.of_heap hh) own started (by kernel_rfl) Tryd.func4
    (ChangeSpec.witness_shaped (enc := enc) (C := Tryd.checked) (os := os) (X := fun w _ => laidMetH Tryd.prog laidR w) false (World.laidAll Tryd.prog os laidR) #[.slice none 0 0, .slice none 0 0, .agg #[.string ByteArray.empty, .slice none 0 0, .bool false, .bool false], .agg #[.string ByteArray.empty, .slice none 0 0, .bool false, .bool false]] 8 (World.laidAll_os _ _ _) (door_shaped os) (by kernel_rfl) (by kernel_rfl) (by kernel_rfl) (door_met os _)) ?_
  intro W base args ds gs before hval0 hW hcnd hsz0 hL _
  have hsz : (DataW.weightsEach Tryd.prog (Tryd.f4.params.toList ++ Rows.treeSameSpec.plain.varTypes Tryd.prog) (ds ++ gs)).all (· ≤ reachBytes) = true := hsz0
  have hval : ∀ (j : Nat) t v, Tryd.f4.params[j]? = some t → args[j]? = some v → Value.okWide Tryd.prog W .any base t v := hval0
  have hW' := hW
  obtain ⟨p, q, hA0, hV, rfl, hfz, hnd⟩ := hW
  have hA : DataW.TrodAll enc Tryd.prog W 0 (fun _ => true) true Tryd.f4.params.toList args.toList ds p := hA0
  rw [Tryd.params4] at hA hval hsz
  have lay : laidOutB Tryd.prog = true := by kernel_rfl
  obtain ⟨v0, vs0, d0, ds0, p0, q0, hargs, rfl, rfl, h0, r0⟩ := trodAll_cons hA
  obtain ⟨v1, vs1, d1, ds1, p1, q1, rfl, rfl, rfl, h1, r1⟩ := trodAll_cons r0
  obtain ⟨v2, vs2, d2, ds2, p2, q2, rfl, rfl, rfl, h2, r2⟩ := trodAll_cons r1
  obtain ⟨v3, vs3, d3, ds3, p3, q3, rfl, rfl, rfl, h3, r3⟩ := trodAll_cons r2
  obtain ⟨rfl, rfl, rfl⟩ := trodAll_nil r3
  obtain rfl : args = #[v0, v1, v2, v3] := by cases args; simp_all
  obtain ⟨rfl, rfl⟩ := trodVars_none hV
  have hw : (d0.weights Tryd.prog 22).all (· ≤ reachBytes) = true ∧ (d1.weights Tryd.prog 22).all (· ≤ reachBytes) = true ∧ (d2.weights Tryd.prog 32).all (· ≤ reachBytes) = true ∧ (d3.weights Tryd.prog 32).all (· ≤ reachBytes) = true := by
    have h := hsz
    simp only [List.cons_append, List.nil_append, List.append_nil, DataW.weightsEach, List.all_append, Bool.and_eq_true] at h
    exact ⟨h.1, h.2.1, h.2.2.1, h.2.2.2.1⟩
  obtain ⟨a, ha, fa⟩ := Reads.row (fun k => reads22) Tryd.underlying22 (hval 0 22 v0 rfl rfl) h0 hw.1
  obtain ⟨b, hb, fb⟩ := Reads.row (fun k => reads22) Tryd.underlying22 (hval 1 22 v1 rfl rfl) h1 hw.2.1
  obtain ⟨s, hs, fs⟩ := Reads.struct (f := Tbl.cells) (fun k => reads32) Tryd.underlying32 (hval 2 32 v2 rfl rfl) h2 hw.2.2.1
  obtain ⟨t, ht, ft⟩ := Reads.struct (f := Tbl.cells) (fun k => reads32) Tryd.underlying32 (hval 3 32 v3 rfl rfl) h3 hw.2.2.2
  have law := treeSameLaw treeKnown a b s t (fun x hx => (ha.1 x hx).ok) (fun x hx => (hb.1 x hx).ok) hs.ok ht.ok (by have := ha.2; omega) (by have := hb.2; omega)
  have hcall := PCon.door law hL (vs := #[v0, v1, v2, v3]) rfl (fun j g v hg hv => by
    match j, hg, hv with
    | 0, hg, hv => simp at hg hv; subst hg; subst hv; exact fa
    | 1, hg, hv => simp at hg hv; subst hg; subst hv; exact fb
    | 2, hg, hv => simp at hg hv; subst hg; subst hv; exact fs
    | 3, hg, hv => simp at hg hv; subst hg; subst hv; exact ft)
  refine hcall.mono fun e W' ⟨he, bel⟩ => ?_
  subst he
  exact ⟨_, rfl, _, _, _, [], _, [], hW', trodAll_mk1 (shut_bool Tryd.underlying4 _), (trodAll_cons_mk (Below.trod lay (by kernel_rfl) (of_decide_eq_true (by kernel_rfl)) h0 bel (trod_lt' h0)) (trodAll_cons_mk (Below.trod lay (by kernel_rfl) (of_decide_eq_true (by kernel_rfl)) h1 bel (trod_lt' h1))
    (trodAll_cons_mk (Below.trod lay (by kernel_rfl) (of_decide_eq_true (by kernel_rfl)) h2 bel (trod_lt' h2)) (trodAll_cons_mk (Below.trod lay (by kernel_rfl) (of_decide_eq_true (by kernel_rfl)) h3 bel (trod_lt' h3)) trodAll_mk0)))), rfl, bel.frame _, fun h => by cases h⟩
theorem over : Rows.treeSameRow.holds Tryd.pinned (OpenSpec.ofChange Rows.treeSameSpec) :=
  OpenClaim.holds_of_wide 4 Tryd.f4 rfl rfl rfl rfl rfl rfl rfl ⟨rfl, rfl, rfl, rfl, rfl⟩ rfl rfl rfl rfl rfl (by kernel_rfl) Tryd.func4 (by kernel_rfl)
    (of_decide_eq_true (by kernel_rfl)) (by unfold Func.isWrapper; first | (rw [if_pos (by decide +kernel)]; kernel_rfl) | (rw [if_neg (by decide +kernel)]; exact ⟨rfl, rfl⟩))
    (fun os started H enc _ => lifted os started H enc)
end Go.Proofs.YtlnnnfogbakimaaDoor.treeSame
namespace Go.Proofs.YtlnnnfogbakimaaDoor
open Go
set_option maxRecDepth 1000000 in
theorem treeSame_holds : Rows.TreeSameCardSaid :=
  Claim7.holds_tied_plain_at .later [] [.data, .data, .pinned] true (true, "8c9c22d9b46706f871c325296d2f45d0cc70be4f3d5fee2a033407e17ba135c2") false
    treeSame.over (fun _ h => by cases h) (by kernel_rfl) (fun _ h => by cases h) treeSame_row_tie rfl ⟨rfl, rfl⟩ (by kernel_rfl) rfl
    (fun f fn hf hfn => by
      obtain rfl : f = 4 := Option.some.inj ((show Tryd.prog.funcNamed "flong/flonglaw07.TreeSame" = some 4 by kernel_rfl).symm.trans hf) |>.symm
      obtain rfl : fn = Tryd.f4 := (Option.some.inj (Tryd.func4.symm.trans hfn)).symm
      exact ⟨by kernel_rfl, fun j t ht => by
        rw [Tryd.params4] at ht
        have hm : t ∈ [22, 22, 32, 32] := by simpa using Array.mem_of_getElem? ht
        have hall : ([22, 22, 32, 32].all fun u => !Tryd.prog.wantsStandIn u) = true := by kernel_rfl
        exact (show Tryd.prog.wantsStandIn t = false by simpa using List.all_eq_true.1 hall t hm)⟩)
    (by kernel_rfl)
end Go.Proofs.YtlnnnfogbakimaaDoor
end
