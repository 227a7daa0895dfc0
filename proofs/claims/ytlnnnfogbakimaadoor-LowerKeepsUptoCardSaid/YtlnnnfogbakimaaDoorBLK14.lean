/- The law LowerKeeps holds: at the door, for all its arguments, the program's law answers true. Conditions: those of the card alone (the arguments are good, the laid package variables that the row lists hold what the initialiser laid, no trouble of size). -/
import Derived.Deep.DeepHandedRow
import Derived.Test.YtlnnnfogbakimaaDoorBLK12
import Derived.Test.YtlnnnfogbakimaaDoorBLK13
set_option linter.unusedSimpArgs false
set_option linter.unusedVariables false
section
namespace Go.Proofs.YtlnnnfogbakimaaDoor.lowerKeeps
open Go.ChangeShapes Go.WideShapes Go.ChangeAt Go.RowKit Ev
set_option linter.unusedVariables false
theorem own : ownKnob Tryd.prog.godebug = none := by kernel_rfl
theorem reads (os : Os) {H : Type} (enc : TypeId × Value → H) : ∃ places, DataW.whole enc Tryd.prog ((World.laidAll Tryd.prog os laidR).forCall (fun _ _ => 0) ⟨#[], #[.agg #[.string ByteArray.empty, .string ByteArray.empty, .string ByteArray.empty, .string ByteArray.empty, .slice none 0 0]], []⟩).memory Tryd.f11.params.toList Rows.lowerKeepsSpec.vars false (#[.agg #[.string ByteArray.empty, .string ByteArray.empty, .string ByteArray.empty, .string ByteArray.empty, .slice none 0 0]] : Array Value).toList 8 = some ([.agg [.lit (.string []), .lit (.string []), .lit (.string []), .lit (.string []), .nil]], [], places) :=
  ⟨[], by kernel_rfl⟩
set_option maxRecDepth 100000 in
theorem lifted (os : Os) (started : os.Started) (H : Type) (enc : TypeId × Value → H) (F : Stop.Interp) :
    ReturnsInHanded {} Tryd.checked os 11 .any ((Rows.OpenSpec.upto Rows.lowerKeepsSpec).preRow enc Tryd.prog Tryd.f11 Rows.lowerKeepsUptoRow.domain false Rows.lowerKeepsUptoRow.laid) (((Rows.OpenSpec.upto Rows.lowerKeepsSpec).at F).post enc Tryd.prog Tryd.f11 false true false false) := by
  obtain ⟨places, hx⟩ := reads os enc
  refine returnsInHanded_of_row (C := Tryd.checked) (s := Rows.OpenSpec.upto Rows.lowerKeepsSpec) own started (by kernel_rfl) Tryd.func11
    (witness_row_at (enc := enc) (C := Tryd.checked) false (World.laidAll Tryd.prog os laidR) #[.agg #[.string ByteArray.empty, .string ByteArray.empty, .string ByteArray.empty, .string ByteArray.empty, .slice none 0 0]] (World.laidAll_os _ _ _) (by kernel_rfl) (by kernel_rfl) (by kernel_rfl)
      (OpenSpec.preRow_of_cond 8 hx (by kernel_rfl) (fun k hk => by cases hk; kernel_rfl) (by kernel_rfl) (laidMet_laidAll _ (by kernel_rfl) (by kernel_rfl)))) ?_
  intro W base args ds gs before hval0 hW hcnd hbulk hsz0 hL _ _
  have hsz : (DataW.weightsEach Tryd.prog (Tryd.f11.params.toList ++ Rows.lowerKeepsSpec.plain.varTypes Tryd.prog) (ds ++ gs)).all (· ≤ reachBytes) = true := hsz0
  have hval : ∀ (j : Nat) t v, Tryd.f11.params[j]? = some t → args[j]? = some v → Value.okWide Tryd.prog W .any base t v := hval0
  have hW' := hW
  obtain ⟨p, q, hA0, hV, rfl, hfz, hnd⟩ := hW
  have hA : DataW.TrodAll enc Tryd.prog W 0 (fun _ => true) true Tryd.f11.params.toList args.toList ds p := hA0
  rw [Tryd.params11] at hA hval hsz
  have lay : laidOutB Tryd.prog = true := by kernel_rfl
  obtain ⟨v0, vs0, d0, ds0, p0, q0, hargs, rfl, rfl, h0, r0⟩ := trodAll_cons hA
  obtain ⟨rfl, rfl, rfl⟩ := trodAll_nil r0
  obtain rfl : args = #[v0] := by cases args; simp_all
  obtain ⟨rfl, rfl⟩ := trodVars_none hV
  have hw : (d0.weights Tryd.prog 24).all (· ≤ reachBytes) = true ∧ True := by
    have h := hsz
    simp only [List.cons_append, List.nil_append, List.append_nil, DataW.weightsEach, List.all_append, Bool.and_eq_true] at h
    exact ⟨h.1, trivial⟩
  obtain ⟨a0, g0, f0, m0⟩ := Reads.struct (f := Doc.cells) (fun k => reads24 bulkOk) Tryd.underlying24 (hval 0 24 v0 rfl rfl) h0 hw.1
  have hb : Rows.uptoBulk d0 ≤ 1048576 := by
    have h := hbulk _ rfl
    simp only [Rows.uptoSmall, decide_eq_true_eq, List.append_nil, List.cons_append, List.nil_append, Rows.uptoBulkAll] at h
    omega
  have law := lowerKeepsLaw a0 (by omega)
  have hcall := PCon.door law hL (vs := #[v0]) rfl (fun j g v hg hv => by
    match j, hg, hv with
    | 0, hg, hv => simp at hg hv; subst hg; subst hv; exact f0)
  refine hcall.mono fun e W' ⟨he, bel⟩ => ?_
  subst he
  exact ⟨_, rfl, _, _, _, [], _, [], hW', trodAll_mk1 (shut_bool Tryd.underlying4 _), (trodAll_cons_mk (Below.trod lay (by kernel_rfl) (of_decide_eq_true (by kernel_rfl)) h0 bel (trod_lt' h0)) trodAll_mk0), rfl, bel.frame _, fun h => by cases h⟩
theorem over : Rows.lowerKeepsUptoRow.holds Tryd.pinned (Rows.OpenSpec.upto Rows.lowerKeepsSpec) :=
  OpenClaim.holds_of_cond 11 Tryd.f11 rfl rfl rfl rfl rfl rfl rfl ⟨rfl, rfl, rfl, rfl, rfl⟩ rfl rfl rfl rfl rfl (by kernel_rfl) Tryd.func11 (by kernel_rfl)
    (of_decide_eq_true (by kernel_rfl)) (by unfold Func.isWrapper; first | (rw [if_pos (by decide +kernel)]; kernel_rfl) | (rw [if_neg (by decide +kernel)]; exact ⟨rfl, rfl⟩))
    (fun os started H enc _ F => by rw [OpenClaim.pre_eq_preRow]; exact lifted os started H enc F)
end Go.Proofs.YtlnnnfogbakimaaDoor.lowerKeeps
namespace Go.Proofs.YtlnnnfogbakimaaDoor
open Go
set_option maxRecDepth 1000000 in
theorem lowerKeeps_holds : Rows.LowerKeepsUptoCardSaid :=
  Claim7.holds_tied_plain_at .later [] [.data, .data, .pinned] true (true, "8c9c22d9b46706f871c325296d2f45d0cc70be4f3d5fee2a033407e17ba135c2") false
    lowerKeeps.over (fun _ h => by cases h) (by kernel_rfl) (fun _ h => by cases h) lowerKeepsUpto_row_tie rfl ⟨rfl, rfl⟩ (by kernel_rfl) rfl
    (fun f fn hf hfn => by
      obtain rfl : f = 11 := Option.some.inj ((show Tryd.prog.funcNamed "flong/flonglaw15.LowerKeeps" = some 11 by kernel_rfl).symm.trans hf) |>.symm
      obtain rfl : fn = Tryd.f11 := (Option.some.inj (Tryd.func11.symm.trans hfn)).symm
      exact ⟨by kernel_rfl, fun j t ht => by
        rw [Tryd.params11] at ht
        have hm : t ∈ [24] := by simpa using Array.mem_of_getElem? ht
        have hall : ([24].all fun u => !Tryd.prog.wantsStandIn u) = true := by kernel_rfl
        exact (show Tryd.prog.wantsStandIn t = false by simpa using List.all_eq_true.1 hall t hm)⟩)
    (by kernel_rfl)
end Go.Proofs.YtlnnnfogbakimaaDoor
end
