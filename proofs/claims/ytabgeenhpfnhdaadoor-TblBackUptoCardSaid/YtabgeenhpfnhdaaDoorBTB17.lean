/- The law TblBack holds: at the door, for all its arguments, the program's law answers true. Conditions: those of the card alone (the arguments are good, the laid package variables that the row lists hold what the initialiser laid, no trouble of size). -/
import Derived.Test.YtabgeenhpfnhdaaDoorBTB15
import Derived.Test.YtabgeenhpfnhdaaDoorBTB16
set_option linter.unusedSimpArgs false
set_option linter.unusedVariables false
section
namespace Go.Proofs.YtabgeenhpfnhdaaDoor.tblBack
open Go.ChangeShapes Go.WideShapes Go.ChangeAt Go.RowKit Ev
set_option linter.unusedVariables false
theorem own : ownKnob Tryd.prog.godebug = none := by kernel_rfl
theorem reads (os : Os) {H : Type} (enc : TypeId × Value → H) : ∃ places, DataW.whole enc Tryd.prog ((WZ os).forCall (fun _ _ => 0) ⟨#[], #[.agg #[.string ByteArray.empty, .slice none 0 0, .bool false, .bool false]], []⟩).memory Tryd.f6.params.toList Rows.tblBackSpec.vars false (#[.agg #[.string ByteArray.empty, .slice none 0 0, .bool false, .bool false]] : Array Value).toList 8 = some ([.agg [.lit (.string []), .nil, .lit (.bool false), .lit (.bool false)]], [], places) :=
  ⟨[], by kernel_rfl⟩
set_option maxRecDepth 100000 in
theorem lifted (os : Os) (started : os.Started) (H : Type) (enc : TypeId × Value → H) (F : Stop.Interp) :
    ReturnsInHanded {} Tryd.checked os 6 .any ((Rows.OpenSpec.upto Rows.tblBackSpec).preRow enc Tryd.prog Tryd.f6 Rows.tblBackUptoRow.domain false Rows.tblBackUptoRow.laid) (((Rows.OpenSpec.upto Rows.tblBackSpec).at F).post enc Tryd.prog Tryd.f6 false true false false) := by
  obtain ⟨places, hx⟩ := reads os enc
  refine returnsInHanded_of_row (C := Tryd.checked) (s := Rows.OpenSpec.upto Rows.tblBackSpec) own started (by kernel_rfl) Tryd.func6 ?_ ?_
  · obtain ⟨w, tape, i, h1, h2, h3, h4, h5, h6, _⟩ := OpenSpec.witness_stopped_atRef (enc := enc) (C := Tryd.checked) (os := os) (f := 6) (fn := Tryd.f6) (s := Rows.OpenSpec.upto Rows.tblBackSpec) (conds := Rows.tblBackUptoRow.domain) (apart := false) (laid := Rows.tblBackUptoRow.laid) false (WZ os) #[.agg #[.string ByteArray.empty, .slice none 0 0, .bool false, .bool false]] (WZ_os os) (by kernel_rfl) (by kernel_rfl) (by kernel_rfl)
      (OpenSpec.preRow_of_cond 8 hx (by kernel_rfl) (fun k hk => by cases hk; kernel_rfl) (by kernel_rfl) (door_met os _)) (fun _ _ _ => 0)
    exact ⟨w, tape, i, h1, h2, h3, h4, h5, h6⟩
  intro W base args ds gs before hval0 hW hcnd hbulk hsz0 hL hsh _
  have hsz : (DataW.weightsEach Tryd.prog (Tryd.f6.params.toList ++ Rows.tblBackSpec.plain.varTypes Tryd.prog) (ds ++ gs)).all (· ≤ reachBytes) = true := hsz0
  have hval : ∀ (j : Nat) t v, Tryd.f6.params[j]? = some t → args[j]? = some v → Value.okWide Tryd.prog W .any base t v := hval0
  have hW' := hW
  obtain ⟨p, q, hA0, hV, rfl, hfz, hnd⟩ := hW
  have hA : DataW.TrodAll enc Tryd.prog W 0 (fun _ => true) true Tryd.f6.params.toList args.toList ds p := hA0
  rw [Tryd.params6] at hA hval hsz
  have lay : laidOutB Tryd.prog = true := by kernel_rfl
  obtain ⟨v0, vs0, d0, ds0, p0, q0, hargs, rfl, rfl, h0, r0⟩ := trodAll_cons hA
  obtain ⟨rfl, rfl, rfl⟩ := trodAll_nil r0
  obtain rfl : args = #[v0] := by cases args; simp_all
  obtain ⟨rfl, rfl⟩ := trodVars_none hV
  have hw : (d0.weights Tryd.prog 36).all (· ≤ reachBytes) = true ∧ True := by
    have h := hsz
    simp only [List.cons_append, List.nil_append, List.append_nil, DataW.weightsEach, List.all_append, Bool.and_eq_true] at h
    exact ⟨h.1, trivial⟩
  obtain ⟨a0, g0, f0, m0⟩ := Reads.struct (f := Tbl.cells) (fun k => reads36 bulkOk) Tryd.underlying36 (hval 0 36 v0 rfl rfl) h0 hw.1
  have hb : Rows.uptoBulk d0 ≤ 1048576 := by
    have h := hbulk _ rfl
    simp only [Rows.uptoSmall, decide_eq_true_eq, List.append_nil, List.cons_append, List.nil_append, Rows.uptoBulkAll] at h
    omega
  have law := conBack a0 (by omega)
  have hcall := PCon.door law hL hsh (vs := #[v0]) rfl (fun j g v hg hv => by
    match j, hg, hv with
    | 0, hg, hv => simp at hg hv; subst hg; subst hv; exact f0)
  refine hcall.mono fun e W' ⟨he, bel⟩ => ?_
  subst he
  exact ⟨_, rfl, _, _, _, [], _, [], hW', trodAll_mk1 (shut_bool Tryd.underlying4 _), (trodAll_cons_mk (Below.trod lay (by kernel_rfl) (of_decide_eq_true (by kernel_rfl)) h0 bel (trod_lt' h0)) trodAll_mk0), rfl, bel.frame _, fun h => by cases h⟩
theorem over : Rows.tblBackUptoRow.holds Tryd.pinned (Rows.OpenSpec.upto Rows.tblBackSpec) :=
  OpenClaim.holds_of_cond 6 Tryd.f6 rfl rfl rfl rfl rfl rfl rfl ⟨rfl, rfl, rfl, rfl, rfl⟩ rfl rfl rfl rfl rfl (by kernel_rfl) Tryd.func6 (by kernel_rfl)
    (of_decide_eq_true (by kernel_rfl)) (by unfold Func.isWrapper; first | (rw [if_pos (by decide +kernel)]; kernel_rfl) | (rw [if_neg (by decide +kernel)]; exact ⟨rfl, rfl⟩))
    (fun os started H enc _ F => by rw [OpenClaim.pre_eq_preRow]; exact lifted os started H enc F)
end Go.Proofs.YtabgeenhpfnhdaaDoor.tblBack
namespace Go.Proofs.YtabgeenhpfnhdaaDoor
open Go
set_option maxRecDepth 1000000 in
theorem tblBack_holds : Rows.TblBackUptoCardSaid :=
  Claim7.holds_tied_plain_at .later [] [.data, .mapped, .mapped, .data, .pinned] true (true, "83f856c5ed9502822f84f8f102dfcfe304c1a53270883a4452ac0ef2d6384de9") false
    tblBack.over (fun _ h => by cases h) (by kernel_rfl) (fun _ h => by cases h) tblBackUpto_row_tie rfl ⟨rfl, rfl⟩ (by kernel_rfl) rfl
    (fun f fn hf hfn => by
      obtain rfl : f = 6 := Option.some.inj ((show Tryd.prog.funcNamed "flong/flonglaw09.TblBack" = some 6 by kernel_rfl).symm.trans hf) |>.symm
      obtain rfl : fn = Tryd.f6 := (Option.some.inj (Tryd.func6.symm.trans hfn)).symm
      exact ⟨by kernel_rfl, fun j t ht => by
        rw [Tryd.params6] at ht
        have hm : t ∈ [36] := by simpa using Array.mem_of_getElem? ht
        have hall : ([36].all fun u => !Tryd.prog.wantsStandIn u) = true := by kernel_rfl
        exact (show Tryd.prog.wantsStandIn t = false by simpa using List.all_eq_true.1 hall t hm)⟩)
    (by kernel_rfl)
end Go.Proofs.YtabgeenhpfnhdaaDoor
end
