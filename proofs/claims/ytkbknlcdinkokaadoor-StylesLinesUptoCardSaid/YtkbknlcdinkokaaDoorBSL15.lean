/- The law StylesLines holds: at the door, for all its arguments, the program's law answers true. Conditions: those of the card alone (the arguments are good, the laid package variables that the row lists hold what the initialiser laid, no trouble of size). -/
import Derived.Test.YtkbknlcdinkokaaDoorBSL12
import Derived.Test.YtkbknlcdinkokaaDoorBSL14
set_option linter.unusedSimpArgs false
set_option linter.unusedVariables false
section
namespace Go.Proofs.YtkbknlcdinkokaaDoor.stylesLines
open Go.ChangeShapes Go.WideShapes Go.ChangeAt Go.RowKit Ev
set_option linter.unusedVariables false
theorem own : ownKnob Tryd.prog.godebug = none := by kernel_rfl
theorem reads (os : Os) {H : Type} (enc : TypeId × Value → H) : ∃ places, DataW.whole enc Tryd.prog ((World.doorLaid Tryd.prog 219 os).forCall (fun _ _ => 0) ⟨#[], #[.agg #[.int .u8 0, .int .u8 0], .slice none 0 0, .slice none 0 0, .string ByteArray.empty], []⟩).memory Tryd.f3.params.toList Rows.stylesLinesSpec.vars false (#[.agg #[.int .u8 0, .int .u8 0], .slice none 0 0, .slice none 0 0, .string ByteArray.empty] : Array Value).toList 8 = some ([.agg [.lit (.int .u8 0), .lit (.int .u8 0)], .nil, .nil, .lit (.string [])], [], places) :=
  ⟨[], by kernel_rfl⟩
set_option maxRecDepth 100000 in
theorem lifted (os : Os) (started : os.Started) (H : Type) (enc : TypeId × Value → H) (F : Stop.Interp) :
    ReturnsInHanded {} Tryd.checked os 3 .any ((Rows.OpenSpec.upto Rows.stylesLinesSpec).preRow enc Tryd.prog Tryd.f3 Rows.stylesLinesUptoRow.domain false Rows.stylesLinesUptoRow.laid) (((Rows.OpenSpec.upto Rows.stylesLinesSpec).at F).post enc Tryd.prog Tryd.f3 false true false false) := by
  obtain ⟨places, hx⟩ := reads os enc
  refine returnsInHanded_of_row (C := Tryd.checked) (s := Rows.OpenSpec.upto Rows.stylesLinesSpec) own started (by kernel_rfl) Tryd.func3 ?_ ?_
  · obtain ⟨w, tape, i, h1, h2, h3, h4, h5, h6, _⟩ := OpenSpec.witness_stopped_atRef (enc := enc) (C := Tryd.checked) (os := os) (f := 3) (fn := Tryd.f3) (s := Rows.OpenSpec.upto Rows.stylesLinesSpec) (conds := Rows.stylesLinesUptoRow.domain) (apart := false) (laid := Rows.stylesLinesUptoRow.laid) false (World.doorLaid Tryd.prog 219 os) #[.agg #[.int .u8 0, .int .u8 0], .slice none 0 0, .slice none 0 0, .string ByteArray.empty] rfl (by kernel_rfl) (by kernel_rfl) (by kernel_rfl)
      (OpenSpec.preRow_of_cond 8 hx (by kernel_rfl) (fun k hk => by cases hk; kernel_rfl) (by kernel_rfl) (door_met os _)) (fun _ _ _ => 0)
    exact ⟨w, tape, i, h1, h2, h3, h4, h5, h6⟩
  intro W base args ds gs before hval0 hW hcnd hbulk hsz0 hL hsh _
  have hsz : (DataW.weightsEach Tryd.prog (Tryd.f3.params.toList ++ Rows.stylesLinesSpec.plain.varTypes Tryd.prog) (ds ++ gs)).all (· ≤ reachBytes) = true := hsz0
  have hval : ∀ (j : Nat) t v, Tryd.f3.params[j]? = some t → args[j]? = some v → Value.okWide Tryd.prog W .any base t v := hval0
  have hW' := hW
  obtain ⟨p, q, hA0, hV, rfl, hfz, hnd⟩ := hW
  have hA : DataW.TrodAll enc Tryd.prog W 0 (fun _ => true) true Tryd.f3.params.toList args.toList ds p := hA0
  rw [Tryd.params3] at hA hval hsz
  have lay : laidOutB Tryd.prog = true := by kernel_rfl
  obtain ⟨v0, vs0, d0, ds0, p0, q0, hargs, rfl, rfl, h0, r0⟩ := trodAll_cons hA
  obtain ⟨v1, vs1, d1, ds1, p1, q1, rfl, rfl, rfl, h1, r1⟩ := trodAll_cons r0
  obtain ⟨v2, vs2, d2, ds2, p2, q2, rfl, rfl, rfl, h2, r2⟩ := trodAll_cons r1
  obtain ⟨v3, vs3, d3, ds3, p3, q3, rfl, rfl, rfl, h3, r3⟩ := trodAll_cons r2
  obtain ⟨rfl, rfl, rfl⟩ := trodAll_nil r3
  obtain rfl : args = #[v0, v1, v2, v3] := by cases args; simp_all
  obtain ⟨rfl, rfl⟩ := trodVars_none hV
  have hw : (d0.weights Tryd.prog 23).all (· ≤ reachBytes) = true ∧ (d1.weights Tryd.prog 24).all (· ≤ reachBytes) = true ∧ (d2.weights Tryd.prog 24).all (· ≤ reachBytes) = true ∧ (d3.weights Tryd.prog 9).all (· ≤ reachBytes) = true ∧ True := by
    have h := hsz
    simp only [List.cons_append, List.nil_append, List.append_nil, DataW.weightsEach, List.all_append, Bool.and_eq_true] at h
    exact ⟨h.1, h.2.1, h.2.2.1, h.2.2.2.1, trivial⟩
  obtain ⟨a0, g0, f0, m0⟩ := Reads.struct (f := Face.pvs) (fun k => readsFace bulkOk) Tryd.underlying23 (hval 0 23 v0 rfl rfl) h0 hw.1
  obtain ⟨a1, g1, f1, m1⟩ := Reads.row (fun k => readsToks bulkOk) Tryd.underlying24 (hval 1 24 v1 rfl rfl) h1 hw.2.1
  obtain ⟨a2, g2, f2, m2⟩ := Reads.row (fun k => readsToks bulkOk) Tryd.underlying24 (hval 2 24 v2 rfl rfl) h2 hw.2.2.1
  obtain ⟨a3, g3, f3, m3⟩ := Reads.strA Tryd.underlying9 (hval 3 9 v3 rfl rfl) h3 hw.2.2.2.1
  have hb : Rows.uptoBulk d0 + Rows.uptoBulk d1 + Rows.uptoBulk d2 + Rows.uptoBulk d3 ≤ 1048576 := by
    have h := hbulk _ rfl
    simp only [Rows.uptoSmall, decide_eq_true_eq, List.append_nil, List.cons_append, List.nil_append, Rows.uptoBulkAll] at h
    omega
  have law := conStylesLines a0 a1 a2 a3 (by have h1 : a1.length + 1 ≤ Rows.uptoBulk d1 := m1; have h2 : a2.length + 1 ≤ Rows.uptoBulk d2 := m2; omega) (by have h3 : a3.size + 1 ≤ Rows.uptoBulk d3 := m3; omega)
  have hcall := PCon.door law hL hsh (vs := #[v0, v1, v2, v3]) rfl (fun j g v hg hv => by
    match j, hg, hv with
    | 0, hg, hv => simp at hg hv; subst hg; subst hv; exact f0
    | 1, hg, hv => simp at hg hv; subst hg; subst hv; exact f1
    | 2, hg, hv => simp at hg hv; subst hg; subst hv; exact f2
    | 3, hg, hv => simp at hg hv; subst hg; subst hv; exact f3)
  refine hcall.mono fun e W' ⟨he, bel⟩ => ?_
  subst he
  exact ⟨_, rfl, _, _, _, [], _, [], hW', trodAll_mk1 (shut_bool Tryd.underlying4 _), (trodAll_cons_mk (Below.trod lay (by kernel_rfl) (of_decide_eq_true (by kernel_rfl)) h0 bel (trod_lt' h0)) (trodAll_cons_mk (Below.trod lay (by kernel_rfl) (of_decide_eq_true (by kernel_rfl)) h1 bel (trod_lt' h1)) (trodAll_cons_mk (Below.trod lay (by kernel_rfl) (of_decide_eq_true (by kernel_rfl)) h2 bel (trod_lt' h2)) (trodAll_cons_mk (Below.trod lay (by kernel_rfl) (of_decide_eq_true (by kernel_rfl)) h3 bel (trod_lt' h3)) trodAll_mk0)))), rfl, bel.frame _, fun h => by cases h⟩
theorem over : Rows.stylesLinesUptoRow.holds Tryd.pinned (Rows.OpenSpec.upto Rows.stylesLinesSpec) :=
  OpenClaim.holds_of_cond 3 Tryd.f3 rfl rfl rfl rfl rfl rfl rfl ⟨rfl, rfl, rfl, rfl, rfl⟩ rfl rfl rfl rfl rfl (by kernel_rfl) Tryd.func3 (by kernel_rfl)
    (of_decide_eq_true (by kernel_rfl)) (by unfold Func.isWrapper; first | (rw [if_pos (by decide +kernel)]; kernel_rfl) | (rw [if_neg (by decide +kernel)]; exact ⟨rfl, rfl⟩))
    (fun os started H enc _ F => by rw [OpenClaim.pre_eq_preRow]; exact lifted os started H enc F)
end Go.Proofs.YtkbknlcdinkokaaDoor.stylesLines
namespace Go.Proofs.YtkbknlcdinkokaaDoor
open Go
set_option maxRecDepth 1000000 in
theorem stylesLines_holds : Rows.StylesLinesUptoCardSaid :=
  Claim7.holds_tied_plain_at .later [] [.mapped, .mapped, .data] true (true, "f36ddc1656b8c1551716ca9a7f6f9593e1747a7fc9dfea8642a262775a0be8ce") false
    stylesLines.over (fun _ h => by cases h) (by kernel_rfl) (fun _ h => by cases h) stylesLinesUpto_row_tie rfl ⟨rfl, rfl⟩ (by kernel_rfl) rfl
    (fun f fn hf hfn => by
      obtain rfl : f = 3 := Option.some.inj ((show Tryd.prog.funcNamed "flong/flonglaw06.StylesLines" = some 3 by kernel_rfl).symm.trans hf) |>.symm
      obtain rfl : fn = Tryd.f3 := (Option.some.inj (Tryd.func3.symm.trans hfn)).symm
      exact ⟨by kernel_rfl, fun j t ht => by
        rw [Tryd.params3] at ht
        have hm : t ∈ [23, 24, 24, 9] := by simpa using Array.mem_of_getElem? ht
        have hall : ([23, 24, 24, 9].all fun u => !Tryd.prog.wantsStandIn u) = true := by kernel_rfl
        exact (show Tryd.prog.wantsStandIn t = false by simpa using List.all_eq_true.1 hall t hm)⟩)
    (by kernel_rfl)
end Go.Proofs.YtkbknlcdinkokaaDoor
end
