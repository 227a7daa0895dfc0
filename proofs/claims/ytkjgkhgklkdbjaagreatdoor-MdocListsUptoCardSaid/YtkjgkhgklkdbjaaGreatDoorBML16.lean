/- The law MdocLists holds: at the door, for all its arguments, the program's law answers true. Conditions: those of the card alone (the arguments are good, the laid package variables that the row lists hold what the initialiser laid, no trouble of size). -/
import Derived.Test.YtkjgkhgklkdbjaaGreatDoorBML14
import Derived.Test.YtkjgkhgklkdbjaaGreatDoorBML15
set_option linter.unusedSimpArgs false
set_option linter.unusedVariables false
section
namespace Go.Proofs.YtkjgkhgklkdbjaaGreatDoor.mdocLists
open Go.ChangeShapes Go.WideShapes Go.ChangeAt Go.RowKit Ev
set_option linter.unusedVariables false
theorem own : ownKnob Tryz.prog.godebug = none := by kernel_rfl
theorem reads (os : Os) {H : Type} (enc : TypeId × Value → H) : ∃ places, DataW.whole enc Tryz.prog ((WZ os).forCall (fun _ _ => 0) ⟨#[], #[.int .u8 0, .slice none 0 0, .bool false], []⟩).memory Tryz.f3.params.toList Rows.mdocListsSpec.vars false (#[.int .u8 0, .slice none 0 0, .bool false] : Array Value).toList 8 = some ([.lit (.int .u8 0), .nil, .lit (.bool false)], [], places) :=
  ⟨[], by kernel_rfl⟩
set_option maxRecDepth 100000 in
theorem lifted (os : Os) (started : os.Started) (H : Type) (enc : TypeId × Value → H) (F : Stop.Interp) :
    ReturnsInHanded {} Tryz.checked os 3 .any ((Rows.OpenSpec.upto Rows.mdocListsSpec).preRow enc Tryz.prog Tryz.f3 Rows.mdocListsUptoRow.domain false Rows.mdocListsUptoRow.laid) (((Rows.OpenSpec.upto Rows.mdocListsSpec).at F).post enc Tryz.prog Tryz.f3 false true false false) := by
  obtain ⟨places, hx⟩ := reads os enc
  refine returnsInHanded_of_row (C := Tryz.checked) (s := Rows.OpenSpec.upto Rows.mdocListsSpec) own started (by kernel_rfl) Tryz.func3 ?_ ?_
  · obtain ⟨w, tape, i, h1, h2, h3, h4, h5, h6, _⟩ := OpenSpec.witness_stopped_atRef (enc := enc) (C := Tryz.checked) (os := os) (f := 3) (fn := Tryz.f3) (s := Rows.OpenSpec.upto Rows.mdocListsSpec) (conds := Rows.mdocListsUptoRow.domain) (apart := false) (laid := Rows.mdocListsUptoRow.laid) false (WZ os) #[.int .u8 0, .slice none 0 0, .bool false] (WZ_os os) (by kernel_rfl) (by kernel_rfl) (by kernel_rfl)
      (OpenSpec.preRow_of_cond 8 hx (by kernel_rfl) (fun k hk => by cases hk; kernel_rfl) (by kernel_rfl) (door_met os _)) (fun _ _ _ => 0)
    exact ⟨w, tape, i, h1, h2, h3, h4, h5, h6⟩
  intro W base args ds gs before hval0 hW hcnd hbulk hsz0 hL hsh _
  have hsz : (DataW.weightsEach Tryz.prog (Tryz.f3.params.toList ++ Rows.mdocListsSpec.plain.varTypes Tryz.prog) (ds ++ gs)).all (· ≤ reachBytes) = true := hsz0
  have hval : ∀ (j : Nat) t v, Tryz.f3.params[j]? = some t → args[j]? = some v → Value.okWide Tryz.prog W .any base t v := hval0
  have hW' := hW
  obtain ⟨p, q, hA0, hV, rfl, hfz, hnd⟩ := hW
  have hA : DataW.TrodAll enc Tryz.prog W 0 (fun _ => true) true Tryz.f3.params.toList args.toList ds p := hA0
  rw [Tryz.params3] at hA hval hsz
  have lay : laidOutB Tryz.prog = true := by kernel_rfl
  obtain ⟨v0, vs0, d0, ds0, p0, q0, hargs, rfl, rfl, h0, r0⟩ := trodAll_cons hA
  obtain ⟨v1, vs1, d1, ds1, p1, q1, rfl, rfl, rfl, h1, r1⟩ := trodAll_cons r0
  obtain ⟨v2, vs2, d2, ds2, p2, q2, rfl, rfl, rfl, h2, r2⟩ := trodAll_cons r1
  obtain ⟨rfl, rfl, rfl⟩ := trodAll_nil r2
  obtain rfl : args = #[v0, v1, v2] := by cases args; simp_all
  obtain ⟨rfl, rfl⟩ := trodVars_none hV
  have hw : (d0.weights Tryz.prog 5).all (· ≤ reachBytes) = true ∧ (d1.weights Tryz.prog 22).all (· ≤ reachBytes) = true ∧ (d2.weights Tryz.prog 4).all (· ≤ reachBytes) = true ∧ True := by
    have h := hsz
    simp only [List.cons_append, List.nil_append, List.append_nil, DataW.weightsEach, List.all_append, Bool.and_eq_true] at h
    exact ⟨h.1, h.2.1, h.2.2.1, trivial⟩
  obtain ⟨a0, g0, f0, m0⟩ := Reads.numA Tryz.underlying5 (hval 0 5 v0 rfl rfl) h0 hw.1
  obtain ⟨a1, g1, f1, m1⟩ := Reads.row (fun k => readsStrs bulkOk) Tryz.underlying22 (hval 1 22 v1 rfl rfl) h1 hw.2.1
  obtain ⟨a2, g2, f2, m2⟩ := Reads.boolA Tryz.underlying4 (hval 2 4 v2 rfl rfl) h2 hw.2.2.1
  have hb : Rows.uptoBulk d0 + Rows.uptoBulk d1 + Rows.uptoBulk d2 ≤ 1048576 := by
    have h := hbulk _ rfl
    simp only [Rows.uptoSmall, decide_eq_true_eq, List.append_nil, List.cons_append, List.nil_append, Rows.uptoBulkAll] at h
    omega
  have law := lawLists1 a0 a1 a2 g0 (by show sumBy _ a1 ≤ _; omega)
  have hcall := PCon.door law hL hsh (vs := #[v0, v1, v2]) rfl (fun j g v hg hv => by
    match j, hg, hv with
    | 0, hg, hv => simp at hg hv; subst hg; subst hv; exact f0
    | 1, hg, hv => simp at hg hv; subst hg; subst hv; exact f1
    | 2, hg, hv => simp at hg hv; subst hg; subst hv; exact f2)
  refine hcall.mono fun e W' ⟨he, bel⟩ => ?_
  subst he
  exact ⟨_, rfl, _, _, _, [], _, [], hW', trodAll_mk1 (shut_bool Tryz.underlying4 _), (trodAll_cons_mk (Below.trod lay (by kernel_rfl) (of_decide_eq_true (by kernel_rfl)) h0 bel (trod_lt' h0)) (trodAll_cons_mk (Below.trod lay (by kernel_rfl) (of_decide_eq_true (by kernel_rfl)) h1 bel (trod_lt' h1)) (trodAll_cons_mk (Below.trod lay (by kernel_rfl) (of_decide_eq_true (by kernel_rfl)) h2 bel (trod_lt' h2)) trodAll_mk0))), rfl, bel.frame _, fun h => by cases h⟩
theorem over : Rows.mdocListsUptoRow.holds Tryz.pinned (Rows.OpenSpec.upto Rows.mdocListsSpec) :=
  OpenClaim.holds_of_cond 3 Tryz.f3 rfl rfl rfl rfl rfl rfl rfl ⟨rfl, rfl, rfl, rfl, rfl⟩ rfl rfl rfl rfl rfl (by kernel_rfl) Tryz.func3 (by kernel_rfl)
    (of_decide_eq_true (by kernel_rfl)) (by unfold Func.isWrapper; first | (rw [if_pos (by decide +kernel)]; kernel_rfl) | (rw [if_neg (by decide +kernel)]; exact ⟨rfl, rfl⟩))
    (fun os started H enc _ F => by rw [OpenClaim.pre_eq_preRow]; exact lifted os started H enc F)
end Go.Proofs.YtkjgkhgklkdbjaaGreatDoor.mdocLists
namespace Go.Proofs.YtkjgkhgklkdbjaaGreatDoor
open Go
set_option maxRecDepth 1000000 in
theorem mdocLists_holds : Rows.MdocListsUptoCardSaid :=
  Claim7.holds_tied_plain_at .later [] [.data, .data, .data, .data, .data, .mapped, .mapped, .data, .pinned] true (true, "e6474120018c8c0a81e0ae395acec37b08c957be2b67288f7c3e7ecc658015ec") false
    mdocLists.over (fun _ h => by cases h) (by kernel_rfl) (fun _ h => by cases h) mdocListsUpto_row_tie rfl ⟨rfl, rfl⟩ (by kernel_rfl) rfl
    (fun f fn hf hfn => by
      obtain rfl : f = 3 := Option.some.inj ((show Tryz.prog.funcNamed "flong/flonglaw11.MdocLists" = some 3 by kernel_rfl).symm.trans hf) |>.symm
      obtain rfl : fn = Tryz.f3 := (Option.some.inj (Tryz.func3.symm.trans hfn)).symm
      exact ⟨by kernel_rfl, fun j t ht => by
        rw [Tryz.params3] at ht
        have hm : t ∈ [5, 22, 4] := by simpa using Array.mem_of_getElem? ht
        have hall : ([5, 22, 4].all fun u => !Tryz.prog.wantsStandIn u) = true := by kernel_rfl
        exact (show Tryz.prog.wantsStandIn t = false by simpa using List.all_eq_true.1 hall t hm)⟩)
    (by kernel_rfl)
end Go.Proofs.YtkjgkhgklkdbjaaGreatDoor
end
