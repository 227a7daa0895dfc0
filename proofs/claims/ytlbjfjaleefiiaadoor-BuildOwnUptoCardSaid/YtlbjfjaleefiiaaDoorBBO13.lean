/- Of what the law BuildOwn needs: part 13. -/
import Derived.ChangeOld
import Derived.ChangeReads
import Derived.LaidMore
import Derived.Lay
import Derived.Lib.LaidU8T
import Derived.Lib.SmallJoins
import Derived.OpenShut
import Derived.PinnedBridge
import Derived.ProofKit
import Derived.SevenTiedAt
import Derived.Stop.Joined
import Derived.Test.YtlbjfjaleefiiaaDoorCards
import Derived.Test.YtlbjfjaleefiiaaDoorRows
import Derived.Test.YtlbjfjaleefiiaaDoorTie
import Derived.Test.YtlbjfjaleefiiaaDoorBBO7
import Derived.Test.YtlbjfjaleefiiaaDoorBBO8
set_option linter.unusedSimpArgs false
set_option linter.unusedVariables false
section
namespace Go.Proofs.YtlbjfjaleefiiaaDoor.Ev
open Go.ChangeShapes Go.WideShapes Go.ChangeAt Go.RowKit
abbrev laidB : List (String × DataW Unit) := [("unicode/utf8.acceptRanges", Rows.laid_unicode_utf8_acceptRanges), ("flong/cells.blank", Rows.laid_flong_cells_blank), ("flong/styles.gap", Rows.laid_flong_styles_gap), ("unicode/utf8.first", Rows.laid_unicode_utf8_first)]
theorem gGap : Tryd.prog.globalNamed "flong/styles.gap" = some 0 := by kernel_rfl
theorem tGap : (Tryd.prog.globals[0]?).map (·.type) = some 30 := by kernel_rfl
theorem gBlank : Tryd.prog.globalNamed "flong/cells.blank" = some 1 := by kernel_rfl
theorem tBlank : (Tryd.prog.globals[1]?).map (·.type) = some 30 := by kernel_rfl
set_option maxRecDepth 100000 in
theorem gap_laid {W : World} (h : laidMetH Tryd.prog laidB W) : W.cell? ⟨0, 0, none⟩ = some (.int .i32 32) ∧ W.cell? ⟨0, 1, none⟩ = some (.int .u8 0) := by
  rw [MakeChecks.laidMetH_plain _ _ _ (by kernel_rfl)] at h
  obtain ⟨ps, ⟨g0, t0, cs0, f0, p0, q0, hg0, ht0, hv0, hd0, ⟨g1, t1, cs1, f1, p1, q1, hg1, ht1, hv1, hd1, ⟨g2, t2, cs2, f2, p2, q2, hg2, ht2, hv2, hd2, _, _⟩, _⟩, _⟩, _, _⟩ := h
  obtain rfl := Option.some.inj (gGap.symm.trans hg2)
  obtain rfl := Option.some.inj (tGap.symm.trans ht2)
  obtain ⟨y0, y1, n, hx, hl, h0, h1⟩ := Go.ChangeShapes.trod_struct2 Tryd.underlying30 hd2
  rw [show Tryd.prog.cellsOf 30 = 2 from cells30] at hl
  rw [show Tryd.prog.cellsOf 21 = 1 from cells21] at h0
  rw [show Tryd.prog.cellsOf 5 = 1 from cells5] at h1
  obtain ⟨c0, c1, hcs⟩ : ∃ c0 c1, cs2.toList = [c0, c1] := by
    match hq : cs2.toList, hl with
    | [a, b], _ => exact ⟨a, b, rfl⟩
  rw [hcs] at h0 h1
  obtain ⟨n0, e0, rfl, _⟩ := DataW.trod_int Tryd.underlying21 h0
  obtain ⟨n1, e1, rfl, _⟩ := DataW.trod_int Tryd.underlying5 h1
  simp only [Rows.laid_flong_styles_gap, Prod.mk.injEq, DataW.agg.injEq, List.cons.injEq, DataW.lit.injEq, Lit.int.injEq, true_and, and_true] at hx
  obtain ⟨⟨rfl, rfl⟩, _⟩ := hx
  have e0' : c0 = .int .i32 32 := by simpa using e0
  have e1' : c1 = .int .u8 0 := by simpa using e1
  subst e0' e1'
  have hcs' : cs2 = #[.int .i32 32, .int .u8 0] := Array.toList_inj.mp hcs
  have k0 := World.var?_cell hg2 hv2 0
  have k1 := World.var?_cell hg2 hv2 1
  rw [hcs'] at k0 k1
  exact ⟨by simpa using k0, by simpa using k1⟩
set_option maxRecDepth 100000 in
theorem blank_laid {W : World} (h : laidMetH Tryd.prog laidB W) : W.cell? ⟨1, 0, none⟩ = some (.int .i32 32) ∧ W.cell? ⟨1, 1, none⟩ = some (.int .u8 0) := by
  rw [MakeChecks.laidMetH_plain _ _ _ (by kernel_rfl)] at h
  obtain ⟨ps, ⟨g0, t0, cs0, f0, p0, q0, hg0, ht0, hv0, hd0, ⟨g1, t1, cs1, f1, p1, q1, hg1, ht1, hv1, hd1, ⟨g2, t2, cs2, f2, p2, q2, hg2, ht2, hv2, hd2, _, _⟩, _⟩, _⟩, _, _⟩ := h
  obtain rfl := Option.some.inj (gBlank.symm.trans hg1)
  obtain rfl := Option.some.inj (tBlank.symm.trans ht1)
  obtain ⟨y0, y1, n, hx, hl, h0, h1⟩ := Go.ChangeShapes.trod_struct2 Tryd.underlying30 hd1
  rw [show Tryd.prog.cellsOf 30 = 2 from cells30] at hl
  rw [show Tryd.prog.cellsOf 21 = 1 from cells21] at h0
  rw [show Tryd.prog.cellsOf 5 = 1 from cells5] at h1
  obtain ⟨c0, c1, hcs⟩ : ∃ c0 c1, cs1.toList = [c0, c1] := by
    match hq : cs1.toList, hl with
    | [a, b], _ => exact ⟨a, b, rfl⟩
  rw [hcs] at h0 h1
  obtain ⟨n0, e0, rfl, _⟩ := DataW.trod_int Tryd.underlying21 h0
  obtain ⟨n1, e1, rfl, _⟩ := DataW.trod_int Tryd.underlying5 h1
  simp only [Rows.laid_flong_cells_blank, Prod.mk.injEq, DataW.agg.injEq, List.cons.injEq, DataW.lit.injEq, Lit.int.injEq, true_and, and_true] at hx
  obtain ⟨⟨rfl, rfl⟩, _⟩ := hx
  have e0' : c0 = .int .i32 32 := by simpa using e0
  have e1' : c1 = .int .u8 0 := by simpa using e1
  subst e0' e1'
  have hcs' : cs1 = #[.int .i32 32, .int .u8 0] := Array.toList_inj.mp hcs
  have k0 := World.var?_cell hg1 hv1 0
  have k1 := World.var?_cell hg1 hv1 1
  rw [hcs'] at k0 k1
  exact ⟨by simpa using k0, by simpa using k1⟩
theorem tabs_laid {W : World} (h : laidMetH Tryd.prog laidB W) : Go.Lib.Utf8Tabs 2 3 W := by
  rw [MakeChecks.laidMetH_plain _ _ _ (by kernel_rfl)] at h
  obtain ⟨ps, hL, _⟩ := h
  have hr := Go.Lib.LaidVars_reads hL
  have h3 := hr "unicode/utf8.first" Rows.laid_unicode_utf8_first (List.mem_cons_of_mem _ (List.mem_cons_of_mem _ (List.mem_cons_of_mem _ List.mem_cons_self)))
  have h4 := hr "unicode/utf8.acceptRanges" Rows.laid_unicode_utf8_acceptRanges List.mem_cons_self
  rw [show Rows.laid_unicode_utf8_first = Go.Lib.firstData from Pinned.utf8First_eq] at h3
  rw [show (Rows.laid_unicode_utf8_acceptRanges : DataW Unit) = Go.Lib.acceptData by kernel_rfl] at h4
  exact utf8Tabs_of_readsT (P := Tryd.prog) (ρ := Tryd.lays260_ren) (U8Types.of260 Tryd.lays260) ⟨by kernel_rfl, by kernel_rfl, by kernel_rfl, by kernel_rfl, by kernel_rfl, by kernel_rfl, by kernel_rfl⟩ h3 h4
def W0 (W : World) : Wd := ⟨W, limOf W, fun _ => 0, fun _ => none, fun _ => 0⟩
theorem hinv0 {W : World} (h : laidMetH Tryd.prog laidB W) : HInv C0 [] (W0 W) where
  box b fs hb := by simp at hb
  laid g ls hg j q hq := by
    obtain ⟨g1, g2⟩ := gap_laid h
    obtain ⟨b1, b2⟩ := blank_laid h
    obtain ⟨t1, t2⟩ := tabs_laid h
    by_cases eb : g = 1
    · subst eb
      rw [show C0.laid 1 = some [.int .i32 32, .int .u8 0] from rfl] at hg
      obtain rfl := Option.some.inj hg
      match j, hq with
      | 0, hq =>
        obtain rfl : PV.int .i32 32 = q := by simpa using hq
        exact ⟨rfl, lt_limOf b1, _, b1, .int⟩
      | 1, hq =>
        obtain rfl : PV.int .u8 0 = q := by simpa using hq
        exact ⟨rfl, lt_limOf b2, _, b2, .int⟩
    by_cases e0 : g = 0
    · subst e0
      rw [show C0.laid 0 = some [.int .i32 32, .int .u8 0] from rfl] at hg
      obtain rfl := Option.some.inj hg
      match j, hq with
      | 0, hq =>
        obtain rfl : PV.int .i32 32 = q := by simpa using hq
        exact ⟨rfl, lt_limOf g1, _, g1, .int⟩
      | 1, hq =>
        obtain rfl : PV.int .u8 0 = q := by simpa using hq
        exact ⟨rfl, lt_limOf g2, _, g2, .int⟩
    · by_cases e1 : g = 2
      · subst e1
        rw [laidFirst] at hg
        obtain rfl := Option.some.inj hg
        have hj : j < 256 := by
          have := (List.getElem?_eq_some_iff.1 hq).1
          simpa [firstPV] using this
        have : q = .int .u8 (Go.Lib.firstT j : Nat) := by
          simp [firstPV, hj] at hq; exact hq.symm
        subst this
        exact ⟨rfl, lt_limOf (t1 j hj), _, t1 j hj, .int⟩
      · by_cases e2 : g = 3
        · subst e2
          rw [laidAccept] at hg
          obtain rfl := Option.some.inj hg
          have hj : j < 32 := by
            have := (List.getElem?_eq_some_iff.1 hq).1
            simpa [acceptPV] using this
          have hq' : q = .int .u8 ((if j % 2 = 0 then Go.Lib.accLo (j / 2) else Go.Lib.accHi (j / 2) : Nat) : Int) := by
            simp [acceptPV, hj] at hq; exact hq.symm
          subst hq'
          obtain ⟨u1, u2⟩ := t2 (j / 2) (by omega)
          by_cases hm : j % 2 = 0
          · rw [if_pos hm]
            rw [show 2 * (j / 2) = j by omega] at u1
            exact ⟨rfl, lt_limOf u1, _, u1, .int⟩
          · rw [if_neg hm]
            rw [show 2 * (j / 2) + 1 = j by omega] at u2
            exact ⟨rfl, lt_limOf u2, _, u2, .int⟩
        · simp [C0, eb, e0, e1, e2] at hg
  fresh b hb := ⟨by
    show limOf W b = 0
    unfold limOf
    rw [show W.heap[b]? = none from Array.getElem?_eq_none hb], rfl⟩
  boxes b i k hb := by simp [W0] at hb
  gen0 b _ := rfl
  kept := ⟨W, trivial, Nat.le_refl _, fun b _ => ⟨rfl, rfl⟩⟩
theorem PCon.door {f : FuncId} {args : List FV} {r : Bool} (h : PCon C0 f args (.sc (.bool r))) {W : World} (hl : laidMetH Tryd.prog laidB W) {vs : Array Value} (hlen : vs.size = args.length)
    (hr : ∀ (j : Nat) (g : FV) (v : Value), args[j]? = some g → vs[j]? = some v → FRep (W0 W) none 0 g v) : Calls Tryd.prog f vs W fun e W' => e = .returned (.bool r) ∧ RowKit.Below W.heap.size W W' := by
  have h := h vs.toList (W0 W) (by simpa using hlen) (fun j g v hg hv => hr j g v hg (by simpa using hv)) (hinv0 hl) (fun b q k hb => by simp [W0] at hb)
  rw [show vs.toList.toArray = vs by simp] at h
  refine h.mono fun e W' ⟨v, W₁, J, h1, h2, h3, h4, h5⟩ => ?_
  subst h1 h2
  refine ⟨?_, ?_⟩
  · cases h3 with
    | sc hl hp => cases hp; rfl
  · exact ⟨h5.os, h5.tape, h5.output, h5.size, fun b hb => (h5.away b hb rfl).1⟩
section
variable {H : Type} {enc : TypeId × Value → H} {P : Program} {w : World} {base : Nat} {t : TypeId} {v : Value}
theorem bulkAll_sum (l : List (DataW H)) : Rows.uptoBulkAll l = sumBy Rows.uptoBulk l := by
  induction l with
  | nil => simp [Rows.uptoBulkAll, sumBy]
  | cons x l ih => simp only [Rows.uptoBulkAll, sumBy, ih]
theorem bulkOk : BulkOk (H := H) Rows.uptoBulk where
  one d := by
    cases d with
    | lit l => cases l <;> simp [Rows.uptoBulk]
    | nil => simp [Rows.uptoBulk]
    | ptr d => simp [Rows.uptoBulk]
    | slice elems spare => simp [Rows.uptoBulk]
    | agg parts => simp [Rows.uptoBulk]
    | iface t d => simp [Rows.uptoBulk]
    | map entries => simp [Rows.uptoBulk]
    | held h => simp [Rows.uptoBulk]
  str bs := by simp [Rows.uptoBulk]
  slice es sp := by simp only [Rows.uptoBulk, bulkAll_sum]; omega
  agg ps := by simp only [Rows.uptoBulk, bulkAll_sum]; omega
theorem Reads.open {α : Type} {f : α → PV} {Q : α → Prop} {μ : α → Nat} (h : ∀ k, Reads enc P w Rows.uptoBulk k t f Q μ) {d : DataW H} {p : List MemPlace} (hd : DataW.Trod enc P w 0 (fun _ => true) true t v d p) (hw : (d.weights P t).all (· ≤ reachBytes) = true) :
    ∃ a, Q a ∧ LRep w (f a).leaves v.cells.toList ∧ μ a ≤ Rows.uptoBulk d := by
  obtain ⟨k, hk⟩ := hd
  exact h k k (Nat.le_refl _) _ _ hk hw
theorem LRep.leaf {p : PV} (hp : p.leaves = [p]) (hv : v.cells.toList = [v]) (h : LRep w p.leaves v.cells.toList) : FRep (W0 w) none 0 (.sc p) v := by
  rw [hp, hv] at h
  obtain ⟨h1, h2⟩ := h.2 0 p v rfl rfl
  exact .sc h1 h2
theorem LRep.aggr {l : List PV} {cs : Array Value} (h : LRep w l cs.toList) : FRep (W0 w) none 0 (.agg (l.map .sc)) (.agg cs) := by
  refine .agg (by simpa using h.1) fun j f u hf hu => ?_
  rw [List.getElem?_map] at hf
  obtain ⟨q, hq, rfl⟩ := Option.map_eq_some_iff.1 hf
  obtain ⟨h1, h2⟩ := h.2 j q u hq (by simpa using hu)
  exact .sc h1 h2
theorem Reads.row {e : TypeId} {α : Type} {f : α → List PV} {Q : α → Prop} {μ : α → Nat} (h : ∀ k, Reads enc P w Rows.uptoBulk k t (fun a => .sl (f a)) Q μ) (ht : P.underlying t = some (.slice e)) (hval : Value.okWide P w .any base t v) {d : DataW H} {p : List MemPlace}
    (hd : DataW.Trod enc P w 0 (fun _ => true) true t v d p) (hw : (d.weights P t).all (· ≤ reachBytes) = true) : ∃ a, Q a ∧ FRep (W0 w) none 0 (.sc (.sl (f a))) v ∧ μ a ≤ Rows.uptoBulk d := by
  obtain ⟨a, ha, hr, hm⟩ := Reads.open h hd hw
  obtain ⟨A, n, c, rfl⟩ := okWide_slice ht hval
  exact ⟨a, ha, hr.leaf rfl rfl, hm⟩
theorem Reads.struct {fs : Array Field} {α : Type} {f : α → List PV} {Q : α → Prop} {μ : α → Nat} (h : ∀ k, Reads enc P w Rows.uptoBulk k t (fun a => .agg (f a)) Q μ) (ht : P.underlying t = some (.struct fs)) (hval : Value.okWide P w .any base t v) {d : DataW H} {p : List MemPlace}
    (hd : DataW.Trod enc P w 0 (fun _ => true) true t v d p) (hw : (d.weights P t).all (· ≤ reachBytes) = true) : ∃ a, Q a ∧ FRep (W0 w) none 0 (.agg ((f a).map .sc)) v ∧ μ a ≤ Rows.uptoBulk d := by
  obtain ⟨a, ha, hr, hm⟩ := Reads.open h hd hw
  obtain ⟨cs, rfl, _⟩ := okWide_struct ht hval
  exact ⟨a, ha, hr.aggr, hm⟩
theorem trod_lt' {sp : Nat → Bool} {held : Bool} {d : DataW H} {p : List MemPlace} (h : DataW.Trod enc P w base sp held t v d p) : ∀ x ∈ p, x.block < w.heap.size := by
  obtain ⟨n, hn⟩ := h
  exact DataW.trod_lt n _ _ _ hn
end
end Go.Proofs.YtlbjfjaleefiiaaDoor.Ev
end
