/- Of what the law TreeStays needs: part 10. -/
import Derived.Shelf.Strings.SlTrimAscii
import Derived.Test.YtlnnnfogbakimaaDoorBTS9
set_option linter.unusedSimpArgs false
set_option linter.unusedVariables false
section
namespace Go.Proofs.YtlnnnfogbakimaaDoor.Ev
open Go
def sqzd (l : List Glyph) : Bool := decide (squeeze l = l)
set_option maxRecDepth 20000 in
set_option maxHeartbeats 4000000 in
theorem treeSqueezed (l : List Glyph) (hl : l.length ≤ 1073741824) : PCon C0 78 [.sc (gl l)] (.sc (.bool (sqzd l))) := by
  have sq := treeSqueeze l hl
  have sm := cellsSame (squeeze l) l (by have := sqAll_len l; unfold squeeze; omega)
  refine penter78 ?_
  simp [Tryd.f78, gl] at sq sm ⊢
  refine CallQ.mk (Call.pure callable70 (by simp) (by simp) sq) ?_
  simp
  refine CallQ.mk (Call.pure callable52 (by simp) (by simp) sm) ?_
  simp [sqzd]
set_option maxRecDepth 20000 in
set_option maxHeartbeats 4000000 in
theorem notSqueezed (l : List Glyph) (hl : l.length ≤ 1073741824) : PCon C0 77 [.sc (gl l)] (.sc (.bool (!sqzd l))) := by
  have sq := treeSqueezed l hl
  refine penter77 ?_
  simp [Tryd.f77, gl] at sq ⊢
  refine CallQ.mk (Call.pure callable78 (by simp) (by simp) sq) ?_
  simp
def idxP {α : Type} (p : α → Bool) (l : List α) : Int := if l.findIdx p < l.length then (l.findIdx p : Nat) else -1
theorem idxP_any {α : Type} (p : α → Bool) (l : List α) : decide (0 ≤ idxP p l) = l.any p := by
  unfold idxP
  cases h : l.any p
  · have : ¬ l.findIdx p < l.length := by
      rw [List.findIdx_lt_length]
      intro ⟨x, hx, hp⟩
      rw [List.any_eq_false] at h
      exact h x hx hp
    rw [if_neg this]; rfl
  · have : l.findIdx p < l.length := by
      rw [List.findIdx_lt_length]
      rw [List.any_eq_true] at h
      exact h
    rw [if_pos this]; simp
theorem idxP_at {α : Type} {p : α → Bool} {l : List α} {i : Nat} (h : i < l.length) (hb : ∀ j (hj : j < l.length), j < i → p l[j] = false) (hi : p l[i] = true) : idxP p l = i := by
  have : l.findIdx p = i := by
    rw [List.findIdx_eq h]
    exact ⟨hi, fun j hj => hb j (by omega) hj⟩
  rw [idxP, this, if_pos h]
theorem idxP_none {α : Type} {p : α → Bool} {l : List α} (hb : ∀ j (hj : j < l.length), p l[j] = false) : idxP p l = -1 := by
  rw [idxP, if_neg]
  rw [List.findIdx_lt_length]
  rintro ⟨x, hx, hp⟩
  obtain ⟨j, hj, rfl⟩ := List.getElem_of_mem hx
  rw [hb j hj] at hp; simp at hp
set_option linter.unusedSimpArgs false in
set_option maxRecDepth 20000 in
set_option maxHeartbeats 4000000 in
theorem indexRows (l : List (List Glyph)) (p : List Glyph → Bool) (f : Nat) (hl : l.length ≤ 1073741824) (hc : callable C0.P f = true) (hf : ∀ x ∈ l, PCon C0 f [.sc (gl x)] (.sc (.bool (p x)))) : PCon C0 118 [.sc (.sl (l.map gl)), .fn f [] []] (.sc (.int .i64 (idxP p l))) := by
  refine penter118 ?_
  simp [Tryd.f118]
  refine loopC (fun d e H => ∃ (i : Nat) (x4 x5 x9 x16 : FV), d = l.length - i ∧ i ≤ l.length ∧ (∀ j (hj : j < l.length), j < i → p l[j] = false) ∧ e = [(0, .sc (.sl (l.map gl))), (1, .fn f [] []), (4, x4), (5, x5), (7, .sc (.int .i64 l.length)), (8, .sc (.int .i64 i)), (9, x9), (16, x16)]) (d := l.length)
    ⟨0, _, _, _, _, rfl, by omega, by simp, rfl⟩ ?_
  rintro d e H ⟨i, x4, x5, x9, x16, rfl, hi, hbef, rfl⟩
  simp
  refine CondC.mk (fun hlt => ?_) (fun hlt => ?_)
  · simp at hlt
    have hcon := hf l[i] (List.getElem_mem hlt)
    simp only [gl] at hcon
    simp [hlt, gl]
    refine CallQ.mk (Call.pure hc (by simp) (by simp) hcon) ?_
    simp
    refine CondC.mk (fun hp => ?_) (fun hp => ?_)
    · simp [idxP_at hlt hbef hp]
    · simp
      refine ⟨l.length - (i + 1), by omega, i + 1, rfl, by omega, fun j hj h => ?_, by rw [wrap64 (by omega) (by omega)]; omega⟩
      rcases Nat.lt_or_ge j i with h' | h'
      · exact hbef j hj h'
      · obtain rfl : j = i := by omega
        exact hp
  · simp at hlt
    simp [idxP_none fun j hj => hbef j hj (by omega)]
set_option maxRecDepth 20000 in
set_option maxHeartbeats 4000000 in
theorem containsRows (l : List (List Glyph)) (p : List Glyph → Bool) (f : Nat) (hl : l.length ≤ 1073741824) (hc : callable C0.P f = true) (hf : ∀ x ∈ l, PCon C0 f [.sc (gl x)] (.sc (.bool (p x)))) : PCon C0 76 [.sc (.sl (l.map gl)), .fn f [] []] (.sc (.bool (l.any p))) := by
  have ci := indexRows l p f hl hc hf
  refine penter76 ?_
  simp [Tryd.f76]
  refine CallQ.mk (Call.pure callable118 (by simp) (by simp) ci) ?_
  simp [idxP_any]
def badRow (n : Nat) (r : TRow) : Bool := if r.rule = true then decide (0 < r.cells.length) else !decide (r.cells.length = n) || r.cells.any fun c => !sqzd c
set_option linter.unusedSimpArgs false in
set_option maxRecDepth 20000 in
set_option maxHeartbeats 4000000 in
theorem rowBad (r : TRow) (hr : r.cells.length ≤ 1073741824 ∧ ∀ c ∈ r.cells, c.length ≤ 1073741824) (H : Heap) (b n : Nat) (hb : H[b]? = some [.sc (.int .i64 n)]) (hp : NP H) : Con C0 75 [r.pv.toFV, .ptr b 0] H (.sc (.bool (badRow n r))) H := by
  have hbl : b < H.length := (List.getElem?_eq_some_iff.1 hb).1
  refine con_trim (C := C0) (fn := Tryd.f75) Tryd.func75 rfl (by decide) mixed (mv := []) (vars := [0, 1, 2, 3, 5, 9, 19]) (c := Tryd.f75.body.getD .skip) rfl rfl hp ?_
  have cr := containsRows r.cells (fun c => !sqzd c) 77 hr.1 callable77 fun x hx => notSqueezed x (hr.2 x hx)
  simp [Tryd.f75, TRow.pv]
  cases hrule : r.rule
  · by_cases hn : r.cells.length = n
    · simp [hn, hb, heap_old hbl]
      refine CallQ.mk (Call.pure callable76 (by simp) (by simp) cr) ?_
      simp [badRow, hrule, hn]
    · have hn' : ¬ (r.cells.length : Int) = n := by omega
      simp [hn', hb, heap_old hbl]
      simp [badRow, hrule, hn]
  · simp [badRow, hrule]
set_option linter.unusedSimpArgs false in
set_option maxRecDepth 20000 in
set_option maxHeartbeats 4000000 in
theorem indexBad (l : List TRow) (hl : l.length ≤ 1073741824) (hr : ∀ r ∈ l, r.cells.length ≤ 1073741824 ∧ ∀ c ∈ r.cells, c.length ≤ 1073741824) (H : Heap) (b n : Nat) (hb : H[b]? = some [.sc (.int .i64 n)]) (hp : NP H) :
    Con C0 117 [.sc (.sl (l.map TRow.pv)), .fn 75 [] [.ptr b 0]] H (.sc (.int .i64 (idxP (badRow n) l))) H := by
  refine con_of (C := C0) (fn := Tryd.f117) Tryd.func117 rfl (by decide) mixed (mv := []) (vars := [0, 1, 4, 5, 7, 8, 9, 16]) (c := Tryd.f117.body.getD .skip) rfl ?_
  simp [Tryd.f117]
  refine loopC (fun d e H' => ∃ (i : Nat) (x4 x5 x9 x16 : FV), d = l.length - i ∧ i ≤ l.length ∧ (∀ j (hj : j < l.length), j < i → badRow n l[j] = false) ∧ H' = H ∧ e = [(0, .sc (.sl (l.map TRow.pv))), (1, .fn 75 [] [.ptr b 0]), (4, x4), (5, x5), (7, .sc (.int .i64 l.length)), (8, .sc (.int .i64 i)), (9, x9), (16, x16)]) (d := l.length)
    ⟨0, _, _, _, _, rfl, by omega, by simp, rfl, rfl⟩ ?_
  rintro d e H' ⟨i, x4, x5, x9, x16, rfl, hi, hbef, rfl, rfl⟩
  simp
  refine CondC.mk (fun hlt => ?_) (fun hlt => ?_)
  · simp at hlt
    have hcon := rowBad l[i] (hr _ (List.getElem_mem hlt)) H' b n hb hp
    simp only [TRow.pv] at hcon
    simp at hcon
    simp [hlt, TRow.pv]
    refine CallQ.mk (Call.shared callable75 hcon) ?_
    simp
    refine CondC.mk (fun hp => ?_) (fun hp => ?_)
    · simp [idxP_at hlt hbef hp]
    · simp
      refine ⟨l.length - (i + 1), by omega, i + 1, rfl, by omega, fun j hj h => ?_, by rw [wrap64 (by omega) (by omega)]; omega⟩
      rcases Nat.lt_or_ge j i with h' | h'
      · exact hbef j hj h'
      · obtain rfl : j = i := by omega
        exact hp
  · simp at hlt
    simp [idxP_none fun j hj => hbef j hj (by omega)]
set_option maxRecDepth 20000 in
set_option maxHeartbeats 4000000 in
theorem containsBad (l : List TRow) (hl : l.length ≤ 1073741824) (hr : ∀ r ∈ l, r.cells.length ≤ 1073741824 ∧ ∀ c ∈ r.cells, c.length ≤ 1073741824) (H : Heap) (b n : Nat) (hb : H[b]? = some [.sc (.int .i64 n)]) (hp : NP H) :
    Con C0 74 [.sc (.sl (l.map TRow.pv)), .fn 75 [] [.ptr b 0]] H (.sc (.bool (l.any (badRow n)))) H := by
  have ci := indexBad l hl hr H b n hb hp
  refine con_of (C := C0) (fn := Tryd.f74) Tryd.func74 rfl (by decide) mixed (mv := []) (vars := [0, 1, 4]) (c := Tryd.f74.body.getD .skip) rfl ?_
  simp [Tryd.f74]
  refine CallQ.mk (Call.shared callable117 ci) ?_
  simp [idxP_any]
theorem dropWhile_nil {α : Type} (p : α → Bool) (l : List α) : l.dropWhile p = [] ↔ ∀ x ∈ l, p x = true := by
  induction l with
  | nil => simp
  | cons x l ih =>
    rw [List.dropWhile_cons]
    by_cases h : p x = true
    · rw [if_pos h, ih]; simp [h]
    · rw [if_neg h]; simp [h]
theorem trim_nil (l cs : List UInt8) : Go.Lib.trimS l cs = [] ↔ ∀ x ∈ l, cs.contains x = true := by
  unfold Go.Lib.trimS Go.Lib.trimLeftS Go.Lib.trimRightS
  rw [dropWhile_nil]
  constructor
  · intro h
    by_cases hn : l.reverse.dropWhile (cs.contains ·) = []
    · rw [dropWhile_nil] at hn
      exact fun x hx => hn x (List.mem_reverse.2 hx)
    · exfalso
      obtain ⟨y, r, hy⟩ := List.exists_cons_of_ne_nil hn
      have h1 : cs.contains y = true := h y (by rw [hy]; simp)
      have h2 : ¬ (cs.contains y = true) := by
        have := List.head?_dropWhile_not (cs.contains ·) l.reverse
        rw [hy] at this
        simpa using this
      exact h2 h1
  · intro h x hx
    exact h x (by
      rw [List.mem_reverse] at hx
      exact List.mem_reverse.1 ((List.dropWhile_sublist _).subset hx))
theorem conTrim (s : ByteArray) (hs : s.size ≤ 1073741824) : PCon C0 73 [.sc (.str s), .sc (.str lcr)] (.sc (.str ⟨(Go.Lib.trimS s.data.toList [108, 99, 114]).toArray⟩)) := by
  refine pcon_below rfl (fun _ _ => .str) fun vs W hl ha hH => ?_
  obtain ⟨u, v, rfl, hu, hv⟩ := args2 hl ha
  rw [hu.str, hv.str]
  exact Any.strings_Trim_laid Tryd.lays160 (by kernel_rfl) s lcr W.w (by omega) (by decide) (ascii_of_all (by decide))
def colsOk (c : ByteArray) : Bool := c.data.toList.all isSide
theorem side_contains (b : UInt8) : [(108 : UInt8), 99, 114].contains b = isSide b := by
  apply Bool.eq_iff_iff.2
  simp [isSide, or_assoc]
theorem trim_cols (c : ByteArray) : decide ((⟨(Go.Lib.trimS c.data.toList [108, 99, 114]).toArray⟩ : ByteArray) = ⟨#[]⟩) = colsOk c := by
  apply Bool.eq_iff_iff.2
  rw [decide_eq_true_eq, colsOk, List.all_eq_true]
  have : ((⟨(Go.Lib.trimS c.data.toList [108, 99, 114]).toArray⟩ : ByteArray) = ⟨#[]⟩) ↔ Go.Lib.trimS c.data.toList [108, 99, 114] = [] :=
    ⟨fun h => by have := congrArg (fun b : ByteArray => b.data.toList) h; simpa using this, fun h => by rw [h]⟩
  rw [this, trim_nil]
  simp only [side_contains]
def rightT (t : Tbl) : Bool := !(decide (t.cols.size = 0) || (decide (20 < t.cols.size) || (!colsOk t.cols || (t.all && !t.box)))) && !t.rows.any (badRow t.cols.size)
set_option linter.unusedSimpArgs false in
set_option maxRecDepth 20000 in
set_option maxHeartbeats 4000000 in
theorem treeRight (t : Tbl) (ht : TblS t) : PCon C0 42 [t.pv.toFV] (.sc (.bool (rightT t))) := by
  refine penter42 ?_
  have tr := conTrim t.cols ht.cols
  have tc := trim_cols t.cols
  generalize (⟨(Go.Lib.trimS t.cols.data.toList [108, 99, 114]).toArray⟩ : ByteArray) = T at tr tc
  have cb := containsBad t.rows ht.rows ht.cells [[.sc (.str t.cols), .sc (.sl (t.rows.map TRow.pv)), .sc (.bool t.box), .sc (.bool t.all)], [.sc (.int .i64 t.cols.size)]] 1 t.cols.size rfl (np_cons (by simp) (np_cons (by simp) np_nil))
  by_cases h0 : t.cols.size = 0
  · simp [Tryd.f42, Tbl.pv, h0, rightT]
  have h0' : ¬ t.cols = ByteArray.empty := fun h => h0 (by rw [h]; rfl)
  by_cases h20 : 20 < t.cols.size
  · have h20' : (20 : Int) < t.cols.size := by omega
    simp [Tryd.f42, Tbl.pv, h0', h20', rightT, h20]
  have h20' : ¬ (20 : Int) < t.cols.size := by omega
  simp [Tryd.f42, Tbl.pv, h0', h20', lcr] at tr ⊢
  refine CallQ.mk (Call.pure callable73 (by simp) (by simp) tr) ?_
  simp
  by_cases hT : T = ⟨#[]⟩
  · have hco : colsOk t.cols = true := by rw [← tc]; simp [hT]
    cases hall : t.all
    · rw [hall] at cb
      simp [hT]
      refine CallQ.mk (Call.shared callable74 cb) ?_
      simp [rightT, h0, h20, hco, hall]
    · cases hbox : t.box
      · simp [hT]
        simp [rightT, h0, h20, hco, hall, hbox]
      · rw [hall, hbox] at cb
        simp [hT]
        refine CallQ.mk (Call.shared callable74 cb) ?_
        simp [rightT, h0, h20, hco, hall, hbox]
  · have hco : colsOk t.cols = false := by rw [← tc]; simp [hT]
    simp [hT]
    simp [rightT, hco]
end Go.Proofs.YtlnnnfogbakimaaDoor.Ev
end
section
namespace Go.Proofs.YtlnnnfogbakimaaDoor.Ev
open Go
theorem sqAll_app (l m : List Glyph) : sqAll (l ++ m) = m.foldl sqStep (sqAll l) := by rw [sqAll, List.foldl_append]; rfl
end Go.Proofs.YtlnnnfogbakimaaDoor.Ev
end
section
namespace Go.Proofs.YtlnnnfogbakimaaDoor.Ev
open Go
theorem squeeze_idem (l : List Glyph) : squeeze (squeeze l) = squeeze l := by
  have : ∀ (l : List Glyph) (s : List Glyph × Bool), sqAll s.1 = (s.1, false) → sqAll (l.foldl sqStep s).1 = ((l.foldl sqStep s).1, false) := by
    intro l
    induction l with
    | nil => intro s h; exact h
    | cons g l ih =>
      intro s h
      rw [List.foldl_cons]
      refine ih _ ?_
      unfold sqStep
      split
      · exact h
      · rename_i hg
        simp only
        split
        · rename_i hw
          rw [List.append_assoc, sqAll_app, h]
          simp [sqStep, hg, hw.2]
        · rw [sqAll_app, h]
          simp [sqStep, hg]
  have := this l ([], false) rfl
  rw [squeeze, squeeze]
  rw [show sqAll (sqAll l).1 = ((sqAll l).1, false) from this]
theorem sqzd_squeeze (l : List Glyph) : sqzd (squeeze l) = true := by simp [sqzd, squeeze_idem]
theorem sqzd_nil : sqzd [] = true := by decide
theorem cellM_sq (r : TRow) (k : Nat) : sqzd (cellM r k) = true := by
  unfold cellM
  split
  · exact sqzd_squeeze _
  · exact sqzd_nil
theorem mendCols_ok (c : ByteArray) : 0 < (mendCols c).size ∧ (mendCols c).size ≤ 20 ∧ colsOk (mendCols c) = true := by
  unfold mendCols
  by_cases h : List.take 20 (List.filter isSide c.data.toList) = []
  · rw [if_pos h]; decide
  · rw [if_neg h]
    refine ⟨?_, ?_, ?_⟩
    · show 0 < (List.take 20 (List.filter isSide c.data.toList)).toArray.size
      rw [List.size_toArray]; exact List.length_pos_iff.2 h
    · show (List.take 20 (List.filter isSide c.data.toList)).toArray.size ≤ 20
      rw [List.size_toArray, List.length_take]; omega
    · rw [colsOk, List.all_eq_true]
      intro b hb
      have hb' : b ∈ List.take 20 (List.filter isSide c.data.toList) := by simpa using hb
      exact (List.mem_filter.1 (List.mem_of_mem_take hb')).2
theorem mend_right (t : Tbl) : rightT (mendT t) = true := by
  obtain ⟨h1, h2, h3⟩ := mendCols_ok t.cols
  have hr : (mendT t).rows.any (badRow (mendT t).cols.size) = false := by
    rw [List.any_eq_false]
    intro r hr
    obtain ⟨x, _, rfl⟩ := List.mem_map.1 hr
    show ¬ badRow (mendCols t.cols).size (mendRow (mendCols t.cols).size x) = true
    rw [mendRow_eq]
    cases hx : x.rule
    · have hany : ((List.range (mendCols t.cols).size).map (cellM x)).any (fun c => !sqzd c) = false := by
        rw [List.any_eq_false]
        intro c hc
        obtain ⟨k, _, rfl⟩ := List.mem_map.1 hc
        simp [cellM_sq]
      simp only [badRow, hany]
      simp [cellM_sq]
    · simp [badRow]
  have ha : ((mendT t).all && !(mendT t).box) = false := by
    show ((t.all && t.box) && !t.box) = false
    cases t.all <;> cases t.box <;> rfl
  unfold rightT
  rw [hr, ha, show (mendT t).cols = mendCols t.cols from rfl, h3]
  have e1 : decide ((mendCols t.cols).size = 0) = false := decide_eq_false (by omega)
  have e2 : decide (20 < (mendCols t.cols).size) = false := decide_eq_false (by omega)
  rw [e1, e2]; rfl
theorem right_all {t : Tbl} (h : rightT t = true) : 0 < t.cols.size ∧ t.cols.size ≤ 20 ∧ colsOk t.cols = true ∧ (t.all && !t.box) = false ∧ ∀ r ∈ t.rows, badRow t.cols.size r = false := by
  unfold rightT at h
  simp only [Bool.and_eq_true, Bool.not_eq_true', Bool.or_eq_false_iff, decide_eq_false_iff_not, Bool.not_eq_false'] at h
  obtain ⟨⟨h1, h2, h3, h4⟩, h5⟩ := h
  refine ⟨by omega, by omega, h3, h4, fun r hr => ?_⟩
  rw [List.any_eq_false] at h5
  simpa using h5 r hr
theorem mend_same {t : Tbl} (h : rightT t = true) : mendT t = t := by
  obtain ⟨h1, h2, h3, h4, h5⟩ := right_all h
  have hc : mendCols t.cols = t.cols := by
    have hf : List.filter isSide t.cols.data.toList = t.cols.data.toList := by
      rw [List.filter_eq_self]
      rw [colsOk, List.all_eq_true] at h3
      exact h3
    have hl : t.cols.data.toList.length ≤ 20 := by rw [Array.length_toList]; exact h2
    unfold mendCols
    rw [hf, List.take_of_length_le hl, if_neg (fun hn => by
      have : t.cols.data.toList.length = 0 := by rw [hn]; rfl
      rw [Array.length_toList] at this
      have h1' : 0 < t.cols.data.size := h1
      omega)]
  have hr : t.rows.map (mendRow t.cols.size) = t.rows := by
    conv => rhs; rw [← List.map_id t.rows]
    refine List.map_congr_left fun r hr => ?_
    have hb := h5 r hr
    rw [mendRow_eq]
    obtain ⟨rule, cells⟩ := r
    cases hx : rule
    · subst hx
      simp [badRow] at hb
      obtain ⟨hb1, hb2⟩ := hb
      have : (List.range t.cols.size).map (cellM ⟨false, cells⟩) = cells := by
        refine List.ext_getElem (by simp [hb1]) fun k hk1 hk2 => ?_
        have hs := hb2 cells[k] (List.getElem_mem hk2)
        simp [cellM, hk2]
        simpa [sqzd] using hs
      simp [this]
    · subst hx
      simp [badRow] at hb
      simp [hb]
  have ha : (t.all && t.box) = t.all := by
    revert h4
    cases t.all <;> cases t.box <;> simp
  unfold mendT
  rw [hc, hr, ha]
theorem TblS.ok {t : Tbl} (h : TblS t) : t.ok := ⟨by have := h.rows; omega, fun r hr => ⟨by have := (h.cells r hr).1; omega, fun c hc => by have := (h.cells r hr).2 c hc; omega⟩⟩
end Go.Proofs.YtlnnnfogbakimaaDoor.Ev
end
section
namespace Go.Proofs.YtlnnnfogbakimaaDoor.Ev
open Go
namespace Node
def kcnt (x : Node) : Nat := cntL x.kids
theorem cntL_eq (l : List Node) : cntL l = l.length + sumBy kcnt l := by
  induction l with
  | nil => rw [cntL]; rfl
  | cons x l ih => rw [cntL, cnt_eq, ih, sumBy, List.length_cons, kcnt]; omega
theorem cntL_kids {l : List Node} {x : Node} (h : x ∈ l) : cntL x.kids < cntL l := by
  have h1 := sumBy_mem' kcnt h
  have h2 : 0 < l.length := List.length_pos_of_mem h
  have h3 : kcnt x = cntL x.kids := rfl
  rw [cntL_eq l]; omega
theorem deeps_kids {l : List Node} {x : Node} (h : x ∈ l) : deeps x.kids < deeps l := by
  have := deeps_le h; omega
end Node
set_option linter.unusedSimpArgs false in
set_option maxRecDepth 20000 in
set_option maxHeartbeats 4000000 in
theorem treeCount : ∀ (n : Nat) (a : List Node), SizeOf.sizeOf a < n → Node.cntL a ≤ 1073741824 → PCon C0 45 [.sc (.sl (a.map Node.pv))] (.sc (.int .i64 (Node.cntL a : Nat))) := by
  intro n
  induction n with
  | zero => intro a h; omega
  | succ n ih =>
    intro a hn hl
    have hle := Node.cntL_eq a
    rw [hle] at hl ⊢
    refine penter45 ?_
    simp [Tryd.f45]
    refine loopC (fun d e H => ∃ (i : Nat) (x2 x5 x11 : FV), d = a.length - i ∧ i ≤ a.length ∧ e = [(0, .sc (.sl (a.map Node.pv))), (2, x2), (3, .sc (.int .i64 (a.length + sumBy Node.kcnt (a.take i) : Nat))), (5, x5), (8, .sc (.sl (a.map Node.pv))), (9, .sc (.int .i64 a.length)), (10, .sc (.int .i64 i)), (11, x11)]) (d := a.length) ⟨0, _, _, _, rfl, by omega, by simp [sumBy]; exact ⟨rfl, rfl, rfl⟩⟩ ?_
    rintro d e H ⟨i, x2, x5, x11, rfl, hi, rfl⟩
    simp
    refine CondC.mk (fun hlt => ?_) (fun hlt => ?_)
    · simp at hlt
      have ea := Node.pv_eq a[i]
      have hk := ih a[i].kids (by have := Node.kids_lt (List.getElem_mem hlt); omega) (by have := Node.cntL_kids (List.getElem_mem hlt); omega)
      have ht := sumBy_take Node.kcnt hlt
      have hm := sumBy_take_le Node.kcnt a (i + 1)
      have hkc : Node.kcnt a[i] = Node.cntL a[i].kids := rfl
      generalize hS : sumBy Node.kcnt (a.take i) = S at *
      simp [hlt, ea, gl]
      refine CallQ.mk (Call.pure callable45 (by simp) (by simp) hk) ?_
      simp
      refine ⟨a.length - (i + 1), by omega, i + 1, rfl, by omega, by rw [wrap64 (by omega) (by omega)]; omega, by rw [wrap64 (by omega) (by omega)]; omega⟩
    · simp at hlt
      simp [List.take_of_length_le hlt]
set_option linter.unusedSimpArgs false in
set_option maxRecDepth 20000 in
set_option maxHeartbeats 4000000 in
theorem treeDeep : ∀ (n : Nat) (a : List Node), SizeOf.sizeOf a < n → Node.cntL a ≤ 1073741824 → PCon C0 46 [.sc (.sl (a.map Node.pv))] (.sc (.int .i64 (Node.deeps a : Nat))) := by
  intro n
  induction n with
  | zero => intro a h; omega
  | succ n ih =>
    intro a hn hl
    have hle := Node.cntL_eq a
    have hdc := Node.deeps_cnt _ a (Nat.lt_succ_self _)
    refine penter46 ?_
    simp [Tryd.f46]
    refine loopC (fun d e H => ∃ (i : Nat) (x2 x5 x9 : FV), d = a.length - i ∧ i ≤ a.length ∧ e = [(0, .sc (.sl (a.map Node.pv))), (2, x2), (3, .sc (.int .i64 (Node.deeps (a.take i) : Nat))), (5, x5), (6, .sc (.sl (a.map Node.pv))), (7, .sc (.int .i64 a.length)), (8, .sc (.int .i64 i)), (9, x9)]) (d := a.length) ⟨0, _, _, _, rfl, by omega, rfl⟩ ?_
    rintro d e H ⟨i, x2, x5, x9, rfl, hi, rfl⟩
    simp
    refine CondC.mk (fun hlt => ?_) (fun hlt => ?_)
    · simp at hlt
      have ea := Node.pv_eq a[i]
      have hk := ih a[i].kids (by have := Node.kids_lt (List.getElem_mem hlt); omega) (by have := Node.cntL_kids (List.getElem_mem hlt); omega)
      have hdl := Node.deeps_kids (List.getElem_mem hlt)
      simp [hlt, ea, gl]
      refine CallQ.mk (Call.pure callable46 (by simp) (by simp) hk) ?_
      have w1 : IntKind.i64.wrap (1 + (Node.deeps a[i].kids : Int)) = 1 + (Node.deeps a[i].kids : Int) := wrap64 (by omega) (by omega)
      simp [w1]
      refine ⟨a.length - (i + 1), by omega, i + 1, rfl, by omega, ?_, by rw [wrap64 (by omega) (by omega)]; omega⟩
      rw [Node.deeps_take hlt]
      split <;> omega
    · simp at hlt
      simp [List.take_of_length_le hlt]
set_option linter.unusedSimpArgs false in
set_option maxRecDepth 20000 in
set_option maxHeartbeats 4000000 in
theorem indexNodes (l : List Node) (p : Node → Bool) (f : Nat) (cap : List FV) (hcap : cap = [] ∨ ∃ b, cap = [.ptr b 0]) (hl : l.length ≤ 1073741824) (hc : callable C0.P f = true) (H : Heap) (hf : ∀ x ∈ l, Con C0 f (x.pv.toFV :: cap) H (.sc (.bool (p x))) H) :
    Con C0 119 [.sc (.sl (l.map Node.pv)), .fn f [] cap] H (.sc (.int .i64 (idxP p l))) H := by
  refine con_of (C := C0) (fn := Tryd.f119) Tryd.func119 rfl (by decide) mixed (mv := []) (vars := [0, 1, 4, 5, 7, 8, 9, 16]) (c := Tryd.f119.body.getD .skip) rfl ?_
  simp [Tryd.f119]
  refine loopC (fun d e H' => ∃ (i : Nat) (x4 x5 x9 x16 : FV), d = l.length - i ∧ i ≤ l.length ∧ (∀ j (hj : j < l.length), j < i → p l[j] = false) ∧ H' = H ∧ e = [(0, .sc (.sl (l.map Node.pv))), (1, .fn f [] cap), (4, x4), (5, x5), (7, .sc (.int .i64 l.length)), (8, .sc (.int .i64 i)), (9, x9), (16, x16)]) (d := l.length)
    ⟨0, _, _, _, _, rfl, by omega, by simp, rfl, rfl⟩ ?_
  rintro d e H' ⟨i, x4, x5, x9, x16, rfl, hi, hbef, rfl, rfl⟩
  simp
  refine CondC.mk (fun hlt => ?_) (fun hlt => ?_)
  · simp at hlt
    have hcon := hf l[i] (List.getElem_mem hlt)
    rw [Node.pv_eq] at hcon
    simp [gl] at hcon
    have fin : p l[i] = false → ∃ d', d' < l.length - i ∧ ∃ i', d' = l.length - i' ∧ i' ≤ l.length ∧ (∀ j (hj : j < l.length), j < i' → p l[j] = false) ∧ IntKind.i64.wrap ((i : Int) + 1) = (i' : Nat) := fun hp =>
      ⟨l.length - (i + 1), by omega, i + 1, rfl, by omega, fun j hj h => by
        rcases Nat.lt_or_ge j i with h' | h'
        · exact hbef j hj h'
        · obtain rfl : j = i := by omega
          exact hp, by rw [wrap64 (by omega) (by omega)]; omega⟩
    rcases hcap with rfl | ⟨b, rfl⟩
    all_goals
      simp [hlt, Node.pv_eq l[i], gl]
      refine CallQ.mk (Call.shared hc hcon) ?_
      simp
      refine CondC.mk (fun hp => ?_) (fun hp => ?_)
      · simp [idxP_at hlt hbef hp]
      · simp
        exact fin hp
  · simp at hlt
    simp [idxP_none fun j hj => hbef j hj (by omega)]
set_option maxRecDepth 20000 in
set_option maxHeartbeats 4000000 in
theorem containsNodes (l : List Node) (p : Node → Bool) (f : Nat) (cap : List FV) (hcap : cap = [] ∨ ∃ b, cap = [.ptr b 0]) (hl : l.length ≤ 1073741824) (hc : callable C0.P f = true) (H : Heap) (hf : ∀ x ∈ l, Con C0 f (x.pv.toFV :: cap) H (.sc (.bool (p x))) H) :
    Con C0 80 [.sc (.sl (l.map Node.pv)), .fn f [] cap] H (.sc (.bool (l.any p))) H := by
  have ci := indexNodes l p f cap hcap hl hc H hf
  refine con_of (C := C0) (fn := Tryd.f80) Tryd.func80 rfl (by decide) mixed (mv := []) (vars := [0, 1, 4]) (c := Tryd.f80.body.getD .skip) rfl ?_
  simp [Tryd.f80]
  refine CallQ.mk (Call.shared callable119 ci) ?_
  simp [idxP_any]
def bareT (t : Tbl) : Bool := decide (t.cols = ByteArray.empty) && (t.rows.isEmpty && (!t.box && !t.all))
set_option maxRecDepth 20000 in
set_option maxHeartbeats 4000000 in
theorem treeBare (t : Tbl) : PCon C0 120 [t.pv.toFV] (.sc (.bool (bareT t))) := by
  refine penter120 ?_
  have he : (ByteArray.empty = (⟨#[]⟩ : ByteArray)) = True := eq_true rfl
  by_cases h1 : t.cols = ByteArray.empty
  · by_cases h2 : t.rows = []
    · cases h3 : t.box
      · simp [Tryd.f120, Tbl.pv, h1, h2, h3, bareT, he]
      · simp [Tryd.f120, Tbl.pv, h1, h2, h3, bareT, he]
    · have h2' : ¬ (t.rows.length : Int) = 0 := by have := List.length_pos_iff.2 h2; omega
      simp [Tryd.f120, Tbl.pv, h1, h2, h2', bareT, he]
  · have h1' : ¬ t.cols = (⟨#[]⟩ : ByteArray) := h1
    simp [Tryd.f120, Tbl.pv, h1', bareT, h1]
end Go.Proofs.YtlnnnfogbakimaaDoor.Ev
end
section
namespace Go.Proofs.YtlnnnfogbakimaaDoor.Ev
open Go
def okHas (x : Node) : Bool := (hasText x.kind || decide ((x.text.length : Int) = 0)) && ((hasKids x.kind || decide ((x.kids.length : Int) = 0)) && ((decide (x.kind = 6) || decide ((x.rows.length : Int) = 0)) && (hasN x.kind || decide (x.n = 0))))
def okN (inn : Int) (x : Node) : Bool := standsIn x.kind inn && (wholeN x && (decide (0 ≤ x.line) && (decide (x.line ≤ 1099511627775) && (decide (0 ≤ x.n) && (decide (x.n ≤ 200) && (sqzd x.text &&
  (okHas x && (if x.kind = 7 then rightT x.grid else bareT x.grid))))))))
mutual
def checkN (inn : Int) : Node → Bool
  | .mk kind line n text kids rows grid => okN inn (.mk kind line n text kids rows grid) && checkL kind kids
def checkL (inn : Int) : List Node → Bool
  | [] => true
  | x :: l => checkN inn x && checkL inn l
end
theorem checkN_eq (inn : Int) (x : Node) : checkN inn x = (okN inn x && checkL x.kind x.kids) := by cases x; rw [checkN]; rfl
theorem checkL_all (inn : Int) (l : List Node) : checkL inn l = l.all (checkN inn) := by
  induction l with
  | nil => rw [checkL]; rfl
  | cons x l ih => rw [checkL, ih]; rfl
theorem checkL_any (inn : Int) (l : List Node) : (!(l.any fun y => !checkN inn y)) = checkL inn l := by
  rw [checkL_all, List.any_eq_not_all_not, Bool.not_not]
  simp
theorem fullKind {k i : Int} (h : standsIn k i = true) : k = 1 ∨ k = 2 ∨ k = 3 ∨ k = 4 ∨ k = 5 ∨ k = 6 ∨ k = 7 := by
  unfold standsIn at h
  by_cases h1 : k = 1
  · exact .inl h1
  · by_cases h2 : k = 2
    · exact .inr (.inl h2)
    · simp [h1, h2] at h; omega
set_option linter.unusedSimpArgs false in
set_option maxRecDepth 20000 in
set_option maxHeartbeats 4000000 in
theorem checkIn (y : Node) (k : Int) (hy : PCon C0 82 [y.pv.toFV, .sc (.int .i64 k)] (.sc (.bool (checkN k y)))) (H : Heap) (b : Nat) (c1 c2 c3 c4 c5 c6 c7 c8 c9 : FV) (hb : H[b]? = some [.sc (.int .i64 k), c1, c2, c3, c4, c5, c6, c7, c8, c9]) (hp : NP H) :
    Con C0 121 [y.pv.toFV, .ptr b 0] H (.sc (.bool (!checkN k y))) H := by
  have hbl : b < H.length := (List.getElem?_eq_some_iff.1 hb).1
  refine con_trim (C := C0) (fn := Tryd.f121) Tryd.func121 rfl (by decide) mixed (mv := []) (vars := [0, 1, 2, 3]) (c := Tryd.f121.body.getD .skip) rfl rfl hp ?_
  rw [Node.pv_eq] at hy ⊢
  simp [gl] at hy
  simp [Tryd.f121, gl, hb, heap_old hbl]
  refine CallQ.mk (Call.pure callable82 (by simp) (by simp) hy) ?_
  simp
set_option linter.unusedSimpArgs false in
set_option maxRecDepth 20000 in
set_option maxHeartbeats 8000000 in
theorem treeCheck : ∀ (n : Nat) (x : Node), SizeOf.sizeOf x < n → x.Small → ∀ inn : Int, PCon C0 82 [x.pv.toFV, .sc (.int .i64 inn)] (.sc (.bool (checkN inn x))) := by
  intro n
  induction n with
  | zero => intro x h; omega
  | succ n ih =>
    intro x hn hx inn
    refine penter82 ?_
    have ea := Node.pv_eq x
    have cf := treeFull x.kind
    have st := treeStands x.kind inn
    have wh := treeWhole x
    have sq := treeSqueezed x.text hx.text
    have rt := treeRight x.grid hx.tbl
    have br := treeBare x.grid
    have cn := containsNodes x.kids (fun y => !checkN x.kind y) 121 [.ptr 0 0] (.inr ⟨0, rfl⟩) hx.kids.1 callable121
      [[.sc (.int .i64 x.kind), .sc (.int .i64 x.line), .sc (.int .i64 x.n), .sc (gl x.text), .sc (.sl (x.kids.map Node.pv)), .sc (.sl (x.rows.map gl)), .sc (.str x.grid.cols), .sc (.sl (x.grid.rows.map TRow.pv)), .sc (.bool x.grid.box), .sc (.bool x.grid.all)]]
      (fun y hy => checkIn y x.kind (ih y (by cases x; simp at hy hn; have := List.sizeOf_lt_of_mem hy; omega) (hx.kids.2 y hy) x.kind) _ 0 _ _ _ _ _ _ _ _ _ rfl (np_cons (by simp) np_nil))
    have hce : checkN inn x = (okN inn x && checkL x.kind x.kids) := checkN_eq inn x
    have hca := checkL_any x.kind x.kids
    have fail : okN inn x = false → checkN inn x = false := fun h => by rw [hce, h]; rfl
    rw [ea] at wh ⊢
    simp [gl, Tbl.pv] at wh sq rt br cn
    simp [Tryd.f82, gl]
    refine CallQ.mk (Call.pure callable90 (by simp) (by simp) cf) ?_
    simp
    refine CallQ.mk (Call.pure callable87 (by simp) (by simp) st) ?_
    cases hst : standsIn x.kind inn
    · have e := fail (by simp [okN, hst])
      simp
      refine CondC.mk (fun _ => ?_) (fun _ => ?_) <;> simp [e]
    simp
    refine CallQ.mk (Call.pure callable89 (by simp) (by simp) wh) ?_
    cases hwh : wholeN x
    · have e := fail (by simp [okN, hwh])
      simp
      refine CondC.mk (fun _ => ?_) (fun _ => ?_) <;> simp [e]
    by_cases l0 : 0 ≤ x.line
    rotate_left
    · have e := fail (by simp [okN, l0])
      simp [l0]
      refine CondC.mk (fun _ => ?_) (fun _ => ?_) <;> simp [e]
    by_cases l1 : x.line ≤ 1099511627775
    rotate_left
    · have e := fail (by simp [okN, l1])
      simp [l0, l1]
      refine CondC.mk (fun _ => ?_) (fun _ => ?_) <;> simp [e]
    by_cases n0 : 0 ≤ x.n
    rotate_left
    · have e := fail (by simp [okN, n0])
      simp [l0, l1, n0]
      refine CondC.mk (fun _ => ?_) (fun _ => ?_) <;> simp [e]
    by_cases n1 : x.n ≤ 200
    rotate_left
    · have e := fail (by simp [okN, n1])
      simp [l0, l1, n0, n1]
      refine CondC.mk (fun _ => ?_) (fun _ => ?_) <;> simp [e]
    simp [l0, l1, n0, n1]
    refine CallQ.mk (Call.pure callable78 (by simp) (by simp) sq) ?_
    cases hsq : sqzd x.text
    · have e := fail (by simp [okN, hsq])
      simp
      refine CondC.mk (fun _ => ?_) (fun _ => ?_) <;> simp [e]
    simp [-KSeq_normal]
    rw [KSeq_normal]
    refine seq_cut (E := [(0, FV.agg [.sc (.int .i64 x.kind), .sc (.int .i64 x.line), .sc (.int .i64 x.n), .sc (.sl (x.text.map Glyph.pv)), .sc (.sl (x.kids.map Node.pv)), .sc (.sl (x.rows.map gl)), .sc (.str x.grid.cols), .sc (.sl (x.grid.rows.map TRow.pv)), .sc (.bool x.grid.box), .sc (.bool x.grid.all)]),
      (1, .sc (.int .i64 inn)), (2, .ptr 0 0), (4, .sc (.bool false)), (5, .sc (.bool (hasText x.kind))), (6, .sc (.bool (hasKids x.kind))), (7, .sc (.bool (decide (x.kind = 6)))), (8, .sc (.bool (decide (x.kind = 7)))), (9, .sc (.bool (hasN x.kind))), (10, .sc (.bool (okHas x))), (89, .undef)])
      (H₁ := [[.sc (.int .i64 x.kind), .sc (.int .i64 x.line), .sc (.int .i64 x.n), .sc (.sl (x.text.map Glyph.pv)), .sc (.sl (x.kids.map Node.pv)), .sc (.sl (x.rows.map gl)), .sc (.str x.grid.cols), .sc (.sl (x.grid.rows.map TRow.pv)), .sc (.bool x.grid.box), .sc (.bool x.grid.all)]]) ?_ ?_
    · have hcomb : (hasText x.kind = true ∧ hasKids x.kind = true ∧ decide (x.kind = 6) = false ∧ hasN x.kind = true) ∨ (hasText x.kind = true ∧ hasKids x.kind = true ∧ decide (x.kind = 6) = false ∧ hasN x.kind = false) ∨ (hasText x.kind = true ∧ hasKids x.kind = false ∧ decide (x.kind = 6) = false ∧ hasN x.kind = false) ∨ (hasText x.kind = false ∧ hasKids x.kind = true ∧ decide (x.kind = 6) = false ∧ hasN x.kind = true) ∨ (hasText x.kind = false ∧ hasKids x.kind = false ∧ decide (x.kind = 6) = true ∧ hasN x.kind = false) ∨ (hasText x.kind = false ∧ hasKids x.kind = false ∧ decide (x.kind = 6) = false ∧ hasN x.kind = false) := by
        rcases fullKind hst with hk | hk | hk | hk | hk | hk | hk <;> rw [hk] <;> decide
      unfold okHas
      generalize hasText x.kind = T at *
      generalize hasKids x.kind = K at *
      generalize decide (x.kind = 6) = R at *
      generalize hasN x.kind = N at *
      generalize decide (x.kind = 7) = G at *
      have p1 : ¬ x.text = [] → ¬ (x.text.length : Int) = 0 := fun h => by have := List.length_pos_iff.2 h; omega
      have p2 : ¬ x.kids = [] → ¬ (x.kids.length : Int) = 0 := fun h => by have := List.length_pos_iff.2 h; omega
      have p3 : ¬ x.rows = [] → ¬ (x.rows.length : Int) = 0 := fun h => by have := List.length_pos_iff.2 h; omega
      clear cf st wh sq rt br cn hce hca fail
      rcases hcomb with ⟨rfl, rfl, rfl, rfl⟩ | ⟨rfl, rfl, rfl, rfl⟩ | ⟨rfl, rfl, rfl, rfl⟩ | ⟨rfl, rfl, rfl, rfl⟩ | ⟨rfl, rfl, rfl, rfl⟩ | ⟨rfl, rfl, rfl, rfl⟩
      · by_cases e1 : x.rows = []
        rotate_left
        · simp (maxSteps := 1000000) [e1, p3 e1]
        simp (maxSteps := 1000000) [e1]
      · by_cases e1 : x.rows = []
        rotate_left
        · simp (maxSteps := 1000000) [e1, p3 e1]
        by_cases e2 : x.n = 0
        rotate_left
        · simp (maxSteps := 1000000) [e1, e2]
        simp (maxSteps := 1000000) [e1, e2]
      · by_cases e1 : x.kids = []
        rotate_left
        · simp (maxSteps := 1000000) [e1, p2 e1]
        by_cases e2 : x.rows = []
        rotate_left
        · simp (maxSteps := 1000000) [e1, e2, p3 e2]
        by_cases e3 : x.n = 0
        rotate_left
        · simp (maxSteps := 1000000) [e1, e2, e3]
        simp (maxSteps := 1000000) [e1, e2, e3]
      · by_cases e1 : x.text = []
        rotate_left
        · simp (maxSteps := 1000000) [e1, p1 e1]
        by_cases e2 : x.rows = []
        rotate_left
        · simp (maxSteps := 1000000) [e1, e2, p3 e2]
        simp (maxSteps := 1000000) [e1, e2]
      · by_cases e1 : x.text = []
        rotate_left
        · simp (maxSteps := 1000000) [e1, p1 e1]
        by_cases e2 : x.kids = []
        rotate_left
        · simp (maxSteps := 1000000) [e1, e2, p2 e2]
        by_cases e3 : x.n = 0
        rotate_left
        · simp (maxSteps := 1000000) [e1, e2, e3]
        simp (maxSteps := 1000000) [e1, e2, e3]
      · by_cases e1 : x.text = []
        rotate_left
        · simp (maxSteps := 1000000) [e1, p1 e1]
        by_cases e2 : x.kids = []
        rotate_left
        · simp (maxSteps := 1000000) [e1, e2, p2 e2]
        by_cases e3 : x.rows = []
        rotate_left
        · simp (maxSteps := 1000000) [e1, e2, e3, p3 e3]
        by_cases e4 : x.n = 0
        rotate_left
        · simp (maxSteps := 1000000) [e1, e2, e3, e4]
        simp (maxSteps := 1000000) [e1, e2, e3, e4]
    · have e7 : okN inn x = (okHas x && (if x.kind = 7 then rightT x.grid else bareT x.grid)) := by simp only [okN, hst, hwh, l0, l1, n0, n1, hsq, decide_true, Bool.true_and]
      cases hoh : okHas x
      · have e := fail (by rw [e7, hoh]; rfl)
        by_cases h7 : x.kind = 7
        · simp [h7, e]
        · simp [h7, e]
      · rw [hoh, Bool.true_and] at e7
        by_cases h7 : x.kind = 7
        · rw [if_pos h7] at e7
          simp [h7]
          refine CallQ.mk (Call.pure callable42 (by simp) (by simp) rt) ?_
          cases hr : rightT x.grid
          · have e := fail (by rw [e7, hr])
            simp [e]
          · rw [hce, e7, hr, ← hca, Bool.true_and]
            rw [h7] at cn ⊢
            simp
            refine CallQ.mk (Call.shared callable80 cn) ?_
            simp
        · rw [if_neg h7] at e7
          simp [h7]
          refine CallQ.mk (Call.pure callable120 (by simp) (by simp) br) ?_
          cases hr : bareT x.grid
          · have e := fail (by rw [e7, hr])
            simp [e]
          · rw [hce, e7, hr, ← hca, Bool.true_and]
            simp
            refine CallQ.mk (Call.shared callable80 cn) ?_
            simp
end Go.Proofs.YtlnnnfogbakimaaDoor.Ev
end
section
namespace Go.Proofs.YtlnnnfogbakimaaDoor.Ev
open Go
@[simp] theorem range1 : ([0] = List.range 1) = True := eq_true rfl
@[simp] theorem range2 : ([0, 1] = List.range 2) = True := eq_true rfl
@[simp] theorem range3 : ([0, 1, 2] = List.range 3) = True := eq_true rfl
@[simp] theorem range4 : ([0, 1, 2, 3] = List.range 4) = True := eq_true rfl
@[simp] theorem sized_nil {n : Nat} : Sized n [] = True := eq_true fun p h => by simp at h
@[simp] theorem sized_int {k : IntKind} {n : Int} {l : List PV} : Sized 1 (PV.int k n :: l) = Sized 1 l := propext ⟨fun h p hp => h p (List.mem_cons_of_mem _ hp), fun h p hp => by
  rcases List.mem_cons.1 hp with rfl | hp
  · rfl
  · exact h p hp⟩
theorem Doc.ext' {a b : Doc} (h1 : a.name = b.name) (h2 : a.part = b.part) (h3 : a.date = b.date) (h4 : a.source = b.source) (h5 : a.kids = b.kids) : a = b := by cases a; cases b; simp_all
noncomputable instance : DecidableEq Doc := fun _ _ => Classical.propDecidable _
set_option linter.unusedSimpArgs false in
set_option maxRecDepth 20000 in
set_option maxHeartbeats 4000000 in
theorem refSameDoc (a b : Doc) (hl : a.kids.length ≤ 4611686018427387904) (hok : ∀ x ∈ a.kids, x.Ok) : PCon C0 19 [a.pv.toFV, b.pv.toFV] (.sc (.bool (decide (a = b)))) := by
  have sm := refNodesSame _ a.kids (Nat.lt_succ_self _) hl hok b.kids
  refine penter19 ?_
  by_cases h1 : a.name = b.name
  rotate_left
  · have hn : a ≠ b := fun h => h1 (by rw [h])
    simp [Tryd.f19, Doc.pv, h1, hn]
  by_cases h2 : a.part = b.part
  rotate_left
  · have hn : a ≠ b := fun h => h2 (by rw [h])
    simp [Tryd.f19, Doc.pv, h1, h2, hn]
  by_cases h3 : a.date = b.date
  rotate_left
  · have hn : a ≠ b := fun h => h3 (by rw [h])
    simp [Tryd.f19, Doc.pv, h1, h2, h3, hn]
  by_cases h4 : a.source = b.source
  rotate_left
  · have hn : a ≠ b := fun h => h4 (by rw [h])
    simp [Tryd.f19, Doc.pv, h1, h2, h3, h4, hn]
  simp [Tryd.f19, Doc.pv, h1, h2, h3, h4]
  refine CallQ.mk (Call.pure callable21 (by simp) (by simp) sm) ?_
  have he : (a.kids = b.kids) = (a = b) := propext ⟨fun h5 => Doc.ext' h1 h2 h3 h4 h5, fun h => by rw [h]⟩
  simp [he]
def checkD (d : Doc) : Int := if 20000 < Node.cntL d.kids ∨ 20 < Node.deeps d.kids then 3 else if checkL 0 d.kids = true then 0 else 2
set_option linter.unusedSimpArgs false in
set_option maxRecDepth 20000 in
set_option maxHeartbeats 4000000 in
theorem notCheck (x : Node) (hx : x.Small) (H : Heap) (hp : NP H) : Con C0 81 [x.pv.toFV] H (.sc (.bool (!checkN 0 x))) H := by
  have hy := treeCheck _ x (Nat.lt_succ_self _) hx 0
  refine con_trim (C := C0) (fn := Tryd.f81) Tryd.func81 rfl (by decide) mixed (mv := []) (vars := [0, 1, 2]) (c := Tryd.f81.body.getD .skip) rfl rfl hp ?_
  rw [Node.pv_eq] at hy ⊢
  simp [gl] at hy
  simp [Tryd.f81, gl, heap_at]
  refine CallQ.mk (Call.pure callable82 (by simp) (by simp) hy) ?_
  simp
set_option linter.unusedSimpArgs false in
set_option maxRecDepth 20000 in
set_option maxHeartbeats 4000000 in
theorem treeCheckD (d : Doc) (hc : Node.cntL d.kids ≤ 1073741824) (hl : d.kids.length ≤ 1073741824) (hs : ∀ x ∈ d.kids, x.Small) : PCon C0 44 [d.pv.toFV] (.sc (.int .i64 (checkD d))) := by
  have c1 := treeCount _ d.kids (Nat.lt_succ_self _) hc
  have c2 := treeDeep _ d.kids (Nat.lt_succ_self _) hc
  have cn := containsNodes d.kids (fun y => !checkN 0 y) 81 [] (.inl rfl) hl callable81
    [[.sc (.str d.name), .sc (.str d.part), .sc (.str d.date), .sc (.str d.source), .sc (.sl (d.kids.map Node.pv))]]
    (fun y hy => by simpa using notCheck y (hs y hy) _ (np_cons (by simp) np_nil))
  have hca := checkL_any 0 d.kids
  refine penter44 ?_
  simp [Tryd.f44, Doc.pv]
  refine CallQ.mk (Call.pure callable45 (by simp) (by simp) c1) ?_
  by_cases h1 : 20000 < Node.cntL d.kids
  · have h1' : (20000 : Int) < Node.cntL d.kids := by omega
    simp [h1', checkD, h1]
  · have h1' : ¬ (20000 : Int) < Node.cntL d.kids := by omega
    simp [h1']
    refine CallQ.mk (Call.pure callable46 (by simp) (by simp) c2) ?_
    by_cases h2 : 20 < Node.deeps d.kids
    · have h2' : (20 : Int) < Node.deeps d.kids := by omega
      simp [h2', checkD, h2]
    · have h2' : ¬ (20 : Int) < Node.deeps d.kids := by omega
      simp [h2']
      refine CallQ.mk (Call.shared callable80 cn) ?_
      have hca' : (d.kids.any fun y => !checkN 0 y) = !checkL 0 d.kids := by rw [← hca, Bool.not_not]
      rw [hca']
      cases hk : checkL 0 d.kids
      · simp [checkD, h1, h2, hk]
      · simp [checkD, h1, h2, hk]
end Go.Proofs.YtlnnnfogbakimaaDoor.Ev
end
section
namespace Go.Proofs.YtlnnnfogbakimaaDoor.Ev
open Go
theorem whole_kids {y : Node} (l : List Node) (h : y.kind ≠ 5) : wholeN (y.withKids l) = wholeN y := by
  by_cases h1 : y.kind = 1 ∨ y.kind = 2 ∨ y.kind = 3
  · simp [wholeN, h1]
  · simp [wholeN, h1, h]; rfl
theorem whole_five {y : Node} (x : Node) (l : List Node) (h : y.kind = 5) : wholeN (y.withKids (x :: l)) = true := by
  unfold wholeN
  simp [h]
theorem ownN_kind (x : Node) (k : Int) : (ownN x k).kind = k := rfl
theorem ownN_kids (x : Node) (k : Int) : (ownN x k).kids = [] := rfl
end Go.Proofs.YtlnnnfogbakimaaDoor.Ev
end
section
namespace Go.Proofs.YtlnnnfogbakimaaDoor.Ev
open Go
theorem sumBy_cons {α : Type} (f : α → Nat) (x : α) (l : List α) : sumBy f (x :: l) = f x + sumBy f l := rfl
theorem squeeze_len (l : List Glyph) : (squeeze l).length ≤ 2 * l.length := sqAll_len l
theorem cellM_sum (r : TRow) (n : Nat) : sumBy List.length ((List.range n).map (cellM r)) ≤ 2 * sumBy List.length r.cells := by
  have key : ∀ m, sumBy List.length ((List.range m).map (cellM r)) ≤ 2 * sumBy List.length (r.cells.take m) := by
    intro m
    induction m with
    | zero => simp [sumBy]
    | succ m ih =>
      rw [List.range_succ, List.map_append, sumBy_append]
      simp only [List.map_cons, List.map_nil, sumBy]
      by_cases hm : m < r.cells.length
      · rw [sumBy_take _ hm]
        have e : cellM r m = squeeze r.cells[m] := by simp [cellM, hm]
        rw [e]
        have := squeeze_len r.cells[m]
        omega
      · have e : cellM r m = [] := by simp [cellM, hm]
        rw [e]
        rw [List.take_of_length_le (by omega)] at ih
        rw [List.take_of_length_le (by omega)]
        simp; omega
  have := key n; have := sumBy_take_le List.length r.cells n; omega
theorem mendRow_long (n : Nat) (hn : n ≤ 20) (r : TRow) : trowLong (mendRow n r) ≤ 2 * trowLong r + 20 := by
  rw [mendRow_eq]
  unfold trowLong
  cases hr : r.rule
  · have := cellM_sum r n
    simp; omega
  · simp [sumBy]
theorem mendT_long (t : Tbl) : (mendT t).cols.size + sumBy trowLong (mendT t).rows ≤ 20 + 22 * sumBy trowLong t.rows := by
  obtain ⟨c1, c2, c3⟩ := mendCols_ok t.cols
  have key : ∀ l : List TRow, sumBy trowLong (l.map (mendRow (mendCols t.cols).size)) ≤ 22 * sumBy trowLong l := by
    intro l
    induction l with
    | nil => simp [sumBy]
    | cons r l ih =>
      rw [List.map_cons, sumBy_cons, sumBy_cons]
      have := mendRow_long _ c2 r
      have : 1 ≤ trowLong r := by unfold trowLong; omega
      omega
  have := key t.rows
  show (mendCols t.cols).size + sumBy trowLong (t.rows.map _) ≤ _
  omega
def Node.own1 (x : Node) : Nat := 3 + x.text.length + x.grid.cols.size + rowsLong x.rows + sumBy trowLong x.grid.rows
theorem Node.long_own (x : Node) : x.long = x.own1 + sumBy Node.long x.kids := by rw [Node.long_eq, Node.own1]; omega
theorem ownN_long (x : Node) (k : Int) : (ownN x k).own1 ≤ 24 * x.own1 := by
  have h1 := squeeze_len x.text
  have h2 := mendT_long x.grid
  unfold ownN Node.own1
  simp only [Node.text_mk, Node.rows_mk, Node.grid_mk]
  have e1 : (if hasText k = true then squeeze x.text else []).length ≤ 2 * x.text.length := by
    split
    · exact h1
    · exact Nat.zero_le _
  have e2 : rowsLong (if k = 6 then x.rows else []) ≤ rowsLong x.rows := by
    split
    · omega
    · simp [rowsLong, sumBy]
  have e3 : (if k = 7 then mendT x.grid else noTbl).cols.size + sumBy trowLong (if k = 7 then mendT x.grid else noTbl).rows ≤ 20 + 22 * sumBy trowLong x.grid.rows := by
    split
    · exact h2
    · simp [noTbl, sumBy]
  omega
theorem own1_wk (x : Node) (l : List Node) : (x.withKids l).own1 = x.own1 := rfl
theorem tidy_long : ∀ (n : Nat) (l : List Node), SizeOf.sizeOf l < n → ∀ inn d k, sumBy Node.long (tidyL inn d k l).1 ≤ 24 * sumBy Node.long l := by
  intro n
  induction n with
  | zero => intro l h; omega
  | succ n ih =>
    intro l hn inn d k
    cases l with
    | nil => rw [tidyL]; simp [sumBy]
    | cons x l =>
      have hx : SizeOf.sizeOf x.kids < n ∧ SizeOf.sizeOf l < n := by
        cases x; simp at hn ⊢; omega
      rw [tidyL, sumBy_cons]
      split
      · simp [sumBy]
      · split
        · have := ih l hx.2 inn d k; omega
        · have h1 : sumBy Node.long (tidyN inn d k x).1 ≤ 24 * x.long := by
            rw [tidyN_eq, Node.long_own x]
            have h1 := ih x.kids hx.1 inn d (k - 1)
            have h2 := ih x.kids hx.1 x.kind (d + 1) (k - 1)
            have o1 := ownN_long x 3
            have o2 := ownN_long x x.kind
            have z1 : (ownN x 3).long = (ownN x 3).own1 := by rw [Node.long_own, ownN_kids]; rfl
            have z2 : (ownN x x.kind).long = (ownN x x.kind).own1 := by rw [Node.long_own, ownN_kids]; rfl
            have z3 : ∀ m : List Node, ((ownN x x.kind).withKids m).long = (ownN x x.kind).own1 + sumBy Node.long m := fun m => by rw [Node.long_own, own1_wk, Node.kids_wk]
            split
            · simp only [sumBy_append]
              split
              · simp only [sumBy]; omega
              · simp only [sumBy]; omega
            · split
              · simp only
                split <;> split
                all_goals
                  try simp only [sumBy, z3]
                  omega
              · split
                · simp only [sumBy]; omega
                · simp only [sumBy]; omega
          have h2 := ih l hx.2 inn d (tidyN inn d k x).2
          simp only [sumBy_append]; omega
theorem Node.Small.ok : ∀ (n : Nat) (x : Node), SizeOf.sizeOf x < n → x.Small → x.Ok := by
  intro n
  induction n with
  | zero => intro x h; omega
  | succ n ih =>
    intro x hn hx
    obtain ⟨kind, line, m, text, kids, rows, grid⟩ := x
    have h1 := hx.text
    have h2 := hx.kids
    have h3 := hx.rows
    simp at h1 h2 h3
    refine .mk (by omega) (by omega) (fun y hy => ih y ?_ (h2.2 y hy)) (by omega) (fun r hr => by have := h3.2 r hr; omega) hx.tbl.ok
    simp at hn; have := List.sizeOf_lt_of_mem hy; omega
theorem small_of {l : List Node} (h : sumBy Node.long l ≤ 1073741824) : ∀ x ∈ l, x.Small := fun x hx => by
  have := long_mem hx; unfold Node.Small; omega
theorem ok_of {l : List Node} (h : sumBy Node.long l ≤ 1073741824) : ∀ x ∈ l, x.Ok := fun x hx => Node.Small.ok _ x (Nat.lt_succ_self _) (small_of h x hx)
end Go.Proofs.YtlnnnfogbakimaaDoor.Ev
end
section
namespace Go.Proofs.YtlnnnfogbakimaaDoor.Ev
open Go
theorem short_of {l : List Node} (h : tooLong l = false) (hb : sumBy Node.long l ≤ 1073741824) : sumBy Node.long l ≤ 600 := by
  simp [tooLong] at h
  have := h.1
  rw [wrap64 (by omega) (by omega)] at this
  omega
end Go.Proofs.YtlnnnfogbakimaaDoor.Ev
end
section
namespace Go.Proofs.YtlnnnfogbakimaaDoor.Ev
open Go
namespace Node
theorem cntL_append (l m : List Node) : cntL (l ++ m) = cntL l + cntL m := by
  induction l with
  | nil => simp [cntL]
  | cons x l ih => rw [List.cons_append, cntL, cntL, ih]; omega
theorem cntL_cons (x : Node) (l : List Node) : cntL (x :: l) = 1 + cntL x.kids + cntL l := by rw [cntL, cnt_eq]
theorem cntL_nil : cntL [] = 0 := by rw [cntL]
theorem deeps_cons (x : Node) (l : List Node) : deeps (x :: l) = max (1 + deeps x.kids) (deeps l) := by rw [deeps, deep_eq]
theorem deeps_nil : deeps [] = 0 := by rw [deeps]
theorem sz_kids {x : Node} {l : List Node} {n : Nat} (hn : SizeOf.sizeOf (x :: l) < n + 1) : SizeOf.sizeOf x.kids < n ∧ SizeOf.sizeOf l < n := by
  cases x; simp at hn ⊢; omega
end Node
theorem tidyN_ind {n : Nat} {P : Int → Int → Nat → List Node → List Node × Nat → Prop} (x : Node) (inn d : Int) (k : Nat)
    (hA : (x.kind = 1 ∨ x.kind = 2) ∧ standsIn x.kind inn = false → P inn d k [x] ((if wholeN (ownN x 3) = true then [ownN x 3] else []) ++ (tidyL inn d (k - 1) x.kids).1, (tidyL inn d (k - 1) x.kids).2))
    (hB : ¬((x.kind = 1 ∨ x.kind = 2) ∧ standsIn x.kind inn = false) → hasKids x.kind = true → wholeN ((ownN x x.kind).withKids (tidyL x.kind (d + 1) (k - 1) x.kids).1) = true → P inn d k [x] ([(ownN x x.kind).withKids (tidyL x.kind (d + 1) (k - 1) x.kids).1], (tidyL x.kind (d + 1) (k - 1) x.kids).2))
    (hB0 : hasKids x.kind = true → (tidyL x.kind (d + 1) (k - 1) x.kids).1 = [] → P inn d k [x] ([], (tidyL x.kind (d + 1) (k - 1) x.kids).2))
    (hC : hasKids x.kind = true → P inn d k [x] (tidyL inn d (k - 1) x.kids))
    (hD : hasKids x.kind = false → P inn d k [x] (if wholeN (ownN x x.kind) = true then [ownN x x.kind] else [], k - 1)) : P inn d k [x] (tidyN inn d k x) := by
  rw [tidyN_eq]
  by_cases h1 : (x.kind = 1 ∨ x.kind = 2) ∧ standsIn x.kind inn = false
  · rw [if_pos h1]; exact hA h1
  rw [if_neg h1]
  cases hk : hasKids x.kind
  · simp only [Bool.false_eq_true, if_false]
    exact hD hk
  simp only [if_true]
  by_cases h5 : x.kind = 5
  · have hz : wholeN ((ownN x x.kind).withKids [Node.zero]) = true := whole_five _ _ h5
    rw [if_pos hz]
    by_cases hw : wholeN ((ownN x x.kind).withKids (tidyL x.kind (d + 1) (k - 1) x.kids).1) = true
    · rw [if_pos hw]; exact hB h1 hk hw
    · rw [if_neg hw]
      have hr : (tidyL x.kind (d + 1) (k - 1) x.kids).1 = [] := by
        simp [wholeN, ownN_kind, h5] at hw ⊢
        exact hw
      have := hB0 hk hr
      rw [hr]
      exact this
  · have hz : ∀ l, wholeN ((ownN x x.kind).withKids l) = wholeN (ownN x x.kind) := fun l => whole_kids l h5
    by_cases hw : wholeN (ownN x x.kind) = true
    · have h2 : wholeN ((ownN x x.kind).withKids (tidyL x.kind (d + 1) (k - 1) x.kids).1) = true := by rw [hz]; exact hw
      have h0 : wholeN ((ownN x x.kind).withKids [Node.zero]) = true := by rw [hz]; exact hw
      rw [if_pos h0, if_pos h2]
      exact hB h1 hk h2
    · have h0 : ¬ wholeN ((ownN x x.kind).withKids [Node.zero]) = true := by rw [hz]; exact hw
      have h2 : ¬ wholeN ((ownN x x.kind).withKids (tidyL inn d (k - 1) x.kids).1) = true := by rw [hz]; exact hw
      rw [if_neg h0, if_neg h2]
      exact hC hk
theorem tidy_count : ∀ (n : Nat) (l : List Node), SizeOf.sizeOf l < n → ∀ inn d k, Node.cntL (tidyL inn d k l).1 + (tidyL inn d k l).2 ≤ k ∧ Node.cntL (tidyL inn d k l).1 ≤ Node.cntL l ∧ Node.deeps (tidyL inn d k l).1 ≤ Node.deeps l ∧ (d ≤ 20 → d + Node.deeps (tidyL inn d k l).1 ≤ 20) := by
  intro n
  induction n with
  | zero => intro l h; omega
  | succ n ih =>
    intro l hn inn d k
    cases l with
    | nil => rw [tidyL]; simp [Node.cntL_nil, Node.deeps_nil]
    | cons x l =>
      obtain ⟨hx1, hx2⟩ := Node.sz_kids hn
      rw [tidyL, Node.cntL_cons, Node.deeps_cons]
      split
      · simp [Node.cntL_nil, Node.deeps_nil]
      · split
        · have := ih l hx2 inn d k; omega
        · have h1 := tidyN_ind (n := n) (P := fun inn d k l r => 0 < k → d < 20 → Node.cntL r.1 + r.2 ≤ k ∧ Node.cntL r.1 ≤ Node.cntL l ∧ Node.deeps r.1 ≤ Node.deeps l ∧ d + Node.deeps r.1 ≤ 20) x inn d k
            (fun _ hk hd => by
              have := ih x.kids hx1 inn d (k - 1)
              have c0 := Node.cntL_nil
              have d0 := Node.deeps_nil
              simp only [Node.cntL_append, Node.deeps_append, Node.cntL_cons, Node.deeps_cons]
              split
              · simp only [Node.cntL_cons, Node.deeps_cons, ownN_kids]; omega
              · omega)
            (fun _ _ _ hk hd => by
              have := ih x.kids hx1 x.kind (d + 1) (k - 1)
              have c0 := Node.cntL_nil
              have d0 := Node.deeps_nil
              simp only [Node.cntL_cons, Node.deeps_cons, Node.kids_wk]
              omega)
            (fun _ hr hk hd => by
              have := ih x.kids hx1 x.kind (d + 1) (k - 1)
              have c0 := Node.cntL_nil
              have d0 := Node.deeps_nil
              simp only [Node.cntL_cons, Node.deeps_cons]
              omega)
            (fun _ hk hd => by
              have := ih x.kids hx1 inn d (k - 1)
              have c0 := Node.cntL_nil
              have d0 := Node.deeps_nil
              simp only [Node.cntL_cons, Node.deeps_cons]
              omega)
            (fun _ hk hd => by
              have c0 := Node.cntL_nil
              have d0 := Node.deeps_nil
              simp only [Node.cntL_cons, Node.deeps_cons]
              split
              · simp only [Node.cntL_cons, Node.deeps_cons, ownN_kids]; omega
              · omega) (by omega) (by omega)
          have h2 := ih l hx2 inn d (tidyN inn d k x).2
          have c0 := Node.cntL_nil
          have d0 := Node.deeps_nil
          rw [Node.cntL_cons, Node.deeps_cons] at h1
          simp only [Node.cntL_append, Node.deeps_append]
          omega
theorem checkL_append (inn : Int) (l m : List Node) : checkL inn (l ++ m) = (checkL inn l && checkL inn m) := by rw [checkL_all, checkL_all, checkL_all, List.all_append]
theorem bareT_none : bareT noTbl = true := by decide
theorem clamp_in (m n : Int) (h : 0 ≤ m) : 0 ≤ clamp m n ∧ clamp m n ≤ m := by
  unfold clamp
  split <;> split <;> omega
theorem clamp_id {m n : Int} (h0 : 0 ≤ n) (h1 : n ≤ m) : clamp m n = n := by
  unfold clamp
  split <;> split <;> omega
theorem okN_own (inn : Int) (x : Node) (k : Int) (l : List Node) (hst : standsIn k inn = true) (hw : wholeN ((ownN x k).withKids l) = true) (hl : hasKids k = true ∨ l = []) : okN inn ((ownN x k).withKids l) = true := by
  have c1 := clamp_in 1099511627775 x.line (by omega)
  have c2 := clamp_in 200 x.n (by omega)
  have e1 : ((ownN x k).withKids l).kind = k := rfl
  have e2 : ((ownN x k).withKids l).line = clamp 1099511627775 x.line := rfl
  have e3 : ((ownN x k).withKids l).n = if hasN k = true then clamp 200 x.n else 0 := rfl
  have e4 : ((ownN x k).withKids l).text = if hasText k = true then squeeze x.text else [] := rfl
  have e5 : ((ownN x k).withKids l).rows = if k = 6 then x.rows else [] := rfl
  have e6 : ((ownN x k).withKids l).grid = if k = 7 then mendT x.grid else noTbl := rfl
  have e7 : ((ownN x k).withKids l).kids = l := rfl
  unfold okN okHas
  rw [e1, e2, e3, e4, e5, e6, e7, hst, hw]
  have n0 : 0 ≤ (if hasN k = true then clamp 200 x.n else 0) ∧ (if hasN k = true then clamp 200 x.n else 0) ≤ 200 := by split <;> omega
  have s0 : sqzd (if hasText k = true then squeeze x.text else []) = true := by
    split
    · exact sqzd_squeeze _
    · exact sqzd_nil
  have g0 : (if k = 7 then rightT (if k = 7 then mendT x.grid else noTbl) else bareT (if k = 7 then mendT x.grid else noTbl)) = true := by
    by_cases h7 : k = 7
    · rw [if_pos h7, if_pos h7]; exact mend_right _
    · rw [if_neg h7, if_neg h7]; exact bareT_none
  have t0 : (hasText k || decide (((if hasText k = true then squeeze x.text else []).length : Int) = 0)) = true := by cases hasText k <;> simp
  have k0 : (hasKids k || decide ((l.length : Int) = 0)) = true := by
    rcases hl with h | h
    · rw [h]; rfl
    · rw [h]; simp
  have r0 : (decide (k = 6) || decide (((if k = 6 then x.rows else []).length : Int) = 0)) = true := by
    by_cases h6 : k = 6
    · simp [h6]
    · simp [h6]
  have m0 : (hasN k || decide ((if hasN k = true then clamp 200 x.n else 0) = 0)) = true := by cases hasN k <;> simp
  rw [decide_eq_true c1.1, decide_eq_true c1.2, decide_eq_true n0.1, decide_eq_true n0.2, s0, g0, t0, k0, r0, m0]
  rfl
theorem withKids_nil (x : Node) (k : Int) : (ownN x k).withKids [] = ownN x k := rfl
theorem stands3 (inn : Int) : standsIn 3 inn = true := by unfold standsIn; simp
theorem stands_of {k inn : Int} (h : ¬((k = 1 ∨ k = 2) ∧ standsIn k inn = false)) (hk : hasKids k = true) : standsIn k inn = true := by
  cases hs : standsIn k inn
  · rw [hs] at h
    simp [standsIn] at hs
    simp [hasKids] at hk
    exfalso
    apply h
    refine ⟨?_, rfl⟩
    by_cases h1 : k = 1
    · exact .inl h1
    · by_cases h2 : k = 2
      · exact .inr h2
      · simp [h1, h2] at hs; omega
  · rfl
theorem tidy_check : ∀ (n : Nat) (l : List Node), SizeOf.sizeOf l < n → ∀ inn d k, checkL inn (tidyL inn d k l).1 = true := by
  intro n
  induction n with
  | zero => intro l h; omega
  | succ n ih =>
    intro l hn inn d k
    cases l with
    | nil => rw [tidyL]; rfl
    | cons x l =>
      obtain ⟨hx1, hx2⟩ := Node.sz_kids hn
      rw [tidyL]
      split
      · rfl
      · split
        · exact ih l hx2 inn d k
        · rw [checkL_append, ih l hx2, Bool.and_true]
          refine tidyN_ind (n := n) (P := fun inn d k l r => checkL inn r.1 = true) x inn d k ?_ ?_ ?_ ?_ ?_
          · intro _
            rw [checkL_append, ih x.kids hx1, Bool.and_true]
            split
            · rename_i hw
              rw [checkL_all, List.all_cons, List.all_nil, checkN_eq, ownN_kids]
              rw [← withKids_nil] at hw
              have := okN_own inn x 3 [] (stands3 inn) hw (.inr rfl)
              rw [withKids_nil] at this
              rw [this]; rfl
            · rfl
          · intro h1 hk hw
            rw [checkL_all, List.all_cons, List.all_nil, checkN_eq, okN_own inn x x.kind _ (stands_of h1 hk) hw (.inl hk), Node.kids_wk, Node.kind_wk, ownN_kind, ih x.kids hx1]
            rfl
          · intro _ _; rfl
          · intro _; exact ih x.kids hx1 inn d (k - 1)
          · intro hk
            simp only
            split
            · rename_i hw
              rw [checkL_all, List.all_cons, List.all_nil, checkN_eq, ownN_kids]
              have hst : standsIn x.kind inn = true := by
                have hkk : x.kind ≠ 1 ∧ x.kind ≠ 2 ∧ x.kind ≠ 4 ∧ x.kind ≠ 5 := by simp [hasKids] at hk; omega
                unfold wholeN at hw
                rw [ownN_kind] at hw
                unfold standsIn
                rw [if_neg hkk.1, if_neg hkk.2.1]
                by_cases h3 : x.kind = 3
                · rw [h3]; rfl
                · by_cases h6 : x.kind = 6
                  · rw [h6]; rfl
                  · by_cases h7 : x.kind = 7
                    · rw [h7]; rfl
                    · simp [hkk, h3, h6, h7] at hw
              rw [← withKids_nil] at hw
              have := okN_own inn x x.kind [] hst hw (.inr rfl)
              rw [withKids_nil] at this
              rw [this]; rfl
            · rfl
theorem okN_all {inn : Int} {x : Node} (h : okN inn x = true) : standsIn x.kind inn = true ∧ wholeN x = true ∧ 0 ≤ x.line ∧ x.line ≤ 1099511627775 ∧ 0 ≤ x.n ∧ x.n ≤ 200 ∧ squeeze x.text = x.text ∧
    (hasText x.kind = true ∨ x.text = []) ∧ (hasKids x.kind = true ∨ x.kids = []) ∧ (x.kind = 6 ∨ x.rows = []) ∧ (hasN x.kind = true ∨ x.n = 0) ∧ (x.kind = 7 → rightT x.grid = true) ∧ (x.kind ≠ 7 → bareT x.grid = true) := by
  simp only [okN, okHas, Bool.and_eq_true, decide_eq_true_eq, Bool.or_eq_true, sqzd] at h
  obtain ⟨h1, h2, h3, h4, h5, h6, h7, ⟨h8, h9, h10, h11⟩, h12⟩ := h
  refine ⟨h1, h2, h3, h4, h5, h6, h7, h8.imp_right ?_, h9.imp_right ?_, h10.imp_right ?_, h11, ?_, ?_⟩
  · intro h; exact List.eq_nil_of_length_eq_zero (by omega)
  · intro h; exact List.eq_nil_of_length_eq_zero (by omega)
  · intro h; exact List.eq_nil_of_length_eq_zero (by omega)
  · intro h; rwa [if_pos h] at h12
  · intro h; rwa [if_neg h] at h12
theorem bareT_eq {t : Tbl} (h : bareT t = true) : t = noTbl := by
  obtain ⟨c, r, b, a⟩ := t
  simp [bareT] at h
  obtain ⟨h1, h2, h3, h4⟩ := h
  subst h1; subst h2; subst h3; subst h4
  rfl
theorem own_same {inn : Int} {x : Node} (h : okN inn x = true) : (ownN x x.kind).withKids x.kids = x := by
  obtain ⟨h1, h2, h3, h4, h5, h6, h7, h8, h9, h10, h11, h12, h13⟩ := okN_all h
  have e3 : (if hasN x.kind = true then clamp 200 x.n else 0) = x.n := by
    split
    · exact clamp_id h5 h6
    · rename_i hn
      rcases h11 with h | h
      · exact absurd h hn
      · exact h.symm
  have e4 : (if hasText x.kind = true then squeeze x.text else []) = x.text := by
    split
    · exact h7
    · rename_i hn
      rcases h8 with h | h
      · exact absurd h hn
      · exact h.symm
  have e5 : (if x.kind = 6 then x.rows else []) = x.rows := by
    split
    · rfl
    · rename_i hn
      rcases h10 with h | h
      · exact absurd h hn
      · exact h.symm
  have e6 : (if x.kind = 7 then mendT x.grid else noTbl) = x.grid := by
    split
    · rename_i h; exact mend_same (h12 h)
    · rename_i h; exact (bareT_eq (h13 h)).symm
  exact Node.ext' rfl (clamp_id h3 h4) e3 e4 e5 e6 rfl
theorem tidy_same : ∀ (n : Nat) (l : List Node), SizeOf.sizeOf l < n → ∀ (inn d : Int) (k : Nat), checkL inn l = true → Node.cntL l ≤ k → d + (Node.deeps l : Int) ≤ 20 → tidyL inn d k l = (l, k - Node.cntL l) := by
  intro n
  induction n with
  | zero => intro l h; omega
  | succ n ih =>
    intro l hn inn d k hc hk hd
    cases l with
    | nil => rw [tidyL, Node.cntL_nil]; rfl
    | cons x l =>
      obtain ⟨hx1, hx2⟩ := Node.sz_kids hn
      rw [Node.cntL_cons] at hk ⊢
      rw [Node.deeps_cons] at hd
      rw [checkL_all, List.all_cons, Bool.and_eq_true, checkN_eq, Bool.and_eq_true, ← checkL_all] at hc
      obtain ⟨⟨hok, hkids⟩, hrest⟩ := hc
      obtain ⟨h1, h2, h3, h4, h5, h6, h7, h8, h9, h10, h11, h12, h13⟩ := okN_all hok
      have hsame := own_same hok
      have hN : tidyN inn d k x = ([x], k - 1 - Node.cntL x.kids) := by
        rw [tidyN_eq]
        have hA : ¬((x.kind = 1 ∨ x.kind = 2) ∧ standsIn x.kind inn = false) := by rw [h1]; simp
        rw [if_neg hA]
        rcases h9 with hkd | hkd
        · have r := ih x.kids hx1 x.kind (d + 1) (k - 1) hkids (by omega) (by omega)
          have hz : wholeN ((ownN x x.kind).withKids [Node.zero]) = true := by
            by_cases h5 : x.kind = 5
            · exact whole_five _ _ h5
            · rw [whole_kids (y := ownN x x.kind) _ h5]
              rw [← whole_kids (y := ownN x x.kind) x.kids h5, hsame]
              exact h2
          rw [if_pos hkd, if_pos hz, r]
          simp only [hsame, h2, if_true]
        · have h0 : tidyL x.kind (d + 1) (k - 1) x.kids = ([], k - 1) := by rw [hkd, tidyL]
          have hs0 : ownN x x.kind = x := by rw [← withKids_nil, ← hkd]; exact hsame
          have hs1 : (ownN x x.kind).withKids [] = x := by rw [withKids_nil]; exact hs0
          cases hkk : hasKids x.kind
          · simp only [hs0, h2, if_true, Bool.false_eq_true, if_false, hkd, Node.cntL_nil, Nat.sub_zero]
          · have hz : wholeN ((ownN x x.kind).withKids [Node.zero]) = true := by
              by_cases h5 : x.kind = 5
              · exact whole_five _ _ h5
              · rw [whole_kids (y := ownN x x.kind) _ h5]
                rw [hs0]; exact h2
            rw [if_pos rfl, if_pos hz, h0]
            simp only [hs1, h2, if_true, hkd, Node.cntL_nil, Nat.sub_zero]
      have r2 := ih l hx2 inn d (k - 1 - Node.cntL x.kids) hrest (by omega) (by omega)
      rw [tidyL, if_neg (by omega), if_neg (by omega), hN]
      simp only [r2]
      refine Prod.ext rfl ?_
      simp only; omega
theorem tidyD_check (d : Doc) : checkD (tidyD d) = 0 := by
  have h1 := tidy_count _ d.kids (Nat.lt_succ_self _) 0 0 20000
  have h2 := tidy_check _ d.kids (Nat.lt_succ_self _) 0 0 20000
  have hd := h1.2.2.2 (by omega)
  unfold checkD
  show (if 20000 < Node.cntL (tidyL 0 0 20000 d.kids).1 ∨ 20 < Node.deeps (tidyL 0 0 20000 d.kids).1 then 3 else if checkL 0 (tidyL 0 0 20000 d.kids).1 = true then 0 else 2) = (0 : Int)
  rw [if_neg (by omega), if_pos h2]
theorem tidyD_same {d : Doc} (h : checkD d = 0) : tidyD d = d := by
  unfold checkD at h
  split at h
  · simp at h
  · rename_i hn
    split at h
    · rename_i hc
      unfold tidyD
      rw [tidy_same _ d.kids (Nat.lt_succ_self _) 0 0 20000 hc (by omega) (by omega)]
    · simp at h
end Go.Proofs.YtlnnnfogbakimaaDoor.Ev
end
section
namespace Go.Proofs.YtlnnnfogbakimaaDoor.Ev
open Go
set_option linter.unusedSimpArgs false in
set_option maxRecDepth 20000 in
set_option maxHeartbeats 4000000 in
theorem treeStaysLaw (d : Doc) (hb : sumBy Node.long d.kids ≤ 1073741824) : PCon C0 14 [d.pv.toFV] (.sc (.bool true)) := by
  have hl : d.kids.length ≤ 1073741824 := Nat.le_trans (len_le_long _) hb
  have cl := lawLong d.kids (ok_of hb) (by omega)
  have kn := treeKnown
  refine penter14 ?_
  simp [Tryd.f14, Doc.pv]
  refine CallQ.mk (Call.pure callable15 (by simp) (by simp) cl) ?_
  cases htl : tooLong d.kids
  · have hlong := short_of htl hb
    have hcl := Node.cnt_long _ d.kids (Nat.lt_succ_self _)
    have htd := tidy_long _ d.kids (Nat.lt_succ_self _) 0 0 20000
    have hcl2 := Node.cnt_long _ (tidyL 0 0 20000 d.kids).1 (Nat.lt_succ_self _)
    have hl2 := len_le_long (tidyL 0 0 20000 d.kids).1
    obtain ⟨k1, k2, k3, k4⟩ := tidy_count _ d.kids (Nat.lt_succ_self _) 0 0 20000
    have hck := tidyD_check d
    have hss : tidyD (tidyD d) = tidyD d := tidyD_same hck
    have sT : sumBy Node.long (tidyD d).kids ≤ 1073741824 := by show sumBy Node.long (tidyL 0 0 20000 d.kids).1 ≤ _; omega
    have lT : (tidyD d).kids.length ≤ 1073741824 := by show (tidyL 0 0 20000 d.kids).1.length ≤ _; omega
    have cT : Node.cntL (tidyD d).kids ≤ 1073741824 := by show Node.cntL (tidyL 0 0 20000 d.kids).1 ≤ _; omega
    have t1 := treeTidy fitS d (small_of (by omega)) (by omega)
    have t2 := treeTidy fitS (tidyD d) (small_of sT) (by omega)
    rw [hss] at t2
    have c1 := treeCheckD (tidyD d) cT lT (small_of sT)
    rw [hck] at c1
    have c2 := treeCheckD d (by omega) (by omega) (small_of (by omega))
    have s1 := refSameDoc (tidyD d) (tidyD d) (by omega) (ok_of sT)
    have s2 := refSameDoc (tidyD d) d (by omega) (ok_of sT)
    have n1 := treeCount _ (tidyD d).kids (Nat.lt_succ_self _) cT
    have n2 := treeCount _ d.kids (Nat.lt_succ_self _) (by omega)
    have d1 := treeDeep _ (tidyD d).kids (Nat.lt_succ_self _) cT
    have d2 := treeDeep _ d.kids (Nat.lt_succ_self _) (by omega)
    have hfin : checkD d = 0 → tidyD d = d := tidyD_same
    have q1 : ¬ (Node.cntL d.kids : Int) < Node.cntL (tidyD d).kids := by show ¬ (Node.cntL d.kids : Int) < Node.cntL (tidyL 0 0 20000 d.kids).1; omega
    have q2 : ¬ (Node.deeps d.kids : Int) < Node.deeps (tidyD d).kids := by show ¬ (Node.deeps d.kids : Int) < Node.deeps (tidyL 0 0 20000 d.kids).1; omega
    clear hss k1 k2 k3 k4 hl2 htd hcl2 hck sT lT cT
    generalize tidyD d = t at *
    simp [Doc.pv] at t1 t2 s1 s2 c1 c2
    simp
    refine CallQ.mk (Call.pure callable18 (by simp) (by simp) t1) ?_
    simp
    refine CallQ.mk (CallP.pure callable44 (by simp) (by simp) c1) ?_
    simp
    refine CallQ.mk (CallP.pure callable18 (by simp) (by simp) t2) ?_
    simp
    refine CallQ.mk (CallP.pure callable19 (by simp) (by simp) s1) ?_
    simp
    refine CallQ.mk (CallP.pure callable45 (by simp) (by simp) n1) ?_
    simp
    refine CallQ.mk (CallP.pure callable45 (by simp) (by simp) n2) ?_
    simp [q1]
    refine CallQ.mk (CallP.pure callable46 (by simp) (by simp) d1) ?_
    simp
    refine CallQ.mk (CallP.pure callable46 (by simp) (by simp) d2) ?_
    simp [q2]
    refine CallQ.mk (Call.pure callable44 (by simp) (by simp) c2) ?_
    by_cases h0 : checkD d = 0
    · rw [decide_eq_true (hfin h0)] at s2
      simp [h0]
      refine CallQ.mk (Call.pure callable19 (by simp) (by simp) s2) ?_
      simp
      refine CallQ.mk (Call.pure callable16 (by simp) (by simp) kn) ?_
      simp
    · simp [h0]
      refine CallQ.mk (Call.pure callable16 (by simp) (by simp) kn) ?_
      simp
  · simp
    refine CallQ.mk (Call.pure callable16 (by simp) (by simp) kn) ?_
    simp
end Go.Proofs.YtlnnnfogbakimaaDoor.Ev
end
