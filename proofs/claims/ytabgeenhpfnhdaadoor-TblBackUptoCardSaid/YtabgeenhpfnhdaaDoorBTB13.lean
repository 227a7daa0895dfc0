/- Of what the law TblBack needs: part 13. -/
import Derived.Shelf.Strings.SlTrimAscii
import Derived.Test.YtabgeenhpfnhdaaDoorBTB12
set_option linter.unusedSimpArgs false
set_option linter.unusedVariables false
section
namespace Go.Proofs.YtabgeenhpfnhdaaDoor.Ev
open Go
def sqzd (l : List Glyph) : Bool := decide (squeeze l = l)
def badRow (n : Nat) (r : TRow) : Bool := if r.rule = true then decide (0 < r.cells.length) else !decide (r.cells.length = n) || r.cells.any fun c => !sqzd c
def colsOk (c : ByteArray) : Bool := c.data.toList.all isSide
def rightT (t : Tbl) : Bool := !(decide (t.cols.size = 0) || (decide (20 < t.cols.size) || (!colsOk t.cols || (t.all && !t.box)))) && !t.rows.any (badRow t.cols.size)
end Go.Proofs.YtabgeenhpfnhdaaDoor.Ev
end
section
namespace Go.Proofs.YtabgeenhpfnhdaaDoor.Ev
open Go
def trimG (l : List Glyph) : List Glyph := (l.reverse.dropWhile Glyph.blank).reverse
def ends (l : List Glyph) : Nat := (trimG l).length
theorem mem_tw {α : Type} {p : α → Bool} : ∀ {l : List α} {x : α}, x ∈ l.takeWhile p → p x = true
  | y :: l, x, h => by
    rw [List.takeWhile_cons] at h
    split at h
    · rename_i hy
      rcases List.mem_cons.1 h with rfl | h
      · exact hy
      · exact mem_tw h
    · simp at h
theorem trimG_append (l : List Glyph) : ∃ b, l = trimG l ++ b ∧ ∀ g ∈ b, g.blank = true := by
  refine ⟨(l.reverse.takeWhile Glyph.blank).reverse, ?_, fun g hg => ?_⟩
  · rw [trimG, ← List.reverse_append, List.takeWhile_append_dropWhile, List.reverse_reverse]
  · have := List.mem_reverse.1 hg
    exact mem_tw this
theorem trimG_take (l : List Glyph) : trimG l = l.take (ends l) := by
  obtain ⟨b, h, _⟩ := trimG_append l
  have := congrArg (List.take (ends l)) h
  rw [show List.take (ends l) (trimG l ++ b) = trimG l from List.take_left' rfl] at this
  exact this.symm
theorem ends_le (l : List Glyph) : ends l ≤ l.length := by
  obtain ⟨b, h, _⟩ := trimG_append l
  have := congrArg List.length h
  rw [List.length_append] at this
  unfold ends; omega
theorem ends_behind {l : List Glyph} {i : Nat} (h : i < l.length) (hi : ends l ≤ i) : l[i].blank = true := by
  obtain ⟨b, hb, hbl⟩ := trimG_append l
  have : l[i] ∈ b := by
    have e : l[i]? = b[i - ends l]? := by
      conv => lhs; rw [hb]
      rw [List.getElem?_append_right hi]; rfl
    rw [List.getElem?_eq_getElem h] at e
    exact List.mem_of_getElem? e.symm
  exact hbl _ this
theorem ends_at {l : List Glyph} (h : 0 < ends l) : (l[ends l - 1]'(by have := ends_le l; omega)).blank = false := by
  have hne : l.reverse.dropWhile Glyph.blank ≠ [] := fun hh => by
    have : ends l = 0 := by unfold ends trimG; rw [hh]; rfl
    omega
  obtain ⟨y, r, hy⟩ := List.exists_cons_of_ne_nil hne
  have h2 : y.blank = false := by
    have := List.head?_dropWhile_not Glyph.blank l.reverse
    rw [hy] at this
    simpa using this
  have ht : trimG l = r.reverse ++ [y] := by rw [trimG, hy, List.reverse_cons]
  have e : (trimG l)[ends l - 1]? = some y := by
    rw [ends, ht]
    simp
  rw [trimG_take, List.getElem?_take_of_lt (by omega)] at e
  have := (List.getElem?_eq_some_iff.1 e).2
  rw [this]; exact h2
set_option linter.unusedSimpArgs false in
set_option maxRecDepth 20000 in
set_option maxHeartbeats 4000000 in
theorem refTrim (l : List Glyph) (hl : l.length ≤ 1073741824) : PCon C0 59 [.sc (gl l)] (.sc (gl (trimG l))) := by
  refine penter59 ?_
  simp [Tryd.f59, gl]
  refine loopC (fun d e H => ∃ (n : Nat) (x2 x16 : FV), d = n ∧ ends l ≤ n ∧ n ≤ l.length ∧ e = [(0, .sc (.sl (l.map Glyph.pv))), (2, x2), (3, .sc (.int .i64 n)), (16, x16)]) (d := l.length) ⟨l.length, _, _, rfl, ends_le l, Nat.le_refl _, rfl⟩ ?_
  rintro d e H ⟨n, x2, x16, hd, hn, hnl, rfl⟩
  have hd' := hd.symm
  subst hd'
  by_cases h0 : n = 0
  · subst h0
    have ht : trimG l = [] := List.eq_nil_of_length_eq_zero (by unfold ends at hn; omega)
    have h1 : Sized 2 (l.map Glyph.pv) := sizedG l
    have hsb : sizedB 2 (l.map Glyph.pv) = true := by simp [sizedB]; exact fun g _ => rfl
    simp [ht, hsb]
  · obtain ⟨k, rfl⟩ : ∃ k, n = k + 1 := ⟨n - 1, by omega⟩
    have hk : k < l.length := by omega
    have w1 : IntKind.i64.wrap (((k + 1 : Nat) : Int) - 1) = (k : Nat) := by rw [wrap64 (by omega) (by omega)]; omega
    simp at w1
    simp [w1, hk, Glyph.pv]
    have hsb : sizedB 2 (l.map Glyph.pv) = true := by simp [sizedB]; exact fun g _ => rfl
    refine CondC.mk (fun h32 => ?_) (fun h32 => ?_)
    · simp at h32
      have hne : ¬ ends l = k + 1 := fun he => by
        have := ends_at (l := l) (by omega)
        simp [he, Glyph.blank, h32] at this
      simp [w1]
      exact ⟨k, by omega, by omega, by omega, rfl⟩
    · simp at h32
      have he : ends l = k + 1 := by
        rcases Nat.lt_or_ge k (ends l) with h | h
        · omega
        · have := ends_behind hk h
          simp [Glyph.blank, h32] at this
      have hkl : (k : Int) + 1 ≤ l.length := by omega
      rw [trimG_take, he]
      have hk0 : (0 : Int) ≤ (k : Int) + 1 := by omega
      simp [hsb, hkl, hk0]
theorem sqAll_app (l m : List Glyph) : sqAll (l ++ m) = m.foldl sqStep (sqAll l) := by rw [sqAll, List.foldl_append]; rfl
theorem sq_blanks (b : List Glyph) (hb : ∀ g ∈ b, g.blank = true) (s : List Glyph × Bool) : (b.foldl sqStep s).1 = s.1 := by
  induction b generalizing s with
  | nil => rfl
  | cons g b ih =>
    rw [List.foldl_cons, ih (fun x hx => hb x (by simp [hx]))]
    have := hb g (by simp)
    simp [Glyph.blank] at this
    simp [sqStep, this]
theorem squeeze_trim (l : List Glyph) : squeeze (trimG l) = squeeze l := by
  obtain ⟨b, h, hb⟩ := trimG_append l
  conv => rhs; rw [h]
  rw [squeeze, squeeze, sqAll_app, sq_blanks b hb]
def sqR (s : List Glyph × Bool) : List Glyph := if s.2 = true ∧ s.1 ≠ [] then s.1 ++ [⟨32, 0⟩] else s.1
theorem sq_last (l : List Glyph) : ∀ g, (sqAll l).1.getLast? = some g → g.blank = false := by
  have : ∀ (l : List Glyph) (s : List Glyph × Bool), (∀ g, s.1.getLast? = some g → g.blank = false) → ∀ g, (l.foldl sqStep s).1.getLast? = some g → g.blank = false := by
    intro l
    induction l with
    | nil => intro s h; exact h
    | cons x l ih =>
      intro s h
      rw [List.foldl_cons]
      refine ih _ fun g hg => ?_
      unfold sqStep at hg
      split at hg
      · exact h g hg
      · rename_i hx
        simp only [List.getLast?_append, List.getLast?_singleton, Option.some_or, Option.some.injEq] at hg
        subst hg
        simp [Glyph.blank, hx]
  exact this l ([], false) (by simp)
theorem sq_want {l : List Glyph} (h : 0 < ends l) (hl : trimG l = l) : (sqAll l).2 = false := by
  have he : ends l = l.length := by unfold ends; rw [hl]
  have hb := ends_at h
  have hlt : ends l - 1 < l.length := by omega
  have e : l = l.take (ends l - 1) ++ [l[ends l - 1]] := by
    rw [← List.take_succ_eq_append_getElem hlt, show ends l - 1 + 1 = ends l by omega, he, List.take_length]
  generalize hx : l[ends l - 1] = x at e hb
  rw [e, sqAll_app]
  simp [Glyph.blank] at hb
  simp [sqStep, hb]
theorem sqR_end (l : List Glyph) (hl : trimG l = l) : sqR (sqAll l) = squeeze l := by
  by_cases h : 0 < ends l
  · simp [sqR, sq_want h hl, squeeze]
  · have : l = [] := List.eq_nil_of_length_eq_zero (by have : ends l = l.length := by unfold ends; rw [hl]
                                                       omega)
    subst this
    rfl
theorem trim_trim (l : List Glyph) : trimG (trimG l) = trimG l := by
  by_cases h : trimG l = []
  · rw [h]; rfl
  · have h0 : 0 < ends l := by unfold ends; exact List.length_pos_iff.2 h
    have hb := ends_at h0
    rw [trimG_take (trimG l)]
    refine List.take_of_length_le ?_
    rcases Nat.lt_or_ge (ends (trimG l)) (trimG l).length with h1 | h1
    · exfalso
      have h2 : (trimG l).length - 1 < (trimG l).length := by omega
      have := ends_behind (l := trimG l) h2 (by omega)
      have e : (trimG l)[(trimG l).length - 1] = l[ends l - 1]'(by have := ends_le l; omega) := by
        have : (trimG l)[(trimG l).length - 1]? = l[ends l - 1]? := by
          have e2 : (trimG l).length - 1 = ends l - 1 := rfl
          rw [e2, trimG_take, List.getElem?_take_of_lt (by omega)]
        rw [List.getElem?_eq_getElem h2, List.getElem?_eq_getElem (by have := ends_le l; omega)] at this
        exact Option.some.inj this
      rw [e, hb] at this
      simp at this
    · exact h1
set_option linter.unusedSimpArgs false in
set_option maxRecDepth 20000 in
set_option maxHeartbeats 4000000 in
theorem refSqueeze (l : List Glyph) (hl : l.length ≤ 1073741824) : PCon C0 39 [.sc (gl l)] (.own ((squeeze l).map Glyph.pv)) := by
  have tr := refTrim l hl
  rw [← squeeze_trim l]
  have ht := trim_trim l
  have hll : (trimG l).length ≤ 1073741824 := by have := ends_le l; unfold ends at this; omega
  generalize trimG l = m at *
  refine penter39 ?_
  simp [Tryd.f39, gl] at tr ⊢
  refine CallQ.mk (Call.pure callable59 (by simp) (by simp) tr) ?_
  simp
  refine loopC (fun d e H => ∃ (i : Nat) (x2 x10 x18 x38 : FV), d = m.length - i ∧ i ≤ m.length ∧ e = [(0, .sc (.sl (m.map Glyph.pv))), (2, x2), (3, .own ((sqR (sqAll (m.take i))).map Glyph.pv)), (4, .sc (.int .i64 i)), (10, x10), (18, x18), (38, x38)]) (d := m.length) ⟨0, _, _, _, _, rfl, by omega, rfl⟩ ?_
  rintro d e H ⟨i, x2, x10, x18, x38, rfl, hi, rfl⟩
  simp
  refine CondC.mk (fun hlt => ?_) (fun hlt => ?_)
  · simp at hlt
    have hs := sqAll_take hlt
    have hlast := sq_last (m.take i)
    have hlen := sqAll_len (m.take i)
    simp only [List.length_take] at hlen
    generalize hS : sqAll (m.take i) = S at *
    obtain ⟨out, wants⟩ := S
    simp only at hlast hlen
    have hol : out.length ≤ 2147483648 := by omega
    have fin : ∀ q : List PV, q = (sqR (sqStep (out, wants) m[i])).map Glyph.pv → ∃ d', d' < m.length - i ∧ ∃ k, d' = m.length - k ∧ k ≤ m.length ∧ q = List.map Glyph.pv (sqR (sqAll (List.take k m))) ∧ IntKind.i64.wrap ((i : Int) + 1) = (k : Nat) := fun q hq =>
      ⟨m.length - (i + 1), by omega, i + 1, rfl, by omega, by rw [hs, hq], by rw [wrap64 (by omega) (by omega)]; omega⟩
    simp [hlt, Glyph.pv]
    refine CondC.mk (fun h32 => ?_) (fun h32 => ?_)
    · simp at h32
      have hst : sqStep (out, wants) m[i] = ((if wants = true ∧ out ≠ [] then out ++ [⟨32, 0⟩] else out) ++ [m[i]], false) := by simp [sqStep, h32]
      have e1 : sqR (sqStep (out, wants) m[i]) = sqR (out, wants) ++ [m[i]] := by
        rw [hst]
        cases wants <;> simp [sqR]
      have hrl : (sqR (out, wants)).length ≤ out.length + 1 := by
        unfold sqR; simp only; split <;> simp
      simp [hlt, Glyph.pv]
      exact ⟨sizedAgg2, sizedG _, sizedAgg2, by unfold lenMax; omega, fin _ (by rw [e1, List.map_append]; rfl)⟩
    · simp at h32
      have hst : sqStep (out, wants) m[i] = (out, true) := by simp [sqStep, h32]
      by_cases ho : out = []
      · subst ho
        have e0 : sqR ([], wants) = [] := by simp [sqR]
        have fin := fin [] (by rw [hst]; simp [sqR])
        simp [e0]
        obtain ⟨d', h1, k, h2, h3, h4, h5⟩ := fin
        exact ⟨d', h1, k, h2, h3, by simpa using h4.symm, h5⟩
      · have hop : 0 < out.length := List.length_pos_iff.2 ho
        cases wants
        · have e0 : sqR (out, false) = out := by simp [sqR]
          have w1 : IntKind.i64.wrap ((out.length : Int) - 1) = (out.length - 1 : Nat) := by rw [wrap64 (by omega) (by omega)]; omega
          have hk : out.length - 1 < out.length := by omega
          have hb : out[out.length - 1].r ≠ 32 := by
            have := hlast out[out.length - 1] (by rw [List.getLast?_eq_getElem?, List.getElem?_eq_getElem hk])
            simpa [Glyph.blank] using this
          have fin := fin (out.map Glyph.pv ++ [(⟨32, 0⟩ : Glyph).pv]) (by rw [hst]; simp [sqR, ho])
          simp [e0, hop, w1, hk, hb, Glyph.pv]
          exact ⟨sizedAgg2, sizedG _, sizedAgg2, by unfold lenMax; omega, fin⟩
        · have e0 : sqR (out, true) = out ++ [⟨32, 0⟩] := by simp [sqR, ho]
          have w1 : IntKind.i64.wrap (out.length : Int) = (out.length : Nat) := by rw [wrap64 (by omega) (by omega)]
          have hx : (List.map Glyph.pv out ++ [PV.agg [PV.int IntKind.i32 32, PV.int IntKind.u8 0]])[out.length]? = some (PV.agg [PV.int IntKind.i32 32, PV.int IntKind.u8 0]) := by
            rw [List.getElem?_append_right (by simp)]; simp
          have fin := fin (out.map Glyph.pv ++ [(⟨32, 0⟩ : Glyph).pv]) (by rw [hst, e0]; simp)
          simp [e0, w1, Glyph.pv, hx]
          exact fin
  · simp at hlt
    simp [List.take_of_length_le hlt, sqR_end m ht]
set_option maxRecDepth 20000 in
set_option maxHeartbeats 4000000 in
theorem refSide (b : UInt8) : PCon C0 34 [.sc (.int .u8 b.toNat)] (.sc (.bool (isSide b))) := by
  rw [side_iff]
  generalize b.toNat = c
  refine penter34 ?_
  by_cases h1 : c = 108
  · simp [Tryd.f34, h1]
  · by_cases h2 : c = 99
    · simp [Tryd.f34, h2]
    · have h1' : ¬ (c : Int) = 108 := by omega
      have h2' : ¬ (c : Int) = 99 := by omega
      simp [Tryd.f34, h1', h2']
end Go.Proofs.YtabgeenhpfnhdaaDoor.Ev
end
section
namespace Go.Proofs.YtabgeenhpfnhdaaDoor.Ev
open Go
def colsF (c : ByteArray) (i : Nat) : List UInt8 := ((c.data.toList.take i).filter isSide).take 20
theorem colsF_len (c : ByteArray) (i : Nat) : (colsF c i).length ≤ 20 := by unfold colsF; rw [List.length_take]; omega
theorem colsF_next {c : ByteArray} {i : Nat} (h : i < c.size) : colsF c (i + 1) = if isSide (c.data[i]'h) = true ∧ (colsF c i).length < 20 then colsF c i ++ [c.data[i]'h] else colsF c i := by
  have hl : i < c.data.toList.length := by simpa using h
  have e : c.data.toList[i] = c.data[i]'h := by simp
  unfold colsF
  rw [List.take_succ_eq_append_getElem hl, List.filter_append, e]
  cases hs : isSide (c.data[i]'h)
  · simp [hs]
  · have e1 : List.filter isSide [c.data[i]'h] = [c.data[i]'h] := by simp [hs]
    rw [e1]
    generalize List.filter isSide (List.take i c.data.toList) = L
    by_cases h20 : L.length < 20
    · rw [if_pos ⟨rfl, by rw [List.length_take]; omega⟩, List.take_of_length_le (by simp; omega), List.take_of_length_le (by omega)]
    · rw [if_neg (fun hh => by have := hh.2; rw [List.length_take] at this; omega), List.take_append_of_le_length (by omega)]
theorem colsF_end (c : ByteArray) : colsF c c.size = (c.data.toList.filter isSide).take 20 := by
  unfold colsF
  rw [show c.data.toList.take c.size = c.data.toList from List.take_of_length_le (by show c.data.toList.length ≤ c.data.size; rw [Array.length_toList]; exact Nat.le_refl _)]
theorem str_add (l : List UInt8) (c : ByteArray) (i : Nat) (h : i < c.size) : (⟨l.toArray⟩ : ByteArray) ++ c.extract i (i + 1) = ⟨(l ++ [c.data[i]'h]).toArray⟩ := by
  have e : (c.extract i (i + 1)).data = #[c.data[i]'h] := by
    rw [ByteArray.data_extract]
    apply Array.toList_inj.1
    have hl : i < c.data.toList.length := by simpa using h
    simp [List.drop_take, List.take_one, List.head?_drop, List.getElem?_eq_getElem hl]
  apply ByteArray.ext
  rw [ByteArray.data_append, e]
  apply Array.toList_inj.1
  simp
set_option linter.unusedSimpArgs false in
set_option maxRecDepth 20000 in
set_option maxHeartbeats 4000000 in
theorem refMend (t : Tbl) (ht : TblS t) : PCon C0 22 [t.pv.toFV] (mendT t).pv.toFV := by
  refine penter22 ?_
  have hcs := ht.cols
  have hmc : mendCols t.cols = ⟨(if colsF t.cols t.cols.size = [] then [108] else colsF t.cols t.cols.size).toArray⟩ := by rw [mendCols, colsF_end]
  simp [Tryd.f22, Tbl.pv]
  refine loopC (fun d e H => ∃ (i : Nat) (x0 x14 x26 : FV), d = t.cols.size - i ∧ i ≤ t.cols.size ∧
    H = [[FV.sc (PV.str t.cols), FV.sc (PV.sl (List.map TRow.pv t.rows)), FV.sc (PV.bool t.box), FV.sc (PV.bool t.all)], [FV.sc (PV.str ByteArray.empty), FV.own [], FV.sc (PV.bool false), FV.sc (PV.bool false)]] ∧
    e = [(0, x0), (1, .ptr 0 0), (2, .ptr 1 0), (3, .sc (.str ⟨(colsF t.cols i).toArray⟩)), (4, .sc (.int .i64 i)), (5, .undef), (6, .undef), (7, .undef), (8, .undef), (9, .undef), (14, x14), (26, x26), (36, .undef), (51, .undef), (69, .undef), (80, .undef)]) (d := t.cols.size)
    ⟨0, _, _, _, rfl, by omega, rfl, rfl⟩ ?_
  rintro d e H ⟨i, x0, x14, x26, rfl, hi, rfl, rfl⟩
  simp
  refine CondC.mk (fun hlt => ?_) (fun hlt => ?_)
  · simp at hlt
    have hlt' : i < t.cols.data.size := hlt
    have hnx := colsF_next hlt
    have hlen := colsF_len t.cols i
    have rs := refSide (t.cols.data[i]'hlt)
    have hsa := str_add (colsF t.cols i) t.cols i hlt
    have fin : ∀ q : List UInt8, q = colsF t.cols (i + 1) → ∃ d', d' < t.cols.size - i ∧ ∃ j, d' = t.cols.size - j ∧ j ≤ t.cols.size ∧ q = colsF t.cols j ∧ IntKind.i64.wrap ((i : Int) + 1) = (j : Nat) := fun q hq =>
      ⟨t.cols.size - (i + 1), by omega, i + 1, rfl, by omega, hq, by rw [wrap64 (by omega) (by omega)]; omega⟩
    have w1 : IntKind.i64.wrap ((i : Int) + 1) = ((i + 1 : Nat) : Int) := by rw [wrap64 (by omega) (by omega)]; omega
    have hsz : (⟨(colsF t.cols i).toArray⟩ : ByteArray).size = (colsF t.cols i).length := by simp [ByteArray.size]
    obtain ⟨b, hb⟩ : ∃ b, t.cols.data[i]'hlt = b := ⟨_, rfl⟩
    rw [hb] at hnx rs hsa
    simp [hlt, hlt', hb]
    refine CallQ.mk (Call.pure callable34 (by simp) (by simp) rs) ?_
    cases hs : isSide b
    · have := fin (colsF t.cols i) (by rw [hnx, hs]; simp)
      simp
      exact this
    · simp [hsz]
      refine CondC.mk (fun h20 => ?_) (fun h20 => ?_)
      · have h20' : (colsF t.cols i).length < 20 := by simp at h20; omega
        have := fin (colsF t.cols i ++ [b]) (by rw [hnx, hs, if_pos ⟨rfl, h20'⟩])
        have hle : (i : Int) + 1 ≤ t.cols.size := by omega
        have hle0 : (0 : Int) ≤ (i : Int) + 1 := by omega
        have hle1 : (i : Int) ≤ (i : Int) + 1 := by omega
        have hex : (t.cols.extract i (i + 1)).size = 1 := by rw [ByteArray.size_extract]; omega
        have h40 : (colsF t.cols i).length + 1 ≤ 1099511627776 := by omega
        simp [w1, hle, hle0, hle1, hsa, hsz, hex, h40]
        obtain ⟨d', e1, j, e2, e3, e4, e5⟩ := this
        exact ⟨d', e1, j, e2, e3, e4, by rw [w1] at e5; omega⟩
      · have h20' : ¬ (colsF t.cols i).length < 20 := by simp at h20; omega
        have := fin (colsF t.cols i) (by rw [hnx, if_neg (fun h => h20' h.2)])
        simp
        exact this
  · simp at hlt
    obtain rfl : i = t.cols.size := by omega
    simp
    have hn20 : (mendCols t.cols).size ≤ 20 := by
      rw [hmc]
      have := colsF_len t.cols t.cols.size
      show (if colsF t.cols t.cols.size = [] then [108] else colsF t.cols t.cols.size).toArray.size ≤ 20
      split
      · simp
      · simp; omega
    have hCM : (if colsF t.cols t.cols.size = [] then (⟨#[108]⟩ : ByteArray) else ⟨(colsF t.cols t.cols.size).toArray⟩) = mendCols t.cols := by
      rw [hmc]
      split <;> rfl
    obtain ⟨n, hn⟩ : ∃ n, (mendCols t.cols).size = n := ⟨_, rfl⟩
    rw [hn] at hn20
    refine CondC.mk (fun hc => ?_) (fun hc => ?_)
    · rw [if_pos (by simpa using hc)] at hCM
      simp
      rw [hCM]
      cases hall : t.all
      · simp
        refine loopC (fun d e H => ∃ (i : Nat) (X : Heap) (x0 x4 x7 x8 x9 x14 x26 x36 x51 x69 x80 : FV), d = t.rows.length - i ∧ i ≤ t.rows.length ∧
          H = [FV.sc (PV.str t.cols), FV.sc (PV.sl (List.map TRow.pv t.rows)), FV.sc (PV.bool t.box), FV.sc (PV.bool false)] :: [FV.sc (PV.str ByteArray.empty), FV.own [], FV.sc (PV.bool false), FV.sc (PV.bool false)] :: [FV.sc (PV.str (mendCols t.cols)), FV.own (((t.rows.take i).map (mendRow n)).map TRow.pv), FV.sc (PV.bool t.box), FV.sc (PV.bool false)] :: X ∧
          e = [(0, x0), (1, .ptr 0 0), (2, .ptr 1 0), (3, .sc (.str (mendCols t.cols))), (4, x4), (5, .ptr 2 0), (6, .sc (.int .i64 i)), (7, x7), (8, x8), (9, x9), (14, x14), (26, x26), (36, x36), (51, x51), (69, x69), (80, x80)]) (d := t.rows.length)
          ⟨0, [], _, _, _, _, _, _, _, _, _, _, _, rfl, by omega, by simp, rfl⟩ ?_
        rintro d e H ⟨i, X, x0, x4, x7, x8, x9, x14, x26, x36, x51, x69, x80, rfl, hi, rfl, rfl⟩
        simp
        refine CondC.mk (fun hlt => ?_) (fun hlt => ?_)
        · simp at hlt
          have hr := ht.cells _ (List.getElem_mem hlt)
          have htk : t.rows.take (i + 1) = t.rows.take i ++ [t.rows[i]] := List.take_succ_eq_append_getElem hlt
          have hrl := ht.rows
          obtain ⟨r, hrr⟩ : ∃ r, t.rows[i] = r := ⟨_, rfl⟩
          have hat : (List.map TRow.pv t.rows)[i]? = some (PV.agg [.bool r.rule, .sl (r.cells.map gl)]) := by
            rw [map_at hlt, hrr]; rfl
          have hq : t.rows[i]? = some r := by rw [List.getElem?_eq_getElem hlt, hrr]
          rw [hrr] at hr htk
          simp [hq, TRow.pv]
          obtain ⟨c0, hc0⟩ : ∃ c0 : List FV, [FV.sc (PV.str t.cols), FV.sc (PV.sl (List.map TRow.pv t.rows)), FV.sc (PV.bool t.box), FV.sc (PV.bool false)] = c0 := ⟨_, rfl⟩
          refine loopC (fun d e H => ∃ (k : Nat) (x9 x69 x80 : FV), d = n - k ∧ k ≤ n ∧ (r.rule = true → k = 0) ∧
            H = c0 :: [FV.sc (PV.str ByteArray.empty), FV.own [], FV.sc (PV.bool false), FV.sc (PV.bool false)] :: [FV.sc (PV.str (mendCols t.cols)), FV.own (((t.rows.take i).map (mendRow n)).map TRow.pv), FV.sc (PV.bool t.box), FV.sc (PV.bool false)] :: (X ++ [[FV.sc (.bool r.rule), FV.own (((List.range k).map (cellM r)).map gl)]]) ∧
            e = [(0, x0), (1, .ptr 0 0), (2, .ptr 1 0), (3, .sc (.str (mendCols t.cols))), (4, x4), (5, .ptr 2 0), (6, .sc (.int .i64 i)), (7, .ptr (X.length + 1 + 1 + 1) 0), (8, .sc (.int .i64 k)), (9, x9), (14, x14), (26, x26), (36, x36), (51, .sc (.bool true)), (69, x69), (80, x80)]) (d := n)
            ⟨0, x9, x69, x80, rfl, by omega, by simp, ?_, ?_⟩ ?_
          · rw [hc0]; simp
          · simp [hlt]
          · rintro d e H ⟨k, x9, x69, x80, rfl, hk, hrk, rfl, rfl⟩
            have hmr := mendRow_eq n r
            by_cases hkn : k < n ∧ r.rule = false
            · obtain ⟨hkn, hrule⟩ := hkn
              have hkn' : k < (mendCols t.cols).size := by omega
              have hnk : (List.range (k + 1)).map (cellM r) = (List.range k).map (cellM r) ++ [cellM r k] := by rw [List.range_succ, List.map_append]; rfl
              simp [hkn', hrule, ← hc0, hq, TRow.pv]
              by_cases hkc : k < r.cells.length
              · have sq := refSqueeze r.cells[k] (hr.2 _ (List.getElem_mem hkc))
                have hcm : cellM r k = squeeze r.cells[k] := by simp [cellM, hkc]
                simp only [gl] at sq
                simp [hkc, gl, hq, TRow.pv]
                refine CallQ.mk (Call.pure callable39 (by simp) (by simp) sq) ?_
                simp
                exact ⟨sized1l, sizedGlC r k, sized1l, by unfold lenMax; omega, n - (k + 1), by omega, k + 1, rfl, by omega, by rw [List.range_succ, List.map_append]; simp [hcm, gl], by rw [wrap64 (by omega) (by omega)]; omega⟩
              · have hcm : cellM r k = [] := by simp [cellM, hkc]
                simp [hkc]
                exact ⟨sized1l, sizedGlC r k, sized1l, by unfold lenMax; omega, n - (k + 1), by omega, k + 1, rfl, by omega, by rw [List.range_succ, List.map_append]; simp [hcm, gl], by rw [wrap64 (by omega) (by omega)]; omega⟩
            · have hcells : (mendRow n r).cells = (List.range k).map (cellM r) := by
                rw [hmr]
                cases hrule : r.rule
                · simp only [hrule, and_true] at hkn
                  obtain rfl : k = n := by omega
                  rfl
                · rw [hrk hrule]; rfl
              have hrow : (mendRow n r).pv = .agg [.bool r.rule, .sl (((List.range k).map (cellM r)).map gl)] := by
                rw [TRow.pv, hcells]; rfl
              by_cases hk2 : k < (mendCols t.cols).size
              · have hrule : r.rule = true := by
                  cases hrule : r.rule
                  · exact absurd ⟨by omega, hrule⟩ hkn
                  · rfl
                simp [hk2, hrule]
                exact ⟨sizedAgg2, sizedTR2 _ _ _, sizedAgg2, by unfold lenMax; omega, t.rows.length - (i + 1), by omega, i + 1, rfl, by omega, ⟨hc0.symm, by rw [← List.map_take, ← List.map_take, htk, List.map_append]; simp [hrow, hrule]⟩, by rw [wrap64 (by omega) (by omega)]; omega⟩
              · simp [hk2]
                exact ⟨sizedAgg2, sizedTR2 _ _ _, sizedAgg2, by unfold lenMax; omega, t.rows.length - (i + 1), by omega, i + 1, rfl, by omega, ⟨hc0.symm, by rw [← List.map_take, ← List.map_take, htk, List.map_append]; simp [hrow]⟩, by rw [wrap64 (by omega) (by omega)]; omega⟩
        · simp at hlt
          simp [List.take_of_length_le hlt]
          exact ⟨rfl, by simp [mendT, hn]; exact List.take_of_length_le (by simpa using hlt), rfl, by simp [mendT, hall]⟩
      · simp
        refine loopC (fun d e H => ∃ (i : Nat) (X : Heap) (x0 x4 x7 x8 x9 x14 x26 x36 x51 x69 x80 : FV), d = t.rows.length - i ∧ i ≤ t.rows.length ∧
          H = [FV.sc (PV.str t.cols), FV.sc (PV.sl (List.map TRow.pv t.rows)), FV.sc (PV.bool t.box), FV.sc (PV.bool true)] :: [FV.sc (PV.str ByteArray.empty), FV.own [], FV.sc (PV.bool false), FV.sc (PV.bool false)] :: [FV.sc (PV.str (mendCols t.cols)), FV.own (((t.rows.take i).map (mendRow n)).map TRow.pv), FV.sc (PV.bool t.box), FV.sc (PV.bool t.box)] :: X ∧
          e = [(0, x0), (1, .ptr 0 0), (2, .ptr 1 0), (3, .sc (.str (mendCols t.cols))), (4, x4), (5, .ptr 2 0), (6, .sc (.int .i64 i)), (7, x7), (8, x8), (9, x9), (14, x14), (26, x26), (36, x36), (51, x51), (69, x69), (80, x80)]) (d := t.rows.length)
          ⟨0, [], _, _, _, _, _, _, _, _, _, _, _, rfl, by omega, by simp, rfl⟩ ?_
        rintro d e H ⟨i, X, x0, x4, x7, x8, x9, x14, x26, x36, x51, x69, x80, rfl, hi, rfl, rfl⟩
        simp
        refine CondC.mk (fun hlt => ?_) (fun hlt => ?_)
        · simp at hlt
          have hr := ht.cells _ (List.getElem_mem hlt)
          have htk : t.rows.take (i + 1) = t.rows.take i ++ [t.rows[i]] := List.take_succ_eq_append_getElem hlt
          have hrl := ht.rows
          obtain ⟨r, hrr⟩ : ∃ r, t.rows[i] = r := ⟨_, rfl⟩
          have hat : (List.map TRow.pv t.rows)[i]? = some (PV.agg [.bool r.rule, .sl (r.cells.map gl)]) := by
            rw [map_at hlt, hrr]; rfl
          have hq : t.rows[i]? = some r := by rw [List.getElem?_eq_getElem hlt, hrr]
          rw [hrr] at hr htk
          simp [hq, TRow.pv]
          obtain ⟨c0, hc0⟩ : ∃ c0 : List FV, [FV.sc (PV.str t.cols), FV.sc (PV.sl (List.map TRow.pv t.rows)), FV.sc (PV.bool t.box), FV.sc (PV.bool true)] = c0 := ⟨_, rfl⟩
          refine loopC (fun d e H => ∃ (k : Nat) (x9 x69 x80 : FV), d = n - k ∧ k ≤ n ∧ (r.rule = true → k = 0) ∧
            H = c0 :: [FV.sc (PV.str ByteArray.empty), FV.own [], FV.sc (PV.bool false), FV.sc (PV.bool false)] :: [FV.sc (PV.str (mendCols t.cols)), FV.own (((t.rows.take i).map (mendRow n)).map TRow.pv), FV.sc (PV.bool t.box), FV.sc (PV.bool t.box)] :: (X ++ [[FV.sc (.bool r.rule), FV.own (((List.range k).map (cellM r)).map gl)]]) ∧
            e = [(0, x0), (1, .ptr 0 0), (2, .ptr 1 0), (3, .sc (.str (mendCols t.cols))), (4, x4), (5, .ptr 2 0), (6, .sc (.int .i64 i)), (7, .ptr (X.length + 1 + 1 + 1) 0), (8, .sc (.int .i64 k)), (9, x9), (14, x14), (26, x26), (36, x36), (51, .sc (.bool true)), (69, x69), (80, x80)]) (d := n)
            ⟨0, x9, x69, x80, rfl, by omega, by simp, ?_, ?_⟩ ?_
          · rw [hc0]; simp
          · simp [hlt]
          · rintro d e H ⟨k, x9, x69, x80, rfl, hk, hrk, rfl, rfl⟩
            have hmr := mendRow_eq n r
            by_cases hkn : k < n ∧ r.rule = false
            · obtain ⟨hkn, hrule⟩ := hkn
              have hkn' : k < (mendCols t.cols).size := by omega
              have hnk : (List.range (k + 1)).map (cellM r) = (List.range k).map (cellM r) ++ [cellM r k] := by rw [List.range_succ, List.map_append]; rfl
              simp [hkn', hrule, ← hc0, hq, TRow.pv]
              by_cases hkc : k < r.cells.length
              · have sq := refSqueeze r.cells[k] (hr.2 _ (List.getElem_mem hkc))
                have hcm : cellM r k = squeeze r.cells[k] := by simp [cellM, hkc]
                simp only [gl] at sq
                simp [hkc, gl, hq, TRow.pv]
                refine CallQ.mk (Call.pure callable39 (by simp) (by simp) sq) ?_
                simp
                exact ⟨sized1l, sizedGlC r k, sized1l, by unfold lenMax; omega, n - (k + 1), by omega, k + 1, rfl, by omega, by rw [List.range_succ, List.map_append]; simp [hcm, gl], by rw [wrap64 (by omega) (by omega)]; omega⟩
              · have hcm : cellM r k = [] := by simp [cellM, hkc]
                simp [hkc]
                exact ⟨sized1l, sizedGlC r k, sized1l, by unfold lenMax; omega, n - (k + 1), by omega, k + 1, rfl, by omega, by rw [List.range_succ, List.map_append]; simp [hcm, gl], by rw [wrap64 (by omega) (by omega)]; omega⟩
            · have hcells : (mendRow n r).cells = (List.range k).map (cellM r) := by
                rw [hmr]
                cases hrule : r.rule
                · simp only [hrule, and_true] at hkn
                  obtain rfl : k = n := by omega
                  rfl
                · rw [hrk hrule]; rfl
              have hrow : (mendRow n r).pv = .agg [.bool r.rule, .sl (((List.range k).map (cellM r)).map gl)] := by
                rw [TRow.pv, hcells]; rfl
              by_cases hk2 : k < (mendCols t.cols).size
              · have hrule : r.rule = true := by
                  cases hrule : r.rule
                  · exact absurd ⟨by omega, hrule⟩ hkn
                  · rfl
                simp [hk2, hrule]
                exact ⟨sizedAgg2, sizedTR2 _ _ _, sizedAgg2, by unfold lenMax; omega, t.rows.length - (i + 1), by omega, i + 1, rfl, by omega, ⟨hc0.symm, by rw [← List.map_take, ← List.map_take, htk, List.map_append]; simp [hrow, hrule]⟩, by rw [wrap64 (by omega) (by omega)]; omega⟩
              · simp [hk2]
                exact ⟨sizedAgg2, sizedTR2 _ _ _, sizedAgg2, by unfold lenMax; omega, t.rows.length - (i + 1), by omega, i + 1, rfl, by omega, ⟨hc0.symm, by rw [← List.map_take, ← List.map_take, htk, List.map_append]; simp [hrow]⟩, by rw [wrap64 (by omega) (by omega)]; omega⟩
        · simp at hlt
          simp [List.take_of_length_le hlt]
          exact ⟨rfl, by simp [mendT, hn]; exact List.take_of_length_le (by simpa using hlt), rfl, by simp [mendT, hall]⟩
    · rw [if_neg (by simpa using hc)] at hCM
      simp
      rw [hCM]
      cases hall : t.all
      · simp
        refine loopC (fun d e H => ∃ (i : Nat) (X : Heap) (x0 x4 x7 x8 x9 x14 x26 x36 x51 x69 x80 : FV), d = t.rows.length - i ∧ i ≤ t.rows.length ∧
          H = [FV.sc (PV.str t.cols), FV.sc (PV.sl (List.map TRow.pv t.rows)), FV.sc (PV.bool t.box), FV.sc (PV.bool false)] :: [FV.sc (PV.str ByteArray.empty), FV.own [], FV.sc (PV.bool false), FV.sc (PV.bool false)] :: [FV.sc (PV.str (mendCols t.cols)), FV.own (((t.rows.take i).map (mendRow n)).map TRow.pv), FV.sc (PV.bool t.box), FV.sc (PV.bool false)] :: X ∧
          e = [(0, x0), (1, .ptr 0 0), (2, .ptr 1 0), (3, .sc (.str (mendCols t.cols))), (4, x4), (5, .ptr 2 0), (6, .sc (.int .i64 i)), (7, x7), (8, x8), (9, x9), (14, x14), (26, x26), (36, x36), (51, x51), (69, x69), (80, x80)]) (d := t.rows.length)
          ⟨0, [], _, _, _, _, _, _, _, _, _, _, _, rfl, by omega, by simp, rfl⟩ ?_
        rintro d e H ⟨i, X, x0, x4, x7, x8, x9, x14, x26, x36, x51, x69, x80, rfl, hi, rfl, rfl⟩
        simp
        refine CondC.mk (fun hlt => ?_) (fun hlt => ?_)
        · simp at hlt
          have hr := ht.cells _ (List.getElem_mem hlt)
          have htk : t.rows.take (i + 1) = t.rows.take i ++ [t.rows[i]] := List.take_succ_eq_append_getElem hlt
          have hrl := ht.rows
          obtain ⟨r, hrr⟩ : ∃ r, t.rows[i] = r := ⟨_, rfl⟩
          have hat : (List.map TRow.pv t.rows)[i]? = some (PV.agg [.bool r.rule, .sl (r.cells.map gl)]) := by
            rw [map_at hlt, hrr]; rfl
          have hq : t.rows[i]? = some r := by rw [List.getElem?_eq_getElem hlt, hrr]
          rw [hrr] at hr htk
          simp [hq, TRow.pv]
          obtain ⟨c0, hc0⟩ : ∃ c0 : List FV, [FV.sc (PV.str t.cols), FV.sc (PV.sl (List.map TRow.pv t.rows)), FV.sc (PV.bool t.box), FV.sc (PV.bool false)] = c0 := ⟨_, rfl⟩
          refine loopC (fun d e H => ∃ (k : Nat) (x9 x69 x80 : FV), d = n - k ∧ k ≤ n ∧ (r.rule = true → k = 0) ∧
            H = c0 :: [FV.sc (PV.str ByteArray.empty), FV.own [], FV.sc (PV.bool false), FV.sc (PV.bool false)] :: [FV.sc (PV.str (mendCols t.cols)), FV.own (((t.rows.take i).map (mendRow n)).map TRow.pv), FV.sc (PV.bool t.box), FV.sc (PV.bool false)] :: (X ++ [[FV.sc (.bool r.rule), FV.own (((List.range k).map (cellM r)).map gl)]]) ∧
            e = [(0, x0), (1, .ptr 0 0), (2, .ptr 1 0), (3, .sc (.str (mendCols t.cols))), (4, x4), (5, .ptr 2 0), (6, .sc (.int .i64 i)), (7, .ptr (X.length + 1 + 1 + 1) 0), (8, .sc (.int .i64 k)), (9, x9), (14, x14), (26, x26), (36, x36), (51, .sc (.bool true)), (69, x69), (80, x80)]) (d := n)
            ⟨0, x9, x69, x80, rfl, by omega, by simp, ?_, ?_⟩ ?_
          · rw [hc0]; simp
          · simp [hlt]
          · rintro d e H ⟨k, x9, x69, x80, rfl, hk, hrk, rfl, rfl⟩
            have hmr := mendRow_eq n r
            by_cases hkn : k < n ∧ r.rule = false
            · obtain ⟨hkn, hrule⟩ := hkn
              have hkn' : k < (mendCols t.cols).size := by omega
              have hnk : (List.range (k + 1)).map (cellM r) = (List.range k).map (cellM r) ++ [cellM r k] := by rw [List.range_succ, List.map_append]; rfl
              simp [hkn', hrule, ← hc0, hq, TRow.pv]
              by_cases hkc : k < r.cells.length
              · have sq := refSqueeze r.cells[k] (hr.2 _ (List.getElem_mem hkc))
                have hcm : cellM r k = squeeze r.cells[k] := by simp [cellM, hkc]
                simp only [gl] at sq
                simp [hkc, gl, hq, TRow.pv]
                refine CallQ.mk (Call.pure callable39 (by simp) (by simp) sq) ?_
                simp
                exact ⟨sized1l, sizedGlC r k, sized1l, by unfold lenMax; omega, n - (k + 1), by omega, k + 1, rfl, by omega, by rw [List.range_succ, List.map_append]; simp [hcm, gl], by rw [wrap64 (by omega) (by omega)]; omega⟩
              · have hcm : cellM r k = [] := by simp [cellM, hkc]
                simp [hkc]
                exact ⟨sized1l, sizedGlC r k, sized1l, by unfold lenMax; omega, n - (k + 1), by omega, k + 1, rfl, by omega, by rw [List.range_succ, List.map_append]; simp [hcm, gl], by rw [wrap64 (by omega) (by omega)]; omega⟩
            · have hcells : (mendRow n r).cells = (List.range k).map (cellM r) := by
                rw [hmr]
                cases hrule : r.rule
                · simp only [hrule, and_true] at hkn
                  obtain rfl : k = n := by omega
                  rfl
                · rw [hrk hrule]; rfl
              have hrow : (mendRow n r).pv = .agg [.bool r.rule, .sl (((List.range k).map (cellM r)).map gl)] := by
                rw [TRow.pv, hcells]; rfl
              by_cases hk2 : k < (mendCols t.cols).size
              · have hrule : r.rule = true := by
                  cases hrule : r.rule
                  · exact absurd ⟨by omega, hrule⟩ hkn
                  · rfl
                simp [hk2, hrule]
                exact ⟨sizedAgg2, sizedTR2 _ _ _, sizedAgg2, by unfold lenMax; omega, t.rows.length - (i + 1), by omega, i + 1, rfl, by omega, ⟨hc0.symm, by rw [← List.map_take, ← List.map_take, htk, List.map_append]; simp [hrow, hrule]⟩, by rw [wrap64 (by omega) (by omega)]; omega⟩
              · simp [hk2]
                exact ⟨sizedAgg2, sizedTR2 _ _ _, sizedAgg2, by unfold lenMax; omega, t.rows.length - (i + 1), by omega, i + 1, rfl, by omega, ⟨hc0.symm, by rw [← List.map_take, ← List.map_take, htk, List.map_append]; simp [hrow]⟩, by rw [wrap64 (by omega) (by omega)]; omega⟩
        · simp at hlt
          simp [List.take_of_length_le hlt]
          exact ⟨rfl, by simp [mendT, hn]; exact List.take_of_length_le (by simpa using hlt), rfl, by simp [mendT, hall]⟩
      · simp
        refine loopC (fun d e H => ∃ (i : Nat) (X : Heap) (x0 x4 x7 x8 x9 x14 x26 x36 x51 x69 x80 : FV), d = t.rows.length - i ∧ i ≤ t.rows.length ∧
          H = [FV.sc (PV.str t.cols), FV.sc (PV.sl (List.map TRow.pv t.rows)), FV.sc (PV.bool t.box), FV.sc (PV.bool true)] :: [FV.sc (PV.str ByteArray.empty), FV.own [], FV.sc (PV.bool false), FV.sc (PV.bool false)] :: [FV.sc (PV.str (mendCols t.cols)), FV.own (((t.rows.take i).map (mendRow n)).map TRow.pv), FV.sc (PV.bool t.box), FV.sc (PV.bool t.box)] :: X ∧
          e = [(0, x0), (1, .ptr 0 0), (2, .ptr 1 0), (3, .sc (.str (mendCols t.cols))), (4, x4), (5, .ptr 2 0), (6, .sc (.int .i64 i)), (7, x7), (8, x8), (9, x9), (14, x14), (26, x26), (36, x36), (51, x51), (69, x69), (80, x80)]) (d := t.rows.length)
          ⟨0, [], _, _, _, _, _, _, _, _, _, _, _, rfl, by omega, by simp, rfl⟩ ?_
        rintro d e H ⟨i, X, x0, x4, x7, x8, x9, x14, x26, x36, x51, x69, x80, rfl, hi, rfl, rfl⟩
        simp
        refine CondC.mk (fun hlt => ?_) (fun hlt => ?_)
        · simp at hlt
          have hr := ht.cells _ (List.getElem_mem hlt)
          have htk : t.rows.take (i + 1) = t.rows.take i ++ [t.rows[i]] := List.take_succ_eq_append_getElem hlt
          have hrl := ht.rows
          obtain ⟨r, hrr⟩ : ∃ r, t.rows[i] = r := ⟨_, rfl⟩
          have hat : (List.map TRow.pv t.rows)[i]? = some (PV.agg [.bool r.rule, .sl (r.cells.map gl)]) := by
            rw [map_at hlt, hrr]; rfl
          have hq : t.rows[i]? = some r := by rw [List.getElem?_eq_getElem hlt, hrr]
          rw [hrr] at hr htk
          simp [hq, TRow.pv]
          obtain ⟨c0, hc0⟩ : ∃ c0 : List FV, [FV.sc (PV.str t.cols), FV.sc (PV.sl (List.map TRow.pv t.rows)), FV.sc (PV.bool t.box), FV.sc (PV.bool true)] = c0 := ⟨_, rfl⟩
          refine loopC (fun d e H => ∃ (k : Nat) (x9 x69 x80 : FV), d = n - k ∧ k ≤ n ∧ (r.rule = true → k = 0) ∧
            H = c0 :: [FV.sc (PV.str ByteArray.empty), FV.own [], FV.sc (PV.bool false), FV.sc (PV.bool false)] :: [FV.sc (PV.str (mendCols t.cols)), FV.own (((t.rows.take i).map (mendRow n)).map TRow.pv), FV.sc (PV.bool t.box), FV.sc (PV.bool t.box)] :: (X ++ [[FV.sc (.bool r.rule), FV.own (((List.range k).map (cellM r)).map gl)]]) ∧
            e = [(0, x0), (1, .ptr 0 0), (2, .ptr 1 0), (3, .sc (.str (mendCols t.cols))), (4, x4), (5, .ptr 2 0), (6, .sc (.int .i64 i)), (7, .ptr (X.length + 1 + 1 + 1) 0), (8, .sc (.int .i64 k)), (9, x9), (14, x14), (26, x26), (36, x36), (51, .sc (.bool true)), (69, x69), (80, x80)]) (d := n)
            ⟨0, x9, x69, x80, rfl, by omega, by simp, ?_, ?_⟩ ?_
          · rw [hc0]; simp
          · simp [hlt]
          · rintro d e H ⟨k, x9, x69, x80, rfl, hk, hrk, rfl, rfl⟩
            have hmr := mendRow_eq n r
            by_cases hkn : k < n ∧ r.rule = false
            · obtain ⟨hkn, hrule⟩ := hkn
              have hkn' : k < (mendCols t.cols).size := by omega
              have hnk : (List.range (k + 1)).map (cellM r) = (List.range k).map (cellM r) ++ [cellM r k] := by rw [List.range_succ, List.map_append]; rfl
              simp [hkn', hrule, ← hc0, hq, TRow.pv]
              by_cases hkc : k < r.cells.length
              · have sq := refSqueeze r.cells[k] (hr.2 _ (List.getElem_mem hkc))
                have hcm : cellM r k = squeeze r.cells[k] := by simp [cellM, hkc]
                simp only [gl] at sq
                simp [hkc, gl, hq, TRow.pv]
                refine CallQ.mk (Call.pure callable39 (by simp) (by simp) sq) ?_
                simp
                exact ⟨sized1l, sizedGlC r k, sized1l, by unfold lenMax; omega, n - (k + 1), by omega, k + 1, rfl, by omega, by rw [List.range_succ, List.map_append]; simp [hcm, gl], by rw [wrap64 (by omega) (by omega)]; omega⟩
              · have hcm : cellM r k = [] := by simp [cellM, hkc]
                simp [hkc]
                exact ⟨sized1l, sizedGlC r k, sized1l, by unfold lenMax; omega, n - (k + 1), by omega, k + 1, rfl, by omega, by rw [List.range_succ, List.map_append]; simp [hcm, gl], by rw [wrap64 (by omega) (by omega)]; omega⟩
            · have hcells : (mendRow n r).cells = (List.range k).map (cellM r) := by
                rw [hmr]
                cases hrule : r.rule
                · simp only [hrule, and_true] at hkn
                  obtain rfl : k = n := by omega
                  rfl
                · rw [hrk hrule]; rfl
              have hrow : (mendRow n r).pv = .agg [.bool r.rule, .sl (((List.range k).map (cellM r)).map gl)] := by
                rw [TRow.pv, hcells]; rfl
              by_cases hk2 : k < (mendCols t.cols).size
              · have hrule : r.rule = true := by
                  cases hrule : r.rule
                  · exact absurd ⟨by omega, hrule⟩ hkn
                  · rfl
                simp [hk2, hrule]
                exact ⟨sizedAgg2, sizedTR2 _ _ _, sizedAgg2, by unfold lenMax; omega, t.rows.length - (i + 1), by omega, i + 1, rfl, by omega, ⟨hc0.symm, by rw [← List.map_take, ← List.map_take, htk, List.map_append]; simp [hrow, hrule]⟩, by rw [wrap64 (by omega) (by omega)]; omega⟩
              · simp [hk2]
                exact ⟨sizedAgg2, sizedTR2 _ _ _, sizedAgg2, by unfold lenMax; omega, t.rows.length - (i + 1), by omega, i + 1, rfl, by omega, ⟨hc0.symm, by rw [← List.map_take, ← List.map_take, htk, List.map_append]; simp [hrow]⟩, by rw [wrap64 (by omega) (by omega)]; omega⟩
        · simp at hlt
          simp [List.take_of_length_le hlt]
          exact ⟨rfl, by simp [mendT, hn]; exact List.take_of_length_le (by simpa using hlt), rfl, by simp [mendT, hall]⟩
end Go.Proofs.YtabgeenhpfnhdaaDoor.Ev
end
section
namespace Go.Proofs.YtabgeenhpfnhdaaDoor.Ev
open Go
theorem squeeze_idem (l : List Glyph) : squeeze (squeeze l) = squeeze l := by
  have : ∀ (l : List Glyph) (s : List Glyph × Bool), sqAll s.1 = (s.1, false) → sqAll (l.foldl sqStep s).1 = ((l.foldl sqStep s).1, false) := by
    intro l
    induction l with
    | nil => intro s h; exact h
    | cons g l ih =>
      intro s h
      rw [List.foldl_cons]
      refine ih _ ?_
      unfold sqStep
      split
      · exact h
      · rename_i hg
        simp only
        split
        · rename_i hw
          rw [List.append_assoc, sqAll_app, h]
          simp [sqStep, hg, hw.2]
        · rw [sqAll_app, h]
          simp [sqStep, hg]
  have := this l ([], false) rfl
  rw [squeeze, squeeze]
  rw [show sqAll (sqAll l).1 = ((sqAll l).1, false) from this]
theorem sqzd_squeeze (l : List Glyph) : sqzd (squeeze l) = true := by simp [sqzd, squeeze_idem]
theorem sqzd_nil : sqzd [] = true := by decide
theorem cellM_sq (r : TRow) (k : Nat) : sqzd (cellM r k) = true := by
  unfold cellM
  split
  · exact sqzd_squeeze _
  · exact sqzd_nil
theorem mendCols_ok (c : ByteArray) : 0 < (mendCols c).size ∧ (mendCols c).size ≤ 20 ∧ colsOk (mendCols c) = true := by
  unfold mendCols
  by_cases h : List.take 20 (List.filter isSide c.data.toList) = []
  · rw [if_pos h]; decide
  · rw [if_neg h]
    refine ⟨?_, ?_, ?_⟩
    · show 0 < (List.take 20 (List.filter isSide c.data.toList)).toArray.size
      rw [List.size_toArray]; exact List.length_pos_iff.2 h
    · show (List.take 20 (List.filter isSide c.data.toList)).toArray.size ≤ 20
      rw [List.size_toArray, List.length_take]; omega
    · rw [colsOk, List.all_eq_true]
      intro b hb
      have hb' : b ∈ List.take 20 (List.filter isSide c.data.toList) := by simpa using hb
      exact (List.mem_filter.1 (List.mem_of_mem_take hb')).2
theorem mend_right (t : Tbl) : rightT (mendT t) = true := by
  obtain ⟨h1, h2, h3⟩ := mendCols_ok t.cols
  have hr : (mendT t).rows.any (badRow (mendT t).cols.size) = false := by
    rw [List.any_eq_false]
    intro r hr
    obtain ⟨x, _, rfl⟩ := List.mem_map.1 hr
    show ¬ badRow (mendCols t.cols).size (mendRow (mendCols t.cols).size x) = true
    rw [mendRow_eq]
    cases hx : x.rule
    · have hany : ((List.range (mendCols t.cols).size).map (cellM x)).any (fun c => !sqzd c) = false := by
        rw [List.any_eq_false]
        intro c hc
        obtain ⟨k, _, rfl⟩ := List.mem_map.1 hc
        simp [cellM_sq]
      simp only [badRow, hany]
      simp [cellM_sq]
    · simp [badRow]
  have ha : ((mendT t).all && !(mendT t).box) = false := by
    show ((t.all && t.box) && !t.box) = false
    cases t.all <;> cases t.box <;> rfl
  unfold rightT
  rw [hr, ha, show (mendT t).cols = mendCols t.cols from rfl, h3]
  have e1 : decide ((mendCols t.cols).size = 0) = false := decide_eq_false (by omega)
  have e2 : decide (20 < (mendCols t.cols).size) = false := decide_eq_false (by omega)
  rw [e1, e2]; rfl
theorem right_all {t : Tbl} (h : rightT t = true) : 0 < t.cols.size ∧ t.cols.size ≤ 20 ∧ colsOk t.cols = true ∧ (t.all && !t.box) = false ∧ ∀ r ∈ t.rows, badRow t.cols.size r = false := by
  unfold rightT at h
  simp only [Bool.and_eq_true, Bool.not_eq_true', Bool.or_eq_false_iff, decide_eq_false_iff_not, Bool.not_eq_false'] at h
  obtain ⟨⟨h1, h2, h3, h4⟩, h5⟩ := h
  refine ⟨by omega, by omega, h3, h4, fun r hr => ?_⟩
  rw [List.any_eq_false] at h5
  simpa using h5 r hr
theorem mend_same {t : Tbl} (h : rightT t = true) : mendT t = t := by
  obtain ⟨h1, h2, h3, h4, h5⟩ := right_all h
  have hc : mendCols t.cols = t.cols := by
    have hf : List.filter isSide t.cols.data.toList = t.cols.data.toList := by
      rw [List.filter_eq_self]
      rw [colsOk, List.all_eq_true] at h3
      exact h3
    have hl : t.cols.data.toList.length ≤ 20 := by rw [Array.length_toList]; exact h2
    unfold mendCols
    rw [hf, List.take_of_length_le hl, if_neg (fun hn => by
      have : t.cols.data.toList.length = 0 := by rw [hn]; rfl
      rw [Array.length_toList] at this
      have h1' : 0 < t.cols.data.size := h1
      omega)]
  have hr : t.rows.map (mendRow t.cols.size) = t.rows := by
    conv => rhs; rw [← List.map_id t.rows]
    refine List.map_congr_left fun r hr => ?_
    have hb := h5 r hr
    rw [mendRow_eq]
    obtain ⟨rule, cells⟩ := r
    cases hx : rule
    · subst hx
      simp [badRow] at hb
      obtain ⟨hb1, hb2⟩ := hb
      have : (List.range t.cols.size).map (cellM ⟨false, cells⟩) = cells := by
        refine List.ext_getElem (by simp [hb1]) fun k hk1 hk2 => ?_
        have hs := hb2 cells[k] (List.getElem_mem hk2)
        simp [cellM, hk2]
        simpa [sqzd] using hs
      simp [this]
    · subst hx
      simp [badRow] at hb
      simp [hb]
  have ha : (t.all && t.box) = t.all := by
    revert h4
    cases t.all <;> cases t.box <;> simp
  unfold mendT
  rw [hc, hr, ha]
theorem tblS_mend {t : Tbl} (h : t.cols.size + sumBy trowLong t.rows ≤ 536870912) : TblS (mendT t) := by
  have h1 := tblS_of (t := t) (by omega)
  obtain ⟨c1, c2, c3⟩ := mendCols_ok t.cols
  refine ⟨by show (mendCols t.cols).size ≤ _; omega, by show (t.rows.map _).length ≤ _; rw [List.length_map]; exact h1.rows, fun r hr => ?_⟩
  obtain ⟨x, hx, rfl⟩ := List.mem_map.1 hr
  have hxl := sumBy_mem' trowLong hx
  simp only [trowLong] at hxl
  rw [mendRow_eq]
  refine ⟨?_, fun c hc => ?_⟩
  · show (if x.rule = true then [] else (List.range (mendCols t.cols).size).map (cellM x)).length ≤ _
    split
    · simp
    · simp; omega
  · have hc' : c ∈ (if x.rule = true then [] else (List.range (mendCols t.cols).size).map (cellM x)) := hc
    split at hc'
    · simp at hc'
    · obtain ⟨k, _, rfl⟩ := List.mem_map.1 hc'
      unfold cellM
      split
      · rename_i hk
        have h2 := sumBy_mem' List.length (List.getElem_mem hk)
        have h3 := sqAll_len (x.cells.getD k [])
        have e : x.cells.getD k [] = x.cells[k] := by simp [List.getD, hk]
        rw [e] at h3 ⊢
        unfold squeeze
        omega
      · simp
theorem TblS.ok {t : Tbl} (h : TblS t) : t.ok := ⟨by have := h.rows; omega, fun r hr => ⟨by have := (h.cells r hr).1; omega, fun c hc => by have := (h.cells r hr).2 c hc; omega⟩⟩
end Go.Proofs.YtabgeenhpfnhdaaDoor.Ev
end
