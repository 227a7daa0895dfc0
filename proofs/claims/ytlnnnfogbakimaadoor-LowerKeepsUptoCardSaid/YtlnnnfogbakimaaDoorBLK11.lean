/- Of what the law LowerKeeps needs: part 11. -/
import Derived.Shelf.Strings.SlTrimAscii
import Derived.Test.YtlnnnfogbakimaaDoorBLK10
set_option linter.unusedSimpArgs false
set_option linter.unusedVariables false
section
namespace Go.Proofs.YtlnnnfogbakimaaDoor.Ev
open Go
def sqzd (l : List Glyph) : Bool := decide (squeeze l = l)
def badRow (n : Nat) (r : TRow) : Bool := if r.rule = true then decide (0 < r.cells.length) else !decide (r.cells.length = n) || r.cells.any fun c => !sqzd c
def colsOk (c : ByteArray) : Bool := c.data.toList.all isSide
def rightT (t : Tbl) : Bool := !(decide (t.cols.size = 0) || (decide (20 < t.cols.size) || (!colsOk t.cols || (t.all && !t.box)))) && !t.rows.any (badRow t.cols.size)
end Go.Proofs.YtlnnnfogbakimaaDoor.Ev
end
section
namespace Go.Proofs.YtlnnnfogbakimaaDoor.Ev
open Go
def trimG (l : List Glyph) : List Glyph := (l.reverse.dropWhile Glyph.blank).reverse
def ends (l : List Glyph) : Nat := (trimG l).length
theorem mem_tw {α : Type} {p : α → Bool} : ∀ {l : List α} {x : α}, x ∈ l.takeWhile p → p x = true
  | y :: l, x, h => by
    rw [List.takeWhile_cons] at h
    split at h
    · rename_i hy
      rcases List.mem_cons.1 h with rfl | h
      · exact hy
      · exact mem_tw h
    · simp at h
theorem trimG_append (l : List Glyph) : ∃ b, l = trimG l ++ b ∧ ∀ g ∈ b, g.blank = true := by
  refine ⟨(l.reverse.takeWhile Glyph.blank).reverse, ?_, fun g hg => ?_⟩
  · rw [trimG, ← List.reverse_append, List.takeWhile_append_dropWhile, List.reverse_reverse]
  · have := List.mem_reverse.1 hg
    exact mem_tw this
theorem trimG_take (l : List Glyph) : trimG l = l.take (ends l) := by
  obtain ⟨b, h, _⟩ := trimG_append l
  have := congrArg (List.take (ends l)) h
  rw [show List.take (ends l) (trimG l ++ b) = trimG l from List.take_left' rfl] at this
  exact this.symm
theorem ends_le (l : List Glyph) : ends l ≤ l.length := by
  obtain ⟨b, h, _⟩ := trimG_append l
  have := congrArg List.length h
  rw [List.length_append] at this
  unfold ends; omega
theorem ends_behind {l : List Glyph} {i : Nat} (h : i < l.length) (hi : ends l ≤ i) : l[i].blank = true := by
  obtain ⟨b, hb, hbl⟩ := trimG_append l
  have : l[i] ∈ b := by
    have e : l[i]? = b[i - ends l]? := by
      conv => lhs; rw [hb]
      rw [List.getElem?_append_right hi]; rfl
    rw [List.getElem?_eq_getElem h] at e
    exact List.mem_of_getElem? e.symm
  exact hbl _ this
theorem ends_at {l : List Glyph} (h : 0 < ends l) : (l[ends l - 1]'(by have := ends_le l; omega)).blank = false := by
  have hne : l.reverse.dropWhile Glyph.blank ≠ [] := fun hh => by
    have : ends l = 0 := by unfold ends trimG; rw [hh]; rfl
    omega
  obtain ⟨y, r, hy⟩ := List.exists_cons_of_ne_nil hne
  have h2 : y.blank = false := by
    have := List.head?_dropWhile_not Glyph.blank l.reverse
    rw [hy] at this
    simpa using this
  have ht : trimG l = r.reverse ++ [y] := by rw [trimG, hy, List.reverse_cons]
  have e : (trimG l)[ends l - 1]? = some y := by
    rw [ends, ht]
    simp
  rw [trimG_take, List.getElem?_take_of_lt (by omega)] at e
  have := (List.getElem?_eq_some_iff.1 e).2
  rw [this]; exact h2
set_option linter.unusedSimpArgs false in
set_option maxRecDepth 20000 in
set_option maxHeartbeats 4000000 in
theorem refTrim (l : List Glyph) (hl : l.length ≤ 1073741824) : PCon C0 109 [.sc (gl l)] (.sc (gl (trimG l))) := by
  refine penter109 ?_
  simp [Tryd.f109, gl]
  refine loopC (fun d e H => ∃ (n : Nat) (x2 x16 : FV), d = n ∧ ends l ≤ n ∧ n ≤ l.length ∧ e = [(0, .sc (.sl (l.map Glyph.pv))), (2, x2), (3, .sc (.int .i64 n)), (16, x16)]) (d := l.length) ⟨l.length, _, _, rfl, ends_le l, Nat.le_refl _, rfl⟩ ?_
  rintro d e H ⟨n, x2, x16, hd, hn, hnl, rfl⟩
  have hd' := hd.symm
  subst hd'
  by_cases h0 : n = 0
  · subst h0
    have ht : trimG l = [] := List.eq_nil_of_length_eq_zero (by unfold ends at hn; omega)
    have h1 : Sized 2 (l.map Glyph.pv) := sizedG l
    have hsb : sizedB 2 (l.map Glyph.pv) = true := by simp [sizedB]; exact fun g _ => rfl
    simp [ht, hsb]
  · obtain ⟨k, rfl⟩ : ∃ k, n = k + 1 := ⟨n - 1, by omega⟩
    have hk : k < l.length := by omega
    have w1 : IntKind.i64.wrap (((k + 1 : Nat) : Int) - 1) = (k : Nat) := by rw [wrap64 (by omega) (by omega)]; omega
    simp at w1
    simp [w1, hk, Glyph.pv]
    have hsb : sizedB 2 (l.map Glyph.pv) = true := by simp [sizedB]; exact fun g _ => rfl
    refine CondC.mk (fun h32 => ?_) (fun h32 => ?_)
    · simp at h32
      have hne : ¬ ends l = k + 1 := fun he => by
        have := ends_at (l := l) (by omega)
        simp [he, Glyph.blank, h32] at this
      simp [w1]
      exact ⟨k, by omega, by omega, by omega, rfl⟩
    · simp at h32
      have he : ends l = k + 1 := by
        rcases Nat.lt_or_ge k (ends l) with h | h
        · omega
        · have := ends_behind hk h
          simp [Glyph.blank, h32] at this
      have hkl : (k : Int) + 1 ≤ l.length := by omega
      rw [trimG_take, he]
      have hk0 : (0 : Int) ≤ (k : Int) + 1 := by omega
      simp [hsb, hkl, hk0]
theorem sqAll_app (l m : List Glyph) : sqAll (l ++ m) = m.foldl sqStep (sqAll l) := by rw [sqAll, List.foldl_append]; rfl
theorem sq_blanks (b : List Glyph) (hb : ∀ g ∈ b, g.blank = true) (s : List Glyph × Bool) : (b.foldl sqStep s).1 = s.1 := by
  induction b generalizing s with
  | nil => rfl
  | cons g b ih =>
    rw [List.foldl_cons, ih (fun x hx => hb x (by simp [hx]))]
    have := hb g (by simp)
    simp [Glyph.blank] at this
    simp [sqStep, this]
theorem squeeze_trim (l : List Glyph) : squeeze (trimG l) = squeeze l := by
  obtain ⟨b, h, hb⟩ := trimG_append l
  conv => rhs; rw [h]
  rw [squeeze, squeeze, sqAll_app, sq_blanks b hb]
def sqR (s : List Glyph × Bool) : List Glyph := if s.2 = true ∧ s.1 ≠ [] then s.1 ++ [⟨32, 0⟩] else s.1
theorem sq_last (l : List Glyph) : ∀ g, (sqAll l).1.getLast? = some g → g.blank = false := by
  have : ∀ (l : List Glyph) (s : List Glyph × Bool), (∀ g, s.1.getLast? = some g → g.blank = false) → ∀ g, (l.foldl sqStep s).1.getLast? = some g → g.blank = false := by
    intro l
    induction l with
    | nil => intro s h; exact h
    | cons x l ih =>
      intro s h
      rw [List.foldl_cons]
      refine ih _ fun g hg => ?_
      unfold sqStep at hg
      split at hg
      · exact h g hg
      · rename_i hx
        simp only [List.getLast?_append, List.getLast?_singleton, Option.some_or, Option.some.injEq] at hg
        subst hg
        simp [Glyph.blank, hx]
  exact this l ([], false) (by simp)
theorem sq_want {l : List Glyph} (h : 0 < ends l) (hl : trimG l = l) : (sqAll l).2 = false := by
  have he : ends l = l.length := by unfold ends; rw [hl]
  have hb := ends_at h
  have hlt : ends l - 1 < l.length := by omega
  have e : l = l.take (ends l - 1) ++ [l[ends l - 1]] := by
    rw [← List.take_succ_eq_append_getElem hlt, show ends l - 1 + 1 = ends l by omega, he, List.take_length]
  generalize hx : l[ends l - 1] = x at e hb
  rw [e, sqAll_app]
  simp [Glyph.blank] at hb
  simp [sqStep, hb]
theorem sqR_end (l : List Glyph) (hl : trimG l = l) : sqR (sqAll l) = squeeze l := by
  by_cases h : 0 < ends l
  · simp [sqR, sq_want h hl, squeeze]
  · have : l = [] := List.eq_nil_of_length_eq_zero (by have : ends l = l.length := by unfold ends; rw [hl]
                                                       omega)
    subst this
    rfl
theorem trim_trim (l : List Glyph) : trimG (trimG l) = trimG l := by
  by_cases h : trimG l = []
  · rw [h]; rfl
  · have h0 : 0 < ends l := by unfold ends; exact List.length_pos_iff.2 h
    have hb := ends_at h0
    rw [trimG_take (trimG l)]
    refine List.take_of_length_le ?_
    rcases Nat.lt_or_ge (ends (trimG l)) (trimG l).length with h1 | h1
    · exfalso
      have h2 : (trimG l).length - 1 < (trimG l).length := by omega
      have := ends_behind (l := trimG l) h2 (by omega)
      have e : (trimG l)[(trimG l).length - 1] = l[ends l - 1]'(by have := ends_le l; omega) := by
        have : (trimG l)[(trimG l).length - 1]? = l[ends l - 1]? := by
          have e2 : (trimG l).length - 1 = ends l - 1 := rfl
          rw [e2, trimG_take, List.getElem?_take_of_lt (by omega)]
        rw [List.getElem?_eq_getElem h2, List.getElem?_eq_getElem (by have := ends_le l; omega)] at this
        exact Option.some.inj this
      rw [e, hb] at this
      simp at this
    · exact h1
set_option linter.unusedSimpArgs false in
set_option maxRecDepth 20000 in
set_option maxHeartbeats 4000000 in
theorem refSqueeze (l : List Glyph) (hl : l.length ≤ 1073741824) : PCon C0 72 [.sc (gl l)] (.own ((squeeze l).map Glyph.pv)) := by
  have tr := refTrim l hl
  rw [← squeeze_trim l]
  have ht := trim_trim l
  have hll : (trimG l).length ≤ 1073741824 := by have := ends_le l; unfold ends at this; omega
  generalize trimG l = m at *
  refine penter72 ?_
  simp [Tryd.f72, gl] at tr ⊢
  refine CallQ.mk (Call.pure callable109 (by simp) (by simp) tr) ?_
  simp
  refine loopC (fun d e H => ∃ (i : Nat) (x2 x10 x18 x38 : FV), d = m.length - i ∧ i ≤ m.length ∧ e = [(0, .sc (.sl (m.map Glyph.pv))), (2, x2), (3, .own ((sqR (sqAll (m.take i))).map Glyph.pv)), (4, .sc (.int .i64 i)), (10, x10), (18, x18), (38, x38)]) (d := m.length) ⟨0, _, _, _, _, rfl, by omega, rfl⟩ ?_
  rintro d e H ⟨i, x2, x10, x18, x38, rfl, hi, rfl⟩
  simp
  refine CondC.mk (fun hlt => ?_) (fun hlt => ?_)
  · simp at hlt
    have hs := sqAll_take hlt
    have hlast := sq_last (m.take i)
    have hlen := sqAll_len (m.take i)
    simp only [List.length_take] at hlen
    generalize hS : sqAll (m.take i) = S at *
    obtain ⟨out, wants⟩ := S
    simp only at hlast hlen
    have hol : out.length ≤ 2147483648 := by omega
    have fin : ∀ q : List PV, q = (sqR (sqStep (out, wants) m[i])).map Glyph.pv → ∃ d', d' < m.length - i ∧ ∃ k, d' = m.length - k ∧ k ≤ m.length ∧ q = List.map Glyph.pv (sqR (sqAll (List.take k m))) ∧ IntKind.i64.wrap ((i : Int) + 1) = (k : Nat) := fun q hq =>
      ⟨m.length - (i + 1), by omega, i + 1, rfl, by omega, by rw [hs, hq], by rw [wrap64 (by omega) (by omega)]; omega⟩
    simp [hlt, Glyph.pv]
    refine CondC.mk (fun h32 => ?_) (fun h32 => ?_)
    · simp at h32
      have hst : sqStep (out, wants) m[i] = ((if wants = true ∧ out ≠ [] then out ++ [⟨32, 0⟩] else out) ++ [m[i]], false) := by simp [sqStep, h32]
      have e1 : sqR (sqStep (out, wants) m[i]) = sqR (out, wants) ++ [m[i]] := by
        rw [hst]
        cases wants <;> simp [sqR]
      have hrl : (sqR (out, wants)).length ≤ out.length + 1 := by
        unfold sqR; simp only; split <;> simp
      simp [hlt, Glyph.pv]
      exact ⟨sizedAgg2, sizedG _, sizedAgg2, by unfold lenMax; omega, fin _ (by rw [e1, List.map_append]; rfl)⟩
    · simp at h32
      have hst : sqStep (out, wants) m[i] = (out, true) := by simp [sqStep, h32]
      by_cases ho : out = []
      · subst ho
        have e0 : sqR ([], wants) = [] := by simp [sqR]
        have fin := fin [] (by rw [hst]; simp [sqR])
        simp [e0]
        obtain ⟨d', h1, k, h2, h3, h4, h5⟩ := fin
        exact ⟨d', h1, k, h2, h3, by simpa using h4.symm, h5⟩
      · have hop : 0 < out.length := List.length_pos_iff.2 ho
        cases wants
        · have e0 : sqR (out, false) = out := by simp [sqR]
          have w1 : IntKind.i64.wrap ((out.length : Int) - 1) = (out.length - 1 : Nat) := by rw [wrap64 (by omega) (by omega)]; omega
          have hk : out.length - 1 < out.length := by omega
          have hb : out[out.length - 1].r ≠ 32 := by
            have := hlast out[out.length - 1] (by rw [List.getLast?_eq_getElem?, List.getElem?_eq_getElem hk])
            simpa [Glyph.blank] using this
          have fin := fin (out.map Glyph.pv ++ [(⟨32, 0⟩ : Glyph).pv]) (by rw [hst]; simp [sqR, ho])
          simp [e0, hop, w1, hk, hb, Glyph.pv]
          exact ⟨sizedAgg2, sizedG _, sizedAgg2, by unfold lenMax; omega, fin⟩
        · have e0 : sqR (out, true) = out ++ [⟨32, 0⟩] := by simp [sqR, ho]
          have w1 : IntKind.i64.wrap (out.length : Int) = (out.length : Nat) := by rw [wrap64 (by omega) (by omega)]
          have hx : (List.map Glyph.pv out ++ [PV.agg [PV.int IntKind.i32 32, PV.int IntKind.u8 0]])[out.length]? = some (PV.agg [PV.int IntKind.i32 32, PV.int IntKind.u8 0]) := by
            rw [List.getElem?_append_right (by simp)]; simp
          have fin := fin (out.map Glyph.pv ++ [(⟨32, 0⟩ : Glyph).pv]) (by rw [hst, e0]; simp)
          simp [e0, w1, Glyph.pv, hx]
          exact fin
  · simp at hlt
    simp [List.take_of_length_le hlt, sqR_end m ht]
set_option maxRecDepth 20000 in
set_option maxHeartbeats 4000000 in
theorem refSide (b : UInt8) : PCon C0 71 [.sc (.int .u8 b.toNat)] (.sc (.bool (isSide b))) := by
  rw [side_iff]
  generalize b.toNat = c
  refine penter71 ?_
  by_cases h1 : c = 108
  · simp [Tryd.f71, h1]
  · by_cases h2 : c = 99
    · simp [Tryd.f71, h2]
    · have h1' : ¬ (c : Int) = 108 := by omega
      have h2' : ¬ (c : Int) = 99 := by omega
      simp [Tryd.f71, h1', h2']
end Go.Proofs.YtlnnnfogbakimaaDoor.Ev
end
section
namespace Go.Proofs.YtlnnnfogbakimaaDoor.Ev
open Go
def colsF (c : ByteArray) (i : Nat) : List UInt8 := ((c.data.toList.take i).filter isSide).take 20
theorem colsF_len (c : ByteArray) (i : Nat) : (colsF c i).length ≤ 20 := by unfold colsF; rw [List.length_take]; omega
theorem colsF_next {c : ByteArray} {i : Nat} (h : i < c.size) : colsF c (i + 1) = if isSide (c.data[i]'h) = true ∧ (colsF c i).length < 20 then colsF c i ++ [c.data[i]'h] else colsF c i := by
  have hl : i < c.data.toList.length := by simpa using h
  have e : c.data.toList[i] = c.data[i]'h := by simp
  unfold colsF
  rw [List.take_succ_eq_append_getElem hl, List.filter_append, e]
  cases hs : isSide (c.data[i]'h)
  · simp [hs]
  · have e1 : List.filter isSide [c.data[i]'h] = [c.data[i]'h] := by simp [hs]
    rw [e1]
    generalize List.filter isSide (List.take i c.data.toList) = L
    by_cases h20 : L.length < 20
    · rw [if_pos ⟨rfl, by rw [List.length_take]; omega⟩, List.take_of_length_le (by simp; omega), List.take_of_length_le (by omega)]
    · rw [if_neg (fun hh => by have := hh.2; rw [List.length_take] at this; omega), List.take_append_of_le_length (by omega)]
theorem colsF_end (c : ByteArray) : colsF c c.size = (c.data.toList.filter isSide).take 20 := by
  unfold colsF
  rw [show c.data.toList.take c.size = c.data.toList from List.take_of_length_le (by show c.data.toList.length ≤ c.data.size; rw [Array.length_toList]; exact Nat.le_refl _)]
theorem str_add (l : List UInt8) (c : ByteArray) (i : Nat) (h : i < c.size) : (⟨l.toArray⟩ : ByteArray) ++ c.extract i (i + 1) = ⟨(l ++ [c.data[i]'h]).toArray⟩ := by
  have e : (c.extract i (i + 1)).data = #[c.data[i]'h] := by
    rw [ByteArray.data_extract]
    apply Array.toList_inj.1
    have hl : i < c.data.toList.length := by simpa using h
    simp [List.drop_take, List.take_one, List.head?_drop, List.getElem?_eq_getElem hl]
  apply ByteArray.ext
  rw [ByteArray.data_append, e]
  apply Array.toList_inj.1
  simp
set_option linter.unusedSimpArgs false in
set_option maxRecDepth 20000 in
set_option maxHeartbeats 4000000 in
theorem refMend (t : Tbl) (ht : TblS t) : PCon C0 41 [t.pv.toFV] (mendT t).pv.toFV := by
  refine penter41 ?_
  have hcs := ht.cols
  have hmc : mendCols t.cols = ⟨(if colsF t.cols t.cols.size = [] then [108] else colsF t.cols t.cols.size).toArray⟩ := by rw [mendCols, colsF_end]
  simp [Tryd.f41, Tbl.pv]
  refine loopC (fun d e H => ∃ (i : Nat) (x0 x14 x26 : FV), d = t.cols.size - i ∧ i ≤ t.cols.size ∧
    H = [[FV.sc (PV.str t.cols), FV.sc (PV.sl (List.map TRow.pv t.rows)), FV.sc (PV.bool t.box), FV.sc (PV.bool t.all)], [FV.sc (PV.str ByteArray.empty), FV.own [], FV.sc (PV.bool false), FV.sc (PV.bool false)]] ∧
    e = [(0, x0), (1, .ptr 0 0), (2, .ptr 1 0), (3, .sc (.str ⟨(colsF t.cols i).toArray⟩)), (4, .sc (.int .i64 i)), (5, .undef), (6, .undef), (7, .undef), (8, .undef), (9, .undef), (14, x14), (26, x26), (36, .undef), (51, .undef), (69, .undef), (80, .undef)]) (d := t.cols.size)
    ⟨0, _, _, _, rfl, by omega, rfl, rfl⟩ ?_
  rintro d e H ⟨i, x0, x14, x26, rfl, hi, rfl, rfl⟩
  simp
  refine CondC.mk (fun hlt => ?_) (fun hlt => ?_)
  · simp at hlt
    have hlt' : i < t.cols.data.size := hlt
    have hnx := colsF_next hlt
    have hlen := colsF_len t.cols i
    have rs := refSide (t.cols.data[i]'hlt)
    have hsa := str_add (colsF t.cols i) t.cols i hlt
    have fin : ∀ q : List UInt8, q = colsF t.cols (i + 1) → ∃ d', d' < t.cols.size - i ∧ ∃ j, d' = t.cols.size - j ∧ j ≤ t.cols.size ∧ q = colsF t.cols j ∧ IntKind.i64.wrap ((i : Int) + 1) = (j : Nat) := fun q hq =>
      ⟨t.cols.size - (i + 1), by omega, i + 1, rfl, by omega, hq, by rw [wrap64 (by omega) (by omega)]; omega⟩
    have w1 : IntKind.i64.wrap ((i : Int) + 1) = ((i + 1 : Nat) : Int) := by rw [wrap64 (by omega) (by omega)]; omega
    have hsz : (⟨(colsF t.cols i).toArray⟩ : ByteArray).size = (colsF t.cols i).length := by simp [ByteArray.size]
    obtain ⟨b, hb⟩ : ∃ b, t.cols.data[i]'hlt = b := ⟨_, rfl⟩
    rw [hb] at hnx rs hsa
    simp [hlt, hlt', hb]
    refine CallQ.mk (Call.pure callable71 (by simp) (by simp) rs) ?_
    cases hs : isSide b
    · have := fin (colsF t.cols i) (by rw [hnx, hs]; simp)
      simp
      exact this
    · simp [hsz]
      refine CondC.mk (fun h20 => ?_) (fun h20 => ?_)
      · have h20' : (colsF t.cols i).length < 20 := by simp at h20; omega
        have := fin (colsF t.cols i ++ [b]) (by rw [hnx, hs, if_pos ⟨rfl, h20'⟩])
        have hle : (i : Int) + 1 ≤ t.cols.size := by omega
        have hle0 : (0 : Int) ≤ (i : Int) + 1 := by omega
        have hle1 : (i : Int) ≤ (i : Int) + 1 := by omega
        have hex : (t.cols.extract i (i + 1)).size = 1 := by rw [ByteArray.size_extract]; omega
        have h40 : (colsF t.cols i).length + 1 ≤ 1099511627776 := by omega
        simp [w1, hle, hle0, hle1, hsa, hsz, hex, h40]
        obtain ⟨d', e1, j, e2, e3, e4, e5⟩ := this
        exact ⟨d', e1, j, e2, e3, e4, by rw [w1] at e5; omega⟩
      · have h20' : ¬ (colsF t.cols i).length < 20 := by simp at h20; omega
        have := fin (colsF t.cols i) (by rw [hnx, if_neg (fun h => h20' h.2)])
        simp
        exact this
  · simp at hlt
    obtain rfl : i = t.cols.size := by omega
    simp
    have hn20 : (mendCols t.cols).size ≤ 20 := by
      rw [hmc]
      have := colsF_len t.cols t.cols.size
      show (if colsF t.cols t.cols.size = [] then [108] else colsF t.cols t.cols.size).toArray.size ≤ 20
      split
      · simp
      · simp; omega
    have hCM : (if colsF t.cols t.cols.size = [] then (⟨#[108]⟩ : ByteArray) else ⟨(colsF t.cols t.cols.size).toArray⟩) = mendCols t.cols := by
      rw [hmc]
      split <;> rfl
    obtain ⟨n, hn⟩ : ∃ n, (mendCols t.cols).size = n := ⟨_, rfl⟩
    rw [hn] at hn20
    refine CondC.mk (fun hc => ?_) (fun hc => ?_)
    · rw [if_pos (by simpa using hc)] at hCM
      simp
      rw [hCM]
      cases hall : t.all
      · simp
        refine loopC (fun d e H => ∃ (i : Nat) (X : Heap) (x0 x4 x7 x8 x9 x14 x26 x36 x51 x69 x80 : FV), d = t.rows.length - i ∧ i ≤ t.rows.length ∧
          H = [FV.sc (PV.str t.cols), FV.sc (PV.sl (List.map TRow.pv t.rows)), FV.sc (PV.bool t.box), FV.sc (PV.bool false)] :: [FV.sc (PV.str ByteArray.empty), FV.own [], FV.sc (PV.bool false), FV.sc (PV.bool false)] :: [FV.sc (PV.str (mendCols t.cols)), FV.own (((t.rows.take i).map (mendRow n)).map TRow.pv), FV.sc (PV.bool t.box), FV.sc (PV.bool false)] :: X ∧
          e = [(0, x0), (1, .ptr 0 0), (2, .ptr 1 0), (3, .sc (.str (mendCols t.cols))), (4, x4), (5, .ptr 2 0), (6, .sc (.int .i64 i)), (7, x7), (8, x8), (9, x9), (14, x14), (26, x26), (36, x36), (51, x51), (69, x69), (80, x80)]) (d := t.rows.length)
          ⟨0, [], _, _, _, _, _, _, _, _, _, _, _, rfl, by omega, by simp, rfl⟩ ?_
        rintro d e H ⟨i, X, x0, x4, x7, x8, x9, x14, x26, x36, x51, x69, x80, rfl, hi, rfl, rfl⟩
        simp
        refine CondC.mk (fun hlt => ?_) (fun hlt => ?_)
        · simp at hlt
          have hr := ht.cells _ (List.getElem_mem hlt)
          have htk : t.rows.take (i + 1) = t.rows.take i ++ [t.rows[i]] := List.take_succ_eq_append_getElem hlt
          have hrl := ht.rows
          obtain ⟨r, hrr⟩ : ∃ r, t.rows[i] = r := ⟨_, rfl⟩
          have hat : (List.map TRow.pv t.rows)[i]? = some (PV.agg [.bool r.rule, .sl (r.cells.map gl)]) := by
            rw [map_at hlt, hrr]; rfl
          have hq : t.rows[i]? = some r := by rw [List.getElem?_eq_getElem hlt, hrr]
          rw [hrr] at hr htk
          simp [hq, TRow.pv]
          obtain ⟨c0, hc0⟩ : ∃ c0 : List FV, [FV.sc (PV.str t.cols), FV.sc (PV.sl (List.map TRow.pv t.rows)), FV.sc (PV.bool t.box), FV.sc (PV.bool false)] = c0 := ⟨_, rfl⟩
          refine loopC (fun d e H => ∃ (k : Nat) (x9 x69 x80 : FV), d = n - k ∧ k ≤ n ∧ (r.rule = true → k = 0) ∧
            H = c0 :: [FV.sc (PV.str ByteArray.empty), FV.own [], FV.sc (PV.bool false), FV.sc (PV.bool false)] :: [FV.sc (PV.str (mendCols t.cols)), FV.own (((t.rows.take i).map (mendRow n)).map TRow.pv), FV.sc (PV.bool t.box), FV.sc (PV.bool false)] :: (X ++ [[FV.sc (.bool r.rule), FV.own (((List.range k).map (cellM r)).map gl)]]) ∧
            e = [(0, x0), (1, .ptr 0 0), (2, .ptr 1 0), (3, .sc (.str (mendCols t.cols))), (4, x4), (5, .ptr 2 0), (6, .sc (.int .i64 i)), (7, .ptr (X.length + 1 + 1 + 1) 0), (8, .sc (.int .i64 k)), (9, x9), (14, x14), (26, x26), (36, x36), (51, .sc (.bool true)), (69, x69), (80, x80)]) (d := n)
            ⟨0, x9, x69, x80, rfl, by omega, by simp, ?_, ?_⟩ ?_
          · rw [hc0]; simp
          · simp [hlt]
          · rintro d e H ⟨k, x9, x69, x80, rfl, hk, hrk, rfl, rfl⟩
            have hmr := mendRow_eq n r
            by_cases hkn : k < n ∧ r.rule = false
            · obtain ⟨hkn, hrule⟩ := hkn
              have hkn' : k < (mendCols t.cols).size := by omega
              have hnk : (List.range (k + 1)).map (cellM r) = (List.range k).map (cellM r) ++ [cellM r k] := by rw [List.range_succ, List.map_append]; rfl
              simp [hkn', hrule, ← hc0, hq, TRow.pv]
              by_cases hkc : k < r.cells.length
              · have sq := refSqueeze r.cells[k] (hr.2 _ (List.getElem_mem hkc))
                have hcm : cellM r k = squeeze r.cells[k] := by simp [cellM, hkc]
                simp only [gl] at sq
                simp [hkc, gl, hq, TRow.pv]
                refine CallQ.mk (Call.pure callable72 (by simp) (by simp) sq) ?_
                simp
                exact ⟨sized1l, sizedGlC r k, sized1l, by unfold lenMax; omega, n - (k + 1), by omega, k + 1, rfl, by omega, by rw [List.range_succ, List.map_append]; simp [hcm, gl], by rw [wrap64 (by omega) (by omega)]; omega⟩
              · have hcm : cellM r k = [] := by simp [cellM, hkc]
                simp [hkc]
                exact ⟨sized1l, sizedGlC r k, sized1l, by unfold lenMax; omega, n - (k + 1), by omega, k + 1, rfl, by omega, by rw [List.range_succ, List.map_append]; simp [hcm, gl], by rw [wrap64 (by omega) (by omega)]; omega⟩
            · have hcells : (mendRow n r).cells = (List.range k).map (cellM r) := by
                rw [hmr]
                cases hrule : r.rule
                · simp only [hrule, and_true] at hkn
                  obtain rfl : k = n := by omega
                  rfl
                · rw [hrk hrule]; rfl
              have hrow : (mendRow n r).pv = .agg [.bool r.rule, .sl (((List.range k).map (cellM r)).map gl)] := by
                rw [TRow.pv, hcells]; rfl
              by_cases hk2 : k < (mendCols t.cols).size
              · have hrule : r.rule = true := by
                  cases hrule : r.rule
                  · exact absurd ⟨by omega, hrule⟩ hkn
                  · rfl
                simp [hk2, hrule]
                exact ⟨sizedAgg2, sizedTR2 _ _ _, sizedAgg2, by unfold lenMax; omega, t.rows.length - (i + 1), by omega, i + 1, rfl, by omega, ⟨hc0.symm, by rw [← List.map_take, ← List.map_take, htk, List.map_append]; simp [hrow, hrule]⟩, by rw [wrap64 (by omega) (by omega)]; omega⟩
              · simp [hk2]
                exact ⟨sizedAgg2, sizedTR2 _ _ _, sizedAgg2, by unfold lenMax; omega, t.rows.length - (i + 1), by omega, i + 1, rfl, by omega, ⟨hc0.symm, by rw [← List.map_take, ← List.map_take, htk, List.map_append]; simp [hrow]⟩, by rw [wrap64 (by omega) (by omega)]; omega⟩
        · simp at hlt
          simp [List.take_of_length_le hlt]
          exact ⟨rfl, by simp [mendT, hn]; exact List.take_of_length_le (by simpa using hlt), rfl, by simp [mendT, hall]⟩
      · simp
        refine loopC (fun d e H => ∃ (i : Nat) (X : Heap) (x0 x4 x7 x8 x9 x14 x26 x36 x51 x69 x80 : FV), d = t.rows.length - i ∧ i ≤ t.rows.length ∧
          H = [FV.sc (PV.str t.cols), FV.sc (PV.sl (List.map TRow.pv t.rows)), FV.sc (PV.bool t.box), FV.sc (PV.bool true)] :: [FV.sc (PV.str ByteArray.empty), FV.own [], FV.sc (PV.bool false), FV.sc (PV.bool false)] :: [FV.sc (PV.str (mendCols t.cols)), FV.own (((t.rows.take i).map (mendRow n)).map TRow.pv), FV.sc (PV.bool t.box), FV.sc (PV.bool t.box)] :: X ∧
          e = [(0, x0), (1, .ptr 0 0), (2, .ptr 1 0), (3, .sc (.str (mendCols t.cols))), (4, x4), (5, .ptr 2 0), (6, .sc (.int .i64 i)), (7, x7), (8, x8), (9, x9), (14, x14), (26, x26), (36, x36), (51, x51), (69, x69), (80, x80)]) (d := t.rows.length)
          ⟨0, [], _, _, _, _, _, _, _, _, _, _, _, rfl, by omega, by simp, rfl⟩ ?_
        rintro d e H ⟨i, X, x0, x4, x7, x8, x9, x14, x26, x36, x51, x69, x80, rfl, hi, rfl, rfl⟩
        simp
        refine CondC.mk (fun hlt => ?_) (fun hlt => ?_)
        · simp at hlt
          have hr := ht.cells _ (List.getElem_mem hlt)
          have htk : t.rows.take (i + 1) = t.rows.take i ++ [t.rows[i]] := List.take_succ_eq_append_getElem hlt
          have hrl := ht.rows
          obtain ⟨r, hrr⟩ : ∃ r, t.rows[i] = r := ⟨_, rfl⟩
          have hat : (List.map TRow.pv t.rows)[i]? = some (PV.agg [.bool r.rule, .sl (r.cells.map gl)]) := by
            rw [map_at hlt, hrr]; rfl
          have hq : t.rows[i]? = some r := by rw [List.getElem?_eq_getElem hlt, hrr]
          rw [hrr] at hr htk
          simp [hq, TRow.pv]
          obtain ⟨c0, hc0⟩ : ∃ c0 : List FV, [FV.sc (PV.str t.cols), FV.sc (PV.sl (List.map TRow.pv t.rows)), FV.sc (PV.bool t.box), FV.sc (PV.bool true)] = c0 := ⟨_, rfl⟩
          refine loopC (fun d e H => ∃ (k : Nat) (x9 x69 x80 : FV), d = n - k ∧ k ≤ n ∧ (r.rule = true → k = 0) ∧
            H = c0 :: [FV.sc (PV.str ByteArray.empty), FV.own [], FV.sc (PV.bool false), FV.sc (PV.bool false)] :: [FV.sc (PV.str (mendCols t.cols)), FV.own (((t.rows.take i).map (mendRow n)).map TRow.pv), FV.sc (PV.bool t.box), FV.sc (PV.bool t.box)] :: (X ++ [[FV.sc (.bool r.rule), FV.own (((List.range k).map (cellM r)).map gl)]]) ∧
            e = [(0, x0), (1, .ptr 0 0), (2, .ptr 1 0), (3, .sc (.str (mendCols t.cols))), (4, x4), (5, .ptr 2 0), (6, .sc (.int .i64 i)), (7, .ptr (X.length + 1 + 1 + 1) 0), (8, .sc (.int .i64 k)), (9, x9), (14, x14), (26, x26), (36, x36), (51, .sc (.bool true)), (69, x69), (80, x80)]) (d := n)
            ⟨0, x9, x69, x80, rfl, by omega, by simp, ?_, ?_⟩ ?_
          · rw [hc0]; simp
          · simp [hlt]
          · rintro d e H ⟨k, x9, x69, x80, rfl, hk, hrk, rfl, rfl⟩
            have hmr := mendRow_eq n r
            by_cases hkn : k < n ∧ r.rule = false
            · obtain ⟨hkn, hrule⟩ := hkn
              have hkn' : k < (mendCols t.cols).size := by omega
              have hnk : (List.range (k + 1)).map (cellM r) = (List.range k).map (cellM r) ++ [cellM r k] := by rw [List.range_succ, List.map_append]; rfl
              simp [hkn', hrule, ← hc0, hq, TRow.pv]
              by_cases hkc : k < r.cells.length
              · have sq := refSqueeze r.cells[k] (hr.2 _ (List.getElem_mem hkc))
                have hcm : cellM r k = squeeze r.cells[k] := by simp [cellM, hkc]
                simp only [gl] at sq
                simp [hkc, gl, hq, TRow.pv]
                refine CallQ.mk (Call.pure callable72 (by simp) (by simp) sq) ?_
                simp
                exact ⟨sized1l, sizedGlC r k, sized1l, by unfold lenMax; omega, n - (k + 1), by omega, k + 1, rfl, by omega, by rw [List.range_succ, List.map_append]; simp [hcm, gl], by rw [wrap64 (by omega) (by omega)]; omega⟩
              · have hcm : cellM r k = [] := by simp [cellM, hkc]
                simp [hkc]
                exact ⟨sized1l, sizedGlC r k, sized1l, by unfold lenMax; omega, n - (k + 1), by omega, k + 1, rfl, by omega, by rw [List.range_succ, List.map_append]; simp [hcm, gl], by rw [wrap64 (by omega) (by omega)]; omega⟩
            · have hcells : (mendRow n r).cells = (List.range k).map (cellM r) := by
                rw [hmr]
                cases hrule : r.rule
                · simp only [hrule, and_true] at hkn
                  obtain rfl : k = n := by omega
                  rfl
                · rw [hrk hrule]; rfl
              have hrow : (mendRow n r).pv = .agg [.bool r.rule, .sl (((List.range k).map (cellM r)).map gl)] := by
                rw [TRow.pv, hcells]; rfl
              by_cases hk2 : k < (mendCols t.cols).size
              · have hrule : r.rule = true := by
                  cases hrule : r.rule
                  · exact absurd ⟨by omega, hrule⟩ hkn
                  · rfl
                simp [hk2, hrule]
                exact ⟨sizedAgg2, sizedTR2 _ _ _, sizedAgg2, by unfold lenMax; omega, t.rows.length - (i + 1), by omega, i + 1, rfl, by omega, ⟨hc0.symm, by rw [← List.map_take, ← List.map_take, htk, List.map_append]; simp [hrow, hrule]⟩, by rw [wrap64 (by omega) (by omega)]; omega⟩
              · simp [hk2]
                exact ⟨sizedAgg2, sizedTR2 _ _ _, sizedAgg2, by unfold lenMax; omega, t.rows.length - (i + 1), by omega, i + 1, rfl, by omega, ⟨hc0.symm, by rw [← List.map_take, ← List.map_take, htk, List.map_append]; simp [hrow]⟩, by rw [wrap64 (by omega) (by omega)]; omega⟩
        · simp at hlt
          simp [List.take_of_length_le hlt]
          exact ⟨rfl, by simp [mendT, hn]; exact List.take_of_length_le (by simpa using hlt), rfl, by simp [mendT, hall]⟩
    · rw [if_neg (by simpa using hc)] at hCM
      simp
      rw [hCM]
      cases hall : t.all
      · simp
        refine loopC (fun d e H => ∃ (i : Nat) (X : Heap) (x0 x4 x7 x8 x9 x14 x26 x36 x51 x69 x80 : FV), d = t.rows.length - i ∧ i ≤ t.rows.length ∧
          H = [FV.sc (PV.str t.cols), FV.sc (PV.sl (List.map TRow.pv t.rows)), FV.sc (PV.bool t.box), FV.sc (PV.bool false)] :: [FV.sc (PV.str ByteArray.empty), FV.own [], FV.sc (PV.bool false), FV.sc (PV.bool false)] :: [FV.sc (PV.str (mendCols t.cols)), FV.own (((t.rows.take i).map (mendRow n)).map TRow.pv), FV.sc (PV.bool t.box), FV.sc (PV.bool false)] :: X ∧
          e = [(0, x0), (1, .ptr 0 0), (2, .ptr 1 0), (3, .sc (.str (mendCols t.cols))), (4, x4), (5, .ptr 2 0), (6, .sc (.int .i64 i)), (7, x7), (8, x8), (9, x9), (14, x14), (26, x26), (36, x36), (51, x51), (69, x69), (80, x80)]) (d := t.rows.length)
          ⟨0, [], _, _, _, _, _, _, _, _, _, _, _, rfl, by omega, by simp, rfl⟩ ?_
        rintro d e H ⟨i, X, x0, x4, x7, x8, x9, x14, x26, x36, x51, x69, x80, rfl, hi, rfl, rfl⟩
        simp
        refine CondC.mk (fun hlt => ?_) (fun hlt => ?_)
        · simp at hlt
          have hr := ht.cells _ (List.getElem_mem hlt)
          have htk : t.rows.take (i + 1) = t.rows.take i ++ [t.rows[i]] := List.take_succ_eq_append_getElem hlt
          have hrl := ht.rows
          obtain ⟨r, hrr⟩ : ∃ r, t.rows[i] = r := ⟨_, rfl⟩
          have hat : (List.map TRow.pv t.rows)[i]? = some (PV.agg [.bool r.rule, .sl (r.cells.map gl)]) := by
            rw [map_at hlt, hrr]; rfl
          have hq : t.rows[i]? = some r := by rw [List.getElem?_eq_getElem hlt, hrr]
          rw [hrr] at hr htk
          simp [hq, TRow.pv]
          obtain ⟨c0, hc0⟩ : ∃ c0 : List FV, [FV.sc (PV.str t.cols), FV.sc (PV.sl (List.map TRow.pv t.rows)), FV.sc (PV.bool t.box), FV.sc (PV.bool false)] = c0 := ⟨_, rfl⟩
          refine loopC (fun d e H => ∃ (k : Nat) (x9 x69 x80 : FV), d = n - k ∧ k ≤ n ∧ (r.rule = true → k = 0) ∧
            H = c0 :: [FV.sc (PV.str ByteArray.empty), FV.own [], FV.sc (PV.bool false), FV.sc (PV.bool false)] :: [FV.sc (PV.str (mendCols t.cols)), FV.own (((t.rows.take i).map (mendRow n)).map TRow.pv), FV.sc (PV.bool t.box), FV.sc (PV.bool false)] :: (X ++ [[FV.sc (.bool r.rule), FV.own (((List.range k).map (cellM r)).map gl)]]) ∧
            e = [(0, x0), (1, .ptr 0 0), (2, .ptr 1 0), (3, .sc (.str (mendCols t.cols))), (4, x4), (5, .ptr 2 0), (6, .sc (.int .i64 i)), (7, .ptr (X.length + 1 + 1 + 1) 0), (8, .sc (.int .i64 k)), (9, x9), (14, x14), (26, x26), (36, x36), (51, .sc (.bool true)), (69, x69), (80, x80)]) (d := n)
            ⟨0, x9, x69, x80, rfl, by omega, by simp, ?_, ?_⟩ ?_
          · rw [hc0]; simp
          · simp [hlt]
          · rintro d e H ⟨k, x9, x69, x80, rfl, hk, hrk, rfl, rfl⟩
            have hmr := mendRow_eq n r
            by_cases hkn : k < n ∧ r.rule = false
            · obtain ⟨hkn, hrule⟩ := hkn
              have hkn' : k < (mendCols t.cols).size := by omega
              have hnk : (List.range (k + 1)).map (cellM r) = (List.range k).map (cellM r) ++ [cellM r k] := by rw [List.range_succ, List.map_append]; rfl
              simp [hkn', hrule, ← hc0, hq, TRow.pv]
              by_cases hkc : k < r.cells.length
              · have sq := refSqueeze r.cells[k] (hr.2 _ (List.getElem_mem hkc))
                have hcm : cellM r k = squeeze r.cells[k] := by simp [cellM, hkc]
                simp only [gl] at sq
                simp [hkc, gl, hq, TRow.pv]
                refine CallQ.mk (Call.pure callable72 (by simp) (by simp) sq) ?_
                simp
                exact ⟨sized1l, sizedGlC r k, sized1l, by unfold lenMax; omega, n - (k + 1), by omega, k + 1, rfl, by omega, by rw [List.range_succ, List.map_append]; simp [hcm, gl], by rw [wrap64 (by omega) (by omega)]; omega⟩
              · have hcm : cellM r k = [] := by simp [cellM, hkc]
                simp [hkc]
                exact ⟨sized1l, sizedGlC r k, sized1l, by unfold lenMax; omega, n - (k + 1), by omega, k + 1, rfl, by omega, by rw [List.range_succ, List.map_append]; simp [hcm, gl], by rw [wrap64 (by omega) (by omega)]; omega⟩
            · have hcells : (mendRow n r).cells = (List.range k).map (cellM r) := by
                rw [hmr]
                cases hrule : r.rule
                · simp only [hrule, and_true] at hkn
                  obtain rfl : k = n := by omega
                  rfl
                · rw [hrk hrule]; rfl
              have hrow : (mendRow n r).pv = .agg [.bool r.rule, .sl (((List.range k).map (cellM r)).map gl)] := by
                rw [TRow.pv, hcells]; rfl
              by_cases hk2 : k < (mendCols t.cols).size
              · have hrule : r.rule = true := by
                  cases hrule : r.rule
                  · exact absurd ⟨by omega, hrule⟩ hkn
                  · rfl
                simp [hk2, hrule]
                exact ⟨sizedAgg2, sizedTR2 _ _ _, sizedAgg2, by unfold lenMax; omega, t.rows.length - (i + 1), by omega, i + 1, rfl, by omega, ⟨hc0.symm, by rw [← List.map_take, ← List.map_take, htk, List.map_append]; simp [hrow, hrule]⟩, by rw [wrap64 (by omega) (by omega)]; omega⟩
              · simp [hk2]
                exact ⟨sizedAgg2, sizedTR2 _ _ _, sizedAgg2, by unfold lenMax; omega, t.rows.length - (i + 1), by omega, i + 1, rfl, by omega, ⟨hc0.symm, by rw [← List.map_take, ← List.map_take, htk, List.map_append]; simp [hrow]⟩, by rw [wrap64 (by omega) (by omega)]; omega⟩
        · simp at hlt
          simp [List.take_of_length_le hlt]
          exact ⟨rfl, by simp [mendT, hn]; exact List.take_of_length_le (by simpa using hlt), rfl, by simp [mendT, hall]⟩
      · simp
        refine loopC (fun d e H => ∃ (i : Nat) (X : Heap) (x0 x4 x7 x8 x9 x14 x26 x36 x51 x69 x80 : FV), d = t.rows.length - i ∧ i ≤ t.rows.length ∧
          H = [FV.sc (PV.str t.cols), FV.sc (PV.sl (List.map TRow.pv t.rows)), FV.sc (PV.bool t.box), FV.sc (PV.bool true)] :: [FV.sc (PV.str ByteArray.empty), FV.own [], FV.sc (PV.bool false), FV.sc (PV.bool false)] :: [FV.sc (PV.str (mendCols t.cols)), FV.own (((t.rows.take i).map (mendRow n)).map TRow.pv), FV.sc (PV.bool t.box), FV.sc (PV.bool t.box)] :: X ∧
          e = [(0, x0), (1, .ptr 0 0), (2, .ptr 1 0), (3, .sc (.str (mendCols t.cols))), (4, x4), (5, .ptr 2 0), (6, .sc (.int .i64 i)), (7, x7), (8, x8), (9, x9), (14, x14), (26, x26), (36, x36), (51, x51), (69, x69), (80, x80)]) (d := t.rows.length)
          ⟨0, [], _, _, _, _, _, _, _, _, _, _, _, rfl, by omega, by simp, rfl⟩ ?_
        rintro d e H ⟨i, X, x0, x4, x7, x8, x9, x14, x26, x36, x51, x69, x80, rfl, hi, rfl, rfl⟩
        simp
        refine CondC.mk (fun hlt => ?_) (fun hlt => ?_)
        · simp at hlt
          have hr := ht.cells _ (List.getElem_mem hlt)
          have htk : t.rows.take (i + 1) = t.rows.take i ++ [t.rows[i]] := List.take_succ_eq_append_getElem hlt
          have hrl := ht.rows
          obtain ⟨r, hrr⟩ : ∃ r, t.rows[i] = r := ⟨_, rfl⟩
          have hat : (List.map TRow.pv t.rows)[i]? = some (PV.agg [.bool r.rule, .sl (r.cells.map gl)]) := by
            rw [map_at hlt, hrr]; rfl
          have hq : t.rows[i]? = some r := by rw [List.getElem?_eq_getElem hlt, hrr]
          rw [hrr] at hr htk
          simp [hq, TRow.pv]
          obtain ⟨c0, hc0⟩ : ∃ c0 : List FV, [FV.sc (PV.str t.cols), FV.sc (PV.sl (List.map TRow.pv t.rows)), FV.sc (PV.bool t.box), FV.sc (PV.bool true)] = c0 := ⟨_, rfl⟩
          refine loopC (fun d e H => ∃ (k : Nat) (x9 x69 x80 : FV), d = n - k ∧ k ≤ n ∧ (r.rule = true → k = 0) ∧
            H = c0 :: [FV.sc (PV.str ByteArray.empty), FV.own [], FV.sc (PV.bool false), FV.sc (PV.bool false)] :: [FV.sc (PV.str (mendCols t.cols)), FV.own (((t.rows.take i).map (mendRow n)).map TRow.pv), FV.sc (PV.bool t.box), FV.sc (PV.bool t.box)] :: (X ++ [[FV.sc (.bool r.rule), FV.own (((List.range k).map (cellM r)).map gl)]]) ∧
            e = [(0, x0), (1, .ptr 0 0), (2, .ptr 1 0), (3, .sc (.str (mendCols t.cols))), (4, x4), (5, .ptr 2 0), (6, .sc (.int .i64 i)), (7, .ptr (X.length + 1 + 1 + 1) 0), (8, .sc (.int .i64 k)), (9, x9), (14, x14), (26, x26), (36, x36), (51, .sc (.bool true)), (69, x69), (80, x80)]) (d := n)
            ⟨0, x9, x69, x80, rfl, by omega, by simp, ?_, ?_⟩ ?_
          · rw [hc0]; simp
          · simp [hlt]
          · rintro d e H ⟨k, x9, x69, x80, rfl, hk, hrk, rfl, rfl⟩
            have hmr := mendRow_eq n r
            by_cases hkn : k < n ∧ r.rule = false
            · obtain ⟨hkn, hrule⟩ := hkn
              have hkn' : k < (mendCols t.cols).size := by omega
              have hnk : (List.range (k + 1)).map (cellM r) = (List.range k).map (cellM r) ++ [cellM r k] := by rw [List.range_succ, List.map_append]; rfl
              simp [hkn', hrule, ← hc0, hq, TRow.pv]
              by_cases hkc : k < r.cells.length
              · have sq := refSqueeze r.cells[k] (hr.2 _ (List.getElem_mem hkc))
                have hcm : cellM r k = squeeze r.cells[k] := by simp [cellM, hkc]
                simp only [gl] at sq
                simp [hkc, gl, hq, TRow.pv]
                refine CallQ.mk (Call.pure callable72 (by simp) (by simp) sq) ?_
                simp
                exact ⟨sized1l, sizedGlC r k, sized1l, by unfold lenMax; omega, n - (k + 1), by omega, k + 1, rfl, by omega, by rw [List.range_succ, List.map_append]; simp [hcm, gl], by rw [wrap64 (by omega) (by omega)]; omega⟩
              · have hcm : cellM r k = [] := by simp [cellM, hkc]
                simp [hkc]
                exact ⟨sized1l, sizedGlC r k, sized1l, by unfold lenMax; omega, n - (k + 1), by omega, k + 1, rfl, by omega, by rw [List.range_succ, List.map_append]; simp [hcm, gl], by rw [wrap64 (by omega) (by omega)]; omega⟩
            · have hcells : (mendRow n r).cells = (List.range k).map (cellM r) := by
                rw [hmr]
                cases hrule : r.rule
                · simp only [hrule, and_true] at hkn
                  obtain rfl : k = n := by omega
                  rfl
                · rw [hrk hrule]; rfl
              have hrow : (mendRow n r).pv = .agg [.bool r.rule, .sl (((List.range k).map (cellM r)).map gl)] := by
                rw [TRow.pv, hcells]; rfl
              by_cases hk2 : k < (mendCols t.cols).size
              · have hrule : r.rule = true := by
                  cases hrule : r.rule
                  · exact absurd ⟨by omega, hrule⟩ hkn
                  · rfl
                simp [hk2, hrule]
                exact ⟨sizedAgg2, sizedTR2 _ _ _, sizedAgg2, by unfold lenMax; omega, t.rows.length - (i + 1), by omega, i + 1, rfl, by omega, ⟨hc0.symm, by rw [← List.map_take, ← List.map_take, htk, List.map_append]; simp [hrow, hrule]⟩, by rw [wrap64 (by omega) (by omega)]; omega⟩
              · simp [hk2]
                exact ⟨sizedAgg2, sizedTR2 _ _ _, sizedAgg2, by unfold lenMax; omega, t.rows.length - (i + 1), by omega, i + 1, rfl, by omega, ⟨hc0.symm, by rw [← List.map_take, ← List.map_take, htk, List.map_append]; simp [hrow]⟩, by rw [wrap64 (by omega) (by omega)]; omega⟩
        · simp at hlt
          simp [List.take_of_length_le hlt]
          exact ⟨rfl, by simp [mendT, hn]; exact List.take_of_length_le (by simpa using hlt), rfl, by simp [mendT, hall]⟩
end Go.Proofs.YtlnnnfogbakimaaDoor.Ev
end
section
namespace Go.Proofs.YtlnnnfogbakimaaDoor.Ev
open Go
theorem squeeze_idem (l : List Glyph) : squeeze (squeeze l) = squeeze l := by
  have : ∀ (l : List Glyph) (s : List Glyph × Bool), sqAll s.1 = (s.1, false) → sqAll (l.foldl sqStep s).1 = ((l.foldl sqStep s).1, false) := by
    intro l
    induction l with
    | nil => intro s h; exact h
    | cons g l ih =>
      intro s h
      rw [List.foldl_cons]
      refine ih _ ?_
      unfold sqStep
      split
      · exact h
      · rename_i hg
        simp only
        split
        · rename_i hw
          rw [List.append_assoc, sqAll_app, h]
          simp [sqStep, hg, hw.2]
        · rw [sqAll_app, h]
          simp [sqStep, hg]
  have := this l ([], false) rfl
  rw [squeeze, squeeze]
  rw [show sqAll (sqAll l).1 = ((sqAll l).1, false) from this]
theorem sqzd_squeeze (l : List Glyph) : sqzd (squeeze l) = true := by simp [sqzd, squeeze_idem]
theorem sqzd_nil : sqzd [] = true := by decide
theorem cellM_sq (r : TRow) (k : Nat) : sqzd (cellM r k) = true := by
  unfold cellM
  split
  · exact sqzd_squeeze _
  · exact sqzd_nil
theorem mendCols_ok (c : ByteArray) : 0 < (mendCols c).size ∧ (mendCols c).size ≤ 20 ∧ colsOk (mendCols c) = true := by
  unfold mendCols
  by_cases h : List.take 20 (List.filter isSide c.data.toList) = []
  · rw [if_pos h]; decide
  · rw [if_neg h]
    refine ⟨?_, ?_, ?_⟩
    · show 0 < (List.take 20 (List.filter isSide c.data.toList)).toArray.size
      rw [List.size_toArray]; exact List.length_pos_iff.2 h
    · show (List.take 20 (List.filter isSide c.data.toList)).toArray.size ≤ 20
      rw [List.size_toArray, List.length_take]; omega
    · rw [colsOk, List.all_eq_true]
      intro b hb
      have hb' : b ∈ List.take 20 (List.filter isSide c.data.toList) := by simpa using hb
      exact (List.mem_filter.1 (List.mem_of_mem_take hb')).2
theorem mend_right (t : Tbl) : rightT (mendT t) = true := by
  obtain ⟨h1, h2, h3⟩ := mendCols_ok t.cols
  have hr : (mendT t).rows.any (badRow (mendT t).cols.size) = false := by
    rw [List.any_eq_false]
    intro r hr
    obtain ⟨x, _, rfl⟩ := List.mem_map.1 hr
    show ¬ badRow (mendCols t.cols).size (mendRow (mendCols t.cols).size x) = true
    rw [mendRow_eq]
    cases hx : x.rule
    · have hany : ((List.range (mendCols t.cols).size).map (cellM x)).any (fun c => !sqzd c) = false := by
        rw [List.any_eq_false]
        intro c hc
        obtain ⟨k, _, rfl⟩ := List.mem_map.1 hc
        simp [cellM_sq]
      simp only [badRow, hany]
      simp [cellM_sq]
    · simp [badRow]
  have ha : ((mendT t).all && !(mendT t).box) = false := by
    show ((t.all && t.box) && !t.box) = false
    cases t.all <;> cases t.box <;> rfl
  unfold rightT
  rw [hr, ha, show (mendT t).cols = mendCols t.cols from rfl, h3]
  have e1 : decide ((mendCols t.cols).size = 0) = false := decide_eq_false (by omega)
  have e2 : decide (20 < (mendCols t.cols).size) = false := decide_eq_false (by omega)
  rw [e1, e2]; rfl
theorem right_all {t : Tbl} (h : rightT t = true) : 0 < t.cols.size ∧ t.cols.size ≤ 20 ∧ colsOk t.cols = true ∧ (t.all && !t.box) = false ∧ ∀ r ∈ t.rows, badRow t.cols.size r = false := by
  unfold rightT at h
  simp only [Bool.and_eq_true, Bool.not_eq_true', Bool.or_eq_false_iff, decide_eq_false_iff_not, Bool.not_eq_false'] at h
  obtain ⟨⟨h1, h2, h3, h4⟩, h5⟩ := h
  refine ⟨by omega, by omega, h3, h4, fun r hr => ?_⟩
  rw [List.any_eq_false] at h5
  simpa using h5 r hr
theorem mend_same {t : Tbl} (h : rightT t = true) : mendT t = t := by
  obtain ⟨h1, h2, h3, h4, h5⟩ := right_all h
  have hc : mendCols t.cols = t.cols := by
    have hf : List.filter isSide t.cols.data.toList = t.cols.data.toList := by
      rw [List.filter_eq_self]
      rw [colsOk, List.all_eq_true] at h3
      exact h3
    have hl : t.cols.data.toList.length ≤ 20 := by rw [Array.length_toList]; exact h2
    unfold mendCols
    rw [hf, List.take_of_length_le hl, if_neg (fun hn => by
      have : t.cols.data.toList.length = 0 := by rw [hn]; rfl
      rw [Array.length_toList] at this
      have h1' : 0 < t.cols.data.size := h1
      omega)]
  have hr : t.rows.map (mendRow t.cols.size) = t.rows := by
    conv => rhs; rw [← List.map_id t.rows]
    refine List.map_congr_left fun r hr => ?_
    have hb := h5 r hr
    rw [mendRow_eq]
    obtain ⟨rule, cells⟩ := r
    cases hx : rule
    · subst hx
      simp [badRow] at hb
      obtain ⟨hb1, hb2⟩ := hb
      have : (List.range t.cols.size).map (cellM ⟨false, cells⟩) = cells := by
        refine List.ext_getElem (by simp [hb1]) fun k hk1 hk2 => ?_
        have hs := hb2 cells[k] (List.getElem_mem hk2)
        simp [cellM, hk2]
        simpa [sqzd] using hs
      simp [this]
    · subst hx
      simp [badRow] at hb
      simp [hb]
  have ha : (t.all && t.box) = t.all := by
    revert h4
    cases t.all <;> cases t.box <;> simp
  unfold mendT
  rw [hc, hr, ha]
theorem TblS.ok {t : Tbl} (h : TblS t) : t.ok := ⟨by have := h.rows; omega, fun r hr => ⟨by have := (h.cells r hr).1; omega, fun c hc => by have := (h.cells r hr).2 c hc; omega⟩⟩
end Go.Proofs.YtlnnnfogbakimaaDoor.Ev
end
section
namespace Go.Proofs.YtlnnnfogbakimaaDoor.Ev
open Go
namespace Node
def kcnt (x : Node) : Nat := cntL x.kids
theorem cntL_eq (l : List Node) : cntL l = l.length + sumBy kcnt l := by
  induction l with
  | nil => rw [cntL]; rfl
  | cons x l ih => rw [cntL, cnt_eq, ih, sumBy, List.length_cons, kcnt]; omega
theorem cntL_kids {l : List Node} {x : Node} (h : x ∈ l) : cntL x.kids < cntL l := by
  have h1 := sumBy_mem' kcnt h
  have h2 : 0 < l.length := List.length_pos_of_mem h
  have h3 : kcnt x = cntL x.kids := rfl
  rw [cntL_eq l]; omega
end Node
def bareT (t : Tbl) : Bool := decide (t.cols = ByteArray.empty) && (t.rows.isEmpty && (!t.box && !t.all))
end Go.Proofs.YtlnnnfogbakimaaDoor.Ev
end
section
namespace Go.Proofs.YtlnnnfogbakimaaDoor.Ev
open Go
def okHas (x : Node) : Bool := (hasText x.kind || decide ((x.text.length : Int) = 0)) && ((hasKids x.kind || decide ((x.kids.length : Int) = 0)) && ((decide (x.kind = 6) || decide ((x.rows.length : Int) = 0)) && (hasN x.kind || decide (x.n = 0))))
def okN (inn : Int) (x : Node) : Bool := standsIn x.kind inn && (wholeN x && (decide (0 ≤ x.line) && (decide (x.line ≤ 1099511627775) && (decide (0 ≤ x.n) && (decide (x.n ≤ 200) && (sqzd x.text &&
  (okHas x && (if x.kind = 7 then rightT x.grid else bareT x.grid))))))))
mutual
def checkN (inn : Int) : Node → Bool
  | .mk kind line n text kids rows grid => okN inn (.mk kind line n text kids rows grid) && checkL kind kids
def checkL (inn : Int) : List Node → Bool
  | [] => true
  | x :: l => checkN inn x && checkL inn l
end
theorem checkN_eq (inn : Int) (x : Node) : checkN inn x = (okN inn x && checkL x.kind x.kids) := by cases x; rw [checkN]; rfl
theorem checkL_all (inn : Int) (l : List Node) : checkL inn l = l.all (checkN inn) := by
  induction l with
  | nil => rw [checkL]; rfl
  | cons x l ih => rw [checkL, ih]; rfl
end Go.Proofs.YtlnnnfogbakimaaDoor.Ev
end
section
namespace Go.Proofs.YtlnnnfogbakimaaDoor.Ev
open Go
@[simp] theorem range1 : ([0] = List.range 1) = True := eq_true rfl
@[simp] theorem range2 : ([0, 1] = List.range 2) = True := eq_true rfl
@[simp] theorem range3 : ([0, 1, 2] = List.range 3) = True := eq_true rfl
@[simp] theorem range4 : ([0, 1, 2, 3] = List.range 4) = True := eq_true rfl
@[simp] theorem sized_nil {n : Nat} : Sized n [] = True := eq_true fun p h => by simp at h
@[simp] theorem sized_int {k : IntKind} {n : Int} {l : List PV} : Sized 1 (PV.int k n :: l) = Sized 1 l := propext ⟨fun h p hp => h p (List.mem_cons_of_mem _ hp), fun h p hp => by
  rcases List.mem_cons.1 hp with rfl | hp
  · rfl
  · exact h p hp⟩
def pvi (k : Int) : PV := .int .i64 k
set_option linter.unusedSimpArgs false in
set_option maxRecDepth 20000 in
set_option maxHeartbeats 4000000 in
theorem refIn (k : Int) (l : List Int) (hl : l.length ≤ 1000) : PCon C0 85 [.sc (.int .i64 k), .sc (.sl (l.map pvi))] (.sc (.bool (decide (k ∈ l)))) := by
  refine penter85 ?_
  simp [Tryd.f85]
  refine loopC (fun d e H => ∃ (i : Nat) (x9 x17 : FV), d = l.length - i ∧ i ≤ l.length ∧ k ∉ l.take i ∧ e = [(0, .sc (.int .i64 k)), (1, .sc (.sl (l.map pvi))), (4, .sc (.bool false)), (5, .sc (.int .i64 i)), (9, x9), (17, x17)]) (d := l.length) ⟨0, _, _, rfl, by omega, by simp, rfl⟩ ?_
  rintro d e H ⟨i, x9, x17, rfl, hi, hno, rfl⟩
  simp
  refine CondC.mk (fun hlt => ?_) (fun hlt => ?_)
  · simp at hlt
    have ht := List.take_succ_eq_append_getElem hlt
    by_cases hk : l[i] = k
    · have hm : k ∈ l := hk ▸ List.getElem_mem hlt
      simp [hlt, pvi, hk, hm]
    · simp [hlt, pvi, hk]
      refine ⟨l.length - (i + 1), by omega, i + 1, rfl, by omega, ?_, by rw [wrap64 (by omega) (by omega)]; omega⟩
      rw [ht, List.mem_append]
      rintro (h | h)
      · exact hno h
      · rw [List.mem_singleton] at h; exact hk h.symm
  · simp at hlt
    rw [List.take_of_length_le hlt] at hno
    simp [hno]
set_option linter.unusedSimpArgs false in
set_option maxRecDepth 20000 in
set_option maxHeartbeats 4000000 in
theorem refStands (k i : Int) : PCon C0 83 [.sc (.int .i64 k), .sc (.int .i64 i)] (.sc (.bool (standsIn k i))) := by
  refine penter83 ?_
  by_cases h1 : k = 1
  · subst h1
    by_cases hi : i = 0 <;> simp [Tryd.f83, hi, standsIn]
  · by_cases h2 : k = 2
    · subst h2
      by_cases hi : i = 1 <;> simp [Tryd.f83, hi, standsIn]
    · by_cases h3 : 3 ≤ k <;> by_cases h7 : k ≤ 7 <;> simp [Tryd.f83, h1, h2, h3, h7, standsIn]
set_option linter.unusedSimpArgs false in
set_option maxRecDepth 20000 in
set_option maxHeartbeats 4000000 in
theorem refFull (x : Node) : PCon C0 86 [x.pv.toFV] (.sc (.bool (wholeN x))) := by
  refine penter86 ?_
  have i1 := refIn x.kind [1, 2, 3] (by simp)
  have hb : decide (x.kind ∈ [1, 2, 3]) = true ↔ x.kind = 1 ∨ x.kind = 2 ∨ x.kind = 3 := by simp
  generalize decide (x.kind ∈ [1, 2, 3]) = b at *
  rw [Node.pv_eq]
  simp [pvi] at i1
  simp [Tryd.f86, gl]
  refine CallQ.mk (Call.pure callable85 (by simp) (by simp) i1) ?_
  cases b
  rotate_left
  · have h123 := hb.1 rfl
    simp [h123, wholeN, ← len_pos]
  · have h123 : ¬ (x.kind = 1 ∨ x.kind = 2 ∨ x.kind = 3) := fun h => by have := hb.2 h; simp at this
    have e0 : wholeN x = (if x.kind = 5 then !x.kids.isEmpty else if x.kind = 6 then !x.rows.isEmpty else if x.kind = 7 then !x.grid.rows.isEmpty else decide (x.kind = 4)) := by unfold wholeN; rw [if_neg h123]
    rw [e0]
    clear hb
    clear i1 h123
    by_cases h5 : x.kind = 5
    · simp [h5, ← len_pos]
    · by_cases h6 : x.kind = 6
      · simp [h6, ← len_pos]
      · by_cases h4 : x.kind = 4
        · simp [h4]
        · by_cases h7 : x.kind = 7
          · simp [h7, ← len_pos]
          · simp [h4, h5, h6, h7]
end Go.Proofs.YtlnnnfogbakimaaDoor.Ev
end
section
namespace Go.Proofs.YtlnnnfogbakimaaDoor.Ev
open Go
theorem mem1234 (k : Int) : decide (k ∈ [1, 2, 3, 4]) = hasText k := by
  unfold hasText
  rw [← Bool.decide_and]
  refine decide_eq_decide.2 ?_
  simp; omega
theorem mem45 (k : Int) : decide (k ∈ [4, 5]) = hasN k := by
  unfold hasN
  rw [← Bool.decide_or]
  refine decide_eq_decide.2 ?_
  simp
theorem mem1245 (k : Int) : decide (k ∈ [1, 2, 4, 5]) = hasKids k := by
  unfold hasKids
  rw [← Bool.decide_or, ← Bool.decide_or, ← Bool.decide_or]
  refine decide_eq_decide.2 ?_
  simp [or_assoc]
set_option linter.unusedSimpArgs false in
set_option maxRecDepth 20000 in
set_option maxHeartbeats 4000000 in
theorem refOwn (x : Node) (k : Int) (hx : x.Small) : PCon C0 84 [x.pv.toFV, .sc (.int .i64 k)] (ownN x k).pv.toFV := by
  have i1 := refIn k [1, 2, 3, 4] (by simp)
  have i2 := refIn k [4, 5] (by simp)
  rw [mem1234] at i1
  rw [mem45] at i2
  simp [pvi] at i1 i2
  have sq := refSqueeze x.text hx.text
  refine penter84 ?_
  rw [Node.pv_eq]
  simp [Tryd.f84, gl] at sq ⊢
  refine CallQ.mk (Call.pure callable85 (by simp) (by simp) i1) ?_
  cases hT : hasText k
  · simp
    refine CallQ.mk (Call.pure callable85 (by simp) (by simp) i2) ?_
    cases hN : hasN k
    · by_cases h6 : k = 6
      · subst h6
        simp [Node.pv_eq, gl, ownN, hT, hN, clamp, noTbl]
      · by_cases h7 : k = 7
        · have cc := refMend x.grid hx.tbl
          subst h7
          simp [Tbl.pv] at cc ⊢
          refine CallQ.mk (Call.pure callable41 (by simp) (by simp) cc) ?_
          simp [Node.pv_eq, gl, ownN, hT, hN, clamp, noTbl]
        · simp [Node.pv_eq, gl, ownN, hT, hN, clamp, h6, h7, noTbl]
    · have h6 : ¬ k = 6 := by simp [hasN] at hN; omega
      have h7 : ¬ k = 7 := by simp [hasN] at hN; omega
      simp [Node.pv_eq, gl, ownN, hT, hN, clamp, h6, h7, noTbl]
  · have h6 : ¬ k = 6 := by simp [hasText] at hT; omega
    have h7 : ¬ k = 7 := by simp [hasText] at hT; omega
    simp
    refine CallQ.mk (Call.pure callable72 (by simp) (by simp) sq) ?_
    simp
    refine CallQ.mk (Call.pure callable85 (by simp) (by simp) i2) ?_
    cases hN : hasN k
    · simp [Node.pv_eq, gl, ownN, hT, hN, clamp, h6, h7, noTbl]
    · simp [Node.pv_eq, gl, ownN, hT, hN, clamp, h6, h7, noTbl]
end Go.Proofs.YtlnnnfogbakimaaDoor.Ev
end
section
namespace Go.Proofs.YtlnnnfogbakimaaDoor.Ev
open Go
theorem tidyL_zero (inn d : Int) (l : List Node) : tidyL inn d 0 l = ([], 0) := by
  cases l with
  | nil => rw [tidyL]
  | cons x l => rw [tidyL, if_pos rfl]
theorem tidyL_deep {inn d : Int} (h : 20 ≤ d) (k : Nat) (l : List Node) : tidyL inn d k l = ([], k) := by
  induction l with
  | nil => rw [tidyL]
  | cons x l ih =>
    rw [tidyL]
    by_cases hk : k = 0
    · rw [if_pos hk, hk]
    · rw [if_neg hk, if_pos h, ih]
theorem whole_kids {y : Node} (l : List Node) (h : y.kind ≠ 5) : wholeN (y.withKids l) = wholeN y := by
  by_cases h1 : y.kind = 1 ∨ y.kind = 2 ∨ y.kind = 3
  · simp [wholeN, h1]
  · simp [wholeN, h1, h]; rfl
theorem whole_five {y : Node} (x : Node) (l : List Node) (h : y.kind = 5) : wholeN (y.withKids (x :: l)) = true := by
  unfold wholeN
  simp [h]
theorem ownN_kind (x : Node) (k : Int) : (ownN x k).kind = k := rfl
theorem ownN_kids (x : Node) (k : Int) : (ownN x k).kids = [] := rfl
set_option linter.unusedSimpArgs false in
set_option maxRecDepth 20000 in
set_option maxHeartbeats 8000000 in
theorem refTidyL : ∀ (n : Nat) (a : List Node), SizeOf.sizeOf a < n → (∀ x ∈ a, x.Small) → a.length ≤ 1073741824 → ∀ (inn d : Int) (left : Nat), 0 ≤ d → d ≤ 20 → left ≤ 1073741824 →
    PCon C0 48 [.sc (.sl (a.map Node.pv)), .sc (.int .i64 inn), .sc (.int .i64 d), .sc (.int .i64 left)] (.tup [.own ((tidyL inn d left a).1.map Node.pv), .sc (.int .i64 (tidyL inn d left a).2)]) := by
  intro n
  induction n with
  | zero => intro a h; omega
  | succ n ih =>
    intro a hn hall hla inn d left hd0 hd1 hleft
    refine penter48 ?_
    simp [Tryd.f48]
    refine loopC (fun dd e H' => ∃ (i : Nat) (out : List Node) (k : Nat) (x12 x13 x14 x15 x16 x17 x29 x51 x74 x88 x97 : FV), dd = a.length - i ∧ i ≤ a.length ∧ k ≤ left ∧ out.length + k ≤ left ∧
        ((tidyL inn d left a).1 = out ++ (tidyL inn d k (a.drop i)).1 ∧ (tidyL inn d left a).2 = (tidyL inn d k (a.drop i)).2) ∧
        e = [(0, FV.sc (.sl (a.map Node.pv))), (1, .sc (.int .i64 inn)), (2, .sc (.int .i64 d)), (3, .sc (.int .i64 k)), (8, .own []), (9, .sc (.int .i64 0)), (10, .own (out.map Node.pv)), (11, .sc (.int .i64 i)), (12, x12), (13, x13), (14, x14), (15, x15), (16, x16), (17, x17), (29, x29), (51, x51), (74, x74), (88, x88), (97, x97)]) (d := a.length)
        ⟨0, [], left, _, _, _, _, _, _, _, _, _, _, _, by omega, by omega, by omega, by simp, by simp, rfl⟩ ?_
    rintro dd e X ⟨i, out, k, x12, x13, x14, x15, x16, x17, x29, x51, x74, x88, x97, rfl, hi, hk, hout, ⟨ho1, ho2⟩, rfl⟩
    by_cases hlt : i < a.length
    rotate_left
    · have hge : a.length ≤ i := by omega
      rw [List.drop_eq_nil_of_le hge, tidyL] at ho1 ho2
      simp at ho1 ho2
      simp [hlt, ho1, ho2]
    by_cases hk0 : 0 < k
    rotate_left
    · have hk0' : k = 0 := by omega
      subst hk0'
      rw [tidyL_zero] at ho1 ho2
      simp at ho1 ho2
      simp [hlt, ho1, ho2]
    by_cases hd : d < 20
    rotate_left
    · rw [tidyL_deep (by omega) k (a.drop i)] at ho1 ho2
      simp at ho1 ho2
      simp [hlt, hk0, hd, ho1, ho2]
    have ea := Node.pv_eq a[i]
    have hm : a[i] ∈ a := List.getElem_mem hlt
    have hsm := hall _ hm
    have st := refStands a[i].kind inn
    have i4 := refIn a[i].kind [1, 2, 4, 5] (by simp)
    rw [mem1245] at i4
    simp [pvi] at i4
    have own := refOwn a[i] a[i].kind hsm
    have para := refOwn a[i] 3 hsm
    have w1 : IntKind.i64.wrap ((k : Int) - 1) = ((k - 1 : Nat) : Int) := by rw [wrap64 (by omega) (by omega)]; omega
    have wd1 : IntKind.i64.wrap (d + 1) = d + 1 := wrap64 (by omega) (by omega)
    have hrec := fun (inn d : Int) (hd0 : 0 ≤ d) (hd1 : d ≤ 20) => ih a[i].kids (by have := Node.kids_lt hm; omega) hsm.kids.2 hsm.kids.1 inn d (k - 1) hd0 hd1 (by omega)
    rw [ea] at own para
    generalize hy : ownN a[i] a[i].kind = y at own
    generalize hy3 : ownN a[i] 3 = y3 at para
    rw [Node.pv_eq] at own para
    simp [gl] at own para
    have fy3 := refFull y3
    rw [Node.pv_eq] at fy3
    simp [gl] at fy3
    have hdrop : a.drop i = a[i] :: a.drop (i + 1) := List.drop_eq_getElem_cons hlt
    rw [hdrop, tidyL, if_neg (by omega), if_neg (by omega)] at ho1 ho2
    have fin : ∀ (o : List Node) (k' : Nat), tidyN inn d k a[i] = (o, k') → ∀ q, q = (out ++ o).map Node.pv → ∃ d', d' < a.length - i ∧ ∃ i', d' = a.length - i' ∧ i' ≤ a.length ∧ ∃ x x_1,
        x_1 ≤ left ∧ x.length + x_1 ≤ left ∧
        ((tidyL inn d left a).1 = x ++ (tidyL inn d x_1 (a.drop i')).1 ∧ (tidyL inn d left a).2 = (tidyL inn d x_1 (a.drop i')).2) ∧ (k' : Int) = x_1 ∧ q = x.map Node.pv ∧ IntKind.i64.wrap (i + 1) = (i' : Nat) := by
      intro o k' he q hq
      have hc := tidyL_count (SizeOf.sizeOf [a[i]] + 1) [a[i]] (by omega) inn d k
      rw [tidyL, if_neg (by omega), if_neg (by omega), tidyL] at hc
      simp [he] at hc ho1 ho2
      exact ⟨a.length - (i + 1), by omega, i + 1, rfl, by omega, out ++ o, k', by omega, by simp; omega, ⟨by simp [ho1], ho2⟩, rfl, hq, by rw [wrap64 (by omega) (by omega)]; omega⟩
    have hn' := tidyN_eq inn d k a[i]
    rw [hy, hy3] at hn'
    have hlm : lenMax ≥ 2147483648 := by unfold lenMax; omega
    have hcr := tidyL_count _ a[i].kids (Nat.lt_succ_self _) inn d (k - 1)
    have hcr2 := tidyL_count _ a[i].kids (Nat.lt_succ_self _) a[i].kind (d + 1) (k - 1)
    have hq : a[i]? = some a[i] := List.getElem?_eq_getElem hlt
    iterate 5
      simp [hlt, hq, hk0, hd, ea, gl, w1, -KSeq_normal]
      rw [KSeq_normal]
    obtain ⟨A, hAe⟩ : ∃ A : Bool, ((a[i].kind = 1 ∨ a[i].kind = 2) ∧ standsIn a[i].kind inn = false) = (A = true) := ⟨decide ((a[i].kind = 1 ∨ a[i].kind = 2) ∧ standsIn a[i].kind inn = false), by simp⟩
    refine seq_cut (E := [(0, FV.sc (.sl (a.map Node.pv))), (1, .sc (.int .i64 inn)), (2, .sc (.int .i64 d)), (3, .sc (.int .i64 (k - 1 : Nat))), (8, .own []), (9, .sc (.int .i64 0)), (10, .own (out.map Node.pv)), (11, .sc (.int .i64 i)), (12, .ptr X.length 0), (13, .sc (.int .i64 (if A = true then 3 else a[i].kind))), (14, x14), (15, x15), (16, x16), (17, x17), (29, .sc (.bool true)), (51, .sc (.bool A)), (74, x74), (88, x88), (97, x97)])
      (H₁ := X ++ [[.sc (.int .i64 a[i].kind), .sc (.int .i64 a[i].line), .sc (.int .i64 a[i].n), .sc (.sl (a[i].text.map Glyph.pv)), .sc (.sl (a[i].kids.map Node.pv)), .sc (.sl (a[i].rows.map gl)), .sc (.str a[i].grid.cols), .sc (.sl (a[i].grid.rows.map TRow.pv)), .sc (.bool a[i].grid.box), .sc (.bool a[i].grid.all)]]) ?_ ?_
    · clear ho1 ho2 fin hn' hrec own para fy3 i4
      obtain ⟨t1, hk1⟩ : ∃ t : Bool, (a[i].kind = 1) = (t = true) := ⟨decide (a[i].kind = 1), by simp⟩
      obtain ⟨t2, hk2⟩ : ∃ t : Bool, (a[i].kind = 2) = (t = true) := ⟨decide (a[i].kind = 2), by simp⟩
      rw [hk1, hk2] at hAe
      cases t1 <;> cases t2
      · simp at hAe
        subst hAe
        simp [hk1, hk2]
      rotate_right
      · simp at hk1 hk2; omega
      all_goals
        simp [hk1, hk2]
        refine CallQ.mk (Call.pure callable83 (by simp) (by simp) st) ?_
        simp at hAe
        cases hs : standsIn a[i].kind inn
        · rw [hs] at hAe
          simp at hAe
          subst hAe
          simp
        · rw [hs] at hAe
          simp at hAe
          subst hAe
          simp
    · cases hAb : A
      · -- as it is
        subst hAb
        have hA : ¬ ((a[i].kind = 1 ∨ a[i].kind = 2) ∧ standsIn a[i].kind inn = false) := by rw [hAe]; simp
        rw [if_neg hA] at hn'
        have hyk : y.kids = [] := by rw [← hy]; rfl
        have hyd : y.kind = a[i].kind := by rw [← hy]; rfl
        have fy := refFull y
        rw [Node.pv_eq] at fy
        simp [gl] at fy
        simp
        refine CallQ.mk (Call.pure callable84 (by simp) (by simp) own) ?_
        simp
        refine CallQ.mk (Call.pure callable85 (by simp) (by simp) i4) ?_
        cases hkd : hasKids a[i].kind
        · simp
          refine CallQ.mk (Call.pure callable86 (by simp) (by simp) fy) ?_
          cases hw : wholeN y
          · simp
            exact fin [] (k - 1) (by rw [hn', hkd, hw]; rfl) _ (by simp)
          · simp [sizedN, sized1]
            exact ⟨by omega, fin [y] (k - 1) (by rw [hn', hkd, hw]; rfl) _ (by simp [Node.pv_eq y, gl])⟩
        · -- has it what is within?
          rw [hkd, if_pos rfl] at hn'
          by_cases h5 : a[i].kind = 5
          · have rc := hrec a[i].kind (d + 1) (by omega) (by omega)
            have hz : wholeN (y.withKids [Node.zero]) = true := whole_five _ _ (by rw [hyd]; exact h5)
            rw [hz] at hn'
            generalize hr : tidyL a[i].kind (d + 1) (k - 1) a[i].kids = r at *
            obtain ⟨rl, rk⟩ := r
            have fk := refFull (y.withKids rl)
            rw [Node.pv_eq] at fk
            simp [gl] at fk
            simp at hcr2 rc
            rw [h5] at rc
            simp [h5, wd1]
            refine CallQ.mk (Call.pure callable48 (by simp) (by simp) rc) ?_
            simp
            refine CallQ.mk (Call.pure callable86 (by simp) (by simp) fk) ?_
            cases hw : wholeN (y.withKids rl)
            · have hrl : rl = [] := by
                simp [wholeN, hyd, h5] at hw
                exact hw
              subst hrl
              simp
              exact fin [] rk (by rw [hn']; simp [hw]) _ (by simp)
            · simp [sizedN, sized1]
              exact ⟨by omega, fin [y.withKids rl] rk (by rw [hn']; simp [hw]) _ (by simp [Node.pv_eq (y.withKids rl), gl])⟩
          · have hz : ∀ l, wholeN (y.withKids l) = wholeN y := fun l => whole_kids l (by rw [hyd]; exact h5)
            simp only [hz] at hn'
            simp [h5]
            refine CallQ.mk (Call.pure callable86 (by simp) (by simp) fy) ?_
            cases hw : wholeN y
            · have rc := hrec inn d hd0 hd1
              simp
              refine CallQ.mk (Call.pure callable86 (by simp) (by simp) fy) ?_
              rw [hw]
              simp
              refine CallQ.mk (Call.pure callable48 (by simp) (by simp) rc) ?_
              simp [sizedN]
              exact ⟨by omega, fin _ _ (by rw [hn', hw]; rfl) _ (by simp)⟩
            · have rc := hrec a[i].kind (d + 1) (by omega) (by omega)
              generalize hr : tidyL a[i].kind (d + 1) (k - 1) a[i].kids = r at *
              obtain ⟨rl, rk⟩ := r
              have fk := refFull (y.withKids rl)
              rw [Node.pv_eq] at fk
              simp [gl] at fk
              rw [hz, hw] at fk
              simp at hcr2 rc
              simp [wd1]
              refine CallQ.mk (Call.pure callable48 (by simp) (by simp) rc) ?_
              simp
              refine CallQ.mk (Call.pure callable86 (by simp) (by simp) fk) ?_
              simp [sizedN, sized1]
              exact ⟨by omega, fin [y.withKids rl] rk (by rw [hn', hw]; simp) _ (by simp [Node.pv_eq (y.withKids rl), gl])⟩
      · -- a heading that may not stand there
        subst hAb
        have hA : (a[i].kind = 1 ∨ a[i].kind = 2) ∧ standsIn a[i].kind inn = false := by rw [hAe]
        rw [if_pos hA] at hn'
        have hkd : hasKids a[i].kind = true := by rcases hA.1 with h | h <;> rw [h] <;> rfl
        have hk3 : ¬ (3 : Int) = a[i].kind := by rcases hA.1 with h | h <;> rw [h] <;> decide
        have rc := hrec inn d hd0 hd1
        rw [hkd] at i4
        simp
        refine CallQ.mk (Call.pure callable84 (by simp) (by simp) para) ?_
        simp
        refine CallQ.mk (Call.pure callable85 (by simp) (by simp) i4) ?_
        simp [hk3]
        refine CallQ.mk (Call.pure callable86 (by simp) (by simp) fy3) ?_
        cases hw : wholeN y3
        · simp
          refine CallQ.mk (Call.pure callable48 (by simp) (by simp) rc) ?_
          simp [sizedN]
          exact ⟨by omega, fin _ _ (by rw [hn', hw]) _ (by simp)⟩
        · simp [sizedN, sized1]
          refine ⟨by omega, CallQ.mk (Call.pure callable48 (by simp) (by simp) rc) ?_⟩
          simp [sizedN, sized1, sized_app]
          exact ⟨by omega, fin _ _ (by rw [hn', hw]) _ (by simp [Node.pv_eq y3, gl])⟩
end Go.Proofs.YtlnnnfogbakimaaDoor.Ev
end
section
namespace Go.Proofs.YtlnnnfogbakimaaDoor.Ev
open Go
set_option linter.unusedSimpArgs false in
set_option maxRecDepth 20000 in
set_option maxHeartbeats 4000000 in
theorem refTidy (d : Doc) (hall : ∀ x ∈ d.kids, x.Small) (hl : d.kids.length ≤ 1073741824) : PCon C0 17 [d.pv.toFV] (tidyD d).pv.toFV := by
  have rt := refTidyL _ d.kids (Nat.lt_succ_self _) hall hl 0 0 20000 (by omega) (by omega) (by omega)
  refine penter17 ?_
  simp [Tryd.f17, Doc.pv] at rt ⊢
  refine CallQ.mk (Call.pure callable48 (by simp) (by simp) rt) ?_
  simp [tidyD]
end Go.Proofs.YtlnnnfogbakimaaDoor.Ev
end
section
namespace Go.Proofs.YtlnnnfogbakimaaDoor.Ev
open Go
theorem sumBy_cons {α : Type} (f : α → Nat) (x : α) (l : List α) : sumBy f (x :: l) = f x + sumBy f l := rfl
theorem squeeze_len (l : List Glyph) : (squeeze l).length ≤ 2 * l.length := sqAll_len l
theorem cellM_sum (r : TRow) (n : Nat) : sumBy List.length ((List.range n).map (cellM r)) ≤ 2 * sumBy List.length r.cells := by
  have key : ∀ m, sumBy List.length ((List.range m).map (cellM r)) ≤ 2 * sumBy List.length (r.cells.take m) := by
    intro m
    induction m with
    | zero => simp [sumBy]
    | succ m ih =>
      rw [List.range_succ, List.map_append, sumBy_append]
      simp only [List.map_cons, List.map_nil, sumBy]
      by_cases hm : m < r.cells.length
      · rw [sumBy_take _ hm]
        have e : cellM r m = squeeze r.cells[m] := by simp [cellM, hm]
        rw [e]
        have := squeeze_len r.cells[m]
        omega
      · have e : cellM r m = [] := by simp [cellM, hm]
        rw [e]
        rw [List.take_of_length_le (by omega)] at ih
        rw [List.take_of_length_le (by omega)]
        simp; omega
  have := key n; have := sumBy_take_le List.length r.cells n; omega
theorem mendRow_long (n : Nat) (hn : n ≤ 20) (r : TRow) : trowLong (mendRow n r) ≤ 2 * trowLong r + 20 := by
  rw [mendRow_eq]
  unfold trowLong
  cases hr : r.rule
  · have := cellM_sum r n
    simp; omega
  · simp [sumBy]
theorem mendT_long (t : Tbl) : (mendT t).cols.size + sumBy trowLong (mendT t).rows ≤ 20 + 22 * sumBy trowLong t.rows := by
  obtain ⟨c1, c2, c3⟩ := mendCols_ok t.cols
  have key : ∀ l : List TRow, sumBy trowLong (l.map (mendRow (mendCols t.cols).size)) ≤ 22 * sumBy trowLong l := by
    intro l
    induction l with
    | nil => simp [sumBy]
    | cons r l ih =>
      rw [List.map_cons, sumBy_cons, sumBy_cons]
      have := mendRow_long _ c2 r
      have : 1 ≤ trowLong r := by unfold trowLong; omega
      omega
  have := key t.rows
  show (mendCols t.cols).size + sumBy trowLong (t.rows.map _) ≤ _
  omega
def Node.own1 (x : Node) : Nat := 3 + x.text.length + x.grid.cols.size + rowsLong x.rows + sumBy trowLong x.grid.rows
theorem Node.long_own (x : Node) : x.long = x.own1 + sumBy Node.long x.kids := by rw [Node.long_eq, Node.own1]; omega
theorem ownN_long (x : Node) (k : Int) : (ownN x k).own1 ≤ 24 * x.own1 := by
  have h1 := squeeze_len x.text
  have h2 := mendT_long x.grid
  unfold ownN Node.own1
  simp only [Node.text_mk, Node.rows_mk, Node.grid_mk]
  have e1 : (if hasText k = true then squeeze x.text else []).length ≤ 2 * x.text.length := by
    split
    · exact h1
    · exact Nat.zero_le _
  have e2 : rowsLong (if k = 6 then x.rows else []) ≤ rowsLong x.rows := by
    split
    · omega
    · simp [rowsLong, sumBy]
  have e3 : (if k = 7 then mendT x.grid else noTbl).cols.size + sumBy trowLong (if k = 7 then mendT x.grid else noTbl).rows ≤ 20 + 22 * sumBy trowLong x.grid.rows := by
    split
    · exact h2
    · simp [noTbl, sumBy]
  omega
theorem own1_wk (x : Node) (l : List Node) : (x.withKids l).own1 = x.own1 := rfl
theorem tidy_long : ∀ (n : Nat) (l : List Node), SizeOf.sizeOf l < n → ∀ inn d k, sumBy Node.long (tidyL inn d k l).1 ≤ 24 * sumBy Node.long l := by
  intro n
  induction n with
  | zero => intro l h; omega
  | succ n ih =>
    intro l hn inn d k
    cases l with
    | nil => rw [tidyL]; simp [sumBy]
    | cons x l =>
      have hx : SizeOf.sizeOf x.kids < n ∧ SizeOf.sizeOf l < n := by
        cases x; simp at hn ⊢; omega
      rw [tidyL, sumBy_cons]
      split
      · simp [sumBy]
      · split
        · have := ih l hx.2 inn d k; omega
        · have h1 : sumBy Node.long (tidyN inn d k x).1 ≤ 24 * x.long := by
            rw [tidyN_eq, Node.long_own x]
            have h1 := ih x.kids hx.1 inn d (k - 1)
            have h2 := ih x.kids hx.1 x.kind (d + 1) (k - 1)
            have o1 := ownN_long x 3
            have o2 := ownN_long x x.kind
            have z1 : (ownN x 3).long = (ownN x 3).own1 := by rw [Node.long_own, ownN_kids]; rfl
            have z2 : (ownN x x.kind).long = (ownN x x.kind).own1 := by rw [Node.long_own, ownN_kids]; rfl
            have z3 : ∀ m : List Node, ((ownN x x.kind).withKids m).long = (ownN x x.kind).own1 + sumBy Node.long m := fun m => by rw [Node.long_own, own1_wk, Node.kids_wk]
            split
            · simp only [sumBy_append]
              split
              · simp only [sumBy]; omega
              · simp only [sumBy]; omega
            · split
              · simp only
                split <;> split
                all_goals
                  try simp only [sumBy, z3]
                  omega
              · split
                · simp only [sumBy]; omega
                · simp only [sumBy]; omega
          have h2 := ih l hx.2 inn d (tidyN inn d k x).2
          simp only [sumBy_append]; omega
theorem Node.Small.ok : ∀ (n : Nat) (x : Node), SizeOf.sizeOf x < n → x.Small → x.Ok := by
  intro n
  induction n with
  | zero => intro x h; omega
  | succ n ih =>
    intro x hn hx
    obtain ⟨kind, line, m, text, kids, rows, grid⟩ := x
    have h1 := hx.text
    have h2 := hx.kids
    have h3 := hx.rows
    simp at h1 h2 h3
    refine .mk (by omega) (by omega) (fun y hy => ih y ?_ (h2.2 y hy)) (by omega) (fun r hr => by have := h3.2 r hr; omega) hx.tbl.ok
    simp at hn; have := List.sizeOf_lt_of_mem hy; omega
theorem small_of {l : List Node} (h : sumBy Node.long l ≤ 1073741824) : ∀ x ∈ l, x.Small := fun x hx => by
  have := long_mem hx; unfold Node.Small; omega
theorem ok_of {l : List Node} (h : sumBy Node.long l ≤ 1073741824) : ∀ x ∈ l, x.Ok := fun x hx => Node.Small.ok _ x (Nat.lt_succ_self _) (small_of h x hx)
end Go.Proofs.YtlnnnfogbakimaaDoor.Ev
end
section
namespace Go.Proofs.YtlnnnfogbakimaaDoor.Ev
open Go
theorem short_of {l : List Node} (h : tooLong l = false) (hb : sumBy Node.long l ≤ 1073741824) : sumBy Node.long l ≤ 600 := by
  simp [tooLong] at h
  have := h.1
  rw [wrap64 (by omega) (by omega)] at this
  omega
end Go.Proofs.YtlnnnfogbakimaaDoor.Ev
end
section
namespace Go.Proofs.YtlnnnfogbakimaaDoor.Ev
open Go
namespace Node
theorem cntL_append (l m : List Node) : cntL (l ++ m) = cntL l + cntL m := by
  induction l with
  | nil => simp [cntL]
  | cons x l ih => rw [List.cons_append, cntL, cntL, ih]; omega
theorem cntL_cons (x : Node) (l : List Node) : cntL (x :: l) = 1 + cntL x.kids + cntL l := by rw [cntL, cnt_eq]
theorem cntL_nil : cntL [] = 0 := by rw [cntL]
theorem deeps_cons (x : Node) (l : List Node) : deeps (x :: l) = max (1 + deeps x.kids) (deeps l) := by rw [deeps, deep_eq]
theorem deeps_nil : deeps [] = 0 := by rw [deeps]
theorem sz_kids {x : Node} {l : List Node} {n : Nat} (hn : SizeOf.sizeOf (x :: l) < n + 1) : SizeOf.sizeOf x.kids < n ∧ SizeOf.sizeOf l < n := by
  cases x; simp at hn ⊢; omega
end Node
theorem tidyN_ind {n : Nat} {P : Int → Int → Nat → List Node → List Node × Nat → Prop} (x : Node) (inn d : Int) (k : Nat)
    (hA : (x.kind = 1 ∨ x.kind = 2) ∧ standsIn x.kind inn = false → P inn d k [x] ((if wholeN (ownN x 3) = true then [ownN x 3] else []) ++ (tidyL inn d (k - 1) x.kids).1, (tidyL inn d (k - 1) x.kids).2))
    (hB : ¬((x.kind = 1 ∨ x.kind = 2) ∧ standsIn x.kind inn = false) → hasKids x.kind = true → wholeN ((ownN x x.kind).withKids (tidyL x.kind (d + 1) (k - 1) x.kids).1) = true → P inn d k [x] ([(ownN x x.kind).withKids (tidyL x.kind (d + 1) (k - 1) x.kids).1], (tidyL x.kind (d + 1) (k - 1) x.kids).2))
    (hB0 : hasKids x.kind = true → (tidyL x.kind (d + 1) (k - 1) x.kids).1 = [] → P inn d k [x] ([], (tidyL x.kind (d + 1) (k - 1) x.kids).2))
    (hC : hasKids x.kind = true → P inn d k [x] (tidyL inn d (k - 1) x.kids))
    (hD : hasKids x.kind = false → P inn d k [x] (if wholeN (ownN x x.kind) = true then [ownN x x.kind] else [], k - 1)) : P inn d k [x] (tidyN inn d k x) := by
  rw [tidyN_eq]
  by_cases h1 : (x.kind = 1 ∨ x.kind = 2) ∧ standsIn x.kind inn = false
  · rw [if_pos h1]; exact hA h1
  rw [if_neg h1]
  cases hk : hasKids x.kind
  · simp only [Bool.false_eq_true, if_false]
    exact hD hk
  simp only [if_true]
  by_cases h5 : x.kind = 5
  · have hz : wholeN ((ownN x x.kind).withKids [Node.zero]) = true := whole_five _ _ h5
    rw [if_pos hz]
    by_cases hw : wholeN ((ownN x x.kind).withKids (tidyL x.kind (d + 1) (k - 1) x.kids).1) = true
    · rw [if_pos hw]; exact hB h1 hk hw
    · rw [if_neg hw]
      have hr : (tidyL x.kind (d + 1) (k - 1) x.kids).1 = [] := by
        simp [wholeN, ownN_kind, h5] at hw ⊢
        exact hw
      have := hB0 hk hr
      rw [hr]
      exact this
  · have hz : ∀ l, wholeN ((ownN x x.kind).withKids l) = wholeN (ownN x x.kind) := fun l => whole_kids l h5
    by_cases hw : wholeN (ownN x x.kind) = true
    · have h2 : wholeN ((ownN x x.kind).withKids (tidyL x.kind (d + 1) (k - 1) x.kids).1) = true := by rw [hz]; exact hw
      have h0 : wholeN ((ownN x x.kind).withKids [Node.zero]) = true := by rw [hz]; exact hw
      rw [if_pos h0, if_pos h2]
      exact hB h1 hk h2
    · have h0 : ¬ wholeN ((ownN x x.kind).withKids [Node.zero]) = true := by rw [hz]; exact hw
      have h2 : ¬ wholeN ((ownN x x.kind).withKids (tidyL inn d (k - 1) x.kids).1) = true := by rw [hz]; exact hw
      rw [if_neg h0, if_neg h2]
      exact hC hk
theorem tidy_count : ∀ (n : Nat) (l : List Node), SizeOf.sizeOf l < n → ∀ inn d k, Node.cntL (tidyL inn d k l).1 + (tidyL inn d k l).2 ≤ k ∧ Node.cntL (tidyL inn d k l).1 ≤ Node.cntL l ∧ Node.deeps (tidyL inn d k l).1 ≤ Node.deeps l ∧ (d ≤ 20 → d + Node.deeps (tidyL inn d k l).1 ≤ 20) := by
  intro n
  induction n with
  | zero => intro l h; omega
  | succ n ih =>
    intro l hn inn d k
    cases l with
    | nil => rw [tidyL]; simp [Node.cntL_nil, Node.deeps_nil]
    | cons x l =>
      obtain ⟨hx1, hx2⟩ := Node.sz_kids hn
      rw [tidyL, Node.cntL_cons, Node.deeps_cons]
      split
      · simp [Node.cntL_nil, Node.deeps_nil]
      · split
        · have := ih l hx2 inn d k; omega
        · have h1 := tidyN_ind (n := n) (P := fun inn d k l r => 0 < k → d < 20 → Node.cntL r.1 + r.2 ≤ k ∧ Node.cntL r.1 ≤ Node.cntL l ∧ Node.deeps r.1 ≤ Node.deeps l ∧ d + Node.deeps r.1 ≤ 20) x inn d k
            (fun _ hk hd => by
              have := ih x.kids hx1 inn d (k - 1)
              have c0 := Node.cntL_nil
              have d0 := Node.deeps_nil
              simp only [Node.cntL_append, Node.deeps_append, Node.cntL_cons, Node.deeps_cons]
              split
              · simp only [Node.cntL_cons, Node.deeps_cons, ownN_kids]; omega
              · omega)
            (fun _ _ _ hk hd => by
              have := ih x.kids hx1 x.kind (d + 1) (k - 1)
              have c0 := Node.cntL_nil
              have d0 := Node.deeps_nil
              simp only [Node.cntL_cons, Node.deeps_cons, Node.kids_wk]
              omega)
            (fun _ hr hk hd => by
              have := ih x.kids hx1 x.kind (d + 1) (k - 1)
              have c0 := Node.cntL_nil
              have d0 := Node.deeps_nil
              simp only [Node.cntL_cons, Node.deeps_cons]
              omega)
            (fun _ hk hd => by
              have := ih x.kids hx1 inn d (k - 1)
              have c0 := Node.cntL_nil
              have d0 := Node.deeps_nil
              simp only [Node.cntL_cons, Node.deeps_cons]
              omega)
            (fun _ hk hd => by
              have c0 := Node.cntL_nil
              have d0 := Node.deeps_nil
              simp only [Node.cntL_cons, Node.deeps_cons]
              split
              · simp only [Node.cntL_cons, Node.deeps_cons, ownN_kids]; omega
              · omega) (by omega) (by omega)
          have h2 := ih l hx2 inn d (tidyN inn d k x).2
          have c0 := Node.cntL_nil
          have d0 := Node.deeps_nil
          rw [Node.cntL_cons, Node.deeps_cons] at h1
          simp only [Node.cntL_append, Node.deeps_append]
          omega
theorem checkL_append (inn : Int) (l m : List Node) : checkL inn (l ++ m) = (checkL inn l && checkL inn m) := by rw [checkL_all, checkL_all, checkL_all, List.all_append]
theorem bareT_none : bareT noTbl = true := by decide
theorem clamp_in (m n : Int) (h : 0 ≤ m) : 0 ≤ clamp m n ∧ clamp m n ≤ m := by
  unfold clamp
  split <;> split <;> omega
theorem okN_own (inn : Int) (x : Node) (k : Int) (l : List Node) (hst : standsIn k inn = true) (hw : wholeN ((ownN x k).withKids l) = true) (hl : hasKids k = true ∨ l = []) : okN inn ((ownN x k).withKids l) = true := by
  have c1 := clamp_in 1099511627775 x.line (by omega)
  have c2 := clamp_in 200 x.n (by omega)
  have e1 : ((ownN x k).withKids l).kind = k := rfl
  have e2 : ((ownN x k).withKids l).line = clamp 1099511627775 x.line := rfl
  have e3 : ((ownN x k).withKids l).n = if hasN k = true then clamp 200 x.n else 0 := rfl
  have e4 : ((ownN x k).withKids l).text = if hasText k = true then squeeze x.text else [] := rfl
  have e5 : ((ownN x k).withKids l).rows = if k = 6 then x.rows else [] := rfl
  have e6 : ((ownN x k).withKids l).grid = if k = 7 then mendT x.grid else noTbl := rfl
  have e7 : ((ownN x k).withKids l).kids = l := rfl
  unfold okN okHas
  rw [e1, e2, e3, e4, e5, e6, e7, hst, hw]
  have n0 : 0 ≤ (if hasN k = true then clamp 200 x.n else 0) ∧ (if hasN k = true then clamp 200 x.n else 0) ≤ 200 := by split <;> omega
  have s0 : sqzd (if hasText k = true then squeeze x.text else []) = true := by
    split
    · exact sqzd_squeeze _
    · exact sqzd_nil
  have g0 : (if k = 7 then rightT (if k = 7 then mendT x.grid else noTbl) else bareT (if k = 7 then mendT x.grid else noTbl)) = true := by
    by_cases h7 : k = 7
    · rw [if_pos h7, if_pos h7]; exact mend_right _
    · rw [if_neg h7, if_neg h7]; exact bareT_none
  have t0 : (hasText k || decide (((if hasText k = true then squeeze x.text else []).length : Int) = 0)) = true := by cases hasText k <;> simp
  have k0 : (hasKids k || decide ((l.length : Int) = 0)) = true := by
    rcases hl with h | h
    · rw [h]; rfl
    · rw [h]; simp
  have r0 : (decide (k = 6) || decide (((if k = 6 then x.rows else []).length : Int) = 0)) = true := by
    by_cases h6 : k = 6
    · simp [h6]
    · simp [h6]
  have m0 : (hasN k || decide ((if hasN k = true then clamp 200 x.n else 0) = 0)) = true := by cases hasN k <;> simp
  rw [decide_eq_true c1.1, decide_eq_true c1.2, decide_eq_true n0.1, decide_eq_true n0.2, s0, g0, t0, k0, r0, m0]
  rfl
theorem withKids_nil (x : Node) (k : Int) : (ownN x k).withKids [] = ownN x k := rfl
theorem stands3 (inn : Int) : standsIn 3 inn = true := by unfold standsIn; simp
theorem stands_of {k inn : Int} (h : ¬((k = 1 ∨ k = 2) ∧ standsIn k inn = false)) (hk : hasKids k = true) : standsIn k inn = true := by
  cases hs : standsIn k inn
  · rw [hs] at h
    simp [standsIn] at hs
    simp [hasKids] at hk
    exfalso
    apply h
    refine ⟨?_, rfl⟩
    by_cases h1 : k = 1
    · exact .inl h1
    · by_cases h2 : k = 2
      · exact .inr h2
      · simp [h1, h2] at hs; omega
  · rfl
theorem tidy_check : ∀ (n : Nat) (l : List Node), SizeOf.sizeOf l < n → ∀ inn d k, checkL inn (tidyL inn d k l).1 = true := by
  intro n
  induction n with
  | zero => intro l h; omega
  | succ n ih =>
    intro l hn inn d k
    cases l with
    | nil => rw [tidyL]; rfl
    | cons x l =>
      obtain ⟨hx1, hx2⟩ := Node.sz_kids hn
      rw [tidyL]
      split
      · rfl
      · split
        · exact ih l hx2 inn d k
        · rw [checkL_append, ih l hx2, Bool.and_true]
          refine tidyN_ind (n := n) (P := fun inn d k l r => checkL inn r.1 = true) x inn d k ?_ ?_ ?_ ?_ ?_
          · intro _
            rw [checkL_append, ih x.kids hx1, Bool.and_true]
            split
            · rename_i hw
              rw [checkL_all, List.all_cons, List.all_nil, checkN_eq, ownN_kids]
              rw [← withKids_nil] at hw
              have := okN_own inn x 3 [] (stands3 inn) hw (.inr rfl)
              rw [withKids_nil] at this
              rw [this]; rfl
            · rfl
          · intro h1 hk hw
            rw [checkL_all, List.all_cons, List.all_nil, checkN_eq, okN_own inn x x.kind _ (stands_of h1 hk) hw (.inl hk), Node.kids_wk, Node.kind_wk, ownN_kind, ih x.kids hx1]
            rfl
          · intro _ _; rfl
          · intro _; exact ih x.kids hx1 inn d (k - 1)
          · intro hk
            simp only
            split
            · rename_i hw
              rw [checkL_all, List.all_cons, List.all_nil, checkN_eq, ownN_kids]
              have hst : standsIn x.kind inn = true := by
                have hkk : x.kind ≠ 1 ∧ x.kind ≠ 2 ∧ x.kind ≠ 4 ∧ x.kind ≠ 5 := by simp [hasKids] at hk; omega
                unfold wholeN at hw
                rw [ownN_kind] at hw
                unfold standsIn
                rw [if_neg hkk.1, if_neg hkk.2.1]
                by_cases h3 : x.kind = 3
                · rw [h3]; rfl
                · by_cases h6 : x.kind = 6
                  · rw [h6]; rfl
                  · by_cases h7 : x.kind = 7
                    · rw [h7]; rfl
                    · simp [hkk, h3, h6, h7] at hw
              rw [← withKids_nil] at hw
              have := okN_own inn x x.kind [] hst hw (.inr rfl)
              rw [withKids_nil] at this
              rw [this]; rfl
            · rfl
theorem okN_all {inn : Int} {x : Node} (h : okN inn x = true) : standsIn x.kind inn = true ∧ wholeN x = true ∧ 0 ≤ x.line ∧ x.line ≤ 1099511627775 ∧ 0 ≤ x.n ∧ x.n ≤ 200 ∧ squeeze x.text = x.text ∧
    (hasText x.kind = true ∨ x.text = []) ∧ (hasKids x.kind = true ∨ x.kids = []) ∧ (x.kind = 6 ∨ x.rows = []) ∧ (hasN x.kind = true ∨ x.n = 0) ∧ (x.kind = 7 → rightT x.grid = true) ∧ (x.kind ≠ 7 → bareT x.grid = true) := by
  simp only [okN, okHas, Bool.and_eq_true, decide_eq_true_eq, Bool.or_eq_true, sqzd] at h
  obtain ⟨h1, h2, h3, h4, h5, h6, h7, ⟨h8, h9, h10, h11⟩, h12⟩ := h
  refine ⟨h1, h2, h3, h4, h5, h6, h7, h8.imp_right ?_, h9.imp_right ?_, h10.imp_right ?_, h11, ?_, ?_⟩
  · intro h; exact List.eq_nil_of_length_eq_zero (by omega)
  · intro h; exact List.eq_nil_of_length_eq_zero (by omega)
  · intro h; exact List.eq_nil_of_length_eq_zero (by omega)
  · intro h; rwa [if_pos h] at h12
  · intro h; rwa [if_neg h] at h12
theorem bareT_eq {t : Tbl} (h : bareT t = true) : t = noTbl := by
  obtain ⟨c, r, b, a⟩ := t
  simp [bareT] at h
  obtain ⟨h1, h2, h3, h4⟩ := h
  subst h1; subst h2; subst h3; subst h4
  rfl
end Go.Proofs.YtlnnnfogbakimaaDoor.Ev
end
