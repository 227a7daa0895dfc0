/- Of what the law TblSafe needs: part 13. -/
import Derived.Shelf.Strings.SlTrimAscii
import Derived.Test.YtabgeenhpfnhdaaDoorBTS12
set_option linter.unusedSimpArgs false
set_option linter.unusedVariables false
section
namespace Go.Proofs.YtabgeenhpfnhdaaDoor.Ev
open Go
def sqzd (l : List Glyph) : Bool := decide (squeeze l = l)
def badRow (n : Nat) (r : TRow) : Bool := if r.rule = true then decide (0 < r.cells.length) else !decide (r.cells.length = n) || r.cells.any fun c => !sqzd c
def colsOk (c : ByteArray) : Bool := c.data.toList.all isSide
def rightT (t : Tbl) : Bool := !(decide (t.cols.size = 0) || (decide (20 < t.cols.size) || (!colsOk t.cols || (t.all && !t.box)))) && !t.rows.any (badRow t.cols.size)
end Go.Proofs.YtabgeenhpfnhdaaDoor.Ev
end
section
namespace Go.Proofs.YtabgeenhpfnhdaaDoor.Ev
open Go
def trimG (l : List Glyph) : List Glyph := (l.reverse.dropWhile Glyph.blank).reverse
def ends (l : List Glyph) : Nat := (trimG l).length
theorem mem_tw {α : Type} {p : α → Bool} : ∀ {l : List α} {x : α}, x ∈ l.takeWhile p → p x = true
  | y :: l, x, h => by
    rw [List.takeWhile_cons] at h
    split at h
    · rename_i hy
      rcases List.mem_cons.1 h with rfl | h
      · exact hy
      · exact mem_tw h
    · simp at h
theorem trimG_append (l : List Glyph) : ∃ b, l = trimG l ++ b ∧ ∀ g ∈ b, g.blank = true := by
  refine ⟨(l.reverse.takeWhile Glyph.blank).reverse, ?_, fun g hg => ?_⟩
  · rw [trimG, ← List.reverse_append, List.takeWhile_append_dropWhile, List.reverse_reverse]
  · have := List.mem_reverse.1 hg
    exact mem_tw this
theorem trimG_take (l : List Glyph) : trimG l = l.take (ends l) := by
  obtain ⟨b, h, _⟩ := trimG_append l
  have := congrArg (List.take (ends l)) h
  rw [show List.take (ends l) (trimG l ++ b) = trimG l from List.take_left' rfl] at this
  exact this.symm
theorem ends_le (l : List Glyph) : ends l ≤ l.length := by
  obtain ⟨b, h, _⟩ := trimG_append l
  have := congrArg List.length h
  rw [List.length_append] at this
  unfold ends; omega
theorem ends_behind {l : List Glyph} {i : Nat} (h : i < l.length) (hi : ends l ≤ i) : l[i].blank = true := by
  obtain ⟨b, hb, hbl⟩ := trimG_append l
  have : l[i] ∈ b := by
    have e : l[i]? = b[i - ends l]? := by
      conv => lhs; rw [hb]
      rw [List.getElem?_append_right hi]; rfl
    rw [List.getElem?_eq_getElem h] at e
    exact List.mem_of_getElem? e.symm
  exact hbl _ this
theorem ends_at {l : List Glyph} (h : 0 < ends l) : (l[ends l - 1]'(by have := ends_le l; omega)).blank = false := by
  have hne : l.reverse.dropWhile Glyph.blank ≠ [] := fun hh => by
    have : ends l = 0 := by unfold ends trimG; rw [hh]; rfl
    omega
  obtain ⟨y, r, hy⟩ := List.exists_cons_of_ne_nil hne
  have h2 : y.blank = false := by
    have := List.head?_dropWhile_not Glyph.blank l.reverse
    rw [hy] at this
    simpa using this
  have ht : trimG l = r.reverse ++ [y] := by rw [trimG, hy, List.reverse_cons]
  have e : (trimG l)[ends l - 1]? = some y := by
    rw [ends, ht]
    simp
  rw [trimG_take, List.getElem?_take_of_lt (by omega)] at e
  have := (List.getElem?_eq_some_iff.1 e).2
  rw [this]; exact h2
set_option linter.unusedSimpArgs false in
set_option maxRecDepth 20000 in
set_option maxHeartbeats 4000000 in
theorem refTrim (l : List Glyph) (hl : l.length ≤ 1073741824) : PCon C0 59 [.sc (gl l)] (.sc (gl (trimG l))) := by
  refine penter59 ?_
  simp [Tryd.f59, gl]
  refine loopC (fun d e H => ∃ (n : Nat) (x2 x16 : FV), d = n ∧ ends l ≤ n ∧ n ≤ l.length ∧ e = [(0, .sc (.sl (l.map Glyph.pv))), (2, x2), (3, .sc (.int .i64 n)), (16, x16)]) (d := l.length) ⟨l.length, _, _, rfl, ends_le l, Nat.le_refl _, rfl⟩ ?_
  rintro d e H ⟨n, x2, x16, hd, hn, hnl, rfl⟩
  have hd' := hd.symm
  subst hd'
  by_cases h0 : n = 0
  · subst h0
    have ht : trimG l = [] := List.eq_nil_of_length_eq_zero (by unfold ends at hn; omega)
    have h1 : Sized 2 (l.map Glyph.pv) := sizedG l
    have hsb : sizedB 2 (l.map Glyph.pv) = true := by simp [sizedB]; exact fun g _ => rfl
    simp [ht, hsb]
  · obtain ⟨k, rfl⟩ : ∃ k, n = k + 1 := ⟨n - 1, by omega⟩
    have hk : k < l.length := by omega
    have w1 : IntKind.i64.wrap (((k + 1 : Nat) : Int) - 1) = (k : Nat) := by rw [wrap64 (by omega) (by omega)]; omega
    simp at w1
    simp [w1, hk, Glyph.pv]
    have hsb : sizedB 2 (l.map Glyph.pv) = true := by simp [sizedB]; exact fun g _ => rfl
    refine CondC.mk (fun h32 => ?_) (fun h32 => ?_)
    · simp at h32
      have hne : ¬ ends l = k + 1 := fun he => by
        have := ends_at (l := l) (by omega)
        simp [he, Glyph.blank, h32] at this
      simp [w1]
      exact ⟨k, by omega, by omega, by omega, rfl⟩
    · simp at h32
      have he : ends l = k + 1 := by
        rcases Nat.lt_or_ge k (ends l) with h | h
        · omega
        · have := ends_behind hk h
          simp [Glyph.blank, h32] at this
      have hkl : (k : Int) + 1 ≤ l.length := by omega
      rw [trimG_take, he]
      have hk0 : (0 : Int) ≤ (k : Int) + 1 := by omega
      simp [hsb, hkl, hk0]
theorem sqAll_app (l m : List Glyph) : sqAll (l ++ m) = m.foldl sqStep (sqAll l) := by rw [sqAll, List.foldl_append]; rfl
theorem sq_blanks (b : List Glyph) (hb : ∀ g ∈ b, g.blank = true) (s : List Glyph × Bool) : (b.foldl sqStep s).1 = s.1 := by
  induction b generalizing s with
  | nil => rfl
  | cons g b ih =>
    rw [List.foldl_cons, ih (fun x hx => hb x (by simp [hx]))]
    have := hb g (by simp)
    simp [Glyph.blank] at this
    simp [sqStep, this]
theorem squeeze_trim (l : List Glyph) : squeeze (trimG l) = squeeze l := by
  obtain ⟨b, h, hb⟩ := trimG_append l
  conv => rhs; rw [h]
  rw [squeeze, squeeze, sqAll_app, sq_blanks b hb]
def sqR (s : List Glyph × Bool) : List Glyph := if s.2 = true ∧ s.1 ≠ [] then s.1 ++ [⟨32, 0⟩] else s.1
theorem sq_last (l : List Glyph) : ∀ g, (sqAll l).1.getLast? = some g → g.blank = false := by
  have : ∀ (l : List Glyph) (s : List Glyph × Bool), (∀ g, s.1.getLast? = some g → g.blank = false) → ∀ g, (l.foldl sqStep s).1.getLast? = some g → g.blank = false := by
    intro l
    induction l with
    | nil => intro s h; exact h
    | cons x l ih =>
      intro s h
      rw [List.foldl_cons]
      refine ih _ fun g hg => ?_
      unfold sqStep at hg
      split at hg
      · exact h g hg
      · rename_i hx
        simp only [List.getLast?_append, List.getLast?_singleton, Option.some_or, Option.some.injEq] at hg
        subst hg
        simp [Glyph.blank, hx]
  exact this l ([], false) (by simp)
theorem sq_want {l : List Glyph} (h : 0 < ends l) (hl : trimG l = l) : (sqAll l).2 = false := by
  have he : ends l = l.length := by unfold ends; rw [hl]
  have hb := ends_at h
  have hlt : ends l - 1 < l.length := by omega
  have e : l = l.take (ends l - 1) ++ [l[ends l - 1]] := by
    rw [← List.take_succ_eq_append_getElem hlt, show ends l - 1 + 1 = ends l by omega, he, List.take_length]
  generalize hx : l[ends l - 1] = x at e hb
  rw [e, sqAll_app]
  simp [Glyph.blank] at hb
  simp [sqStep, hb]
theorem sqR_end (l : List Glyph) (hl : trimG l = l) : sqR (sqAll l) = squeeze l := by
  by_cases h : 0 < ends l
  · simp [sqR, sq_want h hl, squeeze]
  · have : l = [] := List.eq_nil_of_length_eq_zero (by have : ends l = l.length := by unfold ends; rw [hl]
                                                       omega)
    subst this
    rfl
theorem trim_trim (l : List Glyph) : trimG (trimG l) = trimG l := by
  by_cases h : trimG l = []
  · rw [h]; rfl
  · have h0 : 0 < ends l := by unfold ends; exact List.length_pos_iff.2 h
    have hb := ends_at h0
    rw [trimG_take (trimG l)]
    refine List.take_of_length_le ?_
    rcases Nat.lt_or_ge (ends (trimG l)) (trimG l).length with h1 | h1
    · exfalso
      have h2 : (trimG l).length - 1 < (trimG l).length := by omega
      have := ends_behind (l := trimG l) h2 (by omega)
      have e : (trimG l)[(trimG l).length - 1] = l[ends l - 1]'(by have := ends_le l; omega) := by
        have : (trimG l)[(trimG l).length - 1]? = l[ends l - 1]? := by
          have e2 : (trimG l).length - 1 = ends l - 1 := rfl
          rw [e2, trimG_take, List.getElem?_take_of_lt (by omega)]
        rw [List.getElem?_eq_getElem h2, List.getElem?_eq_getElem (by have := ends_le l; omega)] at this
        exact Option.some.inj this
      rw [e, hb] at this
      simp at this
    · exact h1
set_option linter.unusedSimpArgs false in
set_option maxRecDepth 20000 in
set_option maxHeartbeats 4000000 in
theorem refSqueeze (l : List Glyph) (hl : l.length ≤ 1073741824) : PCon C0 39 [.sc (gl l)] (.own ((squeeze l).map Glyph.pv)) := by
  have tr := refTrim l hl
  rw [← squeeze_trim l]
  have ht := trim_trim l
  have hll : (trimG l).length ≤ 1073741824 := by have := ends_le l; unfold ends at this; omega
  generalize trimG l = m at *
  refine penter39 ?_
  simp [Tryd.f39, gl] at tr ⊢
  refine CallQ.mk (Call.pure callable59 (by simp) (by simp) tr) ?_
  simp
  refine loopC (fun d e H => ∃ (i : Nat) (x2 x10 x18 x38 : FV), d = m.length - i ∧ i ≤ m.length ∧ e = [(0, .sc (.sl (m.map Glyph.pv))), (2, x2), (3, .own ((sqR (sqAll (m.take i))).map Glyph.pv)), (4, .sc (.int .i64 i)), (10, x10), (18, x18), (38, x38)]) (d := m.length) ⟨0, _, _, _, _, rfl, by omega, rfl⟩ ?_
  rintro d e H ⟨i, x2, x10, x18, x38, rfl, hi, rfl⟩
  simp
  refine CondC.mk (fun hlt => ?_) (fun hlt => ?_)
  · simp at hlt
    have hs := sqAll_take hlt
    have hlast := sq_last (m.take i)
    have hlen := sqAll_len (m.take i)
    simp only [List.length_take] at hlen
    generalize hS : sqAll (m.take i) = S at *
    obtain ⟨out, wants⟩ := S
    simp only at hlast hlen
    have hol : out.length ≤ 2147483648 := by omega
    have fin : ∀ q : List PV, q = (sqR (sqStep (out, wants) m[i])).map Glyph.pv → ∃ d', d' < m.length - i ∧ ∃ k, d' = m.length - k ∧ k ≤ m.length ∧ q = List.map Glyph.pv (sqR (sqAll (List.take k m))) ∧ IntKind.i64.wrap ((i : Int) + 1) = (k : Nat) := fun q hq =>
      ⟨m.length - (i + 1), by omega, i + 1, rfl, by omega, by rw [hs, hq], by rw [wrap64 (by omega) (by omega)]; omega⟩
    simp [hlt, Glyph.pv]
    refine CondC.mk (fun h32 => ?_) (fun h32 => ?_)
    · simp at h32
      have hst : sqStep (out, wants) m[i] = ((if wants = true ∧ out ≠ [] then out ++ [⟨32, 0⟩] else out) ++ [m[i]], false) := by simp [sqStep, h32]
      have e1 : sqR (sqStep (out, wants) m[i]) = sqR (out, wants) ++ [m[i]] := by
        rw [hst]
        cases wants <;> simp [sqR]
      have hrl : (sqR (out, wants)).length ≤ out.length + 1 := by
        unfold sqR; simp only; split <;> simp
      simp [hlt, Glyph.pv]
      exact ⟨sizedAgg2, sizedG _, sizedAgg2, by unfold lenMax; omega, fin _ (by rw [e1, List.map_append]; rfl)⟩
    · simp at h32
      have hst : sqStep (out, wants) m[i] = (out, true) := by simp [sqStep, h32]
      by_cases ho : out = []
      · subst ho
        have e0 : sqR ([], wants) = [] := by simp [sqR]
        have fin := fin [] (by rw [hst]; simp [sqR])
        simp [e0]
        obtain ⟨d', h1, k, h2, h3, h4, h5⟩ := fin
        exact ⟨d', h1, k, h2, h3, by simpa using h4.symm, h5⟩
      · have hop : 0 < out.length := List.length_pos_iff.2 ho
        cases wants
        · have e0 : sqR (out, false) = out := by simp [sqR]
          have w1 : IntKind.i64.wrap ((out.length : Int) - 1) = (out.length - 1 : Nat) := by rw [wrap64 (by omega) (by omega)]; omega
          have hk : out.length - 1 < out.length := by omega
          have hb : out[out.length - 1].r ≠ 32 := by
            have := hlast out[out.length - 1] (by rw [List.getLast?_eq_getElem?, List.getElem?_eq_getElem hk])
            simpa [Glyph.blank] using this
          have fin := fin (out.map Glyph.pv ++ [(⟨32, 0⟩ : Glyph).pv]) (by rw [hst]; simp [sqR, ho])
          simp [e0, hop, w1, hk, hb, Glyph.pv]
          exact ⟨sizedAgg2, sizedG _, sizedAgg2, by unfold lenMax; omega, fin⟩
        · have e0 : sqR (out, true) = out ++ [⟨32, 0⟩] := by simp [sqR, ho]
          have w1 : IntKind.i64.wrap (out.length : Int) = (out.length : Nat) := by rw [wrap64 (by omega) (by omega)]
          have hx : (List.map Glyph.pv out ++ [PV.agg [PV.int IntKind.i32 32, PV.int IntKind.u8 0]])[out.length]? = some (PV.agg [PV.int IntKind.i32 32, PV.int IntKind.u8 0]) := by
            rw [List.getElem?_append_right (by simp)]; simp
          have fin := fin (out.map Glyph.pv ++ [(⟨32, 0⟩ : Glyph).pv]) (by rw [hst, e0]; simp)
          simp [e0, w1, Glyph.pv, hx]
          exact fin
  · simp at hlt
    simp [List.take_of_length_le hlt, sqR_end m ht]
set_option maxRecDepth 20000 in
set_option maxHeartbeats 4000000 in
theorem refSqueezed (l : List Glyph) (hl : l.length ≤ 1073741824) : PCon C0 35 [.sc (gl l)] (.sc (.bool (sqzd l))) := by
  have sq := refSqueeze l hl
  have sm := refSame (squeeze l) l (by have := sqAll_len l; unfold squeeze; omega)
  refine penter35 ?_
  simp [Tryd.f35, gl] at sq sm ⊢
  refine CallQ.mk (Call.pure callable39 (by simp) (by simp) sq) ?_
  simp
  refine CallQ.mk (Call.pure callable54 (by simp) (by simp) sm) ?_
  simp [sqzd]
set_option maxRecDepth 20000 in
set_option maxHeartbeats 4000000 in
theorem refSide (b : UInt8) : PCon C0 34 [.sc (.int .u8 b.toNat)] (.sc (.bool (isSide b))) := by
  rw [side_iff]
  generalize b.toNat = c
  refine penter34 ?_
  by_cases h1 : c = 108
  · simp [Tryd.f34, h1]
  · by_cases h2 : c = 99
    · simp [Tryd.f34, h2]
    · have h1' : ¬ (c : Int) = 108 := by omega
      have h2' : ¬ (c : Int) = 99 := by omega
      simp [Tryd.f34, h1', h2']
end Go.Proofs.YtabgeenhpfnhdaaDoor.Ev
end
section
namespace Go.Proofs.YtabgeenhpfnhdaaDoor.Ev
open Go
set_option linter.unusedSimpArgs false in
set_option maxRecDepth 20000 in
set_option maxHeartbeats 4000000 in
theorem refRight (t : Tbl) (ht : TblS t) : PCon C0 17 [t.pv.toFV] (.sc (.bool (rightT t))) := by
  refine penter17 ?_
  have hcs := ht.cols
  have hrl := ht.rows
  by_cases h0 : t.cols.size = 0
  · have h0' : (t.cols.size : Int) < 1 := by omega
    simp [Tryd.f17, Tbl.pv, h0', h0, rightT]
  have h0' : ¬ (t.cols.size : Int) < 1 := by omega
  by_cases h20 : 20 < t.cols.size
  · have h20' : (20 : Int) < t.cols.size := by omega
    simp [Tryd.f17, Tbl.pv, h0', h20', rightT, h20]
  have h20' : ¬ (20 : Int) < t.cols.size := by omega
  by_cases hab : t.all = true ∧ t.box = false
  · obtain ⟨ha, hb⟩ := hab
    simp [Tryd.f17, Tbl.pv, h0', h20', ha, hb, rightT]
  have hab' : (t.all && !t.box) = false := by
    cases ha : t.all <;> cases hb : t.box <;> simp_all
  have hgo : ∀ c : Bool, t.all = c → (c = true → t.box = true) := fun c hc h => by
    cases hb : t.box
    · exact absurd ⟨hc.trans h, hb⟩ hab
    · rfl
  have hright : rightT t = (colsOk t.cols && !t.rows.any (badRow t.cols.size)) := by
    simp [rightT, h0, h20, hab']
  rw [hright]
  cases hall : t.all
  · simp [Tryd.f17, Tbl.pv, h0', h20', hall]
    refine loopC (fun d e H => ∃ (i : Nat) (x0 x25 x30 x38 : FV), d = t.cols.size - i ∧ i ≤ t.cols.size ∧ (∀ j (hj : j < t.cols.size), j < i → isSide (t.cols.data[j]'hj) = true) ∧ H = [[FV.sc (PV.str t.cols), FV.sc (PV.sl (List.map TRow.pv t.rows)), FV.sc (PV.bool t.box), FV.sc (PV.bool false)]] ∧
      e = [(0, x0), (1, .ptr 0 0), (2, .sc (.bool false)), (3, .sc (.int .i64 i)), (4, .undef), (5, .undef), (6, .undef), (25, x25), (30, x30), (38, x38), (43, .undef), (72, .undef), (77, .undef), (86, .undef)]) (d := t.cols.size) ⟨0, _, _, _, _, rfl, by omega, by simp, rfl, rfl⟩ ?_
    rintro d e H ⟨i, x0, x25, x30, x38, rfl, hi, hall1, rfl, rfl⟩
    simp
    refine CondC.mk (fun hlt => ?_) (fun hlt => ?_)
    · simp at hlt
      have hlt' : i < t.cols.data.size := hlt
      have rs := refSide (t.cols.data[i]'hlt)
      have hmem : t.cols.data[i]'hlt ∈ t.cols.data.toList := by simp
      obtain ⟨b, hb⟩ : ∃ b, t.cols.data[i]'hlt = b := ⟨_, rfl⟩
      rw [hb] at rs hmem
      simp [hlt, hlt', hb]
      refine CallQ.mk (Call.pure callable34 (by simp) (by simp) rs) ?_
      cases hs : isSide b
      · have hco : colsOk t.cols = false := by
          rw [colsOk, List.all_eq_false]
          exact ⟨b, hmem, by simp [hs]⟩
        simp [hco]
      · simp
        refine ⟨t.cols.size - (i + 1), by omega, i + 1, rfl, by omega, fun j hj h => ?_, by rw [wrap64 (by omega) (by omega)]; omega⟩
        rcases Nat.lt_or_ge j i with h' | h'
        · exact hall1 j hj h'
        · obtain rfl : j = i := by omega
          rw [hb]; exact hs
    · simp at hlt
      have hco : colsOk t.cols = true := by
        rw [colsOk, List.all_eq_true]
        intro b hb
        obtain ⟨j, hj, rfl⟩ := List.getElem_of_mem hb
        have hj' : j < t.cols.size := by simpa using hj
        have := hall1 j hj' (by omega)
        simpa using this
      simp [hco]
      refine loopC (fun d e H => ∃ (i : Nat) (X : Heap) (x0 x3 x5 x6 x25 x30 x38 x43 x72 x77 x86 : FV), d = t.rows.length - i ∧ i ≤ t.rows.length ∧ (∀ j (hj : j < t.rows.length), j < i → badRow t.cols.size t.rows[j] = false) ∧ H = [FV.sc (PV.str t.cols), FV.sc (PV.sl (List.map TRow.pv t.rows)), FV.sc (PV.bool t.box), FV.sc (PV.bool false)] :: X ∧
        e = [(0, x0), (1, .ptr 0 0), (2, .sc (.bool false)), (3, x3), (4, .sc (.int .i64 i)), (5, x5), (6, x6), (25, x25), (30, x30), (38, x38), (43, x43), (72, x72), (77, x77), (86, x86)]) (d := t.rows.length) ⟨0, [], _, _, _, _, _, _, _, _, _, _, _, rfl, by omega, by simp, rfl, rfl⟩ ?_
      rintro d e H ⟨i, X, x0, x3, x5, x6, x25, x30, x38, x43, x72, x77, x86, rfl, hi, hall2, rfl, rfl⟩
      simp
      refine CondC.mk (fun hlt => ?_) (fun hlt => ?_)
      · simp at hlt
        have hr := ht.cells _ (List.getElem_mem hlt)
        have hmem := List.getElem_mem hlt
        obtain ⟨r, hrr⟩ : ∃ r, t.rows[i] = r := ⟨_, rfl⟩
        rw [hrr] at hr hmem
        have fail : badRow t.cols.size r = true → (t.rows.any (badRow t.cols.size)) = true := fun h => List.any_eq_true.2 ⟨r, hmem, h⟩
        have next : badRow t.cols.size r = false → ∃ d', d' < t.rows.length - i ∧ ∃ i', d' = t.rows.length - i' ∧ i' ≤ t.rows.length ∧ (∀ j (hj : j < t.rows.length), j < i' → badRow t.cols.size t.rows[j] = false) ∧ IntKind.i64.wrap ((i : Int) + 1) = (i' : Nat) := fun h =>
          ⟨t.rows.length - (i + 1), by omega, i + 1, rfl, by omega, fun j hj hji => by
            rcases Nat.lt_or_ge j i with h' | h'
            · exact hall2 j hj h'
            · obtain rfl : j = i := by omega
              rw [hrr]; exact h, by rw [wrap64 (by omega) (by omega)]; omega⟩
        have hq : t.rows[i]? = some r := by rw [List.getElem?_eq_getElem hlt, hrr]
        have hgl : r.cells.map gl = r.cells.map gl := rfl
        cases hrule : r.rule
        · by_cases hlen : r.cells.length = t.cols.size
          · have hlen' : (r.cells.length : Int) = t.cols.size := by omega
            simp [hq, TRow.pv, hrule, hlen']
            refine loopC (fun d e H => ∃ (k : Nat) (x77 x86 : FV), d = r.cells.length - k ∧ k ≤ r.cells.length ∧ (∀ j (hj : j < r.cells.length), j < k → sqzd r.cells[j] = true) ∧ H = [FV.sc (PV.str t.cols), FV.sc (PV.sl (List.map TRow.pv t.rows)), FV.sc (PV.bool t.box), FV.sc (PV.bool false)] :: (X ++ [[FV.sc (.bool false), FV.sc (.sl (r.cells.map gl))]]) ∧
              e = [(0, x0), (1, .ptr 0 0), (2, .sc (.bool false)), (3, x3), (4, .sc (.int .i64 i)), (5, .ptr (X.length + 1) 0), (6, .sc (.int .i64 k)), (25, x25), (30, x30), (38, x38), (43, .sc (.bool true)), (72, .sc (.bool false)), (77, x77), (86, x86)]) (d := r.cells.length) ⟨0, x77, x86, rfl, by omega, by simp, by first | rfl | simp, by first | rfl | (simp [hlt]; done) | (simp [hlt, hlen]; done)⟩ ?_
            rintro d e H ⟨k, x77, x86, rfl, hk, hsq, rfl, rfl⟩
            simp
            refine CondC.mk (fun hkl => ?_) (fun hkl => ?_)
            · simp at hkl
              have cs := refSqueezed r.cells[k] (hr.2 _ (List.getElem_mem hkl))
              simp only [gl] at cs
              simp [hkl, gl]
              refine CallQ.mk (Call.pure callable35 (by simp) (by simp) cs) ?_
              cases hs : sqzd r.cells[k]
              · have hbad : badRow t.cols.size r = true := by
                  have hany : (r.cells.any fun c => !sqzd c) = true := List.any_eq_true.2 ⟨_, List.getElem_mem hkl, by rw [hs]; rfl⟩
                  simp [badRow, hrule, hany]
                have := fail hbad
                simp [this]
              · simp
                refine ⟨r.cells.length - (k + 1), by omega, k + 1, rfl, by omega, fun j hj h => ?_, by rw [wrap64 (by omega) (by omega)]; omega⟩
                rcases Nat.lt_or_ge j k with h' | h'
                · exact hsq j hj h'
                · obtain rfl : j = k := by omega
                  exact hs
            · simp at hkl
              have hgood : badRow t.cols.size r = false := by
                have hany : (r.cells.any fun c => !sqzd c) = false := by
                  rw [List.any_eq_false]
                  intro c hc
                  obtain ⟨j, hj, rfl⟩ := List.getElem_of_mem hc
                  simp [hsq j hj (by omega)]
                simp [badRow, hrule, hany, hlen]
              simp
              exact next hgood
          · have hlen' : ¬ (r.cells.length : Int) = t.cols.size := by omega
            have := fail (by simp [badRow, hrule, hlen])
            simp [hq, TRow.pv, hrule, hlen', this]
        · by_cases hlen : r.cells.length = 0
          · have hlen' : ¬ 0 < r.cells.length := by omega
            simp [hq, TRow.pv, hrule, hlen']
            refine loopC (fun d e H => ∃ (k : Nat) (x77 x86 : FV), d = r.cells.length - k ∧ k ≤ r.cells.length ∧ (∀ j (hj : j < r.cells.length), j < k → sqzd r.cells[j] = true) ∧ H = [FV.sc (PV.str t.cols), FV.sc (PV.sl (List.map TRow.pv t.rows)), FV.sc (PV.bool t.box), FV.sc (PV.bool false)] :: (X ++ [[FV.sc (.bool true), FV.sc (.sl (r.cells.map gl))]]) ∧
              e = [(0, x0), (1, .ptr 0 0), (2, .sc (.bool false)), (3, x3), (4, .sc (.int .i64 i)), (5, .ptr (X.length + 1) 0), (6, .sc (.int .i64 k)), (25, x25), (30, x30), (38, x38), (43, .sc (.bool true)), (72, .sc (.bool false)), (77, x77), (86, x86)]) (d := r.cells.length) ⟨0, x77, x86, rfl, by omega, by simp, by first | rfl | simp, by first | rfl | (simp [hlt]; done) | (simp [hlt, hlen]; done)⟩ ?_
            rintro d e H ⟨k, x77, x86, rfl, hk, hsq, rfl, rfl⟩
            simp
            refine CondC.mk (fun hkl => ?_) (fun hkl => ?_)
            · simp at hkl
              have cs := refSqueezed r.cells[k] (hr.2 _ (List.getElem_mem hkl))
              simp only [gl] at cs
              simp [hkl, gl]
              refine CallQ.mk (Call.pure callable35 (by simp) (by simp) cs) ?_
              cases hs : sqzd r.cells[k]
              · have hbad : badRow t.cols.size r = true := by
                  have hany : (r.cells.any fun c => !sqzd c) = true := List.any_eq_true.2 ⟨_, List.getElem_mem hkl, by rw [hs]; rfl⟩
                  simp [badRow, hrule]; omega
                have := fail hbad
                simp [this]
              · simp
                refine ⟨r.cells.length - (k + 1), by omega, k + 1, rfl, by omega, fun j hj h => ?_, by rw [wrap64 (by omega) (by omega)]; omega⟩
                rcases Nat.lt_or_ge j k with h' | h'
                · exact hsq j hj h'
                · obtain rfl : j = k := by omega
                  exact hs
            · simp at hkl
              have hgood : badRow t.cols.size r = false := by
                have hany : (r.cells.any fun c => !sqzd c) = false := by
                  rw [List.any_eq_false]
                  intro c hc
                  obtain ⟨j, hj, rfl⟩ := List.getElem_of_mem hc
                  simp [hsq j hj (by omega)]
                simp [badRow, hrule, hlen]
              simp
              exact next hgood
          · have hlen' : 0 < r.cells.length := by omega
            have := fail (by simp [badRow, hrule]; omega)
            simp [hq, TRow.pv, hrule, hlen', this]
      · simp at hlt
        have : (t.rows.any (badRow t.cols.size)) = false := by
          rw [List.any_eq_false]
          intro r hr
          obtain ⟨j, hj, rfl⟩ := List.getElem_of_mem hr
          simp [hall2 j hj (by omega)]
        simp [this]
  · have hbox := hgo true hall rfl
    simp [Tryd.f17, Tbl.pv, h0', h20', hall, hbox]
    refine loopC (fun d e H => ∃ (i : Nat) (x0 x25 x30 x38 : FV), d = t.cols.size - i ∧ i ≤ t.cols.size ∧ (∀ j (hj : j < t.cols.size), j < i → isSide (t.cols.data[j]'hj) = true) ∧ H = [[FV.sc (PV.str t.cols), FV.sc (PV.sl (List.map TRow.pv t.rows)), FV.sc (PV.bool true), FV.sc (PV.bool true)]] ∧
      e = [(0, x0), (1, .ptr 0 0), (2, .sc (.bool false)), (3, .sc (.int .i64 i)), (4, .undef), (5, .undef), (6, .undef), (25, x25), (30, x30), (38, x38), (43, .undef), (72, .undef), (77, .undef), (86, .undef)]) (d := t.cols.size) ⟨0, _, _, _, _, rfl, by omega, by simp, rfl, rfl⟩ ?_
    rintro d e H ⟨i, x0, x25, x30, x38, rfl, hi, hall1, rfl, rfl⟩
    simp
    refine CondC.mk (fun hlt => ?_) (fun hlt => ?_)
    · simp at hlt
      have hlt' : i < t.cols.data.size := hlt
      have rs := refSide (t.cols.data[i]'hlt)
      have hmem : t.cols.data[i]'hlt ∈ t.cols.data.toList := by simp
      obtain ⟨b, hb⟩ : ∃ b, t.cols.data[i]'hlt = b := ⟨_, rfl⟩
      rw [hb] at rs hmem
      simp [hlt, hlt', hb]
      refine CallQ.mk (Call.pure callable34 (by simp) (by simp) rs) ?_
      cases hs : isSide b
      · have hco : colsOk t.cols = false := by
          rw [colsOk, List.all_eq_false]
          exact ⟨b, hmem, by simp [hs]⟩
        simp [hco]
      · simp
        refine ⟨t.cols.size - (i + 1), by omega, i + 1, rfl, by omega, fun j hj h => ?_, by rw [wrap64 (by omega) (by omega)]; omega⟩
        rcases Nat.lt_or_ge j i with h' | h'
        · exact hall1 j hj h'
        · obtain rfl : j = i := by omega
          rw [hb]; exact hs
    · simp at hlt
      have hco : colsOk t.cols = true := by
        rw [colsOk, List.all_eq_true]
        intro b hb
        obtain ⟨j, hj, rfl⟩ := List.getElem_of_mem hb
        have hj' : j < t.cols.size := by simpa using hj
        have := hall1 j hj' (by omega)
        simpa using this
      simp [hco]
      refine loopC (fun d e H => ∃ (i : Nat) (X : Heap) (x0 x3 x5 x6 x25 x30 x38 x43 x72 x77 x86 : FV), d = t.rows.length - i ∧ i ≤ t.rows.length ∧ (∀ j (hj : j < t.rows.length), j < i → badRow t.cols.size t.rows[j] = false) ∧ H = [FV.sc (PV.str t.cols), FV.sc (PV.sl (List.map TRow.pv t.rows)), FV.sc (PV.bool true), FV.sc (PV.bool true)] :: X ∧
        e = [(0, x0), (1, .ptr 0 0), (2, .sc (.bool false)), (3, x3), (4, .sc (.int .i64 i)), (5, x5), (6, x6), (25, x25), (30, x30), (38, x38), (43, x43), (72, x72), (77, x77), (86, x86)]) (d := t.rows.length) ⟨0, [], _, _, _, _, _, _, _, _, _, _, _, rfl, by omega, by simp, rfl, rfl⟩ ?_
      rintro d e H ⟨i, X, x0, x3, x5, x6, x25, x30, x38, x43, x72, x77, x86, rfl, hi, hall2, rfl, rfl⟩
      simp
      refine CondC.mk (fun hlt => ?_) (fun hlt => ?_)
      · simp at hlt
        have hr := ht.cells _ (List.getElem_mem hlt)
        have hmem := List.getElem_mem hlt
        obtain ⟨r, hrr⟩ : ∃ r, t.rows[i] = r := ⟨_, rfl⟩
        rw [hrr] at hr hmem
        have fail : badRow t.cols.size r = true → (t.rows.any (badRow t.cols.size)) = true := fun h => List.any_eq_true.2 ⟨r, hmem, h⟩
        have next : badRow t.cols.size r = false → ∃ d', d' < t.rows.length - i ∧ ∃ i', d' = t.rows.length - i' ∧ i' ≤ t.rows.length ∧ (∀ j (hj : j < t.rows.length), j < i' → badRow t.cols.size t.rows[j] = false) ∧ IntKind.i64.wrap ((i : Int) + 1) = (i' : Nat) := fun h =>
          ⟨t.rows.length - (i + 1), by omega, i + 1, rfl, by omega, fun j hj hji => by
            rcases Nat.lt_or_ge j i with h' | h'
            · exact hall2 j hj h'
            · obtain rfl : j = i := by omega
              rw [hrr]; exact h, by rw [wrap64 (by omega) (by omega)]; omega⟩
        have hq : t.rows[i]? = some r := by rw [List.getElem?_eq_getElem hlt, hrr]
        have hgl : r.cells.map gl = r.cells.map gl := rfl
        cases hrule : r.rule
        · by_cases hlen : r.cells.length = t.cols.size
          · have hlen' : (r.cells.length : Int) = t.cols.size := by omega
            simp [hq, TRow.pv, hrule, hlen']
            refine loopC (fun d e H => ∃ (k : Nat) (x77 x86 : FV), d = r.cells.length - k ∧ k ≤ r.cells.length ∧ (∀ j (hj : j < r.cells.length), j < k → sqzd r.cells[j] = true) ∧ H = [FV.sc (PV.str t.cols), FV.sc (PV.sl (List.map TRow.pv t.rows)), FV.sc (PV.bool true), FV.sc (PV.bool true)] :: (X ++ [[FV.sc (.bool false), FV.sc (.sl (r.cells.map gl))]]) ∧
              e = [(0, x0), (1, .ptr 0 0), (2, .sc (.bool false)), (3, x3), (4, .sc (.int .i64 i)), (5, .ptr (X.length + 1) 0), (6, .sc (.int .i64 k)), (25, x25), (30, x30), (38, x38), (43, .sc (.bool true)), (72, .sc (.bool false)), (77, x77), (86, x86)]) (d := r.cells.length) ⟨0, x77, x86, rfl, by omega, by simp, by first | rfl | simp, by first | rfl | (simp [hlt]; done) | (simp [hlt, hlen]; done)⟩ ?_
            rintro d e H ⟨k, x77, x86, rfl, hk, hsq, rfl, rfl⟩
            simp
            refine CondC.mk (fun hkl => ?_) (fun hkl => ?_)
            · simp at hkl
              have cs := refSqueezed r.cells[k] (hr.2 _ (List.getElem_mem hkl))
              simp only [gl] at cs
              simp [hkl, gl]
              refine CallQ.mk (Call.pure callable35 (by simp) (by simp) cs) ?_
              cases hs : sqzd r.cells[k]
              · have hbad : badRow t.cols.size r = true := by
                  have hany : (r.cells.any fun c => !sqzd c) = true := List.any_eq_true.2 ⟨_, List.getElem_mem hkl, by rw [hs]; rfl⟩
                  simp [badRow, hrule, hany]
                have := fail hbad
                simp [this]
              · simp
                refine ⟨r.cells.length - (k + 1), by omega, k + 1, rfl, by omega, fun j hj h => ?_, by rw [wrap64 (by omega) (by omega)]; omega⟩
                rcases Nat.lt_or_ge j k with h' | h'
                · exact hsq j hj h'
                · obtain rfl : j = k := by omega
                  exact hs
            · simp at hkl
              have hgood : badRow t.cols.size r = false := by
                have hany : (r.cells.any fun c => !sqzd c) = false := by
                  rw [List.any_eq_false]
                  intro c hc
                  obtain ⟨j, hj, rfl⟩ := List.getElem_of_mem hc
                  simp [hsq j hj (by omega)]
                simp [badRow, hrule, hany, hlen]
              simp
              exact next hgood
          · have hlen' : ¬ (r.cells.length : Int) = t.cols.size := by omega
            have := fail (by simp [badRow, hrule, hlen])
            simp [hq, TRow.pv, hrule, hlen', this]
        · by_cases hlen : r.cells.length = 0
          · have hlen' : ¬ 0 < r.cells.length := by omega
            simp [hq, TRow.pv, hrule, hlen']
            refine loopC (fun d e H => ∃ (k : Nat) (x77 x86 : FV), d = r.cells.length - k ∧ k ≤ r.cells.length ∧ (∀ j (hj : j < r.cells.length), j < k → sqzd r.cells[j] = true) ∧ H = [FV.sc (PV.str t.cols), FV.sc (PV.sl (List.map TRow.pv t.rows)), FV.sc (PV.bool true), FV.sc (PV.bool true)] :: (X ++ [[FV.sc (.bool true), FV.sc (.sl (r.cells.map gl))]]) ∧
              e = [(0, x0), (1, .ptr 0 0), (2, .sc (.bool false)), (3, x3), (4, .sc (.int .i64 i)), (5, .ptr (X.length + 1) 0), (6, .sc (.int .i64 k)), (25, x25), (30, x30), (38, x38), (43, .sc (.bool true)), (72, .sc (.bool false)), (77, x77), (86, x86)]) (d := r.cells.length) ⟨0, x77, x86, rfl, by omega, by simp, by first | rfl | simp, by first | rfl | (simp [hlt]; done) | (simp [hlt, hlen]; done)⟩ ?_
            rintro d e H ⟨k, x77, x86, rfl, hk, hsq, rfl, rfl⟩
            simp
            refine CondC.mk (fun hkl => ?_) (fun hkl => ?_)
            · simp at hkl
              have cs := refSqueezed r.cells[k] (hr.2 _ (List.getElem_mem hkl))
              simp only [gl] at cs
              simp [hkl, gl]
              refine CallQ.mk (Call.pure callable35 (by simp) (by simp) cs) ?_
              cases hs : sqzd r.cells[k]
              · have hbad : badRow t.cols.size r = true := by
                  have hany : (r.cells.any fun c => !sqzd c) = true := List.any_eq_true.2 ⟨_, List.getElem_mem hkl, by rw [hs]; rfl⟩
                  simp [badRow, hrule]; omega
                have := fail hbad
                simp [this]
              · simp
                refine ⟨r.cells.length - (k + 1), by omega, k + 1, rfl, by omega, fun j hj h => ?_, by rw [wrap64 (by omega) (by omega)]; omega⟩
                rcases Nat.lt_or_ge j k with h' | h'
                · exact hsq j hj h'
                · obtain rfl : j = k := by omega
                  exact hs
            · simp at hkl
              have hgood : badRow t.cols.size r = false := by
                have hany : (r.cells.any fun c => !sqzd c) = false := by
                  rw [List.any_eq_false]
                  intro c hc
                  obtain ⟨j, hj, rfl⟩ := List.getElem_of_mem hc
                  simp [hsq j hj (by omega)]
                simp [badRow, hrule, hlen]
              simp
              exact next hgood
          · have hlen' : 0 < r.cells.length := by omega
            have := fail (by simp [badRow, hrule]; omega)
            simp [hq, TRow.pv, hrule, hlen', this]
      · simp at hlt
        have : (t.rows.any (badRow t.cols.size)) = false := by
          rw [List.any_eq_false]
          intro r hr
          obtain ⟨j, hj, rfl⟩ := List.getElem_of_mem hr
          simp [hall2 j hj (by omega)]
        simp [this]
end Go.Proofs.YtabgeenhpfnhdaaDoor.Ev
end
section
namespace Go.Proofs.YtabgeenhpfnhdaaDoor.Ev
open Go
theorem squeeze_idem (l : List Glyph) : squeeze (squeeze l) = squeeze l := by
  have : ∀ (l : List Glyph) (s : List Glyph × Bool), sqAll s.1 = (s.1, false) → sqAll (l.foldl sqStep s).1 = ((l.foldl sqStep s).1, false) := by
    intro l
    induction l with
    | nil => intro s h; exact h
    | cons g l ih =>
      intro s h
      rw [List.foldl_cons]
      refine ih _ ?_
      unfold sqStep
      split
      · exact h
      · rename_i hg
        simp only
        split
        · rename_i hw
          rw [List.append_assoc, sqAll_app, h]
          simp [sqStep, hg, hw.2]
        · rw [sqAll_app, h]
          simp [sqStep, hg]
  have := this l ([], false) rfl
  rw [squeeze, squeeze]
  rw [show sqAll (sqAll l).1 = ((sqAll l).1, false) from this]
theorem sqzd_squeeze (l : List Glyph) : sqzd (squeeze l) = true := by simp [sqzd, squeeze_idem]
theorem sqzd_nil : sqzd [] = true := by decide
theorem cellM_sq (r : TRow) (k : Nat) : sqzd (cellM r k) = true := by
  unfold cellM
  split
  · exact sqzd_squeeze _
  · exact sqzd_nil
theorem mendCols_ok (c : ByteArray) : 0 < (mendCols c).size ∧ (mendCols c).size ≤ 20 ∧ colsOk (mendCols c) = true := by
  unfold mendCols
  by_cases h : List.take 20 (List.filter isSide c.data.toList) = []
  · rw [if_pos h]; decide
  · rw [if_neg h]
    refine ⟨?_, ?_, ?_⟩
    · show 0 < (List.take 20 (List.filter isSide c.data.toList)).toArray.size
      rw [List.size_toArray]; exact List.length_pos_iff.2 h
    · show (List.take 20 (List.filter isSide c.data.toList)).toArray.size ≤ 20
      rw [List.size_toArray, List.length_take]; omega
    · rw [colsOk, List.all_eq_true]
      intro b hb
      have hb' : b ∈ List.take 20 (List.filter isSide c.data.toList) := by simpa using hb
      exact (List.mem_filter.1 (List.mem_of_mem_take hb')).2
theorem mend_right (t : Tbl) : rightT (mendT t) = true := by
  obtain ⟨h1, h2, h3⟩ := mendCols_ok t.cols
  have hr : (mendT t).rows.any (badRow (mendT t).cols.size) = false := by
    rw [List.any_eq_false]
    intro r hr
    obtain ⟨x, _, rfl⟩ := List.mem_map.1 hr
    show ¬ badRow (mendCols t.cols).size (mendRow (mendCols t.cols).size x) = true
    rw [mendRow_eq]
    cases hx : x.rule
    · have hany : ((List.range (mendCols t.cols).size).map (cellM x)).any (fun c => !sqzd c) = false := by
        rw [List.any_eq_false]
        intro c hc
        obtain ⟨k, _, rfl⟩ := List.mem_map.1 hc
        simp [cellM_sq]
      simp only [badRow, hany]
      simp [cellM_sq]
    · simp [badRow]
  have ha : ((mendT t).all && !(mendT t).box) = false := by
    show ((t.all && t.box) && !t.box) = false
    cases t.all <;> cases t.box <;> rfl
  unfold rightT
  rw [hr, ha, show (mendT t).cols = mendCols t.cols from rfl, h3]
  have e1 : decide ((mendCols t.cols).size = 0) = false := decide_eq_false (by omega)
  have e2 : decide (20 < (mendCols t.cols).size) = false := decide_eq_false (by omega)
  rw [e1, e2]; rfl
end Go.Proofs.YtabgeenhpfnhdaaDoor.Ev
end
