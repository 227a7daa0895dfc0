/- Of what the law BuildOwn needs: part 11. -/
import Derived.Shelf.Strings.SlTrimAscii
import Derived.Test.YtlbjfjaleefiiaaDoorBBO10
set_option linter.unusedSimpArgs false
set_option linter.unusedVariables false
section
namespace Go.Proofs.YtlbjfjaleefiiaaDoor.Ev
open Go
def sqzd (l : List Glyph) : Bool := decide (squeeze l = l)
def badRow (n : Nat) (r : TRow) : Bool := if r.rule = true then decide (0 < r.cells.length) else !decide (r.cells.length = n) || r.cells.any fun c => !sqzd c
def colsOk (c : ByteArray) : Bool := c.data.toList.all isSide
def rightT (t : Tbl) : Bool := !(decide (t.cols.size = 0) || (decide (20 < t.cols.size) || (!colsOk t.cols || (t.all && !t.box)))) && !t.rows.any (badRow t.cols.size)
end Go.Proofs.YtlbjfjaleefiiaaDoor.Ev
end
section
namespace Go.Proofs.YtlbjfjaleefiiaaDoor.Ev
open Go
def trimG (l : List Glyph) : List Glyph := (l.reverse.dropWhile Glyph.blank).reverse
def ends (l : List Glyph) : Nat := (trimG l).length
theorem mem_tw {α : Type} {p : α → Bool} : ∀ {l : List α} {x : α}, x ∈ l.takeWhile p → p x = true
  | y :: l, x, h => by
    rw [List.takeWhile_cons] at h
    split at h
    · rename_i hy
      rcases List.mem_cons.1 h with rfl | h
      · exact hy
      · exact mem_tw h
    · simp at h
theorem trimG_append (l : List Glyph) : ∃ b, l = trimG l ++ b ∧ ∀ g ∈ b, g.blank = true := by
  refine ⟨(l.reverse.takeWhile Glyph.blank).reverse, ?_, fun g hg => ?_⟩
  · rw [trimG, ← List.reverse_append, List.takeWhile_append_dropWhile, List.reverse_reverse]
  · have := List.mem_reverse.1 hg
    exact mem_tw this
theorem trimG_take (l : List Glyph) : trimG l = l.take (ends l) := by
  obtain ⟨b, h, _⟩ := trimG_append l
  have := congrArg (List.take (ends l)) h
  rw [show List.take (ends l) (trimG l ++ b) = trimG l from List.take_left' rfl] at this
  exact this.symm
theorem ends_le (l : List Glyph) : ends l ≤ l.length := by
  obtain ⟨b, h, _⟩ := trimG_append l
  have := congrArg List.length h
  rw [List.length_append] at this
  unfold ends; omega
theorem ends_behind {l : List Glyph} {i : Nat} (h : i < l.length) (hi : ends l ≤ i) : l[i].blank = true := by
  obtain ⟨b, hb, hbl⟩ := trimG_append l
  have : l[i] ∈ b := by
    have e : l[i]? = b[i - ends l]? := by
      conv => lhs; rw [hb]
      rw [List.getElem?_append_right hi]; rfl
    rw [List.getElem?_eq_getElem h] at e
    exact List.mem_of_getElem? e.symm
  exact hbl _ this
theorem ends_at {l : List Glyph} (h : 0 < ends l) : (l[ends l - 1]'(by have := ends_le l; omega)).blank = false := by
  have hne : l.reverse.dropWhile Glyph.blank ≠ [] := fun hh => by
    have : ends l = 0 := by unfold ends trimG; rw [hh]; rfl
    omega
  obtain ⟨y, r, hy⟩ := List.exists_cons_of_ne_nil hne
  have h2 : y.blank = false := by
    have := List.head?_dropWhile_not Glyph.blank l.reverse
    rw [hy] at this
    simpa using this
  have ht : trimG l = r.reverse ++ [y] := by rw [trimG, hy, List.reverse_cons]
  have e : (trimG l)[ends l - 1]? = some y := by
    rw [ends, ht]
    simp
  rw [trimG_take, List.getElem?_take_of_lt (by omega)] at e
  have := (List.getElem?_eq_some_iff.1 e).2
  rw [this]; exact h2
set_option linter.unusedSimpArgs false in
set_option maxRecDepth 20000 in
set_option maxHeartbeats 4000000 in
theorem refTrim (l : List Glyph) (hl : l.length ≤ 1073741824) : PCon C0 60 [.sc (gl l)] (.sc (gl (trimG l))) := by
  refine penter60 ?_
  simp [Tryd.f60, gl]
  refine loopC (fun d e H => ∃ (n : Nat) (x2 x16 : FV), d = n ∧ ends l ≤ n ∧ n ≤ l.length ∧ e = [(0, .sc (.sl (l.map Glyph.pv))), (2, x2), (3, .sc (.int .i64 n)), (16, x16)]) (d := l.length) ⟨l.length, _, _, rfl, ends_le l, Nat.le_refl _, rfl⟩ ?_
  rintro d e H ⟨n, x2, x16, hd, hn, hnl, rfl⟩
  have hd' := hd.symm
  subst hd'
  by_cases h0 : n = 0
  · subst h0
    have ht : trimG l = [] := List.eq_nil_of_length_eq_zero (by unfold ends at hn; omega)
    have h1 : Sized 2 (l.map Glyph.pv) := sizedG l
    have hsb : sizedB 2 (l.map Glyph.pv) = true := by simp [sizedB]; exact fun g _ => rfl
    simp [ht, hsb]
  · obtain ⟨k, rfl⟩ : ∃ k, n = k + 1 := ⟨n - 1, by omega⟩
    have hk : k < l.length := by omega
    have w1 : IntKind.i64.wrap (((k + 1 : Nat) : Int) - 1) = (k : Nat) := by rw [wrap64 (by omega) (by omega)]; omega
    simp at w1
    simp [w1, hk, Glyph.pv]
    have hsb : sizedB 2 (l.map Glyph.pv) = true := by simp [sizedB]; exact fun g _ => rfl
    refine CondC.mk (fun h32 => ?_) (fun h32 => ?_)
    · simp at h32
      have hne : ¬ ends l = k + 1 := fun he => by
        have := ends_at (l := l) (by omega)
        simp [he, Glyph.blank, h32] at this
      simp [w1]
      exact ⟨k, by omega, by omega, by omega, rfl⟩
    · simp at h32
      have he : ends l = k + 1 := by
        rcases Nat.lt_or_ge k (ends l) with h | h
        · omega
        · have := ends_behind hk h
          simp [Glyph.blank, h32] at this
      have hkl : (k : Int) + 1 ≤ l.length := by omega
      rw [trimG_take, he]
      have hk0 : (0 : Int) ≤ (k : Int) + 1 := by omega
      simp [hsb, hkl, hk0]
theorem sqAll_app (l m : List Glyph) : sqAll (l ++ m) = m.foldl sqStep (sqAll l) := by rw [sqAll, List.foldl_append]; rfl
theorem sq_blanks (b : List Glyph) (hb : ∀ g ∈ b, g.blank = true) (s : List Glyph × Bool) : (b.foldl sqStep s).1 = s.1 := by
  induction b generalizing s with
  | nil => rfl
  | cons g b ih =>
    rw [List.foldl_cons, ih (fun x hx => hb x (by simp [hx]))]
    have := hb g (by simp)
    simp [Glyph.blank] at this
    simp [sqStep, this]
theorem squeeze_trim (l : List Glyph) : squeeze (trimG l) = squeeze l := by
  obtain ⟨b, h, hb⟩ := trimG_append l
  conv => rhs; rw [h]
  rw [squeeze, squeeze, sqAll_app, sq_blanks b hb]
def sqR (s : List Glyph × Bool) : List Glyph := if s.2 = true ∧ s.1 ≠ [] then s.1 ++ [⟨32, 0⟩] else s.1
theorem sq_last (l : List Glyph) : ∀ g, (sqAll l).1.getLast? = some g → g.blank = false := by
  have : ∀ (l : List Glyph) (s : List Glyph × Bool), (∀ g, s.1.getLast? = some g → g.blank = false) → ∀ g, (l.foldl sqStep s).1.getLast? = some g → g.blank = false := by
    intro l
    induction l with
    | nil => intro s h; exact h
    | cons x l ih =>
      intro s h
      rw [List.foldl_cons]
      refine ih _ fun g hg => ?_
      unfold sqStep at hg
      split at hg
      · exact h g hg
      · rename_i hx
        simp only [List.getLast?_append, List.getLast?_singleton, Option.some_or, Option.some.injEq] at hg
        subst hg
        simp [Glyph.blank, hx]
  exact this l ([], false) (by simp)
theorem sq_want {l : List Glyph} (h : 0 < ends l) (hl : trimG l = l) : (sqAll l).2 = false := by
  have he : ends l = l.length := by unfold ends; rw [hl]
  have hb := ends_at h
  have hlt : ends l - 1 < l.length := by omega
  have e : l = l.take (ends l - 1) ++ [l[ends l - 1]] := by
    rw [← List.take_succ_eq_append_getElem hlt, show ends l - 1 + 1 = ends l by omega, he, List.take_length]
  generalize hx : l[ends l - 1] = x at e hb
  rw [e, sqAll_app]
  simp [Glyph.blank] at hb
  simp [sqStep, hb]
theorem sqR_end (l : List Glyph) (hl : trimG l = l) : sqR (sqAll l) = squeeze l := by
  by_cases h : 0 < ends l
  · simp [sqR, sq_want h hl, squeeze]
  · have : l = [] := List.eq_nil_of_length_eq_zero (by have : ends l = l.length := by unfold ends; rw [hl]
                                                       omega)
    subst this
    rfl
theorem trim_trim (l : List Glyph) : trimG (trimG l) = trimG l := by
  by_cases h : trimG l = []
  · rw [h]; rfl
  · have h0 : 0 < ends l := by unfold ends; exact List.length_pos_iff.2 h
    have hb := ends_at h0
    rw [trimG_take (trimG l)]
    refine List.take_of_length_le ?_
    rcases Nat.lt_or_ge (ends (trimG l)) (trimG l).length with h1 | h1
    · exfalso
      have h2 : (trimG l).length - 1 < (trimG l).length := by omega
      have := ends_behind (l := trimG l) h2 (by omega)
      have e : (trimG l)[(trimG l).length - 1] = l[ends l - 1]'(by have := ends_le l; omega) := by
        have : (trimG l)[(trimG l).length - 1]? = l[ends l - 1]? := by
          have e2 : (trimG l).length - 1 = ends l - 1 := rfl
          rw [e2, trimG_take, List.getElem?_take_of_lt (by omega)]
        rw [List.getElem?_eq_getElem h2, List.getElem?_eq_getElem (by have := ends_le l; omega)] at this
        exact Option.some.inj this
      rw [e, hb] at this
      simp at this
    · exact h1
set_option linter.unusedSimpArgs false in
set_option maxRecDepth 20000 in
set_option maxHeartbeats 4000000 in
theorem refSqueeze (l : List Glyph) (hl : l.length ≤ 1073741824) : PCon C0 75 [.sc (gl l)] (.own ((squeeze l).map Glyph.pv)) := by
  have tr := refTrim l hl
  rw [← squeeze_trim l]
  have ht := trim_trim l
  have hll : (trimG l).length ≤ 1073741824 := by have := ends_le l; unfold ends at this; omega
  generalize trimG l = m at *
  refine penter75 ?_
  simp [Tryd.f75, gl] at tr ⊢
  refine CallQ.mk (Call.pure callable60 (by simp) (by simp) tr) ?_
  simp
  refine loopC (fun d e H => ∃ (i : Nat) (x2 x10 x18 x38 : FV), d = m.length - i ∧ i ≤ m.length ∧ e = [(0, .sc (.sl (m.map Glyph.pv))), (2, x2), (3, .own ((sqR (sqAll (m.take i))).map Glyph.pv)), (4, .sc (.int .i64 i)), (10, x10), (18, x18), (38, x38)]) (d := m.length) ⟨0, _, _, _, _, rfl, by omega, rfl⟩ ?_
  rintro d e H ⟨i, x2, x10, x18, x38, rfl, hi, rfl⟩
  simp
  refine CondC.mk (fun hlt => ?_) (fun hlt => ?_)
  · simp at hlt
    have hs := sqAll_take hlt
    have hlast := sq_last (m.take i)
    have hlen := sqAll_len (m.take i)
    simp only [List.length_take] at hlen
    generalize hS : sqAll (m.take i) = S at *
    obtain ⟨out, wants⟩ := S
    simp only at hlast hlen
    have hol : out.length ≤ 2147483648 := by omega
    have fin : ∀ q : List PV, q = (sqR (sqStep (out, wants) m[i])).map Glyph.pv → ∃ d', d' < m.length - i ∧ ∃ k, d' = m.length - k ∧ k ≤ m.length ∧ q = List.map Glyph.pv (sqR (sqAll (List.take k m))) ∧ IntKind.i64.wrap ((i : Int) + 1) = (k : Nat) := fun q hq =>
      ⟨m.length - (i + 1), by omega, i + 1, rfl, by omega, by rw [hs, hq], by rw [wrap64 (by omega) (by omega)]; omega⟩
    simp [hlt, Glyph.pv]
    refine CondC.mk (fun h32 => ?_) (fun h32 => ?_)
    · simp at h32
      have hst : sqStep (out, wants) m[i] = ((if wants = true ∧ out ≠ [] then out ++ [⟨32, 0⟩] else out) ++ [m[i]], false) := by simp [sqStep, h32]
      have e1 : sqR (sqStep (out, wants) m[i]) = sqR (out, wants) ++ [m[i]] := by
        rw [hst]
        cases wants <;> simp [sqR]
      have hrl : (sqR (out, wants)).length ≤ out.length + 1 := by
        unfold sqR; simp only; split <;> simp
      simp [hlt, Glyph.pv]
      exact ⟨sizedAgg2, sizedG _, sizedAgg2, by unfold lenMax; omega, fin _ (by rw [e1, List.map_append]; rfl)⟩
    · simp at h32
      have hst : sqStep (out, wants) m[i] = (out, true) := by simp [sqStep, h32]
      by_cases ho : out = []
      · subst ho
        have e0 : sqR ([], wants) = [] := by simp [sqR]
        have fin := fin [] (by rw [hst]; simp [sqR])
        simp [e0]
        obtain ⟨d', h1, k, h2, h3, h4, h5⟩ := fin
        exact ⟨d', h1, k, h2, h3, by simpa using h4.symm, h5⟩
      · have hop : 0 < out.length := List.length_pos_iff.2 ho
        cases wants
        · have e0 : sqR (out, false) = out := by simp [sqR]
          have w1 : IntKind.i64.wrap ((out.length : Int) - 1) = (out.length - 1 : Nat) := by rw [wrap64 (by omega) (by omega)]; omega
          have hk : out.length - 1 < out.length := by omega
          have hb : out[out.length - 1].r ≠ 32 := by
            have := hlast out[out.length - 1] (by rw [List.getLast?_eq_getElem?, List.getElem?_eq_getElem hk])
            simpa [Glyph.blank] using this
          have fin := fin (out.map Glyph.pv ++ [(⟨32, 0⟩ : Glyph).pv]) (by rw [hst]; simp [sqR, ho])
          simp [e0, hop, w1, hk, hb, Glyph.pv]
          exact ⟨sizedAgg2, sizedG _, sizedAgg2, by unfold lenMax; omega, fin⟩
        · have e0 : sqR (out, true) = out ++ [⟨32, 0⟩] := by simp [sqR, ho]
          have w1 : IntKind.i64.wrap (out.length : Int) = (out.length : Nat) := by rw [wrap64 (by omega) (by omega)]
          have hx : (List.map Glyph.pv out ++ [PV.agg [PV.int IntKind.i32 32, PV.int IntKind.u8 0]])[out.length]? = some (PV.agg [PV.int IntKind.i32 32, PV.int IntKind.u8 0]) := by
            rw [List.getElem?_append_right (by simp)]; simp
          have fin := fin (out.map Glyph.pv ++ [(⟨32, 0⟩ : Glyph).pv]) (by rw [hst, e0]; simp)
          simp [e0, w1, Glyph.pv, hx]
          exact fin
  · simp at hlt
    simp [List.take_of_length_le hlt, sqR_end m ht]
set_option maxRecDepth 20000 in
set_option maxHeartbeats 4000000 in
theorem refSqueezed (l : List Glyph) (hl : l.length ≤ 1073741824) : PCon C0 65 [.sc (gl l)] (.sc (.bool (sqzd l))) := by
  have sq := refSqueeze l hl
  have sm := refSame (squeeze l) l (by have := sqAll_len l; unfold squeeze; omega)
  refine penter65 ?_
  simp [Tryd.f65, gl] at sq sm ⊢
  refine CallQ.mk (Call.pure callable75 (by simp) (by simp) sq) ?_
  simp
  refine CallQ.mk (Call.pure callable13 (by simp) (by simp) sm) ?_
  simp [sqzd]
set_option maxRecDepth 20000 in
set_option maxHeartbeats 4000000 in
theorem refSide (b : UInt8) : PCon C0 76 [.sc (.int .u8 b.toNat)] (.sc (.bool (isSide b))) := by
  rw [side_iff]
  generalize b.toNat = c
  refine penter76 ?_
  by_cases h1 : c = 108
  · simp [Tryd.f76, h1]
  · by_cases h2 : c = 99
    · simp [Tryd.f76, h2]
    · have h1' : ¬ (c : Int) = 108 := by omega
      have h2' : ¬ (c : Int) = 99 := by omega
      simp [Tryd.f76, h1', h2']
end Go.Proofs.YtlbjfjaleefiiaaDoor.Ev
end
section
namespace Go.Proofs.YtlbjfjaleefiiaaDoor.Ev
open Go
set_option linter.unusedSimpArgs false in
set_option maxRecDepth 20000 in
set_option maxHeartbeats 4000000 in
theorem refRight (t : Tbl) (ht : TblS t) : PCon C0 67 [t.pv.toFV] (.sc (.bool (rightT t))) := by
  refine penter67 ?_
  have hcs := ht.cols
  have hrl := ht.rows
  by_cases h0 : t.cols.size = 0
  · have h0' : (t.cols.size : Int) < 1 := by omega
    simp [Tryd.f67, Tbl.pv, h0', h0, rightT]
  have h0' : ¬ (t.cols.size : Int) < 1 := by omega
  by_cases h20 : 20 < t.cols.size
  · have h20' : (20 : Int) < t.cols.size := by omega
    simp [Tryd.f67, Tbl.pv, h0', h20', rightT, h20]
  have h20' : ¬ (20 : Int) < t.cols.size := by omega
  by_cases hab : t.all = true ∧ t.box = false
  · obtain ⟨ha, hb⟩ := hab
    simp [Tryd.f67, Tbl.pv, h0', h20', ha, hb, rightT]
  have hab' : (t.all && !t.box) = false := by
    cases ha : t.all <;> cases hb : t.box <;> simp_all
  have hgo : ∀ c : Bool, t.all = c → (c = true → t.box = true) := fun c hc h => by
    cases hb : t.box
    · exact absurd ⟨hc.trans h, hb⟩ hab
    · rfl
  have hright : rightT t = (colsOk t.cols && !t.rows.any (badRow t.cols.size)) := by
    simp [rightT, h0, h20, hab']
  rw [hright]
  cases hall : t.all
  · simp [Tryd.f67, Tbl.pv, h0', h20', hall]
    refine loopC (fun d e H => ∃ (i : Nat) (x0 x25 x30 x38 : FV), d = t.cols.size - i ∧ i ≤ t.cols.size ∧ (∀ j (hj : j < t.cols.size), j < i → isSide (t.cols.data[j]'hj) = true) ∧ H = [[FV.sc (PV.str t.cols), FV.sc (PV.sl (List.map TRow.pv t.rows)), FV.sc (PV.bool t.box), FV.sc (PV.bool false)]] ∧
      e = [(0, x0), (1, .ptr 0 0), (2, .sc (.bool false)), (3, .sc (.int .i64 i)), (4, .undef), (5, .undef), (6, .undef), (25, x25), (30, x30), (38, x38), (43, .undef), (72, .undef), (77, .undef), (86, .undef)]) (d := t.cols.size) ⟨0, _, _, _, _, rfl, by omega, by simp, rfl, rfl⟩ ?_
    rintro d e H ⟨i, x0, x25, x30, x38, rfl, hi, hall1, rfl, rfl⟩
    simp
    refine CondC.mk (fun hlt => ?_) (fun hlt => ?_)
    · simp at hlt
      have hlt' : i < t.cols.data.size := hlt
      have rs := refSide (t.cols.data[i]'hlt)
      have hmem : t.cols.data[i]'hlt ∈ t.cols.data.toList := by simp
      obtain ⟨b, hb⟩ : ∃ b, t.cols.data[i]'hlt = b := ⟨_, rfl⟩
      rw [hb] at rs hmem
      simp [hlt, hlt', hb]
      refine CallQ.mk (Call.pure callable76 (by simp) (by simp) rs) ?_
      cases hs : isSide b
      · have hco : colsOk t.cols = false := by
          rw [colsOk, List.all_eq_false]
          exact ⟨b, hmem, by simp [hs]⟩
        simp [hco]
      · simp
        refine ⟨t.cols.size - (i + 1), by omega, i + 1, rfl, by omega, fun j hj h => ?_, by rw [wrap64 (by omega) (by omega)]; omega⟩
        rcases Nat.lt_or_ge j i with h' | h'
        · exact hall1 j hj h'
        · obtain rfl : j = i := by omega
          rw [hb]; exact hs
    · simp at hlt
      have hco : colsOk t.cols = true := by
        rw [colsOk, List.all_eq_true]
        intro b hb
        obtain ⟨j, hj, rfl⟩ := List.getElem_of_mem hb
        have hj' : j < t.cols.size := by simpa using hj
        have := hall1 j hj' (by omega)
        simpa using this
      simp [hco]
      refine loopC (fun d e H => ∃ (i : Nat) (X : Heap) (x0 x3 x5 x6 x25 x30 x38 x43 x72 x77 x86 : FV), d = t.rows.length - i ∧ i ≤ t.rows.length ∧ (∀ j (hj : j < t.rows.length), j < i → badRow t.cols.size t.rows[j] = false) ∧ H = [FV.sc (PV.str t.cols), FV.sc (PV.sl (List.map TRow.pv t.rows)), FV.sc (PV.bool t.box), FV.sc (PV.bool false)] :: X ∧
        e = [(0, x0), (1, .ptr 0 0), (2, .sc (.bool false)), (3, x3), (4, .sc (.int .i64 i)), (5, x5), (6, x6), (25, x25), (30, x30), (38, x38), (43, x43), (72, x72), (77, x77), (86, x86)]) (d := t.rows.length) ⟨0, [], _, _, _, _, _, _, _, _, _, _, _, rfl, by omega, by simp, rfl, rfl⟩ ?_
      rintro d e H ⟨i, X, x0, x3, x5, x6, x25, x30, x38, x43, x72, x77, x86, rfl, hi, hall2, rfl, rfl⟩
      simp
      refine CondC.mk (fun hlt => ?_) (fun hlt => ?_)
      · simp at hlt
        have hr := ht.cells _ (List.getElem_mem hlt)
        have hmem := List.getElem_mem hlt
        obtain ⟨r, hrr⟩ : ∃ r, t.rows[i] = r := ⟨_, rfl⟩
        rw [hrr] at hr hmem
        have fail : badRow t.cols.size r = true → (t.rows.any (badRow t.cols.size)) = true := fun h => List.any_eq_true.2 ⟨r, hmem, h⟩
        have next : badRow t.cols.size r = false → ∃ d', d' < t.rows.length - i ∧ ∃ i', d' = t.rows.length - i' ∧ i' ≤ t.rows.length ∧ (∀ j (hj : j < t.rows.length), j < i' → badRow t.cols.size t.rows[j] = false) ∧ IntKind.i64.wrap ((i : Int) + 1) = (i' : Nat) := fun h =>
          ⟨t.rows.length - (i + 1), by omega, i + 1, rfl, by omega, fun j hj hji => by
            rcases Nat.lt_or_ge j i with h' | h'
            · exact hall2 j hj h'
            · obtain rfl : j = i := by omega
              rw [hrr]; exact h, by rw [wrap64 (by omega) (by omega)]; omega⟩
        have hq : t.rows[i]? = some r := by rw [List.getElem?_eq_getElem hlt, hrr]
        have hgl : r.cells.map gl = r.cells.map gl := rfl
        cases hrule : r.rule
        · by_cases hlen : r.cells.length = t.cols.size
          · have hlen' : (r.cells.length : Int) = t.cols.size := by omega
            simp [hq, TRow.pv, hrule, hlen']
            refine loopC (fun d e H => ∃ (k : Nat) (x77 x86 : FV), d = r.cells.length - k ∧ k ≤ r.cells.length ∧ (∀ j (hj : j < r.cells.length), j < k → sqzd r.cells[j] = true) ∧ H = [FV.sc (PV.str t.cols), FV.sc (PV.sl (List.map TRow.pv t.rows)), FV.sc (PV.bool t.box), FV.sc (PV.bool false)] :: (X ++ [[FV.sc (.bool false), FV.sc (.sl (r.cells.map gl))]]) ∧
              e = [(0, x0), (1, .ptr 0 0), (2, .sc (.bool false)), (3, x3), (4, .sc (.int .i64 i)), (5, .ptr (X.length + 1) 0), (6, .sc (.int .i64 k)), (25, x25), (30, x30), (38, x38), (43, .sc (.bool true)), (72, .sc (.bool false)), (77, x77), (86, x86)]) (d := r.cells.length) ⟨0, x77, x86, rfl, by omega, by simp, by first | rfl | simp, by first | rfl | (simp [hlt]; done) | (simp [hlt, hlen]; done)⟩ ?_
            rintro d e H ⟨k, x77, x86, rfl, hk, hsq, rfl, rfl⟩
            simp
            refine CondC.mk (fun hkl => ?_) (fun hkl => ?_)
            · simp at hkl
              have cs := refSqueezed r.cells[k] (hr.2 _ (List.getElem_mem hkl))
              simp only [gl] at cs
              simp [hkl, gl]
              refine CallQ.mk (Call.pure callable65 (by simp) (by simp) cs) ?_
              cases hs : sqzd r.cells[k]
              · have hbad : badRow t.cols.size r = true := by
                  have hany : (r.cells.any fun c => !sqzd c) = true := List.any_eq_true.2 ⟨_, List.getElem_mem hkl, by rw [hs]; rfl⟩
                  simp [badRow, hrule, hany]
                have := fail hbad
                simp [this]
              · simp
                refine ⟨r.cells.length - (k + 1), by omega, k + 1, rfl, by omega, fun j hj h => ?_, by rw [wrap64 (by omega) (by omega)]; omega⟩
                rcases Nat.lt_or_ge j k with h' | h'
                · exact hsq j hj h'
                · obtain rfl : j = k := by omega
                  exact hs
            · simp at hkl
              have hgood : badRow t.cols.size r = false := by
                have hany : (r.cells.any fun c => !sqzd c) = false := by
                  rw [List.any_eq_false]
                  intro c hc
                  obtain ⟨j, hj, rfl⟩ := List.getElem_of_mem hc
                  simp [hsq j hj (by omega)]
                simp [badRow, hrule, hany, hlen]
              simp
              exact next hgood
          · have hlen' : ¬ (r.cells.length : Int) = t.cols.size := by omega
            have := fail (by simp [badRow, hrule, hlen])
            simp [hq, TRow.pv, hrule, hlen', this]
        · by_cases hlen : r.cells.length = 0
          · have hlen' : ¬ 0 < r.cells.length := by omega
            simp [hq, TRow.pv, hrule, hlen']
            refine loopC (fun d e H => ∃ (k : Nat) (x77 x86 : FV), d = r.cells.length - k ∧ k ≤ r.cells.length ∧ (∀ j (hj : j < r.cells.length), j < k → sqzd r.cells[j] = true) ∧ H = [FV.sc (PV.str t.cols), FV.sc (PV.sl (List.map TRow.pv t.rows)), FV.sc (PV.bool t.box), FV.sc (PV.bool false)] :: (X ++ [[FV.sc (.bool true), FV.sc (.sl (r.cells.map gl))]]) ∧
              e = [(0, x0), (1, .ptr 0 0), (2, .sc (.bool false)), (3, x3), (4, .sc (.int .i64 i)), (5, .ptr (X.length + 1) 0), (6, .sc (.int .i64 k)), (25, x25), (30, x30), (38, x38), (43, .sc (.bool true)), (72, .sc (.bool false)), (77, x77), (86, x86)]) (d := r.cells.length) ⟨0, x77, x86, rfl, by omega, by simp, by first | rfl | simp, by first | rfl | (simp [hlt]; done) | (simp [hlt, hlen]; done)⟩ ?_
            rintro d e H ⟨k, x77, x86, rfl, hk, hsq, rfl, rfl⟩
            simp
            refine CondC.mk (fun hkl => ?_) (fun hkl => ?_)
            · simp at hkl
              have cs := refSqueezed r.cells[k] (hr.2 _ (List.getElem_mem hkl))
              simp only [gl] at cs
              simp [hkl, gl]
              refine CallQ.mk (Call.pure callable65 (by simp) (by simp) cs) ?_
              cases hs : sqzd r.cells[k]
              · have hbad : badRow t.cols.size r = true := by
                  have hany : (r.cells.any fun c => !sqzd c) = true := List.any_eq_true.2 ⟨_, List.getElem_mem hkl, by rw [hs]; rfl⟩
                  simp [badRow, hrule]; omega
                have := fail hbad
                simp [this]
              · simp
                refine ⟨r.cells.length - (k + 1), by omega, k + 1, rfl, by omega, fun j hj h => ?_, by rw [wrap64 (by omega) (by omega)]; omega⟩
                rcases Nat.lt_or_ge j k with h' | h'
                · exact hsq j hj h'
                · obtain rfl : j = k := by omega
                  exact hs
            · simp at hkl
              have hgood : badRow t.cols.size r = false := by
                have hany : (r.cells.any fun c => !sqzd c) = false := by
                  rw [List.any_eq_false]
                  intro c hc
                  obtain ⟨j, hj, rfl⟩ := List.getElem_of_mem hc
                  simp [hsq j hj (by omega)]
                simp [badRow, hrule, hlen]
              simp
              exact next hgood
          · have hlen' : 0 < r.cells.length := by omega
            have := fail (by simp [badRow, hrule]; omega)
            simp [hq, TRow.pv, hrule, hlen', this]
      · simp at hlt
        have : (t.rows.any (badRow t.cols.size)) = false := by
          rw [List.any_eq_false]
          intro r hr
          obtain ⟨j, hj, rfl⟩ := List.getElem_of_mem hr
          simp [hall2 j hj (by omega)]
        simp [this]
  · have hbox := hgo true hall rfl
    simp [Tryd.f67, Tbl.pv, h0', h20', hall, hbox]
    refine loopC (fun d e H => ∃ (i : Nat) (x0 x25 x30 x38 : FV), d = t.cols.size - i ∧ i ≤ t.cols.size ∧ (∀ j (hj : j < t.cols.size), j < i → isSide (t.cols.data[j]'hj) = true) ∧ H = [[FV.sc (PV.str t.cols), FV.sc (PV.sl (List.map TRow.pv t.rows)), FV.sc (PV.bool true), FV.sc (PV.bool true)]] ∧
      e = [(0, x0), (1, .ptr 0 0), (2, .sc (.bool false)), (3, .sc (.int .i64 i)), (4, .undef), (5, .undef), (6, .undef), (25, x25), (30, x30), (38, x38), (43, .undef), (72, .undef), (77, .undef), (86, .undef)]) (d := t.cols.size) ⟨0, _, _, _, _, rfl, by omega, by simp, rfl, rfl⟩ ?_
    rintro d e H ⟨i, x0, x25, x30, x38, rfl, hi, hall1, rfl, rfl⟩
    simp
    refine CondC.mk (fun hlt => ?_) (fun hlt => ?_)
    · simp at hlt
      have hlt' : i < t.cols.data.size := hlt
      have rs := refSide (t.cols.data[i]'hlt)
      have hmem : t.cols.data[i]'hlt ∈ t.cols.data.toList := by simp
      obtain ⟨b, hb⟩ : ∃ b, t.cols.data[i]'hlt = b := ⟨_, rfl⟩
      rw [hb] at rs hmem
      simp [hlt, hlt', hb]
      refine CallQ.mk (Call.pure callable76 (by simp) (by simp) rs) ?_
      cases hs : isSide b
      · have hco : colsOk t.cols = false := by
          rw [colsOk, List.all_eq_false]
          exact ⟨b, hmem, by simp [hs]⟩
        simp [hco]
      · simp
        refine ⟨t.cols.size - (i + 1), by omega, i + 1, rfl, by omega, fun j hj h => ?_, by rw [wrap64 (by omega) (by omega)]; omega⟩
        rcases Nat.lt_or_ge j i with h' | h'
        · exact hall1 j hj h'
        · obtain rfl : j = i := by omega
          rw [hb]; exact hs
    · simp at hlt
      have hco : colsOk t.cols = true := by
        rw [colsOk, List.all_eq_true]
        intro b hb
        obtain ⟨j, hj, rfl⟩ := List.getElem_of_mem hb
        have hj' : j < t.cols.size := by simpa using hj
        have := hall1 j hj' (by omega)
        simpa using this
      simp [hco]
      refine loopC (fun d e H => ∃ (i : Nat) (X : Heap) (x0 x3 x5 x6 x25 x30 x38 x43 x72 x77 x86 : FV), d = t.rows.length - i ∧ i ≤ t.rows.length ∧ (∀ j (hj : j < t.rows.length), j < i → badRow t.cols.size t.rows[j] = false) ∧ H = [FV.sc (PV.str t.cols), FV.sc (PV.sl (List.map TRow.pv t.rows)), FV.sc (PV.bool true), FV.sc (PV.bool true)] :: X ∧
        e = [(0, x0), (1, .ptr 0 0), (2, .sc (.bool false)), (3, x3), (4, .sc (.int .i64 i)), (5, x5), (6, x6), (25, x25), (30, x30), (38, x38), (43, x43), (72, x72), (77, x77), (86, x86)]) (d := t.rows.length) ⟨0, [], _, _, _, _, _, _, _, _, _, _, _, rfl, by omega, by simp, rfl, rfl⟩ ?_
      rintro d e H ⟨i, X, x0, x3, x5, x6, x25, x30, x38, x43, x72, x77, x86, rfl, hi, hall2, rfl, rfl⟩
      simp
      refine CondC.mk (fun hlt => ?_) (fun hlt => ?_)
      · simp at hlt
        have hr := ht.cells _ (List.getElem_mem hlt)
        have hmem := List.getElem_mem hlt
        obtain ⟨r, hrr⟩ : ∃ r, t.rows[i] = r := ⟨_, rfl⟩
        rw [hrr] at hr hmem
        have fail : badRow t.cols.size r = true → (t.rows.any (badRow t.cols.size)) = true := fun h => List.any_eq_true.2 ⟨r, hmem, h⟩
        have next : badRow t.cols.size r = false → ∃ d', d' < t.rows.length - i ∧ ∃ i', d' = t.rows.length - i' ∧ i' ≤ t.rows.length ∧ (∀ j (hj : j < t.rows.length), j < i' → badRow t.cols.size t.rows[j] = false) ∧ IntKind.i64.wrap ((i : Int) + 1) = (i' : Nat) := fun h =>
          ⟨t.rows.length - (i + 1), by omega, i + 1, rfl, by omega, fun j hj hji => by
            rcases Nat.lt_or_ge j i with h' | h'
            · exact hall2 j hj h'
            · obtain rfl : j = i := by omega
              rw [hrr]; exact h, by rw [wrap64 (by omega) (by omega)]; omega⟩
        have hq : t.rows[i]? = some r := by rw [List.getElem?_eq_getElem hlt, hrr]
        have hgl : r.cells.map gl = r.cells.map gl := rfl
        cases hrule : r.rule
        · by_cases hlen : r.cells.length = t.cols.size
          · have hlen' : (r.cells.length : Int) = t.cols.size := by omega
            simp [hq, TRow.pv, hrule, hlen']
            refine loopC (fun d e H => ∃ (k : Nat) (x77 x86 : FV), d = r.cells.length - k ∧ k ≤ r.cells.length ∧ (∀ j (hj : j < r.cells.length), j < k → sqzd r.cells[j] = true) ∧ H = [FV.sc (PV.str t.cols), FV.sc (PV.sl (List.map TRow.pv t.rows)), FV.sc (PV.bool true), FV.sc (PV.bool true)] :: (X ++ [[FV.sc (.bool false), FV.sc (.sl (r.cells.map gl))]]) ∧
              e = [(0, x0), (1, .ptr 0 0), (2, .sc (.bool false)), (3, x3), (4, .sc (.int .i64 i)), (5, .ptr (X.length + 1) 0), (6, .sc (.int .i64 k)), (25, x25), (30, x30), (38, x38), (43, .sc (.bool true)), (72, .sc (.bool false)), (77, x77), (86, x86)]) (d := r.cells.length) ⟨0, x77, x86, rfl, by omega, by simp, by first | rfl | simp, by first | rfl | (simp [hlt]; done) | (simp [hlt, hlen]; done)⟩ ?_
            rintro d e H ⟨k, x77, x86, rfl, hk, hsq, rfl, rfl⟩
            simp
            refine CondC.mk (fun hkl => ?_) (fun hkl => ?_)
            · simp at hkl
              have cs := refSqueezed r.cells[k] (hr.2 _ (List.getElem_mem hkl))
              simp only [gl] at cs
              simp [hkl, gl]
              refine CallQ.mk (Call.pure callable65 (by simp) (by simp) cs) ?_
              cases hs : sqzd r.cells[k]
              · have hbad : badRow t.cols.size r = true := by
                  have hany : (r.cells.any fun c => !sqzd c) = true := List.any_eq_true.2 ⟨_, List.getElem_mem hkl, by rw [hs]; rfl⟩
                  simp [badRow, hrule, hany]
                have := fail hbad
                simp [this]
              · simp
                refine ⟨r.cells.length - (k + 1), by omega, k + 1, rfl, by omega, fun j hj h => ?_, by rw [wrap64 (by omega) (by omega)]; omega⟩
                rcases Nat.lt_or_ge j k with h' | h'
                · exact hsq j hj h'
                · obtain rfl : j = k := by omega
                  exact hs
            · simp at hkl
              have hgood : badRow t.cols.size r = false := by
                have hany : (r.cells.any fun c => !sqzd c) = false := by
                  rw [List.any_eq_false]
                  intro c hc
                  obtain ⟨j, hj, rfl⟩ := List.getElem_of_mem hc
                  simp [hsq j hj (by omega)]
                simp [badRow, hrule, hany, hlen]
              simp
              exact next hgood
          · have hlen' : ¬ (r.cells.length : Int) = t.cols.size := by omega
            have := fail (by simp [badRow, hrule, hlen])
            simp [hq, TRow.pv, hrule, hlen', this]
        · by_cases hlen : r.cells.length = 0
          · have hlen' : ¬ 0 < r.cells.length := by omega
            simp [hq, TRow.pv, hrule, hlen']
            refine loopC (fun d e H => ∃ (k : Nat) (x77 x86 : FV), d = r.cells.length - k ∧ k ≤ r.cells.length ∧ (∀ j (hj : j < r.cells.length), j < k → sqzd r.cells[j] = true) ∧ H = [FV.sc (PV.str t.cols), FV.sc (PV.sl (List.map TRow.pv t.rows)), FV.sc (PV.bool true), FV.sc (PV.bool true)] :: (X ++ [[FV.sc (.bool true), FV.sc (.sl (r.cells.map gl))]]) ∧
              e = [(0, x0), (1, .ptr 0 0), (2, .sc (.bool false)), (3, x3), (4, .sc (.int .i64 i)), (5, .ptr (X.length + 1) 0), (6, .sc (.int .i64 k)), (25, x25), (30, x30), (38, x38), (43, .sc (.bool true)), (72, .sc (.bool false)), (77, x77), (86, x86)]) (d := r.cells.length) ⟨0, x77, x86, rfl, by omega, by simp, by first | rfl | simp, by first | rfl | (simp [hlt]; done) | (simp [hlt, hlen]; done)⟩ ?_
            rintro d e H ⟨k, x77, x86, rfl, hk, hsq, rfl, rfl⟩
            simp
            refine CondC.mk (fun hkl => ?_) (fun hkl => ?_)
            · simp at hkl
              have cs := refSqueezed r.cells[k] (hr.2 _ (List.getElem_mem hkl))
              simp only [gl] at cs
              simp [hkl, gl]
              refine CallQ.mk (Call.pure callable65 (by simp) (by simp) cs) ?_
              cases hs : sqzd r.cells[k]
              · have hbad : badRow t.cols.size r = true := by
                  have hany : (r.cells.any fun c => !sqzd c) = true := List.any_eq_true.2 ⟨_, List.getElem_mem hkl, by rw [hs]; rfl⟩
                  simp [badRow, hrule]; omega
                have := fail hbad
                simp [this]
              · simp
                refine ⟨r.cells.length - (k + 1), by omega, k + 1, rfl, by omega, fun j hj h => ?_, by rw [wrap64 (by omega) (by omega)]; omega⟩
                rcases Nat.lt_or_ge j k with h' | h'
                · exact hsq j hj h'
                · obtain rfl : j = k := by omega
                  exact hs
            · simp at hkl
              have hgood : badRow t.cols.size r = false := by
                have hany : (r.cells.any fun c => !sqzd c) = false := by
                  rw [List.any_eq_false]
                  intro c hc
                  obtain ⟨j, hj, rfl⟩ := List.getElem_of_mem hc
                  simp [hsq j hj (by omega)]
                simp [badRow, hrule, hlen]
              simp
              exact next hgood
          · have hlen' : 0 < r.cells.length := by omega
            have := fail (by simp [badRow, hrule]; omega)
            simp [hq, TRow.pv, hrule, hlen', this]
      · simp at hlt
        have : (t.rows.any (badRow t.cols.size)) = false := by
          rw [List.any_eq_false]
          intro r hr
          obtain ⟨j, hj, rfl⟩ := List.getElem_of_mem hr
          simp [hall2 j hj (by omega)]
        simp [this]
end Go.Proofs.YtlbjfjaleefiiaaDoor.Ev
end
section
namespace Go.Proofs.YtlbjfjaleefiiaaDoor.Ev
open Go
theorem squeeze_idem (l : List Glyph) : squeeze (squeeze l) = squeeze l := by
  have : ∀ (l : List Glyph) (s : List Glyph × Bool), sqAll s.1 = (s.1, false) → sqAll (l.foldl sqStep s).1 = ((l.foldl sqStep s).1, false) := by
    intro l
    induction l with
    | nil => intro s h; exact h
    | cons g l ih =>
      intro s h
      rw [List.foldl_cons]
      refine ih _ ?_
      unfold sqStep
      split
      · exact h
      · rename_i hg
        simp only
        split
        · rename_i hw
          rw [List.append_assoc, sqAll_app, h]
          simp [sqStep, hg, hw.2]
        · rw [sqAll_app, h]
          simp [sqStep, hg]
  have := this l ([], false) rfl
  rw [squeeze, squeeze]
  rw [show sqAll (sqAll l).1 = ((sqAll l).1, false) from this]
theorem sqzd_squeeze (l : List Glyph) : sqzd (squeeze l) = true := by simp [sqzd, squeeze_idem]
theorem sqzd_nil : sqzd [] = true := by decide
theorem cellM_sq (r : TRow) (k : Nat) : sqzd (cellM r k) = true := by
  unfold cellM
  split
  · exact sqzd_squeeze _
  · exact sqzd_nil
theorem mendCols_ok (c : ByteArray) : 0 < (mendCols c).size ∧ (mendCols c).size ≤ 20 ∧ colsOk (mendCols c) = true := by
  unfold mendCols
  by_cases h : List.take 20 (List.filter isSide c.data.toList) = []
  · rw [if_pos h]; decide
  · rw [if_neg h]
    refine ⟨?_, ?_, ?_⟩
    · show 0 < (List.take 20 (List.filter isSide c.data.toList)).toArray.size
      rw [List.size_toArray]; exact List.length_pos_iff.2 h
    · show (List.take 20 (List.filter isSide c.data.toList)).toArray.size ≤ 20
      rw [List.size_toArray, List.length_take]; omega
    · rw [colsOk, List.all_eq_true]
      intro b hb
      have hb' : b ∈ List.take 20 (List.filter isSide c.data.toList) := by simpa using hb
      exact (List.mem_filter.1 (List.mem_of_mem_take hb')).2
theorem mend_right (t : Tbl) : rightT (mendT t) = true := by
  obtain ⟨h1, h2, h3⟩ := mendCols_ok t.cols
  have hr : (mendT t).rows.any (badRow (mendT t).cols.size) = false := by
    rw [List.any_eq_false]
    intro r hr
    obtain ⟨x, _, rfl⟩ := List.mem_map.1 hr
    show ¬ badRow (mendCols t.cols).size (mendRow (mendCols t.cols).size x) = true
    rw [mendRow_eq]
    cases hx : x.rule
    · have hany : ((List.range (mendCols t.cols).size).map (cellM x)).any (fun c => !sqzd c) = false := by
        rw [List.any_eq_false]
        intro c hc
        obtain ⟨k, _, rfl⟩ := List.mem_map.1 hc
        simp [cellM_sq]
      simp only [badRow, hany]
      simp [cellM_sq]
    · simp [badRow]
  have ha : ((mendT t).all && !(mendT t).box) = false := by
    show ((t.all && t.box) && !t.box) = false
    cases t.all <;> cases t.box <;> rfl
  unfold rightT
  rw [hr, ha, show (mendT t).cols = mendCols t.cols from rfl, h3]
  have e1 : decide ((mendCols t.cols).size = 0) = false := decide_eq_false (by omega)
  have e2 : decide (20 < (mendCols t.cols).size) = false := decide_eq_false (by omega)
  rw [e1, e2]; rfl
theorem TblS.ok {t : Tbl} (h : TblS t) : t.ok := ⟨by have := h.rows; omega, fun r hr => ⟨by have := (h.cells r hr).1; omega, fun c hc => by have := (h.cells r hr).2 c hc; omega⟩⟩
end Go.Proofs.YtlbjfjaleefiiaaDoor.Ev
end
section
namespace Go.Proofs.YtlbjfjaleefiiaaDoor.Ev
open Go
namespace Node
def kcnt (x : Node) : Nat := cntL x.kids
theorem cntL_eq (l : List Node) : cntL l = l.length + sumBy kcnt l := by
  induction l with
  | nil => rw [cntL]; rfl
  | cons x l ih => rw [cntL, cnt_eq, ih, sumBy, List.length_cons, kcnt]; omega
theorem cntL_kids {l : List Node} {x : Node} (h : x ∈ l) : cntL x.kids < cntL l := by
  have h1 := sumBy_mem' kcnt h
  have h2 : 0 < l.length := List.length_pos_of_mem h
  have h3 : kcnt x = cntL x.kids := rfl
  rw [cntL_eq l]; omega
end Node
set_option linter.unusedSimpArgs false in
set_option maxRecDepth 20000 in
set_option maxHeartbeats 4000000 in
theorem refCount : ∀ (n : Nat) (a : List Node), SizeOf.sizeOf a < n → Node.cntL a ≤ 1073741824 → PCon C0 49 [.sc (.sl (a.map Node.pv))] (.sc (.int .i64 (Node.cntL a : Nat))) := by
  intro n
  induction n with
  | zero => intro a h; omega
  | succ n ih =>
    intro a hn hl
    have hle := Node.cntL_eq a
    rw [hle] at hl ⊢
    refine penter49 ?_
    simp [Tryd.f49]
    refine loopC (fun d e H => ∃ (i : Nat) (x2 x8 : FV), d = a.length - i ∧ i ≤ a.length ∧ e = [(0, .sc (.sl (a.map Node.pv))), (2, x2), (3, .sc (.int .i64 (i + sumBy Node.kcnt (a.take i) : Nat))), (4, .sc (.int .i64 i)), (8, x8)]) (d := a.length) ⟨0, _, _, rfl, by omega, by simp [sumBy]; exact ⟨rfl, rfl⟩⟩ ?_
    rintro d e H ⟨i, x2, x8, rfl, hi, rfl⟩
    simp
    refine CondC.mk (fun hlt => ?_) (fun hlt => ?_)
    · simp at hlt
      have ea := Node.pv_eq a[i]
      have hk := ih a[i].kids (by have := Node.kids_lt (List.getElem_mem hlt); omega) (by have := Node.cntL_kids (List.getElem_mem hlt); omega)
      have ht := sumBy_take Node.kcnt hlt
      have hm := sumBy_take_le Node.kcnt a (i + 1)
      have hkc : Node.kcnt a[i] = Node.cntL a[i].kids := rfl
      generalize hS : sumBy Node.kcnt (a.take i) = S at *
      simp [hlt, ea, gl]
      refine CallQ.mk (Call.pure callable49 (by simp) (by simp) hk) ?_
      simp [wrapL]
      refine ⟨a.length - (i + 1), by omega, i + 1, rfl, by omega, by rw [wrap64 (by omega) (by omega)]; omega, by rw [wrap64 (by omega) (by omega)]; omega⟩
    · simp at hlt
      obtain rfl : i = a.length := by omega
      simp
def bareT (t : Tbl) : Bool := decide (t.cols = ByteArray.empty) && (t.rows.isEmpty && (!t.box && !t.all))
end Go.Proofs.YtlbjfjaleefiiaaDoor.Ev
end
section
namespace Go.Proofs.YtlbjfjaleefiiaaDoor.Ev
open Go
def okHas (x : Node) : Bool := (hasText x.kind || decide ((x.text.length : Int) = 0)) && ((hasKids x.kind || decide ((x.kids.length : Int) = 0)) && ((decide (x.kind = 6) || decide ((x.rows.length : Int) = 0)) && (hasN x.kind || decide (x.n = 0))))
def okN (inn : Int) (x : Node) : Bool := standsIn x.kind inn && (wholeN x && (decide (0 ≤ x.line) && (decide (x.line ≤ 1099511627775) && (decide (0 ≤ x.n) && (decide (x.n ≤ 200) && (sqzd x.text &&
  (okHas x && (if x.kind = 7 then rightT x.grid else bareT x.grid))))))))
mutual
def checkN (inn : Int) : Node → Bool
  | .mk kind line n text kids rows grid => okN inn (.mk kind line n text kids rows grid) && checkL kind kids
def checkL (inn : Int) : List Node → Bool
  | [] => true
  | x :: l => checkN inn x && checkL inn l
end
theorem checkN_eq (inn : Int) (x : Node) : checkN inn x = (okN inn x && checkL x.kind x.kids) := by cases x; rw [checkN]; rfl
theorem checkL_all (inn : Int) (l : List Node) : checkL inn l = l.all (checkN inn) := by
  induction l with
  | nil => rw [checkL]; rfl
  | cons x l ih => rw [checkL, ih]; rfl
end Go.Proofs.YtlbjfjaleefiiaaDoor.Ev
end
section
namespace Go.Proofs.YtlbjfjaleefiiaaDoor.Ev
open Go
@[simp] theorem range1 : ([0] = List.range 1) = True := eq_true rfl
@[simp] theorem range2 : ([0, 1] = List.range 2) = True := eq_true rfl
@[simp] theorem range3 : ([0, 1, 2] = List.range 3) = True := eq_true rfl
@[simp] theorem range4 : ([0, 1, 2, 3] = List.range 4) = True := eq_true rfl
@[simp] theorem sized_nil {n : Nat} : Sized n [] = True := eq_true fun p h => by simp at h
@[simp] theorem sized_int {k : IntKind} {n : Int} {l : List PV} : Sized 1 (PV.int k n :: l) = Sized 1 l := propext ⟨fun h p hp => h p (List.mem_cons_of_mem _ hp), fun h p hp => by
  rcases List.mem_cons.1 hp with rfl | hp
  · rfl
  · exact h p hp⟩
def pvi (k : Int) : PV := .int .i64 k
set_option linter.unusedSimpArgs false in
set_option maxRecDepth 20000 in
set_option maxHeartbeats 4000000 in
theorem refIn (k : Int) (l : List Int) (hl : l.length ≤ 1000) : PCon C0 66 [.sc (.int .i64 k), .sc (.sl (l.map pvi))] (.sc (.bool (decide (k ∈ l)))) := by
  refine penter66 ?_
  simp [Tryd.f66]
  refine loopC (fun d e H => ∃ (i : Nat) (x9 x17 : FV), d = l.length - i ∧ i ≤ l.length ∧ k ∉ l.take i ∧ e = [(0, .sc (.int .i64 k)), (1, .sc (.sl (l.map pvi))), (4, .sc (.bool false)), (5, .sc (.int .i64 i)), (9, x9), (17, x17)]) (d := l.length) ⟨0, _, _, rfl, by omega, by simp, rfl⟩ ?_
  rintro d e H ⟨i, x9, x17, rfl, hi, hno, rfl⟩
  simp
  refine CondC.mk (fun hlt => ?_) (fun hlt => ?_)
  · simp at hlt
    have ht := List.take_succ_eq_append_getElem hlt
    by_cases hk : l[i] = k
    · have hm : k ∈ l := hk ▸ List.getElem_mem hlt
      simp [hlt, pvi, hk, hm]
    · simp [hlt, pvi, hk]
      refine ⟨l.length - (i + 1), by omega, i + 1, rfl, by omega, ?_, by rw [wrap64 (by omega) (by omega)]; omega⟩
      rw [ht, List.mem_append]
      rintro (h | h)
      · exact hno h
      · rw [List.mem_singleton] at h; exact hk h.symm
  · simp at hlt
    rw [List.take_of_length_le hlt] at hno
    simp [hno]
set_option linter.unusedSimpArgs false in
set_option maxRecDepth 20000 in
set_option maxHeartbeats 4000000 in
theorem refStands (k i : Int) : PCon C0 63 [.sc (.int .i64 k), .sc (.int .i64 i)] (.sc (.bool (standsIn k i))) := by
  refine penter63 ?_
  by_cases h1 : k = 1
  · subst h1
    by_cases hi : i = 0 <;> simp [Tryd.f63, hi, standsIn]
  · by_cases h2 : k = 2
    · subst h2
      by_cases hi : i = 1 <;> simp [Tryd.f63, hi, standsIn]
    · by_cases h3 : 3 ≤ k <;> by_cases h7 : k ≤ 7 <;> simp [Tryd.f63, h1, h2, h3, h7, standsIn]
set_option linter.unusedSimpArgs false in
set_option maxRecDepth 20000 in
set_option maxHeartbeats 4000000 in
theorem refFull (x : Node) : PCon C0 64 [x.pv.toFV] (.sc (.bool (wholeN x))) := by
  refine penter64 ?_
  have i1 := refIn x.kind [1, 2, 3] (by simp)
  have hb : decide (x.kind ∈ [1, 2, 3]) = true ↔ x.kind = 1 ∨ x.kind = 2 ∨ x.kind = 3 := by simp
  generalize decide (x.kind ∈ [1, 2, 3]) = b at *
  rw [Node.pv_eq]
  simp [pvi] at i1
  simp [Tryd.f64, gl]
  refine CallQ.mk (Call.pure callable66 (by simp) (by simp) i1) ?_
  cases b
  rotate_left
  · have h123 := hb.1 rfl
    simp [h123, wholeN, ← len_pos]
  · have h123 : ¬ (x.kind = 1 ∨ x.kind = 2 ∨ x.kind = 3) := fun h => by have := hb.2 h; simp at this
    have e0 : wholeN x = (if x.kind = 5 then !x.kids.isEmpty else if x.kind = 6 then !x.rows.isEmpty else if x.kind = 7 then !x.grid.rows.isEmpty else decide (x.kind = 4)) := by unfold wholeN; rw [if_neg h123]
    rw [e0]
    clear hb
    clear i1 h123
    by_cases h5 : x.kind = 5
    · simp [h5, ← len_pos]
    · by_cases h6 : x.kind = 6
      · simp [h6, ← len_pos]
      · by_cases h4 : x.kind = 4
        · simp [h4]
        · by_cases h7 : x.kind = 7
          · simp [h7, ← len_pos]
          · simp [h4, h5, h6, h7]
theorem Doc.ext' {a b : Doc} (h1 : a.name = b.name) (h2 : a.part = b.part) (h3 : a.date = b.date) (h4 : a.source = b.source) (h5 : a.kids = b.kids) : a = b := by cases a; cases b; simp_all
noncomputable instance : DecidableEq Doc := fun _ _ => Classical.propDecidable _
set_option linter.unusedSimpArgs false in
set_option maxRecDepth 20000 in
set_option maxHeartbeats 4000000 in
theorem refSameDoc (a b : Doc) (hl : a.kids.length ≤ 4611686018427387904) (hok : ∀ x ∈ a.kids, x.Ok) : PCon C0 21 [a.pv.toFV, b.pv.toFV] (.sc (.bool (decide (a = b)))) := by
  have sm := refNodesSame _ a.kids (Nat.lt_succ_self _) hl hok b.kids
  refine penter21 ?_
  by_cases h1 : a.name = b.name
  rotate_left
  · have hn : a ≠ b := fun h => h1 (by rw [h])
    simp [Tryd.f21, Doc.pv, h1, hn]
  by_cases h2 : a.part = b.part
  rotate_left
  · have hn : a ≠ b := fun h => h2 (by rw [h])
    simp [Tryd.f21, Doc.pv, h1, h2, hn]
  by_cases h3 : a.date = b.date
  rotate_left
  · have hn : a ≠ b := fun h => h3 (by rw [h])
    simp [Tryd.f21, Doc.pv, h1, h2, h3, hn]
  by_cases h4 : a.source = b.source
  rotate_left
  · have hn : a ≠ b := fun h => h4 (by rw [h])
    simp [Tryd.f21, Doc.pv, h1, h2, h3, h4, hn]
  simp [Tryd.f21, Doc.pv, h1, h2, h3, h4]
  refine CallQ.mk (Call.pure callable30 (by simp) (by simp) sm) ?_
  have he : (a.kids = b.kids) = (a = b) := propext ⟨fun h5 => Doc.ext' h1 h2 h3 h4 h5, fun h => by rw [h]⟩
  simp [he]
def checkD (d : Doc) : Int := if 20000 < Node.cntL d.kids ∨ 20 < Node.deeps d.kids then 3 else if checkL 0 d.kids = true then 0 else 2
end Go.Proofs.YtlbjfjaleefiiaaDoor.Ev
end
section
namespace Go.Proofs.YtlbjfjaleefiiaaDoor.Ev
open Go
theorem mem1234 (k : Int) : decide (k ∈ [1, 2, 3, 4]) = hasText k := by
  unfold hasText
  rw [← Bool.decide_and]
  refine decide_eq_decide.2 ?_
  simp; omega
theorem mem45 (k : Int) : decide (k ∈ [4, 5]) = hasN k := by
  unfold hasN
  rw [← Bool.decide_or]
  refine decide_eq_decide.2 ?_
  simp
theorem mem1245 (k : Int) : decide (k ∈ [1, 2, 4, 5]) = hasKids k := by
  unfold hasKids
  rw [← Bool.decide_or, ← Bool.decide_or, ← Bool.decide_or]
  refine decide_eq_decide.2 ?_
  simp [or_assoc]
end Go.Proofs.YtlbjfjaleefiiaaDoor.Ev
end
section
namespace Go.Proofs.YtlbjfjaleefiiaaDoor.Ev
open Go
theorem whole_kids {y : Node} (l : List Node) (h : y.kind ≠ 5) : wholeN (y.withKids l) = wholeN y := by
  by_cases h1 : y.kind = 1 ∨ y.kind = 2 ∨ y.kind = 3
  · simp [wholeN, h1]
  · simp [wholeN, h1, h]; rfl
theorem whole_five {y : Node} (x : Node) (l : List Node) (h : y.kind = 5) : wholeN (y.withKids (x :: l)) = true := by
  unfold wholeN
  simp [h]
theorem ownN_kind (x : Node) (k : Int) : (ownN x k).kind = k := rfl
theorem ownN_kids (x : Node) (k : Int) : (ownN x k).kids = [] := rfl
end Go.Proofs.YtlbjfjaleefiiaaDoor.Ev
end
section
namespace Go.Proofs.YtlbjfjaleefiiaaDoor.Ev
open Go
def rA (inn : Int) (x : Node) : Bool := standsIn x.kind inn && (wholeN x && (decide (0 ≤ x.line) && (decide (x.line ≤ 1099511627775) && sqzd x.text)))
def rB (x : Node) : Bool := decide (0 ≤ x.n) && (decide (x.n ≤ 200) && ((hasN x.kind || decide (x.n ≤ 0)) && ((hasText x.kind || decide (x.text = [])) && (hasKids x.kind || decide (x.kids = [])))))
def rC (x : Node) : Bool := (decide (x.kind = 6) || decide (x.rows = [])) && (if x.kind = 7 then rightT x.grid else bareT x.grid)
theorem okN_parts (inn : Int) (x : Node) : okN inn x = (rA inn x && (rB x && rC x)) := by
  unfold okN rA rB rC okHas
  have e0 : decide (x.n ≤ 0) = (decide (x.n < 0) || decide (x.n = 0)) := by
    rw [← Bool.decide_or]; refine decide_eq_decide.2 ?_; omega
  have e1 : decide (0 ≤ x.n) = !decide (x.n < 0) := by
    rw [← decide_not]; refine decide_eq_decide.2 ?_; omega
  have l1 : decide ((x.text.length : Int) = 0) = decide (x.text = []) := by refine decide_eq_decide.2 ?_; simp
  have l2 : decide ((x.kids.length : Int) = 0) = decide (x.kids = []) := by refine decide_eq_decide.2 ?_; simp
  have l3 : decide ((x.rows.length : Int) = 0) = decide (x.rows = []) := by refine decide_eq_decide.2 ?_; simp
  rw [e0, e1, l1, l2, l3]
  generalize (if x.kind = 7 then rightT x.grid else bareT x.grid) = g
  generalize standsIn x.kind inn = b1
  generalize wholeN x = b2
  generalize decide (0 ≤ x.line) = b3
  generalize decide (x.line ≤ 1099511627775) = b4
  generalize decide (x.n < 0) = b5
  generalize decide (x.n ≤ 200) = b6
  generalize sqzd x.text = b7
  generalize hasText x.kind = b8
  generalize hasKids x.kind = b9
  generalize decide (x.kind = 6) = b10
  generalize hasN x.kind = b11
  generalize decide (x.n = 0) = b12
  generalize decide (x.text = []) = b13
  generalize decide (x.kids = []) = b14
  generalize decide (x.rows = []) = b15
  cases b1 <;> cases b2 <;> cases b3 <;> cases b4 <;> cases b5 <;> cases b6 <;> cases b7 <;> simp
  cases b8 <;> cases b9 <;> cases b10 <;> cases b11 <;> cases b12 <;> cases b13 <;> cases b14 <;> cases b15 <;> simp
end Go.Proofs.YtlbjfjaleefiiaaDoor.Ev
end
section
namespace Go.Proofs.YtlbjfjaleefiiaaDoor.Ev
open Go
set_option linter.unusedSimpArgs false in
set_option maxRecDepth 20000 in
set_option maxHeartbeats 8000000 in
theorem refRightN : ∀ (n : Nat) (x : Node), SizeOf.sizeOf x < n → x.Small → ∀ inn : Int, PCon C0 51 [x.pv.toFV, .sc (.int .i64 inn)] (.sc (.bool (checkN inn x))) := by
  intro n
  induction n with
  | zero => intro x h; omega
  | succ n ih =>
    intro x hn hx inn
    refine penter51 ?_
    have ea := Node.pv_eq x
    have fu := refFull x
    have st := refStands x.kind inn
    have sq := refSqueezed x.text hx.text
    have rt := refRight x.grid hx.tbl
    have i2 := refIn x.kind [4, 5] (by simp)
    have i4 := refIn x.kind [1, 2, 3, 4] (by simp)
    have i5 := refIn x.kind [1, 2, 4, 5] (by simp)
    rw [mem45] at i2
    rw [mem1234] at i4
    rw [mem1245] at i5
    have hce : checkN inn x = (okN inn x && checkL x.kind x.kids) := checkN_eq inn x
    rw [okN_parts] at hce
    have kid : ∀ y ∈ x.kids, PCon C0 51 [y.pv.toFV, .sc (.int .i64 x.kind)] (.sc (.bool (checkN x.kind y))) := fun y hy => ih y (by cases x; simp at hy hn; have := List.sizeOf_lt_of_mem hy; omega) (hx.kids.2 y hy) x.kind
    have hkl := hx.kids.1
    rw [ea] at fu ⊢
    simp [gl, Tbl.pv, pvi] at fu sq rt i2 i4 i5
    simp [Tryd.f51, gl, -KSeq_normal]
    rw [KSeq_normal, wpC_seq]
    refine seq_cut (E := [(0, FV.agg [.sc (.int .i64 x.kind), .sc (.int .i64 x.line), .sc (.int .i64 x.n), .sc (.sl (x.text.map Glyph.pv)), .sc (.sl (x.kids.map Node.pv)), .sc (.sl (x.rows.map gl)), .sc (.str x.grid.cols), .sc (.sl (x.grid.rows.map TRow.pv)), .sc (.bool x.grid.box), .sc (.bool x.grid.all)]), (1, .sc (.int .i64 inn)), (2, .ptr 0 0), (4, .sc (.bool false)), (5, .undef), (6, .undef), (32, .sc (.bool (!rA inn x))), (78, .undef), (130, .undef), (135, .undef), (146, .undef)]) (H₁ := [[.sc (.int .i64 x.kind), .sc (.int .i64 x.line), .sc (.int .i64 x.n), .sc (.sl (x.text.map Glyph.pv)), .sc (.sl (x.kids.map Node.pv)), .sc (.sl (x.rows.map gl)), .sc (.str x.grid.cols), .sc (.sl (x.grid.rows.map TRow.pv)), .sc (.bool x.grid.box), .sc (.bool x.grid.all)]]) ?_ ?_
    · unfold rA
      simp
      refine CallQ.mk (Call.pure callable63 (by simp) (by simp) st) ?_
      cases standsIn x.kind inn
      · simp
      simp
      refine CallQ.mk (Call.pure callable64 (by simp) (by simp) fu) ?_
      cases wholeN x
      · simp
      simp
      by_cases l0 : 0 ≤ x.line
      rotate_left
      · have l0' : x.line < 0 := by omega
        simp [l0, l0']
      have l0' : ¬ x.line < 0 := by omega
      by_cases l1 : x.line ≤ 1099511627775
      rotate_left
      · have l1' : 1099511627775 < x.line := by omega
        simp [l0, l0', l1, l1']
      have l1' : ¬ 1099511627775 < x.line := by omega
      simp [l0, l0', l1, l1']
      refine CallQ.mk (Call.pure callable65 (by simp) (by simp) sq) ?_
      simp
    cases hA : rA inn x
    · simp [hce, hA]
    simp [-KSeq_normal]
    rw [KSeq_normal, wpC_seq]
    refine seq_cut (E := [(0, FV.agg [.sc (.int .i64 x.kind), .sc (.int .i64 x.line), .sc (.int .i64 x.n), .sc (.sl (x.text.map Glyph.pv)), .sc (.sl (x.kids.map Node.pv)), .sc (.sl (x.rows.map gl)), .sc (.str x.grid.cols), .sc (.sl (x.grid.rows.map TRow.pv)), .sc (.bool x.grid.box), .sc (.bool x.grid.all)]), (1, .sc (.int .i64 inn)), (2, .ptr 0 0), (4, .sc (.bool false)), (5, .undef), (6, .undef), (32, .sc (.bool false)), (78, .sc (.bool (!rB x))), (130, .undef), (135, .undef), (146, .undef)]) (H₁ := [[.sc (.int .i64 x.kind), .sc (.int .i64 x.line), .sc (.int .i64 x.n), .sc (.sl (x.text.map Glyph.pv)), .sc (.sl (x.kids.map Node.pv)), .sc (.sl (x.rows.map gl)), .sc (.str x.grid.cols), .sc (.sl (x.grid.rows.map TRow.pv)), .sc (.bool x.grid.box), .sc (.bool x.grid.all)]]) ?_ ?_
    · unfold rB
      by_cases n0 : 0 ≤ x.n
      rotate_left
      · have n0' : x.n < 0 := by omega
        simp [n0, n0']
      have n0' : ¬ x.n < 0 := by omega
      by_cases n1 : x.n ≤ 200
      rotate_left
      · have n1' : 200 < x.n := by omega
        simp [n0, n0', n1, n1']
      have n1' : ¬ 200 < x.n := by omega
      have p1 : ¬ x.text = [] → (0 : Int) < x.text.length ∧ 0 < x.text.length := fun h => by have := List.length_pos_iff.2 h; omega
      have p2 : ¬ x.kids = [] → (0 : Int) < x.kids.length ∧ 0 < x.kids.length := fun h => by have := List.length_pos_iff.2 h; omega
      by_cases n2 : 0 < x.n
      · have n2' : ¬ x.n ≤ 0 := by omega
        simp [n0, n0', n1, n1', n2, n2']
        refine CallQ.mk (Call.pure callable66 (by simp) (by simp) i2) ?_
        cases hasN x.kind
        · simp
        by_cases t0 : x.text = []
        · by_cases k0 : x.kids = []
          · simp [t0, k0]
          · simp [t0, k0, p2 k0]
            refine CallQ.mk (Call.pure callable66 (by simp) (by simp) i5) ?_
            cases hasKids x.kind <;> simp
        · simp [t0, p1 t0]
          refine CallQ.mk (Call.pure callable66 (by simp) (by simp) i4) ?_
          cases hasText x.kind
          · simp
          by_cases k0 : x.kids = []
          · simp [k0]
          · simp [k0, p2 k0]
            refine CallQ.mk (Call.pure callable66 (by simp) (by simp) i5) ?_
            cases hasKids x.kind <;> simp
      · have n2' : x.n ≤ 0 := by omega
        by_cases t0 : x.text = []
        · by_cases k0 : x.kids = []
          · simp [n0, n0', n1, n1', n2, n2', t0, k0]
          · simp [n0, n0', n1, n1', n2, n2', t0, k0, p2 k0]
            refine CallQ.mk (Call.pure callable66 (by simp) (by simp) i5) ?_
            cases hasKids x.kind <;> simp
        · simp [n0, n0', n1, n1', n2, n2', t0, p1 t0]
          refine CallQ.mk (Call.pure callable66 (by simp) (by simp) i4) ?_
          cases hasText x.kind
          · simp
          by_cases k0 : x.kids = []
          · simp [k0]
          · simp [k0, p2 k0]
            refine CallQ.mk (Call.pure callable66 (by simp) (by simp) i5) ?_
            cases hasKids x.kind <;> simp
    cases hB : rB x
    · simp [hce, hA, hB]
    simp [-KSeq_normal]
    rw [KSeq_normal]
    refine seq_cut (E := [(0, FV.agg [.sc (.int .i64 x.kind), .sc (.int .i64 x.line), .sc (.int .i64 x.n), .sc (.sl (x.text.map Glyph.pv)), .sc (.sl (x.kids.map Node.pv)), .sc (.sl (x.rows.map gl)), .sc (.str x.grid.cols), .sc (.sl (x.grid.rows.map TRow.pv)), .sc (.bool x.grid.box), .sc (.bool x.grid.all)]), (1, .sc (.int .i64 inn)), (2, .ptr 0 0), (4, .sc (.bool false)), (5, .sc (.bool (bareT x.grid))), (6, .undef), (32, .sc (.bool false)), (78, .sc (.bool false)), (130, .undef), (135, .undef), (146, .undef)]) (H₁ := [[.sc (.int .i64 x.kind), .sc (.int .i64 x.line), .sc (.int .i64 x.n), .sc (.sl (x.text.map Glyph.pv)), .sc (.sl (x.kids.map Node.pv)), .sc (.sl (x.rows.map gl)), .sc (.str x.grid.cols), .sc (.sl (x.grid.rows.map TRow.pv)), .sc (.bool x.grid.box), .sc (.bool x.grid.all)]]) ?_ ?_
    · have he : (ByteArray.empty = (⟨#[]⟩ : ByteArray)) = True := eq_true rfl
      by_cases h1 : x.grid.cols = ByteArray.empty
      · by_cases h2 : x.grid.rows = []
        · cases h3 : x.grid.box
          · simp [h1, h2, h3, bareT, he]
          · simp [h1, h2, h3, bareT, he]
        · have h2' : ¬ (x.grid.rows.length : Int) = 0 := by have := List.length_pos_iff.2 h2; omega
          simp [h1, h2, h2', bareT, he]
      · have h1' : ¬ x.grid.cols = (⟨#[]⟩ : ByteArray) := h1
        simp [h1', bareT, h1]
    rw [wpC_seq]
    refine seq_cut (E := [(0, FV.agg [.sc (.int .i64 x.kind), .sc (.int .i64 x.line), .sc (.int .i64 x.n), .sc (.sl (x.text.map Glyph.pv)), .sc (.sl (x.kids.map Node.pv)), .sc (.sl (x.rows.map gl)), .sc (.str x.grid.cols), .sc (.sl (x.grid.rows.map TRow.pv)), .sc (.bool x.grid.box), .sc (.bool x.grid.all)]), (1, .sc (.int .i64 inn)), (2, .ptr 0 0), (4, .sc (.bool false)), (5, .sc (.bool (bareT x.grid))), (6, .undef), (32, .sc (.bool false)), (78, .sc (.bool false)), (130, .sc (.bool (!rC x))), (135, .undef), (146, .undef)]) (H₁ := [[.sc (.int .i64 x.kind), .sc (.int .i64 x.line), .sc (.int .i64 x.n), .sc (.sl (x.text.map Glyph.pv)), .sc (.sl (x.kids.map Node.pv)), .sc (.sl (x.rows.map gl)), .sc (.str x.grid.cols), .sc (.sl (x.grid.rows.map TRow.pv)), .sc (.bool x.grid.box), .sc (.bool x.grid.all)]]) ?_ ?_
    · have p3 : ¬ x.rows = [] → (0 : Int) < x.rows.length ∧ 0 < x.rows.length := fun h => by have := List.length_pos_iff.2 h; omega
      by_cases r0 : x.rows = []
      · by_cases k7 : x.kind = 7
        · simp [r0, k7, rC]
          refine CallQ.mk (Call.pure callable67 (by simp) (by simp) rt) ?_
          cases rightT x.grid <;> simp
        · simp [r0, k7, rC]
      · by_cases k6 : x.kind = 6
        · simp [r0, p3 r0, k6, rC]
        · simp [r0, p3 r0, k6, rC]
    cases hC : rC x
    · simp [hce, hA, hB, hC]
    rw [hA, hB, hC, checkL_all] at hce
    simp only [Bool.true_and] at hce
    rw [hce]
    obtain ⟨b, hb⟩ : ∃ b, x.kids.all (checkN x.kind) = b := ⟨_, rfl⟩
    rw [hb]
    clear hce
    clear st sq rt i2 i4 i5 fu
    simp
    refine loopC (fun d e H => ∃ (i : Nat) (x135 x146 : FV), d = x.kids.length - i ∧ i ≤ x.kids.length ∧ (∀ y ∈ x.kids.take i, checkN x.kind y = true) ∧ H = [[.sc (.int .i64 x.kind), .sc (.int .i64 x.line), .sc (.int .i64 x.n), .sc (.sl (x.text.map Glyph.pv)), .sc (.sl (x.kids.map Node.pv)), .sc (.sl (x.rows.map gl)), .sc (.str x.grid.cols), .sc (.sl (x.grid.rows.map TRow.pv)), .sc (.bool x.grid.box), .sc (.bool x.grid.all)]] ∧ e = [(0, FV.agg [.sc (.int .i64 x.kind), .sc (.int .i64 x.line), .sc (.int .i64 x.n), .sc (.sl (x.text.map Glyph.pv)), .sc (.sl (x.kids.map Node.pv)), .sc (.sl (x.rows.map gl)), .sc (.str x.grid.cols), .sc (.sl (x.grid.rows.map TRow.pv)), .sc (.bool x.grid.box), .sc (.bool x.grid.all)]), (1, .sc (.int .i64 inn)), (2, .ptr 0 0), (4, .sc (.bool false)), (5, .sc (.bool (bareT x.grid))), (6, .sc (.int .i64 i)), (32, .sc (.bool false)), (78, .sc (.bool false)), (130, .sc (.bool false)), (135, x135), (146, x146)]) (d := x.kids.length)
      ⟨0, _, _, rfl, by omega, by simp, rfl, rfl⟩ ?_
    rintro d e H ⟨i, x135, x146, rfl, hi, hal, rfl, rfl⟩
    simp
    refine CondC.mk (fun hlt => ?_) (fun hlt => ?_)
    · simp at hlt
      have hq : x.kids[i]? = some x.kids[i] := List.getElem?_eq_getElem hlt
      have kc := kid _ (List.getElem_mem hlt)
      have ek := Node.pv_eq x.kids[i]
      rw [ek] at kc
      simp [gl] at kc
      simp [hlt, hq, ek, gl]
      refine CallQ.mk (CallP.pure callable51 (by simp) (by simp) kc) ?_
      cases hc : checkN x.kind x.kids[i]
      · have hno : b = false := by
          rw [← hb, List.all_eq_false]
          exact ⟨_, List.getElem_mem hlt, by simp [hc]⟩
        subst hno
        simp
      · simp
        refine ⟨x.kids.length - (i + 1), by omega, i + 1, rfl, by omega, ?_, by rw [wrap64 (by omega) (by omega)]; omega⟩
        rw [List.take_succ_eq_append_getElem hlt]
        intro y hy
        rcases List.mem_append.1 hy with h | h
        · exact hal y h
        · rw [List.mem_singleton.1 h]; exact hc
    · simp at hlt
      rw [List.take_of_length_le hlt] at hal
      obtain rfl : b = true := by rw [← hb, List.all_eq_true]; exact hal
      simp
set_option linter.unusedSimpArgs false in
set_option maxRecDepth 20000 in
set_option maxHeartbeats 4000000 in
theorem refCheckD (d : Doc) (hc : Node.cntL d.kids ≤ 1073741824) (hl : d.kids.length ≤ 1073741824) (hs : ∀ x ∈ d.kids, x.Small) (hdp : PCon C0 50 [.sc (.sl (d.kids.map Node.pv))] (.sc (.int .i64 (Node.deeps d.kids)))) : PCon C0 25 [d.pv.toFV] (.sc (.int .i64 (checkD d))) := by
  have c1 := refCount _ d.kids (Nat.lt_succ_self _) hc
  refine penter25 ?_
  simp [Tryd.f25, Doc.pv]
  refine CallQ.mk (Call.pure callable49 (by simp) (by simp) c1) ?_
  by_cases h1 : 20000 < Node.cntL d.kids
  · have h1' : (20000 : Int) < Node.cntL d.kids := by omega
    simp [h1', checkD, h1]
  · have h1' : ¬ (20000 : Int) < Node.cntL d.kids := by omega
    simp [h1']
    refine CallQ.mk (Call.pure callable50 (by simp) (by simp) hdp) ?_
    by_cases h2 : 20 < Node.deeps d.kids
    · have h2' : (20 : Int) < Node.deeps d.kids := by omega
      simp [h2', checkD, h2]
    · have h2' : ¬ (20 : Int) < Node.deeps d.kids := by omega
      have hce : checkD d = if d.kids.all (checkN 0) = true then 0 else 2 := by
        unfold checkD
        rw [if_neg (by omega), checkL_all]
      obtain ⟨b, hb⟩ : ∃ b, d.kids.all (checkN 0) = b := ⟨_, rfl⟩
      rw [hce, hb]
      clear hce
      simp [h2']
      refine loopC (fun dd e H => ∃ (i : Nat) (x18 x27 : FV), dd = d.kids.length - i ∧ i ≤ d.kids.length ∧ (∀ y ∈ d.kids.take i, checkN 0 y = true) ∧ H = [[.sc (.str d.name), .sc (.str d.part), .sc (.str d.date), .sc (.str d.source), .sc (.sl (d.kids.map Node.pv))]] ∧
        e = [(0, FV.agg [.sc (.str d.name), .sc (.str d.part), .sc (.str d.date), .sc (.str d.source), .sc (.sl (d.kids.map Node.pv))]), (1, .ptr 0 0), (2, .sc (.int .i64 0)), (3, .sc (.int .i64 i)), (13, .sc (.bool false)), (18, x18), (27, x27)]) (d := d.kids.length)
        ⟨0, _, _, rfl, by omega, by simp, rfl, rfl⟩ ?_
      rintro dd e H ⟨i, x18, x27, rfl, hi, hal, rfl, rfl⟩
      simp
      refine CondC.mk (fun hlt => ?_) (fun hlt => ?_)
      · simp at hlt
        have hq : d.kids[i]? = some d.kids[i] := List.getElem?_eq_getElem hlt
        have kc := refRightN _ d.kids[i] (Nat.lt_succ_self _) (hs _ (List.getElem_mem hlt)) 0
        have ek := Node.pv_eq d.kids[i]
        rw [ek] at kc
        simp [gl] at kc
        simp [hlt, hq, ek, gl]
        refine CallQ.mk (Call.pure callable51 (by simp) (by simp) kc) ?_
        cases hc : checkN 0 d.kids[i]
        · have hno : b = false := by
            rw [← hb, List.all_eq_false]
            exact ⟨_, List.getElem_mem hlt, by simp [hc]⟩
          subst hno
          simp
        · simp
          refine ⟨d.kids.length - (i + 1), by omega, i + 1, rfl, by omega, ?_, by rw [wrap64 (by omega) (by omega)]; omega⟩
          rw [List.take_succ_eq_append_getElem hlt]
          intro y hy
          rcases List.mem_append.1 hy with h | h
          · exact hal y h
          · rw [List.mem_singleton.1 h]; exact hc
      · simp at hlt
        rw [List.take_of_length_le hlt] at hal
        obtain rfl : b = true := by rw [← hb, List.all_eq_true]; exact hal
        simp
end Go.Proofs.YtlbjfjaleefiiaaDoor.Ev
end
section
namespace Go.Proofs.YtlbjfjaleefiiaaDoor.Ev
open Go
theorem sumBy_cons {α : Type} (f : α → Nat) (x : α) (l : List α) : sumBy f (x :: l) = f x + sumBy f l := rfl
theorem squeeze_len (l : List Glyph) : (squeeze l).length ≤ 2 * l.length := sqAll_len l
theorem cellM_sum (r : TRow) (n : Nat) : sumBy List.length ((List.range n).map (cellM r)) ≤ 2 * sumBy List.length r.cells := by
  have key : ∀ m, sumBy List.length ((List.range m).map (cellM r)) ≤ 2 * sumBy List.length (r.cells.take m) := by
    intro m
    induction m with
    | zero => simp [sumBy]
    | succ m ih =>
      rw [List.range_succ, List.map_append, sumBy_append]
      simp only [List.map_cons, List.map_nil, sumBy]
      by_cases hm : m < r.cells.length
      · rw [sumBy_take _ hm]
        have e : cellM r m = squeeze r.cells[m] := by simp [cellM, hm]
        rw [e]
        have := squeeze_len r.cells[m]
        omega
      · have e : cellM r m = [] := by simp [cellM, hm]
        rw [e]
        rw [List.take_of_length_le (by omega)] at ih
        rw [List.take_of_length_le (by omega)]
        simp; omega
  have := key n; have := sumBy_take_le List.length r.cells n; omega
theorem mendRow_long (n : Nat) (hn : n ≤ 20) (r : TRow) : trowLong (mendRow n r) ≤ 2 * trowLong r + 20 := by
  rw [mendRow_eq]
  unfold trowLong
  cases hr : r.rule
  · have := cellM_sum r n
    simp; omega
  · simp [sumBy]
theorem mendT_long (t : Tbl) : (mendT t).cols.size + sumBy trowLong (mendT t).rows ≤ 20 + 22 * sumBy trowLong t.rows := by
  obtain ⟨c1, c2, c3⟩ := mendCols_ok t.cols
  have key : ∀ l : List TRow, sumBy trowLong (l.map (mendRow (mendCols t.cols).size)) ≤ 22 * sumBy trowLong l := by
    intro l
    induction l with
    | nil => simp [sumBy]
    | cons r l ih =>
      rw [List.map_cons, sumBy_cons, sumBy_cons]
      have := mendRow_long _ c2 r
      have : 1 ≤ trowLong r := by unfold trowLong; omega
      omega
  have := key t.rows
  show (mendCols t.cols).size + sumBy trowLong (t.rows.map _) ≤ _
  omega
def Node.own1 (x : Node) : Nat := 3 + x.text.length + x.grid.cols.size + rowsLong x.rows + sumBy trowLong x.grid.rows
theorem Node.long_own (x : Node) : x.long = x.own1 + sumBy Node.long x.kids := by rw [Node.long_eq, Node.own1]; omega
theorem ownN_long (x : Node) (k : Int) : (ownN x k).own1 ≤ 24 * x.own1 := by
  have h1 := squeeze_len x.text
  have h2 := mendT_long x.grid
  unfold ownN Node.own1
  simp only [Node.text_mk, Node.rows_mk, Node.grid_mk]
  have e1 : (if hasText k = true then squeeze x.text else []).length ≤ 2 * x.text.length := by
    split
    · exact h1
    · exact Nat.zero_le _
  have e2 : rowsLong (if k = 6 then x.rows else []) ≤ rowsLong x.rows := by
    split
    · omega
    · simp [rowsLong, sumBy]
  have e3 : (if k = 7 then mendT x.grid else noTbl).cols.size + sumBy trowLong (if k = 7 then mendT x.grid else noTbl).rows ≤ 20 + 22 * sumBy trowLong x.grid.rows := by
    split
    · exact h2
    · simp [noTbl, sumBy]
  omega
theorem own1_wk (x : Node) (l : List Node) : (x.withKids l).own1 = x.own1 := rfl
theorem tidy_long : ∀ (n : Nat) (l : List Node), SizeOf.sizeOf l < n → ∀ inn d k, sumBy Node.long (tidyL inn d k l).1 ≤ 24 * sumBy Node.long l := by
  intro n
  induction n with
  | zero => intro l h; omega
  | succ n ih =>
    intro l hn inn d k
    cases l with
    | nil => rw [tidyL]; simp [sumBy]
    | cons x l =>
      have hx : SizeOf.sizeOf x.kids < n ∧ SizeOf.sizeOf l < n := by
        cases x; simp at hn ⊢; omega
      rw [tidyL, sumBy_cons]
      split
      · simp [sumBy]
      · split
        · have := ih l hx.2 inn d k; omega
        · have h1 : sumBy Node.long (tidyN inn d k x).1 ≤ 24 * x.long := by
            rw [tidyN_eq, Node.long_own x]
            have h1 := ih x.kids hx.1 inn d (k - 1)
            have h2 := ih x.kids hx.1 x.kind (d + 1) (k - 1)
            have o1 := ownN_long x 3
            have o2 := ownN_long x x.kind
            have z1 : (ownN x 3).long = (ownN x 3).own1 := by rw [Node.long_own, ownN_kids]; rfl
            have z2 : (ownN x x.kind).long = (ownN x x.kind).own1 := by rw [Node.long_own, ownN_kids]; rfl
            have z3 : ∀ m : List Node, ((ownN x x.kind).withKids m).long = (ownN x x.kind).own1 + sumBy Node.long m := fun m => by rw [Node.long_own, own1_wk, Node.kids_wk]
            split
            · simp only [sumBy_append]
              split
              · simp only [sumBy]; omega
              · simp only [sumBy]; omega
            · split
              · simp only
                split <;> split
                all_goals
                  try simp only [sumBy, z3]
                  omega
              · split
                · simp only [sumBy]; omega
                · simp only [sumBy]; omega
          have h2 := ih l hx.2 inn d (tidyN inn d k x).2
          simp only [sumBy_append]; omega
theorem Node.Small.ok : ∀ (n : Nat) (x : Node), SizeOf.sizeOf x < n → x.Small → x.Ok := by
  intro n
  induction n with
  | zero => intro x h; omega
  | succ n ih =>
    intro x hn hx
    obtain ⟨kind, line, m, text, kids, rows, grid⟩ := x
    have h1 := hx.text
    have h2 := hx.kids
    have h3 := hx.rows
    simp at h1 h2 h3
    refine .mk (by omega) (by omega) (fun y hy => ih y ?_ (h2.2 y hy)) (by omega) (fun r hr => by have := h3.2 r hr; omega) hx.tbl.ok
    simp at hn; have := List.sizeOf_lt_of_mem hy; omega
theorem small_of {l : List Node} (h : sumBy Node.long l ≤ 1073741824) : ∀ x ∈ l, x.Small := fun x hx => by
  have := long_mem hx; unfold Node.Small; omega
theorem ok_of {l : List Node} (h : sumBy Node.long l ≤ 1073741824) : ∀ x ∈ l, x.Ok := fun x hx => Node.Small.ok _ x (Nat.lt_succ_self _) (small_of h x hx)
end Go.Proofs.YtlbjfjaleefiiaaDoor.Ev
end
section
namespace Go.Proofs.YtlbjfjaleefiiaaDoor.Ev
open Go
theorem refDeep' (l : List Node) (h : sumBy Node.long l ≤ 1073741824) : PCon C0 50 [.sc (.sl (l.map Node.pv))] (.sc (.int .i64 (Node.deeps l))) := by
  have hl : l.length ≤ 1073741824 := Nat.le_trans (len_le_long _) h
  have hd := refDeep _ l (Nat.lt_succ_self _) (by omega) (ok_of h)
  have hcl := Node.cnt_long _ l (Nat.lt_succ_self _)
  have hdc := Node.deeps_cnt _ l (Nat.lt_succ_self _)
  rwa [Node.deepsW_eq _ l (Nat.lt_succ_self _) (by omega)] at hd
end Go.Proofs.YtlbjfjaleefiiaaDoor.Ev
end
section
namespace Go.Proofs.YtlbjfjaleefiiaaDoor.Ev
open Go
namespace Node
theorem cntL_append (l m : List Node) : cntL (l ++ m) = cntL l + cntL m := by
  induction l with
  | nil => simp [cntL]
  | cons x l ih => rw [List.cons_append, cntL, cntL, ih]; omega
theorem cntL_cons (x : Node) (l : List Node) : cntL (x :: l) = 1 + cntL x.kids + cntL l := by rw [cntL, cnt_eq]
theorem cntL_nil : cntL [] = 0 := by rw [cntL]
theorem deeps_cons (x : Node) (l : List Node) : deeps (x :: l) = max (1 + deeps x.kids) (deeps l) := by rw [deeps, deep_eq]
theorem deeps_nil : deeps [] = 0 := by rw [deeps]
theorem sz_kids {x : Node} {l : List Node} {n : Nat} (hn : SizeOf.sizeOf (x :: l) < n + 1) : SizeOf.sizeOf x.kids < n ∧ SizeOf.sizeOf l < n := by
  cases x; simp at hn ⊢; omega
end Node
theorem tidyN_ind {n : Nat} {P : Int → Int → Nat → List Node → List Node × Nat → Prop} (x : Node) (inn d : Int) (k : Nat)
    (hA : (x.kind = 1 ∨ x.kind = 2) ∧ standsIn x.kind inn = false → P inn d k [x] ((if wholeN (ownN x 3) = true then [ownN x 3] else []) ++ (tidyL inn d (k - 1) x.kids).1, (tidyL inn d (k - 1) x.kids).2))
    (hB : ¬((x.kind = 1 ∨ x.kind = 2) ∧ standsIn x.kind inn = false) → hasKids x.kind = true → wholeN ((ownN x x.kind).withKids (tidyL x.kind (d + 1) (k - 1) x.kids).1) = true → P inn d k [x] ([(ownN x x.kind).withKids (tidyL x.kind (d + 1) (k - 1) x.kids).1], (tidyL x.kind (d + 1) (k - 1) x.kids).2))
    (hB0 : hasKids x.kind = true → (tidyL x.kind (d + 1) (k - 1) x.kids).1 = [] → P inn d k [x] ([], (tidyL x.kind (d + 1) (k - 1) x.kids).2))
    (hC : hasKids x.kind = true → P inn d k [x] (tidyL inn d (k - 1) x.kids))
    (hD : hasKids x.kind = false → P inn d k [x] (if wholeN (ownN x x.kind) = true then [ownN x x.kind] else [], k - 1)) : P inn d k [x] (tidyN inn d k x) := by
  rw [tidyN_eq]
  by_cases h1 : (x.kind = 1 ∨ x.kind = 2) ∧ standsIn x.kind inn = false
  · rw [if_pos h1]; exact hA h1
  rw [if_neg h1]
  cases hk : hasKids x.kind
  · simp only [Bool.false_eq_true, if_false]
    exact hD hk
  simp only [if_true]
  by_cases h5 : x.kind = 5
  · have hz : wholeN ((ownN x x.kind).withKids [Node.zero]) = true := whole_five _ _ h5
    rw [if_pos hz]
    by_cases hw : wholeN ((ownN x x.kind).withKids (tidyL x.kind (d + 1) (k - 1) x.kids).1) = true
    · rw [if_pos hw]; exact hB h1 hk hw
    · rw [if_neg hw]
      have hr : (tidyL x.kind (d + 1) (k - 1) x.kids).1 = [] := by
        simp [wholeN, ownN_kind, h5] at hw ⊢
        exact hw
      have := hB0 hk hr
      rw [hr]
      exact this
  · have hz : ∀ l, wholeN ((ownN x x.kind).withKids l) = wholeN (ownN x x.kind) := fun l => whole_kids l h5
    by_cases hw : wholeN (ownN x x.kind) = true
    · have h2 : wholeN ((ownN x x.kind).withKids (tidyL x.kind (d + 1) (k - 1) x.kids).1) = true := by rw [hz]; exact hw
      have h0 : wholeN ((ownN x x.kind).withKids [Node.zero]) = true := by rw [hz]; exact hw
      rw [if_pos h0, if_pos h2]
      exact hB h1 hk h2
    · have h0 : ¬ wholeN ((ownN x x.kind).withKids [Node.zero]) = true := by rw [hz]; exact hw
      have h2 : ¬ wholeN ((ownN x x.kind).withKids (tidyL inn d (k - 1) x.kids).1) = true := by rw [hz]; exact hw
      rw [if_neg h0, if_neg h2]
      exact hC hk
theorem tidy_count : ∀ (n : Nat) (l : List Node), SizeOf.sizeOf l < n → ∀ inn d k, Node.cntL (tidyL inn d k l).1 + (tidyL inn d k l).2 ≤ k ∧ Node.cntL (tidyL inn d k l).1 ≤ Node.cntL l ∧ Node.deeps (tidyL inn d k l).1 ≤ Node.deeps l ∧ (d ≤ 20 → d + Node.deeps (tidyL inn d k l).1 ≤ 20) := by
  intro n
  induction n with
  | zero => intro l h; omega
  | succ n ih =>
    intro l hn inn d k
    cases l with
    | nil => rw [tidyL]; simp [Node.cntL_nil, Node.deeps_nil]
    | cons x l =>
      obtain ⟨hx1, hx2⟩ := Node.sz_kids hn
      rw [tidyL, Node.cntL_cons, Node.deeps_cons]
      split
      · simp [Node.cntL_nil, Node.deeps_nil]
      · split
        · have := ih l hx2 inn d k; omega
        · have h1 := tidyN_ind (n := n) (P := fun inn d k l r => 0 < k → d < 20 → Node.cntL r.1 + r.2 ≤ k ∧ Node.cntL r.1 ≤ Node.cntL l ∧ Node.deeps r.1 ≤ Node.deeps l ∧ d + Node.deeps r.1 ≤ 20) x inn d k
            (fun _ hk hd => by
              have := ih x.kids hx1 inn d (k - 1)
              have c0 := Node.cntL_nil
              have d0 := Node.deeps_nil
              simp only [Node.cntL_append, Node.deeps_append, Node.cntL_cons, Node.deeps_cons]
              split
              · simp only [Node.cntL_cons, Node.deeps_cons, ownN_kids]; omega
              · omega)
            (fun _ _ _ hk hd => by
              have := ih x.kids hx1 x.kind (d + 1) (k - 1)
              have c0 := Node.cntL_nil
              have d0 := Node.deeps_nil
              simp only [Node.cntL_cons, Node.deeps_cons, Node.kids_wk]
              omega)
            (fun _ hr hk hd => by
              have := ih x.kids hx1 x.kind (d + 1) (k - 1)
              have c0 := Node.cntL_nil
              have d0 := Node.deeps_nil
              simp only [Node.cntL_cons, Node.deeps_cons]
              omega)
            (fun _ hk hd => by
              have := ih x.kids hx1 inn d (k - 1)
              have c0 := Node.cntL_nil
              have d0 := Node.deeps_nil
              simp only [Node.cntL_cons, Node.deeps_cons]
              omega)
            (fun _ hk hd => by
              have c0 := Node.cntL_nil
              have d0 := Node.deeps_nil
              simp only [Node.cntL_cons, Node.deeps_cons]
              split
              · simp only [Node.cntL_cons, Node.deeps_cons, ownN_kids]; omega
              · omega) (by omega) (by omega)
          have h2 := ih l hx2 inn d (tidyN inn d k x).2
          have c0 := Node.cntL_nil
          have d0 := Node.deeps_nil
          rw [Node.cntL_cons, Node.deeps_cons] at h1
          simp only [Node.cntL_append, Node.deeps_append]
          omega
theorem checkL_append (inn : Int) (l m : List Node) : checkL inn (l ++ m) = (checkL inn l && checkL inn m) := by rw [checkL_all, checkL_all, checkL_all, List.all_append]
theorem bareT_none : bareT noTbl = true := by decide
theorem clamp_in (m n : Int) (h : 0 ≤ m) : 0 ≤ clamp m n ∧ clamp m n ≤ m := by
  unfold clamp
  split <;> split <;> omega
theorem okN_own (inn : Int) (x : Node) (k : Int) (l : List Node) (hst : standsIn k inn = true) (hw : wholeN ((ownN x k).withKids l) = true) (hl : hasKids k = true ∨ l = []) : okN inn ((ownN x k).withKids l) = true := by
  have c1 := clamp_in 1099511627775 x.line (by omega)
  have c2 := clamp_in 200 x.n (by omega)
  have e1 : ((ownN x k).withKids l).kind = k := rfl
  have e2 : ((ownN x k).withKids l).line = clamp 1099511627775 x.line := rfl
  have e3 : ((ownN x k).withKids l).n = if hasN k = true then clamp 200 x.n else 0 := rfl
  have e4 : ((ownN x k).withKids l).text = if hasText k = true then squeeze x.text else [] := rfl
  have e5 : ((ownN x k).withKids l).rows = if k = 6 then x.rows else [] := rfl
  have e6 : ((ownN x k).withKids l).grid = if k = 7 then mendT x.grid else noTbl := rfl
  have e7 : ((ownN x k).withKids l).kids = l := rfl
  unfold okN okHas
  rw [e1, e2, e3, e4, e5, e6, e7, hst, hw]
  have n0 : 0 ≤ (if hasN k = true then clamp 200 x.n else 0) ∧ (if hasN k = true then clamp 200 x.n else 0) ≤ 200 := by split <;> omega
  have s0 : sqzd (if hasText k = true then squeeze x.text else []) = true := by
    split
    · exact sqzd_squeeze _
    · exact sqzd_nil
  have g0 : (if k = 7 then rightT (if k = 7 then mendT x.grid else noTbl) else bareT (if k = 7 then mendT x.grid else noTbl)) = true := by
    by_cases h7 : k = 7
    · rw [if_pos h7, if_pos h7]; exact mend_right _
    · rw [if_neg h7, if_neg h7]; exact bareT_none
  have t0 : (hasText k || decide (((if hasText k = true then squeeze x.text else []).length : Int) = 0)) = true := by cases hasText k <;> simp
  have k0 : (hasKids k || decide ((l.length : Int) = 0)) = true := by
    rcases hl with h | h
    · rw [h]; rfl
    · rw [h]; simp
  have r0 : (decide (k = 6) || decide (((if k = 6 then x.rows else []).length : Int) = 0)) = true := by
    by_cases h6 : k = 6
    · simp [h6]
    · simp [h6]
  have m0 : (hasN k || decide ((if hasN k = true then clamp 200 x.n else 0) = 0)) = true := by cases hasN k <;> simp
  rw [decide_eq_true c1.1, decide_eq_true c1.2, decide_eq_true n0.1, decide_eq_true n0.2, s0, g0, t0, k0, r0, m0]
  rfl
theorem withKids_nil (x : Node) (k : Int) : (ownN x k).withKids [] = ownN x k := rfl
theorem stands3 (inn : Int) : standsIn 3 inn = true := by unfold standsIn; simp
theorem stands_of {k inn : Int} (h : ¬((k = 1 ∨ k = 2) ∧ standsIn k inn = false)) (hk : hasKids k = true) : standsIn k inn = true := by
  cases hs : standsIn k inn
  · rw [hs] at h
    simp [standsIn] at hs
    simp [hasKids] at hk
    exfalso
    apply h
    refine ⟨?_, rfl⟩
    by_cases h1 : k = 1
    · exact .inl h1
    · by_cases h2 : k = 2
      · exact .inr h2
      · simp [h1, h2] at hs; omega
  · rfl
theorem tidy_check : ∀ (n : Nat) (l : List Node), SizeOf.sizeOf l < n → ∀ inn d k, checkL inn (tidyL inn d k l).1 = true := by
  intro n
  induction n with
  | zero => intro l h; omega
  | succ n ih =>
    intro l hn inn d k
    cases l with
    | nil => rw [tidyL]; rfl
    | cons x l =>
      obtain ⟨hx1, hx2⟩ := Node.sz_kids hn
      rw [tidyL]
      split
      · rfl
      · split
        · exact ih l hx2 inn d k
        · rw [checkL_append, ih l hx2, Bool.and_true]
          refine tidyN_ind (n := n) (P := fun inn d k l r => checkL inn r.1 = true) x inn d k ?_ ?_ ?_ ?_ ?_
          · intro _
            rw [checkL_append, ih x.kids hx1, Bool.and_true]
            split
            · rename_i hw
              rw [checkL_all, List.all_cons, List.all_nil, checkN_eq, ownN_kids]
              rw [← withKids_nil] at hw
              have := okN_own inn x 3 [] (stands3 inn) hw (.inr rfl)
              rw [withKids_nil] at this
              rw [this]; rfl
            · rfl
          · intro h1 hk hw
            rw [checkL_all, List.all_cons, List.all_nil, checkN_eq, okN_own inn x x.kind _ (stands_of h1 hk) hw (.inl hk), Node.kids_wk, Node.kind_wk, ownN_kind, ih x.kids hx1]
            rfl
          · intro _ _; rfl
          · intro _; exact ih x.kids hx1 inn d (k - 1)
          · intro hk
            simp only
            split
            · rename_i hw
              rw [checkL_all, List.all_cons, List.all_nil, checkN_eq, ownN_kids]
              have hst : standsIn x.kind inn = true := by
                have hkk : x.kind ≠ 1 ∧ x.kind ≠ 2 ∧ x.kind ≠ 4 ∧ x.kind ≠ 5 := by simp [hasKids] at hk; omega
                unfold wholeN at hw
                rw [ownN_kind] at hw
                unfold standsIn
                rw [if_neg hkk.1, if_neg hkk.2.1]
                by_cases h3 : x.kind = 3
                · rw [h3]; rfl
                · by_cases h6 : x.kind = 6
                  · rw [h6]; rfl
                  · by_cases h7 : x.kind = 7
                    · rw [h7]; rfl
                    · simp [hkk, h3, h6, h7] at hw
              rw [← withKids_nil] at hw
              have := okN_own inn x x.kind [] hst hw (.inr rfl)
              rw [withKids_nil] at this
              rw [this]; rfl
            · rfl
theorem tidyD_check (d : Doc) : checkD (tidyD d) = 0 := by
  have h1 := tidy_count _ d.kids (Nat.lt_succ_self _) 0 0 20000
  have h2 := tidy_check _ d.kids (Nat.lt_succ_self _) 0 0 20000
  have hd := h1.2.2.2 (by omega)
  unfold checkD
  show (if 20000 < Node.cntL (tidyL 0 0 20000 d.kids).1 ∨ 20 < Node.deeps (tidyL 0 0 20000 d.kids).1 then 3 else if checkL 0 (tidyL 0 0 20000 d.kids).1 = true then 0 else 2) = (0 : Int)
  rw [if_neg (by omega), if_pos h2]
end Go.Proofs.YtlbjfjaleefiiaaDoor.Ev
end
