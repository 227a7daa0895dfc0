/- Of what the law TreeTidies needs: part 10. -/
import Derived.Shelf.Strings.SlTrimAscii
import Derived.Test.YtlnnnfogbakimaaDoorBTD9
set_option linter.unusedSimpArgs false
set_option linter.unusedVariables false
section
namespace Go.Proofs.YtlnnnfogbakimaaDoor.Ev
open Go
def sqzd (l : List Glyph) : Bool := decide (squeeze l = l)
set_option maxRecDepth 20000 in
set_option maxHeartbeats 4000000 in
theorem treeSqueezed (l : List Glyph) (hl : l.length ≤ 1073741824) : PCon C0 78 [.sc (gl l)] (.sc (.bool (sqzd l))) := by
  have sq := treeSqueeze l hl
  have sm := cellsSame (squeeze l) l (by have := sqAll_len l; unfold squeeze; omega)
  refine penter78 ?_
  simp [Tryd.f78, gl] at sq sm ⊢
  refine CallQ.mk (Call.pure callable70 (by simp) (by simp) sq) ?_
  simp
  refine CallQ.mk (Call.pure callable52 (by simp) (by simp) sm) ?_
  simp [sqzd]
set_option maxRecDepth 20000 in
set_option maxHeartbeats 4000000 in
theorem notSqueezed (l : List Glyph) (hl : l.length ≤ 1073741824) : PCon C0 77 [.sc (gl l)] (.sc (.bool (!sqzd l))) := by
  have sq := treeSqueezed l hl
  refine penter77 ?_
  simp [Tryd.f77, gl] at sq ⊢
  refine CallQ.mk (Call.pure callable78 (by simp) (by simp) sq) ?_
  simp
def idxP {α : Type} (p : α → Bool) (l : List α) : Int := if l.findIdx p < l.length then (l.findIdx p : Nat) else -1
theorem idxP_any {α : Type} (p : α → Bool) (l : List α) : decide (0 ≤ idxP p l) = l.any p := by
  unfold idxP
  cases h : l.any p
  · have : ¬ l.findIdx p < l.length := by
      rw [List.findIdx_lt_length]
      intro ⟨x, hx, hp⟩
      rw [List.any_eq_false] at h
      exact h x hx hp
    rw [if_neg this]; rfl
  · have : l.findIdx p < l.length := by
      rw [List.findIdx_lt_length]
      rw [List.any_eq_true] at h
      exact h
    rw [if_pos this]; simp
theorem idxP_at {α : Type} {p : α → Bool} {l : List α} {i : Nat} (h : i < l.length) (hb : ∀ j (hj : j < l.length), j < i → p l[j] = false) (hi : p l[i] = true) : idxP p l = i := by
  have : l.findIdx p = i := by
    rw [List.findIdx_eq h]
    exact ⟨hi, fun j hj => hb j (by omega) hj⟩
  rw [idxP, this, if_pos h]
theorem idxP_none {α : Type} {p : α → Bool} {l : List α} (hb : ∀ j (hj : j < l.length), p l[j] = false) : idxP p l = -1 := by
  rw [idxP, if_neg]
  rw [List.findIdx_lt_length]
  rintro ⟨x, hx, hp⟩
  obtain ⟨j, hj, rfl⟩ := List.getElem_of_mem hx
  rw [hb j hj] at hp; simp at hp
set_option linter.unusedSimpArgs false in
set_option maxRecDepth 20000 in
set_option maxHeartbeats 4000000 in
theorem indexRows (l : List (List Glyph)) (p : List Glyph → Bool) (f : Nat) (hl : l.length ≤ 1073741824) (hc : callable C0.P f = true) (hf : ∀ x ∈ l, PCon C0 f [.sc (gl x)] (.sc (.bool (p x)))) : PCon C0 118 [.sc (.sl (l.map gl)), .fn f [] []] (.sc (.int .i64 (idxP p l))) := by
  refine penter118 ?_
  simp [Tryd.f118]
  refine loopC (fun d e H => ∃ (i : Nat) (x4 x5 x9 x16 : FV), d = l.length - i ∧ i ≤ l.length ∧ (∀ j (hj : j < l.length), j < i → p l[j] = false) ∧ e = [(0, .sc (.sl (l.map gl))), (1, .fn f [] []), (4, x4), (5, x5), (7, .sc (.int .i64 l.length)), (8, .sc (.int .i64 i)), (9, x9), (16, x16)]) (d := l.length)
    ⟨0, _, _, _, _, rfl, by omega, by simp, rfl⟩ ?_
  rintro d e H ⟨i, x4, x5, x9, x16, rfl, hi, hbef, rfl⟩
  simp
  refine CondC.mk (fun hlt => ?_) (fun hlt => ?_)
  · simp at hlt
    have hcon := hf l[i] (List.getElem_mem hlt)
    simp only [gl] at hcon
    simp [hlt, gl]
    refine CallQ.mk (Call.pure hc (by simp) (by simp) hcon) ?_
    simp
    refine CondC.mk (fun hp => ?_) (fun hp => ?_)
    · simp [idxP_at hlt hbef hp]
    · simp
      refine ⟨l.length - (i + 1), by omega, i + 1, rfl, by omega, fun j hj h => ?_, by rw [wrap64 (by omega) (by omega)]; omega⟩
      rcases Nat.lt_or_ge j i with h' | h'
      · exact hbef j hj h'
      · obtain rfl : j = i := by omega
        exact hp
  · simp at hlt
    simp [idxP_none fun j hj => hbef j hj (by omega)]
set_option maxRecDepth 20000 in
set_option maxHeartbeats 4000000 in
theorem containsRows (l : List (List Glyph)) (p : List Glyph → Bool) (f : Nat) (hl : l.length ≤ 1073741824) (hc : callable C0.P f = true) (hf : ∀ x ∈ l, PCon C0 f [.sc (gl x)] (.sc (.bool (p x)))) : PCon C0 76 [.sc (.sl (l.map gl)), .fn f [] []] (.sc (.bool (l.any p))) := by
  have ci := indexRows l p f hl hc hf
  refine penter76 ?_
  simp [Tryd.f76]
  refine CallQ.mk (Call.pure callable118 (by simp) (by simp) ci) ?_
  simp [idxP_any]
def badRow (n : Nat) (r : TRow) : Bool := if r.rule = true then decide (0 < r.cells.length) else !decide (r.cells.length = n) || r.cells.any fun c => !sqzd c
set_option linter.unusedSimpArgs false in
set_option maxRecDepth 20000 in
set_option maxHeartbeats 4000000 in
theorem rowBad (r : TRow) (hr : r.cells.length ≤ 1073741824 ∧ ∀ c ∈ r.cells, c.length ≤ 1073741824) (H : Heap) (b n : Nat) (hb : H[b]? = some [.sc (.int .i64 n)]) (hp : NP H) : Con C0 75 [r.pv.toFV, .ptr b 0] H (.sc (.bool (badRow n r))) H := by
  have hbl : b < H.length := (List.getElem?_eq_some_iff.1 hb).1
  refine con_trim (C := C0) (fn := Tryd.f75) Tryd.func75 rfl (by decide) mixed (mv := []) (vars := [0, 1, 2, 3, 5, 9, 19]) (c := Tryd.f75.body.getD .skip) rfl rfl hp ?_
  have cr := containsRows r.cells (fun c => !sqzd c) 77 hr.1 callable77 fun x hx => notSqueezed x (hr.2 x hx)
  simp [Tryd.f75, TRow.pv]
  cases hrule : r.rule
  · by_cases hn : r.cells.length = n
    · simp [hn, hb, heap_old hbl]
      refine CallQ.mk (Call.pure callable76 (by simp) (by simp) cr) ?_
      simp [badRow, hrule, hn]
    · have hn' : ¬ (r.cells.length : Int) = n := by omega
      simp [hn', hb, heap_old hbl]
      simp [badRow, hrule, hn]
  · simp [badRow, hrule]
set_option linter.unusedSimpArgs false in
set_option maxRecDepth 20000 in
set_option maxHeartbeats 4000000 in
theorem indexBad (l : List TRow) (hl : l.length ≤ 1073741824) (hr : ∀ r ∈ l, r.cells.length ≤ 1073741824 ∧ ∀ c ∈ r.cells, c.length ≤ 1073741824) (H : Heap) (b n : Nat) (hb : H[b]? = some [.sc (.int .i64 n)]) (hp : NP H) :
    Con C0 117 [.sc (.sl (l.map TRow.pv)), .fn 75 [] [.ptr b 0]] H (.sc (.int .i64 (idxP (badRow n) l))) H := by
  refine con_of (C := C0) (fn := Tryd.f117) Tryd.func117 rfl (by decide) mixed (mv := []) (vars := [0, 1, 4, 5, 7, 8, 9, 16]) (c := Tryd.f117.body.getD .skip) rfl ?_
  simp [Tryd.f117]
  refine loopC (fun d e H' => ∃ (i : Nat) (x4 x5 x9 x16 : FV), d = l.length - i ∧ i ≤ l.length ∧ (∀ j (hj : j < l.length), j < i → badRow n l[j] = false) ∧ H' = H ∧ e = [(0, .sc (.sl (l.map TRow.pv))), (1, .fn 75 [] [.ptr b 0]), (4, x4), (5, x5), (7, .sc (.int .i64 l.length)), (8, .sc (.int .i64 i)), (9, x9), (16, x16)]) (d := l.length)
    ⟨0, _, _, _, _, rfl, by omega, by simp, rfl, rfl⟩ ?_
  rintro d e H' ⟨i, x4, x5, x9, x16, rfl, hi, hbef, rfl, rfl⟩
  simp
  refine CondC.mk (fun hlt => ?_) (fun hlt => ?_)
  · simp at hlt
    have hcon := rowBad l[i] (hr _ (List.getElem_mem hlt)) H' b n hb hp
    simp only [TRow.pv] at hcon
    simp at hcon
    simp [hlt, TRow.pv]
    refine CallQ.mk (Call.shared callable75 hcon) ?_
    simp
    refine CondC.mk (fun hp => ?_) (fun hp => ?_)
    · simp [idxP_at hlt hbef hp]
    · simp
      refine ⟨l.length - (i + 1), by omega, i + 1, rfl, by omega, fun j hj h => ?_, by rw [wrap64 (by omega) (by omega)]; omega⟩
      rcases Nat.lt_or_ge j i with h' | h'
      · exact hbef j hj h'
      · obtain rfl : j = i := by omega
        exact hp
  · simp at hlt
    simp [idxP_none fun j hj => hbef j hj (by omega)]
set_option maxRecDepth 20000 in
set_option maxHeartbeats 4000000 in
theorem containsBad (l : List TRow) (hl : l.length ≤ 1073741824) (hr : ∀ r ∈ l, r.cells.length ≤ 1073741824 ∧ ∀ c ∈ r.cells, c.length ≤ 1073741824) (H : Heap) (b n : Nat) (hb : H[b]? = some [.sc (.int .i64 n)]) (hp : NP H) :
    Con C0 74 [.sc (.sl (l.map TRow.pv)), .fn 75 [] [.ptr b 0]] H (.sc (.bool (l.any (badRow n)))) H := by
  have ci := indexBad l hl hr H b n hb hp
  refine con_of (C := C0) (fn := Tryd.f74) Tryd.func74 rfl (by decide) mixed (mv := []) (vars := [0, 1, 4]) (c := Tryd.f74.body.getD .skip) rfl ?_
  simp [Tryd.f74]
  refine CallQ.mk (Call.shared callable117 ci) ?_
  simp [idxP_any]
theorem dropWhile_nil {α : Type} (p : α → Bool) (l : List α) : l.dropWhile p = [] ↔ ∀ x ∈ l, p x = true := by
  induction l with
  | nil => simp
  | cons x l ih =>
    rw [List.dropWhile_cons]
    by_cases h : p x = true
    · rw [if_pos h, ih]; simp [h]
    · rw [if_neg h]; simp [h]
theorem trim_nil (l cs : List UInt8) : Go.Lib.trimS l cs = [] ↔ ∀ x ∈ l, cs.contains x = true := by
  unfold Go.Lib.trimS Go.Lib.trimLeftS Go.Lib.trimRightS
  rw [dropWhile_nil]
  constructor
  · intro h
    by_cases hn : l.reverse.dropWhile (cs.contains ·) = []
    · rw [dropWhile_nil] at hn
      exact fun x hx => hn x (List.mem_reverse.2 hx)
    · exfalso
      obtain ⟨y, r, hy⟩ := List.exists_cons_of_ne_nil hn
      have h1 : cs.contains y = true := h y (by rw [hy]; simp)
      have h2 : ¬ (cs.contains y = true) := by
        have := List.head?_dropWhile_not (cs.contains ·) l.reverse
        rw [hy] at this
        simpa using this
      exact h2 h1
  · intro h x hx
    exact h x (by
      rw [List.mem_reverse] at hx
      exact List.mem_reverse.1 ((List.dropWhile_sublist _).subset hx))
theorem conTrim (s : ByteArray) (hs : s.size ≤ 1073741824) : PCon C0 73 [.sc (.str s), .sc (.str lcr)] (.sc (.str ⟨(Go.Lib.trimS s.data.toList [108, 99, 114]).toArray⟩)) := by
  refine pcon_below rfl (fun _ _ => .str) fun vs W hl ha hH => ?_
  obtain ⟨u, v, rfl, hu, hv⟩ := args2 hl ha
  rw [hu.str, hv.str]
  exact Any.strings_Trim_laid Tryd.lays160 (by kernel_rfl) s lcr W.w (by omega) (by decide) (ascii_of_all (by decide))
def colsOk (c : ByteArray) : Bool := c.data.toList.all isSide
theorem side_contains (b : UInt8) : [(108 : UInt8), 99, 114].contains b = isSide b := by
  apply Bool.eq_iff_iff.2
  simp [isSide, or_assoc]
theorem trim_cols (c : ByteArray) : decide ((⟨(Go.Lib.trimS c.data.toList [108, 99, 114]).toArray⟩ : ByteArray) = ⟨#[]⟩) = colsOk c := by
  apply Bool.eq_iff_iff.2
  rw [decide_eq_true_eq, colsOk, List.all_eq_true]
  have : ((⟨(Go.Lib.trimS c.data.toList [108, 99, 114]).toArray⟩ : ByteArray) = ⟨#[]⟩) ↔ Go.Lib.trimS c.data.toList [108, 99, 114] = [] :=
    ⟨fun h => by have := congrArg (fun b : ByteArray => b.data.toList) h; simpa using this, fun h => by rw [h]⟩
  rw [this, trim_nil]
  simp only [side_contains]
def rightT (t : Tbl) : Bool := !(decide (t.cols.size = 0) || (decide (20 < t.cols.size) || (!colsOk t.cols || (t.all && !t.box)))) && !t.rows.any (badRow t.cols.size)
set_option linter.unusedSimpArgs false in
set_option maxRecDepth 20000 in
set_option maxHeartbeats 4000000 in
theorem treeRight (t : Tbl) (ht : TblS t) : PCon C0 42 [t.pv.toFV] (.sc (.bool (rightT t))) := by
  refine penter42 ?_
  have tr := conTrim t.cols ht.cols
  have tc := trim_cols t.cols
  generalize (⟨(Go.Lib.trimS t.cols.data.toList [108, 99, 114]).toArray⟩ : ByteArray) = T at tr tc
  have cb := containsBad t.rows ht.rows ht.cells [[.sc (.str t.cols), .sc (.sl (t.rows.map TRow.pv)), .sc (.bool t.box), .sc (.bool t.all)], [.sc (.int .i64 t.cols.size)]] 1 t.cols.size rfl (np_cons (by simp) (np_cons (by simp) np_nil))
  by_cases h0 : t.cols.size = 0
  · simp [Tryd.f42, Tbl.pv, h0, rightT]
  have h0' : ¬ t.cols = ByteArray.empty := fun h => h0 (by rw [h]; rfl)
  by_cases h20 : 20 < t.cols.size
  · have h20' : (20 : Int) < t.cols.size := by omega
    simp [Tryd.f42, Tbl.pv, h0', h20', rightT, h20]
  have h20' : ¬ (20 : Int) < t.cols.size := by omega
  simp [Tryd.f42, Tbl.pv, h0', h20', lcr] at tr ⊢
  refine CallQ.mk (Call.pure callable73 (by simp) (by simp) tr) ?_
  simp
  by_cases hT : T = ⟨#[]⟩
  · have hco : colsOk t.cols = true := by rw [← tc]; simp [hT]
    cases hall : t.all
    · rw [hall] at cb
      simp [hT]
      refine CallQ.mk (Call.shared callable74 cb) ?_
      simp [rightT, h0, h20, hco, hall]
    · cases hbox : t.box
      · simp [hT]
        simp [rightT, h0, h20, hco, hall, hbox]
      · rw [hall, hbox] at cb
        simp [hT]
        refine CallQ.mk (Call.shared callable74 cb) ?_
        simp [rightT, h0, h20, hco, hall, hbox]
  · have hco : colsOk t.cols = false := by rw [← tc]; simp [hT]
    simp [hT]
    simp [rightT, hco]
end Go.Proofs.YtlnnnfogbakimaaDoor.Ev
end
section
namespace Go.Proofs.YtlnnnfogbakimaaDoor.Ev
open Go
def trimG (l : List Glyph) : List Glyph := (l.reverse.dropWhile Glyph.blank).reverse
def ends (l : List Glyph) : Nat := (trimG l).length
theorem mem_tw {α : Type} {p : α → Bool} : ∀ {l : List α} {x : α}, x ∈ l.takeWhile p → p x = true
  | y :: l, x, h => by
    rw [List.takeWhile_cons] at h
    split at h
    · rename_i hy
      rcases List.mem_cons.1 h with rfl | h
      · exact hy
      · exact mem_tw h
    · simp at h
theorem trimG_append (l : List Glyph) : ∃ b, l = trimG l ++ b ∧ ∀ g ∈ b, g.blank = true := by
  refine ⟨(l.reverse.takeWhile Glyph.blank).reverse, ?_, fun g hg => ?_⟩
  · rw [trimG, ← List.reverse_append, List.takeWhile_append_dropWhile, List.reverse_reverse]
  · have := List.mem_reverse.1 hg
    exact mem_tw this
theorem trimG_take (l : List Glyph) : trimG l = l.take (ends l) := by
  obtain ⟨b, h, _⟩ := trimG_append l
  have := congrArg (List.take (ends l)) h
  rw [show List.take (ends l) (trimG l ++ b) = trimG l from List.take_left' rfl] at this
  exact this.symm
theorem ends_le (l : List Glyph) : ends l ≤ l.length := by
  obtain ⟨b, h, _⟩ := trimG_append l
  have := congrArg List.length h
  rw [List.length_append] at this
  unfold ends; omega
theorem ends_behind {l : List Glyph} {i : Nat} (h : i < l.length) (hi : ends l ≤ i) : l[i].blank = true := by
  obtain ⟨b, hb, hbl⟩ := trimG_append l
  have : l[i] ∈ b := by
    have e : l[i]? = b[i - ends l]? := by
      conv => lhs; rw [hb]
      rw [List.getElem?_append_right hi]; rfl
    rw [List.getElem?_eq_getElem h] at e
    exact List.mem_of_getElem? e.symm
  exact hbl _ this
theorem ends_at {l : List Glyph} (h : 0 < ends l) : (l[ends l - 1]'(by have := ends_le l; omega)).blank = false := by
  have hne : l.reverse.dropWhile Glyph.blank ≠ [] := fun hh => by
    have : ends l = 0 := by unfold ends trimG; rw [hh]; rfl
    omega
  obtain ⟨y, r, hy⟩ := List.exists_cons_of_ne_nil hne
  have h2 : y.blank = false := by
    have := List.head?_dropWhile_not Glyph.blank l.reverse
    rw [hy] at this
    simpa using this
  have ht : trimG l = r.reverse ++ [y] := by rw [trimG, hy, List.reverse_cons]
  have e : (trimG l)[ends l - 1]? = some y := by
    rw [ends, ht]
    simp
  rw [trimG_take, List.getElem?_take_of_lt (by omega)] at e
  have := (List.getElem?_eq_some_iff.1 e).2
  rw [this]; exact h2
set_option linter.unusedSimpArgs false in
set_option maxRecDepth 20000 in
set_option maxHeartbeats 4000000 in
theorem refTrim (l : List Glyph) (hl : l.length ≤ 1073741824) : PCon C0 109 [.sc (gl l)] (.sc (gl (trimG l))) := by
  refine penter109 ?_
  simp [Tryd.f109, gl]
  refine loopC (fun d e H => ∃ (n : Nat) (x2 x16 : FV), d = n ∧ ends l ≤ n ∧ n ≤ l.length ∧ e = [(0, .sc (.sl (l.map Glyph.pv))), (2, x2), (3, .sc (.int .i64 n)), (16, x16)]) (d := l.length) ⟨l.length, _, _, rfl, ends_le l, Nat.le_refl _, rfl⟩ ?_
  rintro d e H ⟨n, x2, x16, hd, hn, hnl, rfl⟩
  have hd' := hd.symm
  subst hd'
  by_cases h0 : n = 0
  · subst h0
    have ht : trimG l = [] := List.eq_nil_of_length_eq_zero (by unfold ends at hn; omega)
    have h1 : Sized 2 (l.map Glyph.pv) := sizedG l
    have hsb : sizedB 2 (l.map Glyph.pv) = true := by simp [sizedB]; exact fun g _ => rfl
    simp [ht, hsb]
  · obtain ⟨k, rfl⟩ : ∃ k, n = k + 1 := ⟨n - 1, by omega⟩
    have hk : k < l.length := by omega
    have w1 : IntKind.i64.wrap (((k + 1 : Nat) : Int) - 1) = (k : Nat) := by rw [wrap64 (by omega) (by omega)]; omega
    simp at w1
    simp [w1, hk, Glyph.pv]
    have hsb : sizedB 2 (l.map Glyph.pv) = true := by simp [sizedB]; exact fun g _ => rfl
    refine CondC.mk (fun h32 => ?_) (fun h32 => ?_)
    · simp at h32
      have hne : ¬ ends l = k + 1 := fun he => by
        have := ends_at (l := l) (by omega)
        simp [he, Glyph.blank, h32] at this
      simp [w1]
      exact ⟨k, by omega, by omega, by omega, rfl⟩
    · simp at h32
      have he : ends l = k + 1 := by
        rcases Nat.lt_or_ge k (ends l) with h | h
        · omega
        · have := ends_behind hk h
          simp [Glyph.blank, h32] at this
      have hkl : (k : Int) + 1 ≤ l.length := by omega
      rw [trimG_take, he]
      have hk0 : (0 : Int) ≤ (k : Int) + 1 := by omega
      simp [hsb, hkl, hk0]
theorem sqAll_app (l m : List Glyph) : sqAll (l ++ m) = m.foldl sqStep (sqAll l) := by rw [sqAll, List.foldl_append]; rfl
theorem sq_blanks (b : List Glyph) (hb : ∀ g ∈ b, g.blank = true) (s : List Glyph × Bool) : (b.foldl sqStep s).1 = s.1 := by
  induction b generalizing s with
  | nil => rfl
  | cons g b ih =>
    rw [List.foldl_cons, ih (fun x hx => hb x (by simp [hx]))]
    have := hb g (by simp)
    simp [Glyph.blank] at this
    simp [sqStep, this]
theorem squeeze_trim (l : List Glyph) : squeeze (trimG l) = squeeze l := by
  obtain ⟨b, h, hb⟩ := trimG_append l
  conv => rhs; rw [h]
  rw [squeeze, squeeze, sqAll_app, sq_blanks b hb]
def sqR (s : List Glyph × Bool) : List Glyph := if s.2 = true ∧ s.1 ≠ [] then s.1 ++ [⟨32, 0⟩] else s.1
theorem sq_last (l : List Glyph) : ∀ g, (sqAll l).1.getLast? = some g → g.blank = false := by
  have : ∀ (l : List Glyph) (s : List Glyph × Bool), (∀ g, s.1.getLast? = some g → g.blank = false) → ∀ g, (l.foldl sqStep s).1.getLast? = some g → g.blank = false := by
    intro l
    induction l with
    | nil => intro s h; exact h
    | cons x l ih =>
      intro s h
      rw [List.foldl_cons]
      refine ih _ fun g hg => ?_
      unfold sqStep at hg
      split at hg
      · exact h g hg
      · rename_i hx
        simp only [List.getLast?_append, List.getLast?_singleton, Option.some_or, Option.some.injEq] at hg
        subst hg
        simp [Glyph.blank, hx]
  exact this l ([], false) (by simp)
theorem sq_want {l : List Glyph} (h : 0 < ends l) (hl : trimG l = l) : (sqAll l).2 = false := by
  have he : ends l = l.length := by unfold ends; rw [hl]
  have hb := ends_at h
  have hlt : ends l - 1 < l.length := by omega
  have e : l = l.take (ends l - 1) ++ [l[ends l - 1]] := by
    rw [← List.take_succ_eq_append_getElem hlt, show ends l - 1 + 1 = ends l by omega, he, List.take_length]
  generalize hx : l[ends l - 1] = x at e hb
  rw [e, sqAll_app]
  simp [Glyph.blank] at hb
  simp [sqStep, hb]
theorem sqR_end (l : List Glyph) (hl : trimG l = l) : sqR (sqAll l) = squeeze l := by
  by_cases h : 0 < ends l
  · simp [sqR, sq_want h hl, squeeze]
  · have : l = [] := List.eq_nil_of_length_eq_zero (by have : ends l = l.length := by unfold ends; rw [hl]
                                                       omega)
    subst this
    rfl
theorem trim_trim (l : List Glyph) : trimG (trimG l) = trimG l := by
  by_cases h : trimG l = []
  · rw [h]; rfl
  · have h0 : 0 < ends l := by unfold ends; exact List.length_pos_iff.2 h
    have hb := ends_at h0
    rw [trimG_take (trimG l)]
    refine List.take_of_length_le ?_
    rcases Nat.lt_or_ge (ends (trimG l)) (trimG l).length with h1 | h1
    · exfalso
      have h2 : (trimG l).length - 1 < (trimG l).length := by omega
      have := ends_behind (l := trimG l) h2 (by omega)
      have e : (trimG l)[(trimG l).length - 1] = l[ends l - 1]'(by have := ends_le l; omega) := by
        have : (trimG l)[(trimG l).length - 1]? = l[ends l - 1]? := by
          have e2 : (trimG l).length - 1 = ends l - 1 := rfl
          rw [e2, trimG_take, List.getElem?_take_of_lt (by omega)]
        rw [List.getElem?_eq_getElem h2, List.getElem?_eq_getElem (by have := ends_le l; omega)] at this
        exact Option.some.inj this
      rw [e, hb] at this
      simp at this
    · exact h1
set_option linter.unusedSimpArgs false in
set_option maxRecDepth 20000 in
set_option maxHeartbeats 4000000 in
theorem refSqueeze (l : List Glyph) (hl : l.length ≤ 1073741824) : PCon C0 72 [.sc (gl l)] (.own ((squeeze l).map Glyph.pv)) := by
  have tr := refTrim l hl
  rw [← squeeze_trim l]
  have ht := trim_trim l
  have hll : (trimG l).length ≤ 1073741824 := by have := ends_le l; unfold ends at this; omega
  generalize trimG l = m at *
  refine penter72 ?_
  simp [Tryd.f72, gl] at tr ⊢
  refine CallQ.mk (Call.pure callable109 (by simp) (by simp) tr) ?_
  simp
  refine loopC (fun d e H => ∃ (i : Nat) (x2 x10 x18 x38 : FV), d = m.length - i ∧ i ≤ m.length ∧ e = [(0, .sc (.sl (m.map Glyph.pv))), (2, x2), (3, .own ((sqR (sqAll (m.take i))).map Glyph.pv)), (4, .sc (.int .i64 i)), (10, x10), (18, x18), (38, x38)]) (d := m.length) ⟨0, _, _, _, _, rfl, by omega, rfl⟩ ?_
  rintro d e H ⟨i, x2, x10, x18, x38, rfl, hi, rfl⟩
  simp
  refine CondC.mk (fun hlt => ?_) (fun hlt => ?_)
  · simp at hlt
    have hs := sqAll_take hlt
    have hlast := sq_last (m.take i)
    have hlen := sqAll_len (m.take i)
    simp only [List.length_take] at hlen
    generalize hS : sqAll (m.take i) = S at *
    obtain ⟨out, wants⟩ := S
    simp only at hlast hlen
    have hol : out.length ≤ 2147483648 := by omega
    have fin : ∀ q : List PV, q = (sqR (sqStep (out, wants) m[i])).map Glyph.pv → ∃ d', d' < m.length - i ∧ ∃ k, d' = m.length - k ∧ k ≤ m.length ∧ q = List.map Glyph.pv (sqR (sqAll (List.take k m))) ∧ IntKind.i64.wrap ((i : Int) + 1) = (k : Nat) := fun q hq =>
      ⟨m.length - (i + 1), by omega, i + 1, rfl, by omega, by rw [hs, hq], by rw [wrap64 (by omega) (by omega)]; omega⟩
    simp [hlt, Glyph.pv]
    refine CondC.mk (fun h32 => ?_) (fun h32 => ?_)
    · simp at h32
      have hst : sqStep (out, wants) m[i] = ((if wants = true ∧ out ≠ [] then out ++ [⟨32, 0⟩] else out) ++ [m[i]], false) := by simp [sqStep, h32]
      have e1 : sqR (sqStep (out, wants) m[i]) = sqR (out, wants) ++ [m[i]] := by
        rw [hst]
        cases wants <;> simp [sqR]
      have hrl : (sqR (out, wants)).length ≤ out.length + 1 := by
        unfold sqR; simp only; split <;> simp
      simp [hlt, Glyph.pv]
      exact ⟨sizedAgg2, sizedG _, sizedAgg2, by unfold lenMax; omega, fin _ (by rw [e1, List.map_append]; rfl)⟩
    · simp at h32
      have hst : sqStep (out, wants) m[i] = (out, true) := by simp [sqStep, h32]
      by_cases ho : out = []
      · subst ho
        have e0 : sqR ([], wants) = [] := by simp [sqR]
        have fin := fin [] (by rw [hst]; simp [sqR])
        simp [e0]
        obtain ⟨d', h1, k, h2, h3, h4, h5⟩ := fin
        exact ⟨d', h1, k, h2, h3, by simpa using h4.symm, h5⟩
      · have hop : 0 < out.length := List.length_pos_iff.2 ho
        cases wants
        · have e0 : sqR (out, false) = out := by simp [sqR]
          have w1 : IntKind.i64.wrap ((out.length : Int) - 1) = (out.length - 1 : Nat) := by rw [wrap64 (by omega) (by omega)]; omega
          have hk : out.length - 1 < out.length := by omega
          have hb : out[out.length - 1].r ≠ 32 := by
            have := hlast out[out.length - 1] (by rw [List.getLast?_eq_getElem?, List.getElem?_eq_getElem hk])
            simpa [Glyph.blank] using this
          have fin := fin (out.map Glyph.pv ++ [(⟨32, 0⟩ : Glyph).pv]) (by rw [hst]; simp [sqR, ho])
          simp [e0, hop, w1, hk, hb, Glyph.pv]
          exact ⟨sizedAgg2, sizedG _, sizedAgg2, by unfold lenMax; omega, fin⟩
        · have e0 : sqR (out, true) = out ++ [⟨32, 0⟩] := by simp [sqR, ho]
          have w1 : IntKind.i64.wrap (out.length : Int) = (out.length : Nat) := by rw [wrap64 (by omega) (by omega)]
          have hx : (List.map Glyph.pv out ++ [PV.agg [PV.int IntKind.i32 32, PV.int IntKind.u8 0]])[out.length]? = some (PV.agg [PV.int IntKind.i32 32, PV.int IntKind.u8 0]) := by
            rw [List.getElem?_append_right (by simp)]; simp
          have fin := fin (out.map Glyph.pv ++ [(⟨32, 0⟩ : Glyph).pv]) (by rw [hst, e0]; simp)
          simp [e0, w1, Glyph.pv, hx]
          exact fin
  · simp at hlt
    simp [List.take_of_length_le hlt, sqR_end m ht]
set_option maxRecDepth 20000 in
set_option maxHeartbeats 4000000 in
theorem refSqueezed (l : List Glyph) (hl : l.length ≤ 1073741824) : PCon C0 79 [.sc (gl l)] (.sc (.bool (sqzd l))) := by
  have sq := refSqueeze l hl
  have sm := refSame (squeeze l) l (by have := sqAll_len l; unfold squeeze; omega)
  refine penter79 ?_
  simp [Tryd.f79, gl] at sq sm ⊢
  refine CallQ.mk (Call.pure callable72 (by simp) (by simp) sq) ?_
  simp
  refine CallQ.mk (Call.pure callable35 (by simp) (by simp) sm) ?_
  simp [sqzd]
set_option maxRecDepth 20000 in
set_option maxHeartbeats 4000000 in
theorem refSide (b : UInt8) : PCon C0 71 [.sc (.int .u8 b.toNat)] (.sc (.bool (isSide b))) := by
  rw [side_iff]
  generalize b.toNat = c
  refine penter71 ?_
  by_cases h1 : c = 108
  · simp [Tryd.f71, h1]
  · by_cases h2 : c = 99
    · simp [Tryd.f71, h2]
    · have h1' : ¬ (c : Int) = 108 := by omega
      have h2' : ¬ (c : Int) = 99 := by omega
      simp [Tryd.f71, h1', h2']
end Go.Proofs.YtlnnnfogbakimaaDoor.Ev
end
section
namespace Go.Proofs.YtlnnnfogbakimaaDoor.Ev
open Go
def colsF (c : ByteArray) (i : Nat) : List UInt8 := ((c.data.toList.take i).filter isSide).take 20
theorem colsF_len (c : ByteArray) (i : Nat) : (colsF c i).length ≤ 20 := by unfold colsF; rw [List.length_take]; omega
theorem colsF_next {c : ByteArray} {i : Nat} (h : i < c.size) : colsF c (i + 1) = if isSide (c.data[i]'h) = true ∧ (colsF c i).length < 20 then colsF c i ++ [c.data[i]'h] else colsF c i := by
  have hl : i < c.data.toList.length := by simpa using h
  have e : c.data.toList[i] = c.data[i]'h := by simp
  unfold colsF
  rw [List.take_succ_eq_append_getElem hl, List.filter_append, e]
  cases hs : isSide (c.data[i]'h)
  · simp [hs]
  · have e1 : List.filter isSide [c.data[i]'h] = [c.data[i]'h] := by simp [hs]
    rw [e1]
    generalize List.filter isSide (List.take i c.data.toList) = L
    by_cases h20 : L.length < 20
    · rw [if_pos ⟨rfl, by rw [List.length_take]; omega⟩, List.take_of_length_le (by simp; omega), List.take_of_length_le (by omega)]
    · rw [if_neg (fun hh => by have := hh.2; rw [List.length_take] at this; omega), List.take_append_of_le_length (by omega)]
theorem colsF_end (c : ByteArray) : colsF c c.size = (c.data.toList.filter isSide).take 20 := by
  unfold colsF
  rw [show c.data.toList.take c.size = c.data.toList from List.take_of_length_le (by show c.data.toList.length ≤ c.data.size; rw [Array.length_toList]; exact Nat.le_refl _)]
theorem str_add (l : List UInt8) (c : ByteArray) (i : Nat) (h : i < c.size) : (⟨l.toArray⟩ : ByteArray) ++ c.extract i (i + 1) = ⟨(l ++ [c.data[i]'h]).toArray⟩ := by
  have e : (c.extract i (i + 1)).data = #[c.data[i]'h] := by
    rw [ByteArray.data_extract]
    apply Array.toList_inj.1
    have hl : i < c.data.toList.length := by simpa using h
    simp [List.drop_take, List.take_one, List.head?_drop, List.getElem?_eq_getElem hl]
  apply ByteArray.ext
  rw [ByteArray.data_append, e]
  apply Array.toList_inj.1
  simp
set_option linter.unusedSimpArgs false in
set_option maxRecDepth 20000 in
set_option maxHeartbeats 4000000 in
theorem refMend (t : Tbl) (ht : TblS t) : PCon C0 41 [t.pv.toFV] (mendT t).pv.toFV := by
  refine penter41 ?_
  have hcs := ht.cols
  have hmc : mendCols t.cols = ⟨(if colsF t.cols t.cols.size = [] then [108] else colsF t.cols t.cols.size).toArray⟩ := by rw [mendCols, colsF_end]
  simp [Tryd.f41, Tbl.pv]
  refine loopC (fun d e H => ∃ (i : Nat) (x0 x14 x26 : FV), d = t.cols.size - i ∧ i ≤ t.cols.size ∧
    H = [[FV.sc (PV.str t.cols), FV.sc (PV.sl (List.map TRow.pv t.rows)), FV.sc (PV.bool t.box), FV.sc (PV.bool t.all)], [FV.sc (PV.str ByteArray.empty), FV.own [], FV.sc (PV.bool false), FV.sc (PV.bool false)]] ∧
    e = [(0, x0), (1, .ptr 0 0), (2, .ptr 1 0), (3, .sc (.str ⟨(colsF t.cols i).toArray⟩)), (4, .sc (.int .i64 i)), (5, .undef), (6, .undef), (7, .undef), (8, .undef), (9, .undef), (14, x14), (26, x26), (36, .undef), (51, .undef), (69, .undef), (80, .undef)]) (d := t.cols.size)
    ⟨0, _, _, _, rfl, by omega, rfl, rfl⟩ ?_
  rintro d e H ⟨i, x0, x14, x26, rfl, hi, rfl, rfl⟩
  simp
  refine CondC.mk (fun hlt => ?_) (fun hlt => ?_)
  · simp at hlt
    have hlt' : i < t.cols.data.size := hlt
    have hnx := colsF_next hlt
    have hlen := colsF_len t.cols i
    have rs := refSide (t.cols.data[i]'hlt)
    have hsa := str_add (colsF t.cols i) t.cols i hlt
    have fin : ∀ q : List UInt8, q = colsF t.cols (i + 1) → ∃ d', d' < t.cols.size - i ∧ ∃ j, d' = t.cols.size - j ∧ j ≤ t.cols.size ∧ q = colsF t.cols j ∧ IntKind.i64.wrap ((i : Int) + 1) = (j : Nat) := fun q hq =>
      ⟨t.cols.size - (i + 1), by omega, i + 1, rfl, by omega, hq, by rw [wrap64 (by omega) (by omega)]; omega⟩
    have w1 : IntKind.i64.wrap ((i : Int) + 1) = ((i + 1 : Nat) : Int) := by rw [wrap64 (by omega) (by omega)]; omega
    have hsz : (⟨(colsF t.cols i).toArray⟩ : ByteArray).size = (colsF t.cols i).length := by simp [ByteArray.size]
    obtain ⟨b, hb⟩ : ∃ b, t.cols.data[i]'hlt = b := ⟨_, rfl⟩
    rw [hb] at hnx rs hsa
    simp [hlt, hlt', hb]
    refine CallQ.mk (Call.pure callable71 (by simp) (by simp) rs) ?_
    cases hs : isSide b
    · have := fin (colsF t.cols i) (by rw [hnx, hs]; simp)
      simp
      exact this
    · simp [hsz]
      refine CondC.mk (fun h20 => ?_) (fun h20 => ?_)
      · have h20' : (colsF t.cols i).length < 20 := by simp at h20; omega
        have := fin (colsF t.cols i ++ [b]) (by rw [hnx, hs, if_pos ⟨rfl, h20'⟩])
        have hle : (i : Int) + 1 ≤ t.cols.size := by omega
        have hle0 : (0 : Int) ≤ (i : Int) + 1 := by omega
        have hle1 : (i : Int) ≤ (i : Int) + 1 := by omega
        have hex : (t.cols.extract i (i + 1)).size = 1 := by rw [ByteArray.size_extract]; omega
        have h40 : (colsF t.cols i).length + 1 ≤ 1099511627776 := by omega
        simp [w1, hle, hle0, hle1, hsa, hsz, hex, h40]
        obtain ⟨d', e1, j, e2, e3, e4, e5⟩ := this
        exact ⟨d', e1, j, e2, e3, e4, by rw [w1] at e5; omega⟩
      · have h20' : ¬ (colsF t.cols i).length < 20 := by simp at h20; omega
        have := fin (colsF t.cols i) (by rw [hnx, if_neg (fun h => h20' h.2)])
        simp
        exact this
  · simp at hlt
    obtain rfl : i = t.cols.size := by omega
    simp
    have hn20 : (mendCols t.cols).size ≤ 20 := by
      rw [hmc]
      have := colsF_len t.cols t.cols.size
      show (if colsF t.cols t.cols.size = [] then [108] else colsF t.cols t.cols.size).toArray.size ≤ 20
      split
      · simp
      · simp; omega
    have hCM : (if colsF t.cols t.cols.size = [] then (⟨#[108]⟩ : ByteArray) else ⟨(colsF t.cols t.cols.size).toArray⟩) = mendCols t.cols := by
      rw [hmc]
      split <;> rfl
    obtain ⟨n, hn⟩ : ∃ n, (mendCols t.cols).size = n := ⟨_, rfl⟩
    rw [hn] at hn20
    refine CondC.mk (fun hc => ?_) (fun hc => ?_)
    · rw [if_pos (by simpa using hc)] at hCM
      simp
      rw [hCM]
      cases hall : t.all
      · simp
        refine loopC (fun d e H => ∃ (i : Nat) (X : Heap) (x0 x4 x7 x8 x9 x14 x26 x36 x51 x69 x80 : FV), d = t.rows.length - i ∧ i ≤ t.rows.length ∧
          H = [FV.sc (PV.str t.cols), FV.sc (PV.sl (List.map TRow.pv t.rows)), FV.sc (PV.bool t.box), FV.sc (PV.bool false)] :: [FV.sc (PV.str ByteArray.empty), FV.own [], FV.sc (PV.bool false), FV.sc (PV.bool false)] :: [FV.sc (PV.str (mendCols t.cols)), FV.own (((t.rows.take i).map (mendRow n)).map TRow.pv), FV.sc (PV.bool t.box), FV.sc (PV.bool false)] :: X ∧
          e = [(0, x0), (1, .ptr 0 0), (2, .ptr 1 0), (3, .sc (.str (mendCols t.cols))), (4, x4), (5, .ptr 2 0), (6, .sc (.int .i64 i)), (7, x7), (8, x8), (9, x9), (14, x14), (26, x26), (36, x36), (51, x51), (69, x69), (80, x80)]) (d := t.rows.length)
          ⟨0, [], _, _, _, _, _, _, _, _, _, _, _, rfl, by omega, by simp, rfl⟩ ?_
        rintro d e H ⟨i, X, x0, x4, x7, x8, x9, x14, x26, x36, x51, x69, x80, rfl, hi, rfl, rfl⟩
        simp
        refine CondC.mk (fun hlt => ?_) (fun hlt => ?_)
        · simp at hlt
          have hr := ht.cells _ (List.getElem_mem hlt)
          have htk : t.rows.take (i + 1) = t.rows.take i ++ [t.rows[i]] := List.take_succ_eq_append_getElem hlt
          have hrl := ht.rows
          obtain ⟨r, hrr⟩ : ∃ r, t.rows[i] = r := ⟨_, rfl⟩
          have hat : (List.map TRow.pv t.rows)[i]? = some (PV.agg [.bool r.rule, .sl (r.cells.map gl)]) := by
            rw [map_at hlt, hrr]; rfl
          have hq : t.rows[i]? = some r := by rw [List.getElem?_eq_getElem hlt, hrr]
          rw [hrr] at hr htk
          simp [hq, TRow.pv]
          obtain ⟨c0, hc0⟩ : ∃ c0 : List FV, [FV.sc (PV.str t.cols), FV.sc (PV.sl (List.map TRow.pv t.rows)), FV.sc (PV.bool t.box), FV.sc (PV.bool false)] = c0 := ⟨_, rfl⟩
          refine loopC (fun d e H => ∃ (k : Nat) (x9 x69 x80 : FV), d = n - k ∧ k ≤ n ∧ (r.rule = true → k = 0) ∧
            H = c0 :: [FV.sc (PV.str ByteArray.empty), FV.own [], FV.sc (PV.bool false), FV.sc (PV.bool false)] :: [FV.sc (PV.str (mendCols t.cols)), FV.own (((t.rows.take i).map (mendRow n)).map TRow.pv), FV.sc (PV.bool t.box), FV.sc (PV.bool false)] :: (X ++ [[FV.sc (.bool r.rule), FV.own (((List.range k).map (cellM r)).map gl)]]) ∧
            e = [(0, x0), (1, .ptr 0 0), (2, .ptr 1 0), (3, .sc (.str (mendCols t.cols))), (4, x4), (5, .ptr 2 0), (6, .sc (.int .i64 i)), (7, .ptr (X.length + 1 + 1 + 1) 0), (8, .sc (.int .i64 k)), (9, x9), (14, x14), (26, x26), (36, x36), (51, .sc (.bool true)), (69, x69), (80, x80)]) (d := n)
            ⟨0, x9, x69, x80, rfl, by omega, by simp, ?_, ?_⟩ ?_
          · rw [hc0]; simp
          · simp [hlt]
          · rintro d e H ⟨k, x9, x69, x80, rfl, hk, hrk, rfl, rfl⟩
            have hmr := mendRow_eq n r
            by_cases hkn : k < n ∧ r.rule = false
            · obtain ⟨hkn, hrule⟩ := hkn
              have hkn' : k < (mendCols t.cols).size := by omega
              have hnk : (List.range (k + 1)).map (cellM r) = (List.range k).map (cellM r) ++ [cellM r k] := by rw [List.range_succ, List.map_append]; rfl
              simp [hkn', hrule, ← hc0, hq, TRow.pv]
              by_cases hkc : k < r.cells.length
              · have sq := refSqueeze r.cells[k] (hr.2 _ (List.getElem_mem hkc))
                have hcm : cellM r k = squeeze r.cells[k] := by simp [cellM, hkc]
                simp only [gl] at sq
                simp [hkc, gl, hq, TRow.pv]
                refine CallQ.mk (Call.pure callable72 (by simp) (by simp) sq) ?_
                simp
                exact ⟨sized1l, sizedGlC r k, sized1l, by unfold lenMax; omega, n - (k + 1), by omega, k + 1, rfl, by omega, by rw [List.range_succ, List.map_append]; simp [hcm, gl], by rw [wrap64 (by omega) (by omega)]; omega⟩
              · have hcm : cellM r k = [] := by simp [cellM, hkc]
                simp [hkc]
                exact ⟨sized1l, sizedGlC r k, sized1l, by unfold lenMax; omega, n - (k + 1), by omega, k + 1, rfl, by omega, by rw [List.range_succ, List.map_append]; simp [hcm, gl], by rw [wrap64 (by omega) (by omega)]; omega⟩
            · have hcells : (mendRow n r).cells = (List.range k).map (cellM r) := by
                rw [hmr]
                cases hrule : r.rule
                · simp only [hrule, and_true] at hkn
                  obtain rfl : k = n := by omega
                  rfl
                · rw [hrk hrule]; rfl
              have hrow : (mendRow n r).pv = .agg [.bool r.rule, .sl (((List.range k).map (cellM r)).map gl)] := by
                rw [TRow.pv, hcells]; rfl
              by_cases hk2 : k < (mendCols t.cols).size
              · have hrule : r.rule = true := by
                  cases hrule : r.rule
                  · exact absurd ⟨by omega, hrule⟩ hkn
                  · rfl
                simp [hk2, hrule]
                exact ⟨sizedAgg2, sizedTR2 _ _ _, sizedAgg2, by unfold lenMax; omega, t.rows.length - (i + 1), by omega, i + 1, rfl, by omega, ⟨hc0.symm, by rw [← List.map_take, ← List.map_take, htk, List.map_append]; simp [hrow, hrule]⟩, by rw [wrap64 (by omega) (by omega)]; omega⟩
              · simp [hk2]
                exact ⟨sizedAgg2, sizedTR2 _ _ _, sizedAgg2, by unfold lenMax; omega, t.rows.length - (i + 1), by omega, i + 1, rfl, by omega, ⟨hc0.symm, by rw [← List.map_take, ← List.map_take, htk, List.map_append]; simp [hrow]⟩, by rw [wrap64 (by omega) (by omega)]; omega⟩
        · simp at hlt
          simp [List.take_of_length_le hlt]
          exact ⟨rfl, by simp [mendT, hn]; exact List.take_of_length_le (by simpa using hlt), rfl, by simp [mendT, hall]⟩
      · simp
        refine loopC (fun d e H => ∃ (i : Nat) (X : Heap) (x0 x4 x7 x8 x9 x14 x26 x36 x51 x69 x80 : FV), d = t.rows.length - i ∧ i ≤ t.rows.length ∧
          H = [FV.sc (PV.str t.cols), FV.sc (PV.sl (List.map TRow.pv t.rows)), FV.sc (PV.bool t.box), FV.sc (PV.bool true)] :: [FV.sc (PV.str ByteArray.empty), FV.own [], FV.sc (PV.bool false), FV.sc (PV.bool false)] :: [FV.sc (PV.str (mendCols t.cols)), FV.own (((t.rows.take i).map (mendRow n)).map TRow.pv), FV.sc (PV.bool t.box), FV.sc (PV.bool t.box)] :: X ∧
          e = [(0, x0), (1, .ptr 0 0), (2, .ptr 1 0), (3, .sc (.str (mendCols t.cols))), (4, x4), (5, .ptr 2 0), (6, .sc (.int .i64 i)), (7, x7), (8, x8), (9, x9), (14, x14), (26, x26), (36, x36), (51, x51), (69, x69), (80, x80)]) (d := t.rows.length)
          ⟨0, [], _, _, _, _, _, _, _, _, _, _, _, rfl, by omega, by simp, rfl⟩ ?_
        rintro d e H ⟨i, X, x0, x4, x7, x8, x9, x14, x26, x36, x51, x69, x80, rfl, hi, rfl, rfl⟩
        simp
        refine CondC.mk (fun hlt => ?_) (fun hlt => ?_)
        · simp at hlt
          have hr := ht.cells _ (List.getElem_mem hlt)
          have htk : t.rows.take (i + 1) = t.rows.take i ++ [t.rows[i]] := List.take_succ_eq_append_getElem hlt
          have hrl := ht.rows
          obtain ⟨r, hrr⟩ : ∃ r, t.rows[i] = r := ⟨_, rfl⟩
          have hat : (List.map TRow.pv t.rows)[i]? = some (PV.agg [.bool r.rule, .sl (r.cells.map gl)]) := by
            rw [map_at hlt, hrr]; rfl
          have hq : t.rows[i]? = some r := by rw [List.getElem?_eq_getElem hlt, hrr]
          rw [hrr] at hr htk
          simp [hq, TRow.pv]
          obtain ⟨c0, hc0⟩ : ∃ c0 : List FV, [FV.sc (PV.str t.cols), FV.sc (PV.sl (List.map TRow.pv t.rows)), FV.sc (PV.bool t.box), FV.sc (PV.bool true)] = c0 := ⟨_, rfl⟩
          refine loopC (fun d e H => ∃ (k : Nat) (x9 x69 x80 : FV), d = n - k ∧ k ≤ n ∧ (r.rule = true → k = 0) ∧
            H = c0 :: [FV.sc (PV.str ByteArray.empty), FV.own [], FV.sc (PV.bool false), FV.sc (PV.bool false)] :: [FV.sc (PV.str (mendCols t.cols)), FV.own (((t.rows.take i).map (mendRow n)).map TRow.pv), FV.sc (PV.bool t.box), FV.sc (PV.bool t.box)] :: (X ++ [[FV.sc (.bool r.rule), FV.own (((List.range k).map (cellM r)).map gl)]]) ∧
            e = [(0, x0), (1, .ptr 0 0), (2, .ptr 1 0), (3, .sc (.str (mendCols t.cols))), (4, x4), (5, .ptr 2 0), (6, .sc (.int .i64 i)), (7, .ptr (X.length + 1 + 1 + 1) 0), (8, .sc (.int .i64 k)), (9, x9), (14, x14), (26, x26), (36, x36), (51, .sc (.bool true)), (69, x69), (80, x80)]) (d := n)
            ⟨0, x9, x69, x80, rfl, by omega, by simp, ?_, ?_⟩ ?_
          · rw [hc0]; simp
          · simp [hlt]
          · rintro d e H ⟨k, x9, x69, x80, rfl, hk, hrk, rfl, rfl⟩
            have hmr := mendRow_eq n r
            by_cases hkn : k < n ∧ r.rule = false
            · obtain ⟨hkn, hrule⟩ := hkn
              have hkn' : k < (mendCols t.cols).size := by omega
              have hnk : (List.range (k + 1)).map (cellM r) = (List.range k).map (cellM r) ++ [cellM r k] := by rw [List.range_succ, List.map_append]; rfl
              simp [hkn', hrule, ← hc0, hq, TRow.pv]
              by_cases hkc : k < r.cells.length
              · have sq := refSqueeze r.cells[k] (hr.2 _ (List.getElem_mem hkc))
                have hcm : cellM r k = squeeze r.cells[k] := by simp [cellM, hkc]
                simp only [gl] at sq
                simp [hkc, gl, hq, TRow.pv]
                refine CallQ.mk (Call.pure callable72 (by simp) (by simp) sq) ?_
                simp
                exact ⟨sized1l, sizedGlC r k, sized1l, by unfold lenMax; omega, n - (k + 1), by omega, k + 1, rfl, by omega, by rw [List.range_succ, List.map_append]; simp [hcm, gl], by rw [wrap64 (by omega) (by omega)]; omega⟩
              · have hcm : cellM r k = [] := by simp [cellM, hkc]
                simp [hkc]
                exact ⟨sized1l, sizedGlC r k, sized1l, by unfold lenMax; omega, n - (k + 1), by omega, k + 1, rfl, by omega, by rw [List.range_succ, List.map_append]; simp [hcm, gl], by rw [wrap64 (by omega) (by omega)]; omega⟩
            · have hcells : (mendRow n r).cells = (List.range k).map (cellM r) := by
                rw [hmr]
                cases hrule : r.rule
                · simp only [hrule, and_true] at hkn
                  obtain rfl : k = n := by omega
                  rfl
                · rw [hrk hrule]; rfl
              have hrow : (mendRow n r).pv = .agg [.bool r.rule, .sl (((List.range k).map (cellM r)).map gl)] := by
                rw [TRow.pv, hcells]; rfl
              by_cases hk2 : k < (mendCols t.cols).size
              · have hrule : r.rule = true := by
                  cases hrule : r.rule
                  · exact absurd ⟨by omega, hrule⟩ hkn
                  · rfl
                simp [hk2, hrule]
                exact ⟨sizedAgg2, sizedTR2 _ _ _, sizedAgg2, by unfold lenMax; omega, t.rows.length - (i + 1), by omega, i + 1, rfl, by omega, ⟨hc0.symm, by rw [← List.map_take, ← List.map_take, htk, List.map_append]; simp [hrow, hrule]⟩, by rw [wrap64 (by omega) (by omega)]; omega⟩
              · simp [hk2]
                exact ⟨sizedAgg2, sizedTR2 _ _ _, sizedAgg2, by unfold lenMax; omega, t.rows.length - (i + 1), by omega, i + 1, rfl, by omega, ⟨hc0.symm, by rw [← List.map_take, ← List.map_take, htk, List.map_append]; simp [hrow]⟩, by rw [wrap64 (by omega) (by omega)]; omega⟩
        · simp at hlt
          simp [List.take_of_length_le hlt]
          exact ⟨rfl, by simp [mendT, hn]; exact List.take_of_length_le (by simpa using hlt), rfl, by simp [mendT, hall]⟩
    · rw [if_neg (by simpa using hc)] at hCM
      simp
      rw [hCM]
      cases hall : t.all
      · simp
        refine loopC (fun d e H => ∃ (i : Nat) (X : Heap) (x0 x4 x7 x8 x9 x14 x26 x36 x51 x69 x80 : FV), d = t.rows.length - i ∧ i ≤ t.rows.length ∧
          H = [FV.sc (PV.str t.cols), FV.sc (PV.sl (List.map TRow.pv t.rows)), FV.sc (PV.bool t.box), FV.sc (PV.bool false)] :: [FV.sc (PV.str ByteArray.empty), FV.own [], FV.sc (PV.bool false), FV.sc (PV.bool false)] :: [FV.sc (PV.str (mendCols t.cols)), FV.own (((t.rows.take i).map (mendRow n)).map TRow.pv), FV.sc (PV.bool t.box), FV.sc (PV.bool false)] :: X ∧
          e = [(0, x0), (1, .ptr 0 0), (2, .ptr 1 0), (3, .sc (.str (mendCols t.cols))), (4, x4), (5, .ptr 2 0), (6, .sc (.int .i64 i)), (7, x7), (8, x8), (9, x9), (14, x14), (26, x26), (36, x36), (51, x51), (69, x69), (80, x80)]) (d := t.rows.length)
          ⟨0, [], _, _, _, _, _, _, _, _, _, _, _, rfl, by omega, by simp, rfl⟩ ?_
        rintro d e H ⟨i, X, x0, x4, x7, x8, x9, x14, x26, x36, x51, x69, x80, rfl, hi, rfl, rfl⟩
        simp
        refine CondC.mk (fun hlt => ?_) (fun hlt => ?_)
        · simp at hlt
          have hr := ht.cells _ (List.getElem_mem hlt)
          have htk : t.rows.take (i + 1) = t.rows.take i ++ [t.rows[i]] := List.take_succ_eq_append_getElem hlt
          have hrl := ht.rows
          obtain ⟨r, hrr⟩ : ∃ r, t.rows[i] = r := ⟨_, rfl⟩
          have hat : (List.map TRow.pv t.rows)[i]? = some (PV.agg [.bool r.rule, .sl (r.cells.map gl)]) := by
            rw [map_at hlt, hrr]; rfl
          have hq : t.rows[i]? = some r := by rw [List.getElem?_eq_getElem hlt, hrr]
          rw [hrr] at hr htk
          simp [hq, TRow.pv]
          obtain ⟨c0, hc0⟩ : ∃ c0 : List FV, [FV.sc (PV.str t.cols), FV.sc (PV.sl (List.map TRow.pv t.rows)), FV.sc (PV.bool t.box), FV.sc (PV.bool false)] = c0 := ⟨_, rfl⟩
          refine loopC (fun d e H => ∃ (k : Nat) (x9 x69 x80 : FV), d = n - k ∧ k ≤ n ∧ (r.rule = true → k = 0) ∧
            H = c0 :: [FV.sc (PV.str ByteArray.empty), FV.own [], FV.sc (PV.bool false), FV.sc (PV.bool false)] :: [FV.sc (PV.str (mendCols t.cols)), FV.own (((t.rows.take i).map (mendRow n)).map TRow.pv), FV.sc (PV.bool t.box), FV.sc (PV.bool false)] :: (X ++ [[FV.sc (.bool r.rule), FV.own (((List.range k).map (cellM r)).map gl)]]) ∧
            e = [(0, x0), (1, .ptr 0 0), (2, .ptr 1 0), (3, .sc (.str (mendCols t.cols))), (4, x4), (5, .ptr 2 0), (6, .sc (.int .i64 i)), (7, .ptr (X.length + 1 + 1 + 1) 0), (8, .sc (.int .i64 k)), (9, x9), (14, x14), (26, x26), (36, x36), (51, .sc (.bool true)), (69, x69), (80, x80)]) (d := n)
            ⟨0, x9, x69, x80, rfl, by omega, by simp, ?_, ?_⟩ ?_
          · rw [hc0]; simp
          · simp [hlt]
          · rintro d e H ⟨k, x9, x69, x80, rfl, hk, hrk, rfl, rfl⟩
            have hmr := mendRow_eq n r
            by_cases hkn : k < n ∧ r.rule = false
            · obtain ⟨hkn, hrule⟩ := hkn
              have hkn' : k < (mendCols t.cols).size := by omega
              have hnk : (List.range (k + 1)).map (cellM r) = (List.range k).map (cellM r) ++ [cellM r k] := by rw [List.range_succ, List.map_append]; rfl
              simp [hkn', hrule, ← hc0, hq, TRow.pv]
              by_cases hkc : k < r.cells.length
              · have sq := refSqueeze r.cells[k] (hr.2 _ (List.getElem_mem hkc))
                have hcm : cellM r k = squeeze r.cells[k] := by simp [cellM, hkc]
                simp only [gl] at sq
                simp [hkc, gl, hq, TRow.pv]
                refine CallQ.mk (Call.pure callable72 (by simp) (by simp) sq) ?_
                simp
                exact ⟨sized1l, sizedGlC r k, sized1l, by unfold lenMax; omega, n - (k + 1), by omega, k + 1, rfl, by omega, by rw [List.range_succ, List.map_append]; simp [hcm, gl], by rw [wrap64 (by omega) (by omega)]; omega⟩
              · have hcm : cellM r k = [] := by simp [cellM, hkc]
                simp [hkc]
                exact ⟨sized1l, sizedGlC r k, sized1l, by unfold lenMax; omega, n - (k + 1), by omega, k + 1, rfl, by omega, by rw [List.range_succ, List.map_append]; simp [hcm, gl], by rw [wrap64 (by omega) (by omega)]; omega⟩
            · have hcells : (mendRow n r).cells = (List.range k).map (cellM r) := by
                rw [hmr]
                cases hrule : r.rule
                · simp only [hrule, and_true] at hkn
                  obtain rfl : k = n := by omega
                  rfl
                · rw [hrk hrule]; rfl
              have hrow : (mendRow n r).pv = .agg [.bool r.rule, .sl (((List.range k).map (cellM r)).map gl)] := by
                rw [TRow.pv, hcells]; rfl
              by_cases hk2 : k < (mendCols t.cols).size
              · have hrule : r.rule = true := by
                  cases hrule : r.rule
                  · exact absurd ⟨by omega, hrule⟩ hkn
                  · rfl
                simp [hk2, hrule]
                exact ⟨sizedAgg2, sizedTR2 _ _ _, sizedAgg2, by unfold lenMax; omega, t.rows.length - (i + 1), by omega, i + 1, rfl, by omega, ⟨hc0.symm, by rw [← List.map_take, ← List.map_take, htk, List.map_append]; simp [hrow, hrule]⟩, by rw [wrap64 (by omega) (by omega)]; omega⟩
              · simp [hk2]
                exact ⟨sizedAgg2, sizedTR2 _ _ _, sizedAgg2, by unfold lenMax; omega, t.rows.length - (i + 1), by omega, i + 1, rfl, by omega, ⟨hc0.symm, by rw [← List.map_take, ← List.map_take, htk, List.map_append]; simp [hrow]⟩, by rw [wrap64 (by omega) (by omega)]; omega⟩
        · simp at hlt
          simp [List.take_of_length_le hlt]
          exact ⟨rfl, by simp [mendT, hn]; exact List.take_of_length_le (by simpa using hlt), rfl, by simp [mendT, hall]⟩
      · simp
        refine loopC (fun d e H => ∃ (i : Nat) (X : Heap) (x0 x4 x7 x8 x9 x14 x26 x36 x51 x69 x80 : FV), d = t.rows.length - i ∧ i ≤ t.rows.length ∧
          H = [FV.sc (PV.str t.cols), FV.sc (PV.sl (List.map TRow.pv t.rows)), FV.sc (PV.bool t.box), FV.sc (PV.bool true)] :: [FV.sc (PV.str ByteArray.empty), FV.own [], FV.sc (PV.bool false), FV.sc (PV.bool false)] :: [FV.sc (PV.str (mendCols t.cols)), FV.own (((t.rows.take i).map (mendRow n)).map TRow.pv), FV.sc (PV.bool t.box), FV.sc (PV.bool t.box)] :: X ∧
          e = [(0, x0), (1, .ptr 0 0), (2, .ptr 1 0), (3, .sc (.str (mendCols t.cols))), (4, x4), (5, .ptr 2 0), (6, .sc (.int .i64 i)), (7, x7), (8, x8), (9, x9), (14, x14), (26, x26), (36, x36), (51, x51), (69, x69), (80, x80)]) (d := t.rows.length)
          ⟨0, [], _, _, _, _, _, _, _, _, _, _, _, rfl, by omega, by simp, rfl⟩ ?_
        rintro d e H ⟨i, X, x0, x4, x7, x8, x9, x14, x26, x36, x51, x69, x80, rfl, hi, rfl, rfl⟩
        simp
        refine CondC.mk (fun hlt => ?_) (fun hlt => ?_)
        · simp at hlt
          have hr := ht.cells _ (List.getElem_mem hlt)
          have htk : t.rows.take (i + 1) = t.rows.take i ++ [t.rows[i]] := List.take_succ_eq_append_getElem hlt
          have hrl := ht.rows
          obtain ⟨r, hrr⟩ : ∃ r, t.rows[i] = r := ⟨_, rfl⟩
          have hat : (List.map TRow.pv t.rows)[i]? = some (PV.agg [.bool r.rule, .sl (r.cells.map gl)]) := by
            rw [map_at hlt, hrr]; rfl
          have hq : t.rows[i]? = some r := by rw [List.getElem?_eq_getElem hlt, hrr]
          rw [hrr] at hr htk
          simp [hq, TRow.pv]
          obtain ⟨c0, hc0⟩ : ∃ c0 : List FV, [FV.sc (PV.str t.cols), FV.sc (PV.sl (List.map TRow.pv t.rows)), FV.sc (PV.bool t.box), FV.sc (PV.bool true)] = c0 := ⟨_, rfl⟩
          refine loopC (fun d e H => ∃ (k : Nat) (x9 x69 x80 : FV), d = n - k ∧ k ≤ n ∧ (r.rule = true → k = 0) ∧
            H = c0 :: [FV.sc (PV.str ByteArray.empty), FV.own [], FV.sc (PV.bool false), FV.sc (PV.bool false)] :: [FV.sc (PV.str (mendCols t.cols)), FV.own (((t.rows.take i).map (mendRow n)).map TRow.pv), FV.sc (PV.bool t.box), FV.sc (PV.bool t.box)] :: (X ++ [[FV.sc (.bool r.rule), FV.own (((List.range k).map (cellM r)).map gl)]]) ∧
            e = [(0, x0), (1, .ptr 0 0), (2, .ptr 1 0), (3, .sc (.str (mendCols t.cols))), (4, x4), (5, .ptr 2 0), (6, .sc (.int .i64 i)), (7, .ptr (X.length + 1 + 1 + 1) 0), (8, .sc (.int .i64 k)), (9, x9), (14, x14), (26, x26), (36, x36), (51, .sc (.bool true)), (69, x69), (80, x80)]) (d := n)
            ⟨0, x9, x69, x80, rfl, by omega, by simp, ?_, ?_⟩ ?_
          · rw [hc0]; simp
          · simp [hlt]
          · rintro d e H ⟨k, x9, x69, x80, rfl, hk, hrk, rfl, rfl⟩
            have hmr := mendRow_eq n r
            by_cases hkn : k < n ∧ r.rule = false
            · obtain ⟨hkn, hrule⟩ := hkn
              have hkn' : k < (mendCols t.cols).size := by omega
              have hnk : (List.range (k + 1)).map (cellM r) = (List.range k).map (cellM r) ++ [cellM r k] := by rw [List.range_succ, List.map_append]; rfl
              simp [hkn', hrule, ← hc0, hq, TRow.pv]
              by_cases hkc : k < r.cells.length
              · have sq := refSqueeze r.cells[k] (hr.2 _ (List.getElem_mem hkc))
                have hcm : cellM r k = squeeze r.cells[k] := by simp [cellM, hkc]
                simp only [gl] at sq
                simp [hkc, gl, hq, TRow.pv]
                refine CallQ.mk (Call.pure callable72 (by simp) (by simp) sq) ?_
                simp
                exact ⟨sized1l, sizedGlC r k, sized1l, by unfold lenMax; omega, n - (k + 1), by omega, k + 1, rfl, by omega, by rw [List.range_succ, List.map_append]; simp [hcm, gl], by rw [wrap64 (by omega) (by omega)]; omega⟩
              · have hcm : cellM r k = [] := by simp [cellM, hkc]
                simp [hkc]
                exact ⟨sized1l, sizedGlC r k, sized1l, by unfold lenMax; omega, n - (k + 1), by omega, k + 1, rfl, by omega, by rw [List.range_succ, List.map_append]; simp [hcm, gl], by rw [wrap64 (by omega) (by omega)]; omega⟩
            · have hcells : (mendRow n r).cells = (List.range k).map (cellM r) := by
                rw [hmr]
                cases hrule : r.rule
                · simp only [hrule, and_true] at hkn
                  obtain rfl : k = n := by omega
                  rfl
                · rw [hrk hrule]; rfl
              have hrow : (mendRow n r).pv = .agg [.bool r.rule, .sl (((List.range k).map (cellM r)).map gl)] := by
                rw [TRow.pv, hcells]; rfl
              by_cases hk2 : k < (mendCols t.cols).size
              · have hrule : r.rule = true := by
                  cases hrule : r.rule
                  · exact absurd ⟨by omega, hrule⟩ hkn
                  · rfl
                simp [hk2, hrule]
                exact ⟨sizedAgg2, sizedTR2 _ _ _, sizedAgg2, by unfold lenMax; omega, t.rows.length - (i + 1), by omega, i + 1, rfl, by omega, ⟨hc0.symm, by rw [← List.map_take, ← List.map_take, htk, List.map_append]; simp [hrow, hrule]⟩, by rw [wrap64 (by omega) (by omega)]; omega⟩
              · simp [hk2]
                exact ⟨sizedAgg2, sizedTR2 _ _ _, sizedAgg2, by unfold lenMax; omega, t.rows.length - (i + 1), by omega, i + 1, rfl, by omega, ⟨hc0.symm, by rw [← List.map_take, ← List.map_take, htk, List.map_append]; simp [hrow]⟩, by rw [wrap64 (by omega) (by omega)]; omega⟩
        · simp at hlt
          simp [List.take_of_length_le hlt]
          exact ⟨rfl, by simp [mendT, hn]; exact List.take_of_length_le (by simpa using hlt), rfl, by simp [mendT, hall]⟩
end Go.Proofs.YtlnnnfogbakimaaDoor.Ev
end
section
namespace Go.Proofs.YtlnnnfogbakimaaDoor.Ev
open Go
set_option linter.unusedSimpArgs false in
set_option maxRecDepth 20000 in
set_option maxHeartbeats 4000000 in
theorem refRight (t : Tbl) (ht : TblS t) : PCon C0 43 [t.pv.toFV] (.sc (.bool (rightT t))) := by
  refine penter43 ?_
  have hcs := ht.cols
  have hrl := ht.rows
  by_cases h0 : t.cols.size = 0
  · have h0' : (t.cols.size : Int) < 1 := by omega
    simp [Tryd.f43, Tbl.pv, h0', h0, rightT]
  have h0' : ¬ (t.cols.size : Int) < 1 := by omega
  by_cases h20 : 20 < t.cols.size
  · have h20' : (20 : Int) < t.cols.size := by omega
    simp [Tryd.f43, Tbl.pv, h0', h20', rightT, h20]
  have h20' : ¬ (20 : Int) < t.cols.size := by omega
  by_cases hab : t.all = true ∧ t.box = false
  · obtain ⟨ha, hb⟩ := hab
    simp [Tryd.f43, Tbl.pv, h0', h20', ha, hb, rightT]
  have hab' : (t.all && !t.box) = false := by
    cases ha : t.all <;> cases hb : t.box <;> simp_all
  have hgo : ∀ c : Bool, t.all = c → (c = true → t.box = true) := fun c hc h => by
    cases hb : t.box
    · exact absurd ⟨hc.trans h, hb⟩ hab
    · rfl
  have hright : rightT t = (colsOk t.cols && !t.rows.any (badRow t.cols.size)) := by
    simp [rightT, h0, h20, hab']
  rw [hright]
  cases hall : t.all
  · simp [Tryd.f43, Tbl.pv, h0', h20', hall]
    refine loopC (fun d e H => ∃ (i : Nat) (x0 x25 x30 x38 : FV), d = t.cols.size - i ∧ i ≤ t.cols.size ∧ (∀ j (hj : j < t.cols.size), j < i → isSide (t.cols.data[j]'hj) = true) ∧ H = [[FV.sc (PV.str t.cols), FV.sc (PV.sl (List.map TRow.pv t.rows)), FV.sc (PV.bool t.box), FV.sc (PV.bool false)]] ∧
      e = [(0, x0), (1, .ptr 0 0), (2, .sc (.bool false)), (3, .sc (.int .i64 i)), (4, .undef), (5, .undef), (6, .undef), (25, x25), (30, x30), (38, x38), (43, .undef), (72, .undef), (77, .undef), (86, .undef)]) (d := t.cols.size) ⟨0, _, _, _, _, rfl, by omega, by simp, rfl, rfl⟩ ?_
    rintro d e H ⟨i, x0, x25, x30, x38, rfl, hi, hall1, rfl, rfl⟩
    simp
    refine CondC.mk (fun hlt => ?_) (fun hlt => ?_)
    · simp at hlt
      have hlt' : i < t.cols.data.size := hlt
      have rs := refSide (t.cols.data[i]'hlt)
      have hmem : t.cols.data[i]'hlt ∈ t.cols.data.toList := by simp
      obtain ⟨b, hb⟩ : ∃ b, t.cols.data[i]'hlt = b := ⟨_, rfl⟩
      rw [hb] at rs hmem
      simp [hlt, hlt', hb]
      refine CallQ.mk (Call.pure callable71 (by simp) (by simp) rs) ?_
      cases hs : isSide b
      · have hco : colsOk t.cols = false := by
          rw [colsOk, List.all_eq_false]
          exact ⟨b, hmem, by simp [hs]⟩
        simp [hco]
      · simp
        refine ⟨t.cols.size - (i + 1), by omega, i + 1, rfl, by omega, fun j hj h => ?_, by rw [wrap64 (by omega) (by omega)]; omega⟩
        rcases Nat.lt_or_ge j i with h' | h'
        · exact hall1 j hj h'
        · obtain rfl : j = i := by omega
          rw [hb]; exact hs
    · simp at hlt
      have hco : colsOk t.cols = true := by
        rw [colsOk, List.all_eq_true]
        intro b hb
        obtain ⟨j, hj, rfl⟩ := List.getElem_of_mem hb
        have hj' : j < t.cols.size := by simpa using hj
        have := hall1 j hj' (by omega)
        simpa using this
      simp [hco]
      refine loopC (fun d e H => ∃ (i : Nat) (X : Heap) (x0 x3 x5 x6 x25 x30 x38 x43 x72 x77 x86 : FV), d = t.rows.length - i ∧ i ≤ t.rows.length ∧ (∀ j (hj : j < t.rows.length), j < i → badRow t.cols.size t.rows[j] = false) ∧ H = [FV.sc (PV.str t.cols), FV.sc (PV.sl (List.map TRow.pv t.rows)), FV.sc (PV.bool t.box), FV.sc (PV.bool false)] :: X ∧
        e = [(0, x0), (1, .ptr 0 0), (2, .sc (.bool false)), (3, x3), (4, .sc (.int .i64 i)), (5, x5), (6, x6), (25, x25), (30, x30), (38, x38), (43, x43), (72, x72), (77, x77), (86, x86)]) (d := t.rows.length) ⟨0, [], _, _, _, _, _, _, _, _, _, _, _, rfl, by omega, by simp, rfl, rfl⟩ ?_
      rintro d e H ⟨i, X, x0, x3, x5, x6, x25, x30, x38, x43, x72, x77, x86, rfl, hi, hall2, rfl, rfl⟩
      simp
      refine CondC.mk (fun hlt => ?_) (fun hlt => ?_)
      · simp at hlt
        have hr := ht.cells _ (List.getElem_mem hlt)
        have hmem := List.getElem_mem hlt
        obtain ⟨r, hrr⟩ : ∃ r, t.rows[i] = r := ⟨_, rfl⟩
        rw [hrr] at hr hmem
        have fail : badRow t.cols.size r = true → (t.rows.any (badRow t.cols.size)) = true := fun h => List.any_eq_true.2 ⟨r, hmem, h⟩
        have next : badRow t.cols.size r = false → ∃ d', d' < t.rows.length - i ∧ ∃ i', d' = t.rows.length - i' ∧ i' ≤ t.rows.length ∧ (∀ j (hj : j < t.rows.length), j < i' → badRow t.cols.size t.rows[j] = false) ∧ IntKind.i64.wrap ((i : Int) + 1) = (i' : Nat) := fun h =>
          ⟨t.rows.length - (i + 1), by omega, i + 1, rfl, by omega, fun j hj hji => by
            rcases Nat.lt_or_ge j i with h' | h'
            · exact hall2 j hj h'
            · obtain rfl : j = i := by omega
              rw [hrr]; exact h, by rw [wrap64 (by omega) (by omega)]; omega⟩
        have hq : t.rows[i]? = some r := by rw [List.getElem?_eq_getElem hlt, hrr]
        have hgl : r.cells.map gl = r.cells.map gl := rfl
        cases hrule : r.rule
        · by_cases hlen : r.cells.length = t.cols.size
          · have hlen' : (r.cells.length : Int) = t.cols.size := by omega
            simp [hq, TRow.pv, hrule, hlen']
            refine loopC (fun d e H => ∃ (k : Nat) (x77 x86 : FV), d = r.cells.length - k ∧ k ≤ r.cells.length ∧ (∀ j (hj : j < r.cells.length), j < k → sqzd r.cells[j] = true) ∧ H = [FV.sc (PV.str t.cols), FV.sc (PV.sl (List.map TRow.pv t.rows)), FV.sc (PV.bool t.box), FV.sc (PV.bool false)] :: (X ++ [[FV.sc (.bool false), FV.sc (.sl (r.cells.map gl))]]) ∧
              e = [(0, x0), (1, .ptr 0 0), (2, .sc (.bool false)), (3, x3), (4, .sc (.int .i64 i)), (5, .ptr (X.length + 1) 0), (6, .sc (.int .i64 k)), (25, x25), (30, x30), (38, x38), (43, .sc (.bool true)), (72, .sc (.bool false)), (77, x77), (86, x86)]) (d := r.cells.length) ⟨0, x77, x86, rfl, by omega, by simp, by first | rfl | simp, by first | rfl | (simp [hlt]; done) | (simp [hlt, hlen]; done)⟩ ?_
            rintro d e H ⟨k, x77, x86, rfl, hk, hsq, rfl, rfl⟩
            simp
            refine CondC.mk (fun hkl => ?_) (fun hkl => ?_)
            · simp at hkl
              have cs := refSqueezed r.cells[k] (hr.2 _ (List.getElem_mem hkl))
              simp only [gl] at cs
              simp [hkl, gl]
              refine CallQ.mk (Call.pure callable79 (by simp) (by simp) cs) ?_
              cases hs : sqzd r.cells[k]
              · have hbad : badRow t.cols.size r = true := by
                  have hany : (r.cells.any fun c => !sqzd c) = true := List.any_eq_true.2 ⟨_, List.getElem_mem hkl, by rw [hs]; rfl⟩
                  simp [badRow, hrule, hany]
                have := fail hbad
                simp [this]
              · simp
                refine ⟨r.cells.length - (k + 1), by omega, k + 1, rfl, by omega, fun j hj h => ?_, by rw [wrap64 (by omega) (by omega)]; omega⟩
                rcases Nat.lt_or_ge j k with h' | h'
                · exact hsq j hj h'
                · obtain rfl : j = k := by omega
                  exact hs
            · simp at hkl
              have hgood : badRow t.cols.size r = false := by
                have hany : (r.cells.any fun c => !sqzd c) = false := by
                  rw [List.any_eq_false]
                  intro c hc
                  obtain ⟨j, hj, rfl⟩ := List.getElem_of_mem hc
                  simp [hsq j hj (by omega)]
                simp [badRow, hrule, hany, hlen]
              simp
              exact next hgood
          · have hlen' : ¬ (r.cells.length : Int) = t.cols.size := by omega
            have := fail (by simp [badRow, hrule, hlen])
            simp [hq, TRow.pv, hrule, hlen', this]
        · by_cases hlen : r.cells.length = 0
          · have hlen' : ¬ 0 < r.cells.length := by omega
            simp [hq, TRow.pv, hrule, hlen']
            refine loopC (fun d e H => ∃ (k : Nat) (x77 x86 : FV), d = r.cells.length - k ∧ k ≤ r.cells.length ∧ (∀ j (hj : j < r.cells.length), j < k → sqzd r.cells[j] = true) ∧ H = [FV.sc (PV.str t.cols), FV.sc (PV.sl (List.map TRow.pv t.rows)), FV.sc (PV.bool t.box), FV.sc (PV.bool false)] :: (X ++ [[FV.sc (.bool true), FV.sc (.sl (r.cells.map gl))]]) ∧
              e = [(0, x0), (1, .ptr 0 0), (2, .sc (.bool false)), (3, x3), (4, .sc (.int .i64 i)), (5, .ptr (X.length + 1) 0), (6, .sc (.int .i64 k)), (25, x25), (30, x30), (38, x38), (43, .sc (.bool true)), (72, .sc (.bool false)), (77, x77), (86, x86)]) (d := r.cells.length) ⟨0, x77, x86, rfl, by omega, by simp, by first | rfl | simp, by first | rfl | (simp [hlt]; done) | (simp [hlt, hlen]; done)⟩ ?_
            rintro d e H ⟨k, x77, x86, rfl, hk, hsq, rfl, rfl⟩
            simp
            refine CondC.mk (fun hkl => ?_) (fun hkl => ?_)
            · simp at hkl
              have cs := refSqueezed r.cells[k] (hr.2 _ (List.getElem_mem hkl))
              simp only [gl] at cs
              simp [hkl, gl]
              refine CallQ.mk (Call.pure callable79 (by simp) (by simp) cs) ?_
              cases hs : sqzd r.cells[k]
              · have hbad : badRow t.cols.size r = true := by
                  have hany : (r.cells.any fun c => !sqzd c) = true := List.any_eq_true.2 ⟨_, List.getElem_mem hkl, by rw [hs]; rfl⟩
                  simp [badRow, hrule]; omega
                have := fail hbad
                simp [this]
              · simp
                refine ⟨r.cells.length - (k + 1), by omega, k + 1, rfl, by omega, fun j hj h => ?_, by rw [wrap64 (by omega) (by omega)]; omega⟩
                rcases Nat.lt_or_ge j k with h' | h'
                · exact hsq j hj h'
                · obtain rfl : j = k := by omega
                  exact hs
            · simp at hkl
              have hgood : badRow t.cols.size r = false := by
                have hany : (r.cells.any fun c => !sqzd c) = false := by
                  rw [List.any_eq_false]
                  intro c hc
                  obtain ⟨j, hj, rfl⟩ := List.getElem_of_mem hc
                  simp [hsq j hj (by omega)]
                simp [badRow, hrule, hlen]
              simp
              exact next hgood
          · have hlen' : 0 < r.cells.length := by omega
            have := fail (by simp [badRow, hrule]; omega)
            simp [hq, TRow.pv, hrule, hlen', this]
      · simp at hlt
        have : (t.rows.any (badRow t.cols.size)) = false := by
          rw [List.any_eq_false]
          intro r hr
          obtain ⟨j, hj, rfl⟩ := List.getElem_of_mem hr
          simp [hall2 j hj (by omega)]
        simp [this]
  · have hbox := hgo true hall rfl
    simp [Tryd.f43, Tbl.pv, h0', h20', hall, hbox]
    refine loopC (fun d e H => ∃ (i : Nat) (x0 x25 x30 x38 : FV), d = t.cols.size - i ∧ i ≤ t.cols.size ∧ (∀ j (hj : j < t.cols.size), j < i → isSide (t.cols.data[j]'hj) = true) ∧ H = [[FV.sc (PV.str t.cols), FV.sc (PV.sl (List.map TRow.pv t.rows)), FV.sc (PV.bool true), FV.sc (PV.bool true)]] ∧
      e = [(0, x0), (1, .ptr 0 0), (2, .sc (.bool false)), (3, .sc (.int .i64 i)), (4, .undef), (5, .undef), (6, .undef), (25, x25), (30, x30), (38, x38), (43, .undef), (72, .undef), (77, .undef), (86, .undef)]) (d := t.cols.size) ⟨0, _, _, _, _, rfl, by omega, by simp, rfl, rfl⟩ ?_
    rintro d e H ⟨i, x0, x25, x30, x38, rfl, hi, hall1, rfl, rfl⟩
    simp
    refine CondC.mk (fun hlt => ?_) (fun hlt => ?_)
    · simp at hlt
      have hlt' : i < t.cols.data.size := hlt
      have rs := refSide (t.cols.data[i]'hlt)
      have hmem : t.cols.data[i]'hlt ∈ t.cols.data.toList := by simp
      obtain ⟨b, hb⟩ : ∃ b, t.cols.data[i]'hlt = b := ⟨_, rfl⟩
      rw [hb] at rs hmem
      simp [hlt, hlt', hb]
      refine CallQ.mk (Call.pure callable71 (by simp) (by simp) rs) ?_
      cases hs : isSide b
      · have hco : colsOk t.cols = false := by
          rw [colsOk, List.all_eq_false]
          exact ⟨b, hmem, by simp [hs]⟩
        simp [hco]
      · simp
        refine ⟨t.cols.size - (i + 1), by omega, i + 1, rfl, by omega, fun j hj h => ?_, by rw [wrap64 (by omega) (by omega)]; omega⟩
        rcases Nat.lt_or_ge j i with h' | h'
        · exact hall1 j hj h'
        · obtain rfl : j = i := by omega
          rw [hb]; exact hs
    · simp at hlt
      have hco : colsOk t.cols = true := by
        rw [colsOk, List.all_eq_true]
        intro b hb
        obtain ⟨j, hj, rfl⟩ := List.getElem_of_mem hb
        have hj' : j < t.cols.size := by simpa using hj
        have := hall1 j hj' (by omega)
        simpa using this
      simp [hco]
      refine loopC (fun d e H => ∃ (i : Nat) (X : Heap) (x0 x3 x5 x6 x25 x30 x38 x43 x72 x77 x86 : FV), d = t.rows.length - i ∧ i ≤ t.rows.length ∧ (∀ j (hj : j < t.rows.length), j < i → badRow t.cols.size t.rows[j] = false) ∧ H = [FV.sc (PV.str t.cols), FV.sc (PV.sl (List.map TRow.pv t.rows)), FV.sc (PV.bool true), FV.sc (PV.bool true)] :: X ∧
        e = [(0, x0), (1, .ptr 0 0), (2, .sc (.bool false)), (3, x3), (4, .sc (.int .i64 i)), (5, x5), (6, x6), (25, x25), (30, x30), (38, x38), (43, x43), (72, x72), (77, x77), (86, x86)]) (d := t.rows.length) ⟨0, [], _, _, _, _, _, _, _, _, _, _, _, rfl, by omega, by simp, rfl, rfl⟩ ?_
      rintro d e H ⟨i, X, x0, x3, x5, x6, x25, x30, x38, x43, x72, x77, x86, rfl, hi, hall2, rfl, rfl⟩
      simp
      refine CondC.mk (fun hlt => ?_) (fun hlt => ?_)
      · simp at hlt
        have hr := ht.cells _ (List.getElem_mem hlt)
        have hmem := List.getElem_mem hlt
        obtain ⟨r, hrr⟩ : ∃ r, t.rows[i] = r := ⟨_, rfl⟩
        rw [hrr] at hr hmem
        have fail : badRow t.cols.size r = true → (t.rows.any (badRow t.cols.size)) = true := fun h => List.any_eq_true.2 ⟨r, hmem, h⟩
        have next : badRow t.cols.size r = false → ∃ d', d' < t.rows.length - i ∧ ∃ i', d' = t.rows.length - i' ∧ i' ≤ t.rows.length ∧ (∀ j (hj : j < t.rows.length), j < i' → badRow t.cols.size t.rows[j] = false) ∧ IntKind.i64.wrap ((i : Int) + 1) = (i' : Nat) := fun h =>
          ⟨t.rows.length - (i + 1), by omega, i + 1, rfl, by omega, fun j hj hji => by
            rcases Nat.lt_or_ge j i with h' | h'
            · exact hall2 j hj h'
            · obtain rfl : j = i := by omega
              rw [hrr]; exact h, by rw [wrap64 (by omega) (by omega)]; omega⟩
        have hq : t.rows[i]? = some r := by rw [List.getElem?_eq_getElem hlt, hrr]
        have hgl : r.cells.map gl = r.cells.map gl := rfl
        cases hrule : r.rule
        · by_cases hlen : r.cells.length = t.cols.size
          · have hlen' : (r.cells.length : Int) = t.cols.size := by omega
            simp [hq, TRow.pv, hrule, hlen']
            refine loopC (fun d e H => ∃ (k : Nat) (x77 x86 : FV), d = r.cells.length - k ∧ k ≤ r.cells.length ∧ (∀ j (hj : j < r.cells.length), j < k → sqzd r.cells[j] = true) ∧ H = [FV.sc (PV.str t.cols), FV.sc (PV.sl (List.map TRow.pv t.rows)), FV.sc (PV.bool true), FV.sc (PV.bool true)] :: (X ++ [[FV.sc (.bool false), FV.sc (.sl (r.cells.map gl))]]) ∧
              e = [(0, x0), (1, .ptr 0 0), (2, .sc (.bool false)), (3, x3), (4, .sc (.int .i64 i)), (5, .ptr (X.length + 1) 0), (6, .sc (.int .i64 k)), (25, x25), (30, x30), (38, x38), (43, .sc (.bool true)), (72, .sc (.bool false)), (77, x77), (86, x86)]) (d := r.cells.length) ⟨0, x77, x86, rfl, by omega, by simp, by first | rfl | simp, by first | rfl | (simp [hlt]; done) | (simp [hlt, hlen]; done)⟩ ?_
            rintro d e H ⟨k, x77, x86, rfl, hk, hsq, rfl, rfl⟩
            simp
            refine CondC.mk (fun hkl => ?_) (fun hkl => ?_)
            · simp at hkl
              have cs := refSqueezed r.cells[k] (hr.2 _ (List.getElem_mem hkl))
              simp only [gl] at cs
              simp [hkl, gl]
              refine CallQ.mk (Call.pure callable79 (by simp) (by simp) cs) ?_
              cases hs : sqzd r.cells[k]
              · have hbad : badRow t.cols.size r = true := by
                  have hany : (r.cells.any fun c => !sqzd c) = true := List.any_eq_true.2 ⟨_, List.getElem_mem hkl, by rw [hs]; rfl⟩
                  simp [badRow, hrule, hany]
                have := fail hbad
                simp [this]
              · simp
                refine ⟨r.cells.length - (k + 1), by omega, k + 1, rfl, by omega, fun j hj h => ?_, by rw [wrap64 (by omega) (by omega)]; omega⟩
                rcases Nat.lt_or_ge j k with h' | h'
                · exact hsq j hj h'
                · obtain rfl : j = k := by omega
                  exact hs
            · simp at hkl
              have hgood : badRow t.cols.size r = false := by
                have hany : (r.cells.any fun c => !sqzd c) = false := by
                  rw [List.any_eq_false]
                  intro c hc
                  obtain ⟨j, hj, rfl⟩ := List.getElem_of_mem hc
                  simp [hsq j hj (by omega)]
                simp [badRow, hrule, hany, hlen]
              simp
              exact next hgood
          · have hlen' : ¬ (r.cells.length : Int) = t.cols.size := by omega
            have := fail (by simp [badRow, hrule, hlen])
            simp [hq, TRow.pv, hrule, hlen', this]
        · by_cases hlen : r.cells.length = 0
          · have hlen' : ¬ 0 < r.cells.length := by omega
            simp [hq, TRow.pv, hrule, hlen']
            refine loopC (fun d e H => ∃ (k : Nat) (x77 x86 : FV), d = r.cells.length - k ∧ k ≤ r.cells.length ∧ (∀ j (hj : j < r.cells.length), j < k → sqzd r.cells[j] = true) ∧ H = [FV.sc (PV.str t.cols), FV.sc (PV.sl (List.map TRow.pv t.rows)), FV.sc (PV.bool true), FV.sc (PV.bool true)] :: (X ++ [[FV.sc (.bool true), FV.sc (.sl (r.cells.map gl))]]) ∧
              e = [(0, x0), (1, .ptr 0 0), (2, .sc (.bool false)), (3, x3), (4, .sc (.int .i64 i)), (5, .ptr (X.length + 1) 0), (6, .sc (.int .i64 k)), (25, x25), (30, x30), (38, x38), (43, .sc (.bool true)), (72, .sc (.bool false)), (77, x77), (86, x86)]) (d := r.cells.length) ⟨0, x77, x86, rfl, by omega, by simp, by first | rfl | simp, by first | rfl | (simp [hlt]; done) | (simp [hlt, hlen]; done)⟩ ?_
            rintro d e H ⟨k, x77, x86, rfl, hk, hsq, rfl, rfl⟩
            simp
            refine CondC.mk (fun hkl => ?_) (fun hkl => ?_)
            · simp at hkl
              have cs := refSqueezed r.cells[k] (hr.2 _ (List.getElem_mem hkl))
              simp only [gl] at cs
              simp [hkl, gl]
              refine CallQ.mk (Call.pure callable79 (by simp) (by simp) cs) ?_
              cases hs : sqzd r.cells[k]
              · have hbad : badRow t.cols.size r = true := by
                  have hany : (r.cells.any fun c => !sqzd c) = true := List.any_eq_true.2 ⟨_, List.getElem_mem hkl, by rw [hs]; rfl⟩
                  simp [badRow, hrule]; omega
                have := fail hbad
                simp [this]
              · simp
                refine ⟨r.cells.length - (k + 1), by omega, k + 1, rfl, by omega, fun j hj h => ?_, by rw [wrap64 (by omega) (by omega)]; omega⟩
                rcases Nat.lt_or_ge j k with h' | h'
                · exact hsq j hj h'
                · obtain rfl : j = k := by omega
                  exact hs
            · simp at hkl
              have hgood : badRow t.cols.size r = false := by
                have hany : (r.cells.any fun c => !sqzd c) = false := by
                  rw [List.any_eq_false]
                  intro c hc
                  obtain ⟨j, hj, rfl⟩ := List.getElem_of_mem hc
                  simp [hsq j hj (by omega)]
                simp [badRow, hrule, hlen]
              simp
              exact next hgood
          · have hlen' : 0 < r.cells.length := by omega
            have := fail (by simp [badRow, hrule]; omega)
            simp [hq, TRow.pv, hrule, hlen', this]
      · simp at hlt
        have : (t.rows.any (badRow t.cols.size)) = false := by
          rw [List.any_eq_false]
          intro r hr
          obtain ⟨j, hj, rfl⟩ := List.getElem_of_mem hr
          simp [hall2 j hj (by omega)]
        simp [this]
end Go.Proofs.YtlnnnfogbakimaaDoor.Ev
end
section
namespace Go.Proofs.YtlnnnfogbakimaaDoor.Ev
open Go
theorem mendCols_ok (c : ByteArray) : 0 < (mendCols c).size ∧ (mendCols c).size ≤ 20 ∧ colsOk (mendCols c) = true := by
  unfold mendCols
  by_cases h : List.take 20 (List.filter isSide c.data.toList) = []
  · rw [if_pos h]; decide
  · rw [if_neg h]
    refine ⟨?_, ?_, ?_⟩
    · show 0 < (List.take 20 (List.filter isSide c.data.toList)).toArray.size
      rw [List.size_toArray]; exact List.length_pos_iff.2 h
    · show (List.take 20 (List.filter isSide c.data.toList)).toArray.size ≤ 20
      rw [List.size_toArray, List.length_take]; omega
    · rw [colsOk, List.all_eq_true]
      intro b hb
      have hb' : b ∈ List.take 20 (List.filter isSide c.data.toList) := by simpa using hb
      exact (List.mem_filter.1 (List.mem_of_mem_take hb')).2
theorem TblS.ok {t : Tbl} (h : TblS t) : t.ok := ⟨by have := h.rows; omega, fun r hr => ⟨by have := (h.cells r hr).1; omega, fun c hc => by have := (h.cells r hr).2 c hc; omega⟩⟩
end Go.Proofs.YtlnnnfogbakimaaDoor.Ev
end
section
namespace Go.Proofs.YtlnnnfogbakimaaDoor.Ev
open Go
namespace Node
def kcnt (x : Node) : Nat := cntL x.kids
theorem cntL_eq (l : List Node) : cntL l = l.length + sumBy kcnt l := by
  induction l with
  | nil => rw [cntL]; rfl
  | cons x l ih => rw [cntL, cnt_eq, ih, sumBy, List.length_cons, kcnt]; omega
theorem cntL_kids {l : List Node} {x : Node} (h : x ∈ l) : cntL x.kids < cntL l := by
  have h1 := sumBy_mem' kcnt h
  have h2 : 0 < l.length := List.length_pos_of_mem h
  have h3 : kcnt x = cntL x.kids := rfl
  rw [cntL_eq l]; omega
theorem deeps_kids {l : List Node} {x : Node} (h : x ∈ l) : deeps x.kids < deeps l := by
  have := deeps_le h; omega
end Node
set_option linter.unusedSimpArgs false in
set_option maxRecDepth 20000 in
set_option maxHeartbeats 4000000 in
theorem treeCount : ∀ (n : Nat) (a : List Node), SizeOf.sizeOf a < n → Node.cntL a ≤ 1073741824 → PCon C0 45 [.sc (.sl (a.map Node.pv))] (.sc (.int .i64 (Node.cntL a : Nat))) := by
  intro n
  induction n with
  | zero => intro a h; omega
  | succ n ih =>
    intro a hn hl
    have hle := Node.cntL_eq a
    rw [hle] at hl ⊢
    refine penter45 ?_
    simp [Tryd.f45]
    refine loopC (fun d e H => ∃ (i : Nat) (x2 x5 x11 : FV), d = a.length - i ∧ i ≤ a.length ∧ e = [(0, .sc (.sl (a.map Node.pv))), (2, x2), (3, .sc (.int .i64 (a.length + sumBy Node.kcnt (a.take i) : Nat))), (5, x5), (8, .sc (.sl (a.map Node.pv))), (9, .sc (.int .i64 a.length)), (10, .sc (.int .i64 i)), (11, x11)]) (d := a.length) ⟨0, _, _, _, rfl, by omega, by simp [sumBy]; exact ⟨rfl, rfl, rfl⟩⟩ ?_
    rintro d e H ⟨i, x2, x5, x11, rfl, hi, rfl⟩
    simp
    refine CondC.mk (fun hlt => ?_) (fun hlt => ?_)
    · simp at hlt
      have ea := Node.pv_eq a[i]
      have hk := ih a[i].kids (by have := Node.kids_lt (List.getElem_mem hlt); omega) (by have := Node.cntL_kids (List.getElem_mem hlt); omega)
      have ht := sumBy_take Node.kcnt hlt
      have hm := sumBy_take_le Node.kcnt a (i + 1)
      have hkc : Node.kcnt a[i] = Node.cntL a[i].kids := rfl
      generalize hS : sumBy Node.kcnt (a.take i) = S at *
      simp [hlt, ea, gl]
      refine CallQ.mk (Call.pure callable45 (by simp) (by simp) hk) ?_
      simp
      refine ⟨a.length - (i + 1), by omega, i + 1, rfl, by omega, by rw [wrap64 (by omega) (by omega)]; omega, by rw [wrap64 (by omega) (by omega)]; omega⟩
    · simp at hlt
      simp [List.take_of_length_le hlt]
set_option linter.unusedSimpArgs false in
set_option maxRecDepth 20000 in
set_option maxHeartbeats 4000000 in
theorem refCount : ∀ (n : Nat) (a : List Node), SizeOf.sizeOf a < n → Node.cntL a ≤ 1073741824 → PCon C0 60 [.sc (.sl (a.map Node.pv))] (.sc (.int .i64 (Node.cntL a : Nat))) := by
  intro n
  induction n with
  | zero => intro a h; omega
  | succ n ih =>
    intro a hn hl
    have hle := Node.cntL_eq a
    rw [hle] at hl ⊢
    refine penter60 ?_
    simp [Tryd.f60]
    refine loopC (fun d e H => ∃ (i : Nat) (x2 x8 : FV), d = a.length - i ∧ i ≤ a.length ∧ e = [(0, .sc (.sl (a.map Node.pv))), (2, x2), (3, .sc (.int .i64 (i + sumBy Node.kcnt (a.take i) : Nat))), (4, .sc (.int .i64 i)), (8, x8)]) (d := a.length) ⟨0, _, _, rfl, by omega, by simp [sumBy]; exact ⟨rfl, rfl⟩⟩ ?_
    rintro d e H ⟨i, x2, x8, rfl, hi, rfl⟩
    simp
    refine CondC.mk (fun hlt => ?_) (fun hlt => ?_)
    · simp at hlt
      have ea := Node.pv_eq a[i]
      have hk := ih a[i].kids (by have := Node.kids_lt (List.getElem_mem hlt); omega) (by have := Node.cntL_kids (List.getElem_mem hlt); omega)
      have ht := sumBy_take Node.kcnt hlt
      have hm := sumBy_take_le Node.kcnt a (i + 1)
      have hkc : Node.kcnt a[i] = Node.cntL a[i].kids := rfl
      generalize hS : sumBy Node.kcnt (a.take i) = S at *
      simp [hlt, ea, gl]
      refine CallQ.mk (Call.pure callable60 (by simp) (by simp) hk) ?_
      simp [wrapL]
      refine ⟨a.length - (i + 1), by omega, i + 1, rfl, by omega, by rw [wrap64 (by omega) (by omega)]; omega, by rw [wrap64 (by omega) (by omega)]; omega⟩
    · simp at hlt
      obtain rfl : i = a.length := by omega
      simp
set_option linter.unusedSimpArgs false in
set_option maxRecDepth 20000 in
set_option maxHeartbeats 4000000 in
theorem treeDeep : ∀ (n : Nat) (a : List Node), SizeOf.sizeOf a < n → Node.cntL a ≤ 1073741824 → PCon C0 46 [.sc (.sl (a.map Node.pv))] (.sc (.int .i64 (Node.deeps a : Nat))) := by
  intro n
  induction n with
  | zero => intro a h; omega
  | succ n ih =>
    intro a hn hl
    have hle := Node.cntL_eq a
    have hdc := Node.deeps_cnt _ a (Nat.lt_succ_self _)
    refine penter46 ?_
    simp [Tryd.f46]
    refine loopC (fun d e H => ∃ (i : Nat) (x2 x5 x9 : FV), d = a.length - i ∧ i ≤ a.length ∧ e = [(0, .sc (.sl (a.map Node.pv))), (2, x2), (3, .sc (.int .i64 (Node.deeps (a.take i) : Nat))), (5, x5), (6, .sc (.sl (a.map Node.pv))), (7, .sc (.int .i64 a.length)), (8, .sc (.int .i64 i)), (9, x9)]) (d := a.length) ⟨0, _, _, _, rfl, by omega, rfl⟩ ?_
    rintro d e H ⟨i, x2, x5, x9, rfl, hi, rfl⟩
    simp
    refine CondC.mk (fun hlt => ?_) (fun hlt => ?_)
    · simp at hlt
      have ea := Node.pv_eq a[i]
      have hk := ih a[i].kids (by have := Node.kids_lt (List.getElem_mem hlt); omega) (by have := Node.cntL_kids (List.getElem_mem hlt); omega)
      have hdl := Node.deeps_kids (List.getElem_mem hlt)
      simp [hlt, ea, gl]
      refine CallQ.mk (Call.pure callable46 (by simp) (by simp) hk) ?_
      have w1 : IntKind.i64.wrap (1 + (Node.deeps a[i].kids : Int)) = 1 + (Node.deeps a[i].kids : Int) := wrap64 (by omega) (by omega)
      simp [w1]
      refine ⟨a.length - (i + 1), by omega, i + 1, rfl, by omega, ?_, by rw [wrap64 (by omega) (by omega)]; omega⟩
      rw [Node.deeps_take hlt]
      split <;> omega
    · simp at hlt
      simp [List.take_of_length_le hlt]
set_option linter.unusedSimpArgs false in
set_option maxRecDepth 20000 in
set_option maxHeartbeats 4000000 in
theorem indexNodes (l : List Node) (p : Node → Bool) (f : Nat) (cap : List FV) (hcap : cap = [] ∨ ∃ b, cap = [.ptr b 0]) (hl : l.length ≤ 1073741824) (hc : callable C0.P f = true) (H : Heap) (hf : ∀ x ∈ l, Con C0 f (x.pv.toFV :: cap) H (.sc (.bool (p x))) H) :
    Con C0 119 [.sc (.sl (l.map Node.pv)), .fn f [] cap] H (.sc (.int .i64 (idxP p l))) H := by
  refine con_of (C := C0) (fn := Tryd.f119) Tryd.func119 rfl (by decide) mixed (mv := []) (vars := [0, 1, 4, 5, 7, 8, 9, 16]) (c := Tryd.f119.body.getD .skip) rfl ?_
  simp [Tryd.f119]
  refine loopC (fun d e H' => ∃ (i : Nat) (x4 x5 x9 x16 : FV), d = l.length - i ∧ i ≤ l.length ∧ (∀ j (hj : j < l.length), j < i → p l[j] = false) ∧ H' = H ∧ e = [(0, .sc (.sl (l.map Node.pv))), (1, .fn f [] cap), (4, x4), (5, x5), (7, .sc (.int .i64 l.length)), (8, .sc (.int .i64 i)), (9, x9), (16, x16)]) (d := l.length)
    ⟨0, _, _, _, _, rfl, by omega, by simp, rfl, rfl⟩ ?_
  rintro d e H' ⟨i, x4, x5, x9, x16, rfl, hi, hbef, rfl, rfl⟩
  simp
  refine CondC.mk (fun hlt => ?_) (fun hlt => ?_)
  · simp at hlt
    have hcon := hf l[i] (List.getElem_mem hlt)
    rw [Node.pv_eq] at hcon
    simp [gl] at hcon
    have fin : p l[i] = false → ∃ d', d' < l.length - i ∧ ∃ i', d' = l.length - i' ∧ i' ≤ l.length ∧ (∀ j (hj : j < l.length), j < i' → p l[j] = false) ∧ IntKind.i64.wrap ((i : Int) + 1) = (i' : Nat) := fun hp =>
      ⟨l.length - (i + 1), by omega, i + 1, rfl, by omega, fun j hj h => by
        rcases Nat.lt_or_ge j i with h' | h'
        · exact hbef j hj h'
        · obtain rfl : j = i := by omega
          exact hp, by rw [wrap64 (by omega) (by omega)]; omega⟩
    rcases hcap with rfl | ⟨b, rfl⟩
    all_goals
      simp [hlt, Node.pv_eq l[i], gl]
      refine CallQ.mk (Call.shared hc hcon) ?_
      simp
      refine CondC.mk (fun hp => ?_) (fun hp => ?_)
      · simp [idxP_at hlt hbef hp]
      · simp
        exact fin hp
  · simp at hlt
    simp [idxP_none fun j hj => hbef j hj (by omega)]
set_option maxRecDepth 20000 in
set_option maxHeartbeats 4000000 in
theorem containsNodes (l : List Node) (p : Node → Bool) (f : Nat) (cap : List FV) (hcap : cap = [] ∨ ∃ b, cap = [.ptr b 0]) (hl : l.length ≤ 1073741824) (hc : callable C0.P f = true) (H : Heap) (hf : ∀ x ∈ l, Con C0 f (x.pv.toFV :: cap) H (.sc (.bool (p x))) H) :
    Con C0 80 [.sc (.sl (l.map Node.pv)), .fn f [] cap] H (.sc (.bool (l.any p))) H := by
  have ci := indexNodes l p f cap hcap hl hc H hf
  refine con_of (C := C0) (fn := Tryd.f80) Tryd.func80 rfl (by decide) mixed (mv := []) (vars := [0, 1, 4]) (c := Tryd.f80.body.getD .skip) rfl ?_
  simp [Tryd.f80]
  refine CallQ.mk (Call.shared callable119 ci) ?_
  simp [idxP_any]
def bareT (t : Tbl) : Bool := decide (t.cols = ByteArray.empty) && (t.rows.isEmpty && (!t.box && !t.all))
set_option maxRecDepth 20000 in
set_option maxHeartbeats 4000000 in
theorem treeBare (t : Tbl) : PCon C0 120 [t.pv.toFV] (.sc (.bool (bareT t))) := by
  refine penter120 ?_
  have he : (ByteArray.empty = (⟨#[]⟩ : ByteArray)) = True := eq_true rfl
  by_cases h1 : t.cols = ByteArray.empty
  · by_cases h2 : t.rows = []
    · cases h3 : t.box
      · simp [Tryd.f120, Tbl.pv, h1, h2, h3, bareT, he]
      · simp [Tryd.f120, Tbl.pv, h1, h2, h3, bareT, he]
    · have h2' : ¬ (t.rows.length : Int) = 0 := by have := List.length_pos_iff.2 h2; omega
      simp [Tryd.f120, Tbl.pv, h1, h2, h2', bareT, he]
  · have h1' : ¬ t.cols = (⟨#[]⟩ : ByteArray) := h1
    simp [Tryd.f120, Tbl.pv, h1', bareT, h1]
end Go.Proofs.YtlnnnfogbakimaaDoor.Ev
end
section
namespace Go.Proofs.YtlnnnfogbakimaaDoor.Ev
open Go
def okHas (x : Node) : Bool := (hasText x.kind || decide ((x.text.length : Int) = 0)) && ((hasKids x.kind || decide ((x.kids.length : Int) = 0)) && ((decide (x.kind = 6) || decide ((x.rows.length : Int) = 0)) && (hasN x.kind || decide (x.n = 0))))
def okN (inn : Int) (x : Node) : Bool := standsIn x.kind inn && (wholeN x && (decide (0 ≤ x.line) && (decide (x.line ≤ 1099511627775) && (decide (0 ≤ x.n) && (decide (x.n ≤ 200) && (sqzd x.text &&
  (okHas x && (if x.kind = 7 then rightT x.grid else bareT x.grid))))))))
mutual
def checkN (inn : Int) : Node → Bool
  | .mk kind line n text kids rows grid => okN inn (.mk kind line n text kids rows grid) && checkL kind kids
def checkL (inn : Int) : List Node → Bool
  | [] => true
  | x :: l => checkN inn x && checkL inn l
end
theorem checkN_eq (inn : Int) (x : Node) : checkN inn x = (okN inn x && checkL x.kind x.kids) := by cases x; rw [checkN]; rfl
theorem checkL_all (inn : Int) (l : List Node) : checkL inn l = l.all (checkN inn) := by
  induction l with
  | nil => rw [checkL]; rfl
  | cons x l ih => rw [checkL, ih]; rfl
theorem checkL_any (inn : Int) (l : List Node) : (!(l.any fun y => !checkN inn y)) = checkL inn l := by
  rw [checkL_all, List.any_eq_not_all_not, Bool.not_not]
  simp
theorem fullKind {k i : Int} (h : standsIn k i = true) : k = 1 ∨ k = 2 ∨ k = 3 ∨ k = 4 ∨ k = 5 ∨ k = 6 ∨ k = 7 := by
  unfold standsIn at h
  by_cases h1 : k = 1
  · exact .inl h1
  · by_cases h2 : k = 2
    · exact .inr (.inl h2)
    · simp [h1, h2] at h; omega
set_option linter.unusedSimpArgs false in
set_option maxRecDepth 20000 in
set_option maxHeartbeats 4000000 in
theorem checkIn (y : Node) (k : Int) (hy : PCon C0 82 [y.pv.toFV, .sc (.int .i64 k)] (.sc (.bool (checkN k y)))) (H : Heap) (b : Nat) (c1 c2 c3 c4 c5 c6 c7 c8 c9 : FV) (hb : H[b]? = some [.sc (.int .i64 k), c1, c2, c3, c4, c5, c6, c7, c8, c9]) (hp : NP H) :
    Con C0 121 [y.pv.toFV, .ptr b 0] H (.sc (.bool (!checkN k y))) H := by
  have hbl : b < H.length := (List.getElem?_eq_some_iff.1 hb).1
  refine con_trim (C := C0) (fn := Tryd.f121) Tryd.func121 rfl (by decide) mixed (mv := []) (vars := [0, 1, 2, 3]) (c := Tryd.f121.body.getD .skip) rfl rfl hp ?_
  rw [Node.pv_eq] at hy ⊢
  simp [gl] at hy
  simp [Tryd.f121, gl, hb, heap_old hbl]
  refine CallQ.mk (Call.pure callable82 (by simp) (by simp) hy) ?_
  simp
set_option linter.unusedSimpArgs false in
set_option maxRecDepth 20000 in
set_option maxHeartbeats 8000000 in
theorem treeCheck : ∀ (n : Nat) (x : Node), SizeOf.sizeOf x < n → x.Small → ∀ inn : Int, PCon C0 82 [x.pv.toFV, .sc (.int .i64 inn)] (.sc (.bool (checkN inn x))) := by
  intro n
  induction n with
  | zero => intro x h; omega
  | succ n ih =>
    intro x hn hx inn
    refine penter82 ?_
    have ea := Node.pv_eq x
    have cf := treeFull x.kind
    have st := treeStands x.kind inn
    have wh := treeWhole x
    have sq := treeSqueezed x.text hx.text
    have rt := treeRight x.grid hx.tbl
    have br := treeBare x.grid
    have cn := containsNodes x.kids (fun y => !checkN x.kind y) 121 [.ptr 0 0] (.inr ⟨0, rfl⟩) hx.kids.1 callable121
      [[.sc (.int .i64 x.kind), .sc (.int .i64 x.line), .sc (.int .i64 x.n), .sc (gl x.text), .sc (.sl (x.kids.map Node.pv)), .sc (.sl (x.rows.map gl)), .sc (.str x.grid.cols), .sc (.sl (x.grid.rows.map TRow.pv)), .sc (.bool x.grid.box), .sc (.bool x.grid.all)]]
      (fun y hy => checkIn y x.kind (ih y (by cases x; simp at hy hn; have := List.sizeOf_lt_of_mem hy; omega) (hx.kids.2 y hy) x.kind) _ 0 _ _ _ _ _ _ _ _ _ rfl (np_cons (by simp) np_nil))
    have hce : checkN inn x = (okN inn x && checkL x.kind x.kids) := checkN_eq inn x
    have hca := checkL_any x.kind x.kids
    have fail : okN inn x = false → checkN inn x = false := fun h => by rw [hce, h]; rfl
    rw [ea] at wh ⊢
    simp [gl, Tbl.pv] at wh sq rt br cn
    simp [Tryd.f82, gl]
    refine CallQ.mk (Call.pure callable90 (by simp) (by simp) cf) ?_
    simp
    refine CallQ.mk (Call.pure callable87 (by simp) (by simp) st) ?_
    cases hst : standsIn x.kind inn
    · have e := fail (by simp [okN, hst])
      simp
      refine CondC.mk (fun _ => ?_) (fun _ => ?_) <;> simp [e]
    simp
    refine CallQ.mk (Call.pure callable89 (by simp) (by simp) wh) ?_
    cases hwh : wholeN x
    · have e := fail (by simp [okN, hwh])
      simp
      refine CondC.mk (fun _ => ?_) (fun _ => ?_) <;> simp [e]
    by_cases l0 : 0 ≤ x.line
    rotate_left
    · have e := fail (by simp [okN, l0])
      simp [l0]
      refine CondC.mk (fun _ => ?_) (fun _ => ?_) <;> simp [e]
    by_cases l1 : x.line ≤ 1099511627775
    rotate_left
    · have e := fail (by simp [okN, l1])
      simp [l0, l1]
      refine CondC.mk (fun _ => ?_) (fun _ => ?_) <;> simp [e]
    by_cases n0 : 0 ≤ x.n
    rotate_left
    · have e := fail (by simp [okN, n0])
      simp [l0, l1, n0]
      refine CondC.mk (fun _ => ?_) (fun _ => ?_) <;> simp [e]
    by_cases n1 : x.n ≤ 200
    rotate_left
    · have e := fail (by simp [okN, n1])
      simp [l0, l1, n0, n1]
      refine CondC.mk (fun _ => ?_) (fun _ => ?_) <;> simp [e]
    simp [l0, l1, n0, n1]
    refine CallQ.mk (Call.pure callable78 (by simp) (by simp) sq) ?_
    cases hsq : sqzd x.text
    · have e := fail (by simp [okN, hsq])
      simp
      refine CondC.mk (fun _ => ?_) (fun _ => ?_) <;> simp [e]
    simp [-KSeq_normal]
    rw [KSeq_normal]
    refine seq_cut (E := [(0, FV.agg [.sc (.int .i64 x.kind), .sc (.int .i64 x.line), .sc (.int .i64 x.n), .sc (.sl (x.text.map Glyph.pv)), .sc (.sl (x.kids.map Node.pv)), .sc (.sl (x.rows.map gl)), .sc (.str x.grid.cols), .sc (.sl (x.grid.rows.map TRow.pv)), .sc (.bool x.grid.box), .sc (.bool x.grid.all)]),
      (1, .sc (.int .i64 inn)), (2, .ptr 0 0), (4, .sc (.bool false)), (5, .sc (.bool (hasText x.kind))), (6, .sc (.bool (hasKids x.kind))), (7, .sc (.bool (decide (x.kind = 6)))), (8, .sc (.bool (decide (x.kind = 7)))), (9, .sc (.bool (hasN x.kind))), (10, .sc (.bool (okHas x))), (89, .undef)])
      (H₁ := [[.sc (.int .i64 x.kind), .sc (.int .i64 x.line), .sc (.int .i64 x.n), .sc (.sl (x.text.map Glyph.pv)), .sc (.sl (x.kids.map Node.pv)), .sc (.sl (x.rows.map gl)), .sc (.str x.grid.cols), .sc (.sl (x.grid.rows.map TRow.pv)), .sc (.bool x.grid.box), .sc (.bool x.grid.all)]]) ?_ ?_
    · have hcomb : (hasText x.kind = true ∧ hasKids x.kind = true ∧ decide (x.kind = 6) = false ∧ hasN x.kind = true) ∨ (hasText x.kind = true ∧ hasKids x.kind = true ∧ decide (x.kind = 6) = false ∧ hasN x.kind = false) ∨ (hasText x.kind = true ∧ hasKids x.kind = false ∧ decide (x.kind = 6) = false ∧ hasN x.kind = false) ∨ (hasText x.kind = false ∧ hasKids x.kind = true ∧ decide (x.kind = 6) = false ∧ hasN x.kind = true) ∨ (hasText x.kind = false ∧ hasKids x.kind = false ∧ decide (x.kind = 6) = true ∧ hasN x.kind = false) ∨ (hasText x.kind = false ∧ hasKids x.kind = false ∧ decide (x.kind = 6) = false ∧ hasN x.kind = false) := by
        rcases fullKind hst with hk | hk | hk | hk | hk | hk | hk <;> rw [hk] <;> decide
      unfold okHas
      generalize hasText x.kind = T at *
      generalize hasKids x.kind = K at *
      generalize decide (x.kind = 6) = R at *
      generalize hasN x.kind = N at *
      generalize decide (x.kind = 7) = G at *
      have p1 : ¬ x.text = [] → ¬ (x.text.length : Int) = 0 := fun h => by have := List.length_pos_iff.2 h; omega
      have p2 : ¬ x.kids = [] → ¬ (x.kids.length : Int) = 0 := fun h => by have := List.length_pos_iff.2 h; omega
      have p3 : ¬ x.rows = [] → ¬ (x.rows.length : Int) = 0 := fun h => by have := List.length_pos_iff.2 h; omega
      clear cf st wh sq rt br cn hce hca fail
      rcases hcomb with ⟨rfl, rfl, rfl, rfl⟩ | ⟨rfl, rfl, rfl, rfl⟩ | ⟨rfl, rfl, rfl, rfl⟩ | ⟨rfl, rfl, rfl, rfl⟩ | ⟨rfl, rfl, rfl, rfl⟩ | ⟨rfl, rfl, rfl, rfl⟩
      · by_cases e1 : x.rows = []
        rotate_left
        · simp (maxSteps := 1000000) [e1, p3 e1]
        simp (maxSteps := 1000000) [e1]
      · by_cases e1 : x.rows = []
        rotate_left
        · simp (maxSteps := 1000000) [e1, p3 e1]
        by_cases e2 : x.n = 0
        rotate_left
        · simp (maxSteps := 1000000) [e1, e2]
        simp (maxSteps := 1000000) [e1, e2]
      · by_cases e1 : x.kids = []
        rotate_left
        · simp (maxSteps := 1000000) [e1, p2 e1]
        by_cases e2 : x.rows = []
        rotate_left
        · simp (maxSteps := 1000000) [e1, e2, p3 e2]
        by_cases e3 : x.n = 0
        rotate_left
        · simp (maxSteps := 1000000) [e1, e2, e3]
        simp (maxSteps := 1000000) [e1, e2, e3]
      · by_cases e1 : x.text = []
        rotate_left
        · simp (maxSteps := 1000000) [e1, p1 e1]
        by_cases e2 : x.rows = []
        rotate_left
        · simp (maxSteps := 1000000) [e1, e2, p3 e2]
        simp (maxSteps := 1000000) [e1, e2]
      · by_cases e1 : x.text = []
        rotate_left
        · simp (maxSteps := 1000000) [e1, p1 e1]
        by_cases e2 : x.kids = []
        rotate_left
        · simp (maxSteps := 1000000) [e1, e2, p2 e2]
        by_cases e3 : x.n = 0
        rotate_left
        · simp (maxSteps := 1000000) [e1, e2, e3]
        simp (maxSteps := 1000000) [e1, e2, e3]
      · by_cases e1 : x.text = []
        rotate_left
        · simp (maxSteps := 1000000) [e1, p1 e1]
        by_cases e2 : x.kids = []
        rotate_left
        · simp (maxSteps := 1000000) [e1, e2, p2 e2]
        by_cases e3 : x.rows = []
        rotate_left
        · simp (maxSteps := 1000000) [e1, e2, e3, p3 e3]
        by_cases e4 : x.n = 0
        rotate_left
        · simp (maxSteps := 1000000) [e1, e2, e3, e4]
        simp (maxSteps := 1000000) [e1, e2, e3, e4]
    · have e7 : okN inn x = (okHas x && (if x.kind = 7 then rightT x.grid else bareT x.grid)) := by simp only [okN, hst, hwh, l0, l1, n0, n1, hsq, decide_true, Bool.true_and]
      cases hoh : okHas x
      · have e := fail (by rw [e7, hoh]; rfl)
        by_cases h7 : x.kind = 7
        · simp [h7, e]
        · simp [h7, e]
      · rw [hoh, Bool.true_and] at e7
        by_cases h7 : x.kind = 7
        · rw [if_pos h7] at e7
          simp [h7]
          refine CallQ.mk (Call.pure callable42 (by simp) (by simp) rt) ?_
          cases hr : rightT x.grid
          · have e := fail (by rw [e7, hr])
            simp [e]
          · rw [hce, e7, hr, ← hca, Bool.true_and]
            rw [h7] at cn ⊢
            simp
            refine CallQ.mk (Call.shared callable80 cn) ?_
            simp
        · rw [if_neg h7] at e7
          simp [h7]
          refine CallQ.mk (Call.pure callable120 (by simp) (by simp) br) ?_
          cases hr : bareT x.grid
          · have e := fail (by rw [e7, hr])
            simp [e]
          · rw [hce, e7, hr, ← hca, Bool.true_and]
            simp
            refine CallQ.mk (Call.shared callable80 cn) ?_
            simp
end Go.Proofs.YtlnnnfogbakimaaDoor.Ev
end
section
namespace Go.Proofs.YtlnnnfogbakimaaDoor.Ev
open Go
@[simp] theorem range1 : ([0] = List.range 1) = True := eq_true rfl
@[simp] theorem range2 : ([0, 1] = List.range 2) = True := eq_true rfl
@[simp] theorem range3 : ([0, 1, 2] = List.range 3) = True := eq_true rfl
@[simp] theorem range4 : ([0, 1, 2, 3] = List.range 4) = True := eq_true rfl
@[simp] theorem sized_nil {n : Nat} : Sized n [] = True := eq_true fun p h => by simp at h
@[simp] theorem sized_int {k : IntKind} {n : Int} {l : List PV} : Sized 1 (PV.int k n :: l) = Sized 1 l := propext ⟨fun h p hp => h p (List.mem_cons_of_mem _ hp), fun h p hp => by
  rcases List.mem_cons.1 hp with rfl | hp
  · rfl
  · exact h p hp⟩
def pvi (k : Int) : PV := .int .i64 k
set_option linter.unusedSimpArgs false in
set_option maxRecDepth 20000 in
set_option maxHeartbeats 4000000 in
theorem refIn (k : Int) (l : List Int) (hl : l.length ≤ 1000) : PCon C0 85 [.sc (.int .i64 k), .sc (.sl (l.map pvi))] (.sc (.bool (decide (k ∈ l)))) := by
  refine penter85 ?_
  simp [Tryd.f85]
  refine loopC (fun d e H => ∃ (i : Nat) (x9 x17 : FV), d = l.length - i ∧ i ≤ l.length ∧ k ∉ l.take i ∧ e = [(0, .sc (.int .i64 k)), (1, .sc (.sl (l.map pvi))), (4, .sc (.bool false)), (5, .sc (.int .i64 i)), (9, x9), (17, x17)]) (d := l.length) ⟨0, _, _, rfl, by omega, by simp, rfl⟩ ?_
  rintro d e H ⟨i, x9, x17, rfl, hi, hno, rfl⟩
  simp
  refine CondC.mk (fun hlt => ?_) (fun hlt => ?_)
  · simp at hlt
    have ht := List.take_succ_eq_append_getElem hlt
    by_cases hk : l[i] = k
    · have hm : k ∈ l := hk ▸ List.getElem_mem hlt
      simp [hlt, pvi, hk, hm]
    · simp [hlt, pvi, hk]
      refine ⟨l.length - (i + 1), by omega, i + 1, rfl, by omega, ?_, by rw [wrap64 (by omega) (by omega)]; omega⟩
      rw [ht, List.mem_append]
      rintro (h | h)
      · exact hno h
      · rw [List.mem_singleton] at h; exact hk h.symm
  · simp at hlt
    rw [List.take_of_length_le hlt] at hno
    simp [hno]
set_option linter.unusedSimpArgs false in
set_option maxRecDepth 20000 in
set_option maxHeartbeats 4000000 in
theorem refStands (k i : Int) : PCon C0 83 [.sc (.int .i64 k), .sc (.int .i64 i)] (.sc (.bool (standsIn k i))) := by
  refine penter83 ?_
  by_cases h1 : k = 1
  · subst h1
    by_cases hi : i = 0 <;> simp [Tryd.f83, hi, standsIn]
  · by_cases h2 : k = 2
    · subst h2
      by_cases hi : i = 1 <;> simp [Tryd.f83, hi, standsIn]
    · by_cases h3 : 3 ≤ k <;> by_cases h7 : k ≤ 7 <;> simp [Tryd.f83, h1, h2, h3, h7, standsIn]
set_option linter.unusedSimpArgs false in
set_option maxRecDepth 20000 in
set_option maxHeartbeats 4000000 in
theorem refFull (x : Node) : PCon C0 86 [x.pv.toFV] (.sc (.bool (wholeN x))) := by
  refine penter86 ?_
  have i1 := refIn x.kind [1, 2, 3] (by simp)
  have hb : decide (x.kind ∈ [1, 2, 3]) = true ↔ x.kind = 1 ∨ x.kind = 2 ∨ x.kind = 3 := by simp
  generalize decide (x.kind ∈ [1, 2, 3]) = b at *
  rw [Node.pv_eq]
  simp [pvi] at i1
  simp [Tryd.f86, gl]
  refine CallQ.mk (Call.pure callable85 (by simp) (by simp) i1) ?_
  cases b
  rotate_left
  · have h123 := hb.1 rfl
    simp [h123, wholeN, ← len_pos]
  · have h123 : ¬ (x.kind = 1 ∨ x.kind = 2 ∨ x.kind = 3) := fun h => by have := hb.2 h; simp at this
    have e0 : wholeN x = (if x.kind = 5 then !x.kids.isEmpty else if x.kind = 6 then !x.rows.isEmpty else if x.kind = 7 then !x.grid.rows.isEmpty else decide (x.kind = 4)) := by unfold wholeN; rw [if_neg h123]
    rw [e0]
    clear hb
    clear i1 h123
    by_cases h5 : x.kind = 5
    · simp [h5, ← len_pos]
    · by_cases h6 : x.kind = 6
      · simp [h6, ← len_pos]
      · by_cases h4 : x.kind = 4
        · simp [h4]
        · by_cases h7 : x.kind = 7
          · simp [h7, ← len_pos]
          · simp [h4, h5, h6, h7]
theorem Doc.ext' {a b : Doc} (h1 : a.name = b.name) (h2 : a.part = b.part) (h3 : a.date = b.date) (h4 : a.source = b.source) (h5 : a.kids = b.kids) : a = b := by cases a; cases b; simp_all
noncomputable instance : DecidableEq Doc := fun _ _ => Classical.propDecidable _
set_option linter.unusedSimpArgs false in
set_option maxRecDepth 20000 in
set_option maxHeartbeats 4000000 in
theorem refSameDoc (a b : Doc) (hl : a.kids.length ≤ 4611686018427387904) (hok : ∀ x ∈ a.kids, x.Ok) : PCon C0 19 [a.pv.toFV, b.pv.toFV] (.sc (.bool (decide (a = b)))) := by
  have sm := refNodesSame _ a.kids (Nat.lt_succ_self _) hl hok b.kids
  refine penter19 ?_
  by_cases h1 : a.name = b.name
  rotate_left
  · have hn : a ≠ b := fun h => h1 (by rw [h])
    simp [Tryd.f19, Doc.pv, h1, hn]
  by_cases h2 : a.part = b.part
  rotate_left
  · have hn : a ≠ b := fun h => h2 (by rw [h])
    simp [Tryd.f19, Doc.pv, h1, h2, hn]
  by_cases h3 : a.date = b.date
  rotate_left
  · have hn : a ≠ b := fun h => h3 (by rw [h])
    simp [Tryd.f19, Doc.pv, h1, h2, h3, hn]
  by_cases h4 : a.source = b.source
  rotate_left
  · have hn : a ≠ b := fun h => h4 (by rw [h])
    simp [Tryd.f19, Doc.pv, h1, h2, h3, h4, hn]
  simp [Tryd.f19, Doc.pv, h1, h2, h3, h4]
  refine CallQ.mk (Call.pure callable21 (by simp) (by simp) sm) ?_
  have he : (a.kids = b.kids) = (a = b) := propext ⟨fun h5 => Doc.ext' h1 h2 h3 h4 h5, fun h => by rw [h]⟩
  simp [he]
def checkD (d : Doc) : Int := if 20000 < Node.cntL d.kids ∨ 20 < Node.deeps d.kids then 3 else if checkL 0 d.kids = true then 0 else 2
set_option linter.unusedSimpArgs false in
set_option maxRecDepth 20000 in
set_option maxHeartbeats 4000000 in
theorem notCheck (x : Node) (hx : x.Small) (H : Heap) (hp : NP H) : Con C0 81 [x.pv.toFV] H (.sc (.bool (!checkN 0 x))) H := by
  have hy := treeCheck _ x (Nat.lt_succ_self _) hx 0
  refine con_trim (C := C0) (fn := Tryd.f81) Tryd.func81 rfl (by decide) mixed (mv := []) (vars := [0, 1, 2]) (c := Tryd.f81.body.getD .skip) rfl rfl hp ?_
  rw [Node.pv_eq] at hy ⊢
  simp [gl] at hy
  simp [Tryd.f81, gl, heap_at]
  refine CallQ.mk (Call.pure callable82 (by simp) (by simp) hy) ?_
  simp
set_option linter.unusedSimpArgs false in
set_option maxRecDepth 20000 in
set_option maxHeartbeats 4000000 in
theorem treeCheckD (d : Doc) (hc : Node.cntL d.kids ≤ 1073741824) (hl : d.kids.length ≤ 1073741824) (hs : ∀ x ∈ d.kids, x.Small) : PCon C0 44 [d.pv.toFV] (.sc (.int .i64 (checkD d))) := by
  have c1 := treeCount _ d.kids (Nat.lt_succ_self _) hc
  have c2 := treeDeep _ d.kids (Nat.lt_succ_self _) hc
  have cn := containsNodes d.kids (fun y => !checkN 0 y) 81 [] (.inl rfl) hl callable81
    [[.sc (.str d.name), .sc (.str d.part), .sc (.str d.date), .sc (.str d.source), .sc (.sl (d.kids.map Node.pv))]]
    (fun y hy => by simpa using notCheck y (hs y hy) _ (np_cons (by simp) np_nil))
  have hca := checkL_any 0 d.kids
  refine penter44 ?_
  simp [Tryd.f44, Doc.pv]
  refine CallQ.mk (Call.pure callable45 (by simp) (by simp) c1) ?_
  by_cases h1 : 20000 < Node.cntL d.kids
  · have h1' : (20000 : Int) < Node.cntL d.kids := by omega
    simp [h1', checkD, h1]
  · have h1' : ¬ (20000 : Int) < Node.cntL d.kids := by omega
    simp [h1']
    refine CallQ.mk (Call.pure callable46 (by simp) (by simp) c2) ?_
    by_cases h2 : 20 < Node.deeps d.kids
    · have h2' : (20 : Int) < Node.deeps d.kids := by omega
      simp [h2', checkD, h2]
    · have h2' : ¬ (20 : Int) < Node.deeps d.kids := by omega
      simp [h2']
      refine CallQ.mk (Call.shared callable80 cn) ?_
      have hca' : (d.kids.any fun y => !checkN 0 y) = !checkL 0 d.kids := by rw [← hca, Bool.not_not]
      rw [hca']
      cases hk : checkL 0 d.kids
      · simp [checkD, h1, h2, hk]
      · simp [checkD, h1, h2, hk]
end Go.Proofs.YtlnnnfogbakimaaDoor.Ev
end
section
namespace Go.Proofs.YtlnnnfogbakimaaDoor.Ev
open Go
theorem mem1234 (k : Int) : decide (k ∈ [1, 2, 3, 4]) = hasText k := by
  unfold hasText
  rw [← Bool.decide_and]
  refine decide_eq_decide.2 ?_
  simp; omega
theorem mem45 (k : Int) : decide (k ∈ [4, 5]) = hasN k := by
  unfold hasN
  rw [← Bool.decide_or]
  refine decide_eq_decide.2 ?_
  simp
theorem mem1245 (k : Int) : decide (k ∈ [1, 2, 4, 5]) = hasKids k := by
  unfold hasKids
  rw [← Bool.decide_or, ← Bool.decide_or, ← Bool.decide_or]
  refine decide_eq_decide.2 ?_
  simp [or_assoc]
set_option linter.unusedSimpArgs false in
set_option maxRecDepth 20000 in
set_option maxHeartbeats 4000000 in
theorem refOwn (x : Node) (k : Int) (hx : x.Small) : PCon C0 84 [x.pv.toFV, .sc (.int .i64 k)] (ownN x k).pv.toFV := by
  have i1 := refIn k [1, 2, 3, 4] (by simp)
  have i2 := refIn k [4, 5] (by simp)
  rw [mem1234] at i1
  rw [mem45] at i2
  simp [pvi] at i1 i2
  have sq := refSqueeze x.text hx.text
  refine penter84 ?_
  rw [Node.pv_eq]
  simp [Tryd.f84, gl] at sq ⊢
  refine CallQ.mk (Call.pure callable85 (by simp) (by simp) i1) ?_
  cases hT : hasText k
  · simp
    refine CallQ.mk (Call.pure callable85 (by simp) (by simp) i2) ?_
    cases hN : hasN k
    · by_cases h6 : k = 6
      · subst h6
        simp [Node.pv_eq, gl, ownN, hT, hN, clamp, noTbl]
      · by_cases h7 : k = 7
        · have cc := refMend x.grid hx.tbl
          subst h7
          simp [Tbl.pv] at cc ⊢
          refine CallQ.mk (Call.pure callable41 (by simp) (by simp) cc) ?_
          simp [Node.pv_eq, gl, ownN, hT, hN, clamp, noTbl]
        · simp [Node.pv_eq, gl, ownN, hT, hN, clamp, h6, h7, noTbl]
    · have h6 : ¬ k = 6 := by simp [hasN] at hN; omega
      have h7 : ¬ k = 7 := by simp [hasN] at hN; omega
      simp [Node.pv_eq, gl, ownN, hT, hN, clamp, h6, h7, noTbl]
  · have h6 : ¬ k = 6 := by simp [hasText] at hT; omega
    have h7 : ¬ k = 7 := by simp [hasText] at hT; omega
    simp
    refine CallQ.mk (Call.pure callable72 (by simp) (by simp) sq) ?_
    simp
    refine CallQ.mk (Call.pure callable85 (by simp) (by simp) i2) ?_
    cases hN : hasN k
    · simp [Node.pv_eq, gl, ownN, hT, hN, clamp, h6, h7, noTbl]
    · simp [Node.pv_eq, gl, ownN, hT, hN, clamp, h6, h7, noTbl]
end Go.Proofs.YtlnnnfogbakimaaDoor.Ev
end
section
namespace Go.Proofs.YtlnnnfogbakimaaDoor.Ev
open Go
theorem tidyL_zero (inn d : Int) (l : List Node) : tidyL inn d 0 l = ([], 0) := by
  cases l with
  | nil => rw [tidyL]
  | cons x l => rw [tidyL, if_pos rfl]
theorem tidyL_deep {inn d : Int} (h : 20 ≤ d) (k : Nat) (l : List Node) : tidyL inn d k l = ([], k) := by
  induction l with
  | nil => rw [tidyL]
  | cons x l ih =>
    rw [tidyL]
    by_cases hk : k = 0
    · rw [if_pos hk, hk]
    · rw [if_neg hk, if_pos h, ih]
theorem whole_kids {y : Node} (l : List Node) (h : y.kind ≠ 5) : wholeN (y.withKids l) = wholeN y := by
  by_cases h1 : y.kind = 1 ∨ y.kind = 2 ∨ y.kind = 3
  · simp [wholeN, h1]
  · simp [wholeN, h1, h]; rfl
theorem whole_five {y : Node} (x : Node) (l : List Node) (h : y.kind = 5) : wholeN (y.withKids (x :: l)) = true := by
  unfold wholeN
  simp [h]
theorem ownN_kids (x : Node) (k : Int) : (ownN x k).kids = [] := rfl
set_option linter.unusedSimpArgs false in
set_option maxRecDepth 20000 in
set_option maxHeartbeats 8000000 in
theorem refTidyL : ∀ (n : Nat) (a : List Node), SizeOf.sizeOf a < n → (∀ x ∈ a, x.Small) → a.length ≤ 1073741824 → ∀ (inn d : Int) (left : Nat), 0 ≤ d → d ≤ 20 → left ≤ 1073741824 →
    PCon C0 48 [.sc (.sl (a.map Node.pv)), .sc (.int .i64 inn), .sc (.int .i64 d), .sc (.int .i64 left)] (.tup [.own ((tidyL inn d left a).1.map Node.pv), .sc (.int .i64 (tidyL inn d left a).2)]) := by
  intro n
  induction n with
  | zero => intro a h; omega
  | succ n ih =>
    intro a hn hall hla inn d left hd0 hd1 hleft
    refine penter48 ?_
    simp [Tryd.f48]
    refine loopC (fun dd e H' => ∃ (i : Nat) (out : List Node) (k : Nat) (x12 x13 x14 x15 x16 x17 x29 x51 x74 x88 x97 : FV), dd = a.length - i ∧ i ≤ a.length ∧ k ≤ left ∧ out.length + k ≤ left ∧
        ((tidyL inn d left a).1 = out ++ (tidyL inn d k (a.drop i)).1 ∧ (tidyL inn d left a).2 = (tidyL inn d k (a.drop i)).2) ∧
        e = [(0, FV.sc (.sl (a.map Node.pv))), (1, .sc (.int .i64 inn)), (2, .sc (.int .i64 d)), (3, .sc (.int .i64 k)), (8, .own []), (9, .sc (.int .i64 0)), (10, .own (out.map Node.pv)), (11, .sc (.int .i64 i)), (12, x12), (13, x13), (14, x14), (15, x15), (16, x16), (17, x17), (29, x29), (51, x51), (74, x74), (88, x88), (97, x97)]) (d := a.length)
        ⟨0, [], left, _, _, _, _, _, _, _, _, _, _, _, by omega, by omega, by omega, by simp, by simp, rfl⟩ ?_
    rintro dd e X ⟨i, out, k, x12, x13, x14, x15, x16, x17, x29, x51, x74, x88, x97, rfl, hi, hk, hout, ⟨ho1, ho2⟩, rfl⟩
    by_cases hlt : i < a.length
    rotate_left
    · have hge : a.length ≤ i := by omega
      rw [List.drop_eq_nil_of_le hge, tidyL] at ho1 ho2
      simp at ho1 ho2
      simp [hlt, ho1, ho2]
    by_cases hk0 : 0 < k
    rotate_left
    · have hk0' : k = 0 := by omega
      subst hk0'
      rw [tidyL_zero] at ho1 ho2
      simp at ho1 ho2
      simp [hlt, ho1, ho2]
    by_cases hd : d < 20
    rotate_left
    · rw [tidyL_deep (by omega) k (a.drop i)] at ho1 ho2
      simp at ho1 ho2
      simp [hlt, hk0, hd, ho1, ho2]
    have ea := Node.pv_eq a[i]
    have hm : a[i] ∈ a := List.getElem_mem hlt
    have hsm := hall _ hm
    have st := refStands a[i].kind inn
    have i4 := refIn a[i].kind [1, 2, 4, 5] (by simp)
    rw [mem1245] at i4
    simp [pvi] at i4
    have own := refOwn a[i] a[i].kind hsm
    have para := refOwn a[i] 3 hsm
    have w1 : IntKind.i64.wrap ((k : Int) - 1) = ((k - 1 : Nat) : Int) := by rw [wrap64 (by omega) (by omega)]; omega
    have wd1 : IntKind.i64.wrap (d + 1) = d + 1 := wrap64 (by omega) (by omega)
    have hrec := fun (inn d : Int) (hd0 : 0 ≤ d) (hd1 : d ≤ 20) => ih a[i].kids (by have := Node.kids_lt hm; omega) hsm.kids.2 hsm.kids.1 inn d (k - 1) hd0 hd1 (by omega)
    rw [ea] at own para
    generalize hy : ownN a[i] a[i].kind = y at own
    generalize hy3 : ownN a[i] 3 = y3 at para
    rw [Node.pv_eq] at own para
    simp [gl] at own para
    have fy3 := refFull y3
    rw [Node.pv_eq] at fy3
    simp [gl] at fy3
    have hdrop : a.drop i = a[i] :: a.drop (i + 1) := List.drop_eq_getElem_cons hlt
    rw [hdrop, tidyL, if_neg (by omega), if_neg (by omega)] at ho1 ho2
    have fin : ∀ (o : List Node) (k' : Nat), tidyN inn d k a[i] = (o, k') → ∀ q, q = (out ++ o).map Node.pv → ∃ d', d' < a.length - i ∧ ∃ i', d' = a.length - i' ∧ i' ≤ a.length ∧ ∃ x x_1,
        x_1 ≤ left ∧ x.length + x_1 ≤ left ∧
        ((tidyL inn d left a).1 = x ++ (tidyL inn d x_1 (a.drop i')).1 ∧ (tidyL inn d left a).2 = (tidyL inn d x_1 (a.drop i')).2) ∧ (k' : Int) = x_1 ∧ q = x.map Node.pv ∧ IntKind.i64.wrap (i + 1) = (i' : Nat) := by
      intro o k' he q hq
      have hc := tidyL_count (SizeOf.sizeOf [a[i]] + 1) [a[i]] (by omega) inn d k
      rw [tidyL, if_neg (by omega), if_neg (by omega), tidyL] at hc
      simp [he] at hc ho1 ho2
      exact ⟨a.length - (i + 1), by omega, i + 1, rfl, by omega, out ++ o, k', by omega, by simp; omega, ⟨by simp [ho1], ho2⟩, rfl, hq, by rw [wrap64 (by omega) (by omega)]; omega⟩
    have hn' := tidyN_eq inn d k a[i]
    rw [hy, hy3] at hn'
    have hlm : lenMax ≥ 2147483648 := by unfold lenMax; omega
    have hcr := tidyL_count _ a[i].kids (Nat.lt_succ_self _) inn d (k - 1)
    have hcr2 := tidyL_count _ a[i].kids (Nat.lt_succ_self _) a[i].kind (d + 1) (k - 1)
    have hq : a[i]? = some a[i] := List.getElem?_eq_getElem hlt
    iterate 5
      simp [hlt, hq, hk0, hd, ea, gl, w1, -KSeq_normal]
      rw [KSeq_normal]
    obtain ⟨A, hAe⟩ : ∃ A : Bool, ((a[i].kind = 1 ∨ a[i].kind = 2) ∧ standsIn a[i].kind inn = false) = (A = true) := ⟨decide ((a[i].kind = 1 ∨ a[i].kind = 2) ∧ standsIn a[i].kind inn = false), by simp⟩
    refine seq_cut (E := [(0, FV.sc (.sl (a.map Node.pv))), (1, .sc (.int .i64 inn)), (2, .sc (.int .i64 d)), (3, .sc (.int .i64 (k - 1 : Nat))), (8, .own []), (9, .sc (.int .i64 0)), (10, .own (out.map Node.pv)), (11, .sc (.int .i64 i)), (12, .ptr X.length 0), (13, .sc (.int .i64 (if A = true then 3 else a[i].kind))), (14, x14), (15, x15), (16, x16), (17, x17), (29, .sc (.bool true)), (51, .sc (.bool A)), (74, x74), (88, x88), (97, x97)])
      (H₁ := X ++ [[.sc (.int .i64 a[i].kind), .sc (.int .i64 a[i].line), .sc (.int .i64 a[i].n), .sc (.sl (a[i].text.map Glyph.pv)), .sc (.sl (a[i].kids.map Node.pv)), .sc (.sl (a[i].rows.map gl)), .sc (.str a[i].grid.cols), .sc (.sl (a[i].grid.rows.map TRow.pv)), .sc (.bool a[i].grid.box), .sc (.bool a[i].grid.all)]]) ?_ ?_
    · clear ho1 ho2 fin hn' hrec own para fy3 i4
      obtain ⟨t1, hk1⟩ : ∃ t : Bool, (a[i].kind = 1) = (t = true) := ⟨decide (a[i].kind = 1), by simp⟩
      obtain ⟨t2, hk2⟩ : ∃ t : Bool, (a[i].kind = 2) = (t = true) := ⟨decide (a[i].kind = 2), by simp⟩
      rw [hk1, hk2] at hAe
      cases t1 <;> cases t2
      · simp at hAe
        subst hAe
        simp [hk1, hk2]
      rotate_right
      · simp at hk1 hk2; omega
      all_goals
        simp [hk1, hk2]
        refine CallQ.mk (Call.pure callable83 (by simp) (by simp) st) ?_
        simp at hAe
        cases hs : standsIn a[i].kind inn
        · rw [hs] at hAe
          simp at hAe
          subst hAe
          simp
        · rw [hs] at hAe
          simp at hAe
          subst hAe
          simp
    · cases hAb : A
      · -- as it is
        subst hAb
        have hA : ¬ ((a[i].kind = 1 ∨ a[i].kind = 2) ∧ standsIn a[i].kind inn = false) := by rw [hAe]; simp
        rw [if_neg hA] at hn'
        have hyk : y.kids = [] := by rw [← hy]; rfl
        have hyd : y.kind = a[i].kind := by rw [← hy]; rfl
        have fy := refFull y
        rw [Node.pv_eq] at fy
        simp [gl] at fy
        simp
        refine CallQ.mk (Call.pure callable84 (by simp) (by simp) own) ?_
        simp
        refine CallQ.mk (Call.pure callable85 (by simp) (by simp) i4) ?_
        cases hkd : hasKids a[i].kind
        · simp
          refine CallQ.mk (Call.pure callable86 (by simp) (by simp) fy) ?_
          cases hw : wholeN y
          · simp
            exact fin [] (k - 1) (by rw [hn', hkd, hw]; rfl) _ (by simp)
          · simp [sizedN, sized1]
            exact ⟨by omega, fin [y] (k - 1) (by rw [hn', hkd, hw]; rfl) _ (by simp [Node.pv_eq y, gl])⟩
        · -- has it what is within?
          rw [hkd, if_pos rfl] at hn'
          by_cases h5 : a[i].kind = 5
          · have rc := hrec a[i].kind (d + 1) (by omega) (by omega)
            have hz : wholeN (y.withKids [Node.zero]) = true := whole_five _ _ (by rw [hyd]; exact h5)
            rw [hz] at hn'
            generalize hr : tidyL a[i].kind (d + 1) (k - 1) a[i].kids = r at *
            obtain ⟨rl, rk⟩ := r
            have fk := refFull (y.withKids rl)
            rw [Node.pv_eq] at fk
            simp [gl] at fk
            simp at hcr2 rc
            rw [h5] at rc
            simp [h5, wd1]
            refine CallQ.mk (Call.pure callable48 (by simp) (by simp) rc) ?_
            simp
            refine CallQ.mk (Call.pure callable86 (by simp) (by simp) fk) ?_
            cases hw : wholeN (y.withKids rl)
            · have hrl : rl = [] := by
                simp [wholeN, hyd, h5] at hw
                exact hw
              subst hrl
              simp
              exact fin [] rk (by rw [hn']; simp [hw]) _ (by simp)
            · simp [sizedN, sized1]
              exact ⟨by omega, fin [y.withKids rl] rk (by rw [hn']; simp [hw]) _ (by simp [Node.pv_eq (y.withKids rl), gl])⟩
          · have hz : ∀ l, wholeN (y.withKids l) = wholeN y := fun l => whole_kids l (by rw [hyd]; exact h5)
            simp only [hz] at hn'
            simp [h5]
            refine CallQ.mk (Call.pure callable86 (by simp) (by simp) fy) ?_
            cases hw : wholeN y
            · have rc := hrec inn d hd0 hd1
              simp
              refine CallQ.mk (Call.pure callable86 (by simp) (by simp) fy) ?_
              rw [hw]
              simp
              refine CallQ.mk (Call.pure callable48 (by simp) (by simp) rc) ?_
              simp [sizedN]
              exact ⟨by omega, fin _ _ (by rw [hn', hw]; rfl) _ (by simp)⟩
            · have rc := hrec a[i].kind (d + 1) (by omega) (by omega)
              generalize hr : tidyL a[i].kind (d + 1) (k - 1) a[i].kids = r at *
              obtain ⟨rl, rk⟩ := r
              have fk := refFull (y.withKids rl)
              rw [Node.pv_eq] at fk
              simp [gl] at fk
              rw [hz, hw] at fk
              simp at hcr2 rc
              simp [wd1]
              refine CallQ.mk (Call.pure callable48 (by simp) (by simp) rc) ?_
              simp
              refine CallQ.mk (Call.pure callable86 (by simp) (by simp) fk) ?_
              simp [sizedN, sized1]
              exact ⟨by omega, fin [y.withKids rl] rk (by rw [hn', hw]; simp) _ (by simp [Node.pv_eq (y.withKids rl), gl])⟩
      · -- a heading that may not stand there
        subst hAb
        have hA : (a[i].kind = 1 ∨ a[i].kind = 2) ∧ standsIn a[i].kind inn = false := by rw [hAe]
        rw [if_pos hA] at hn'
        have hkd : hasKids a[i].kind = true := by rcases hA.1 with h | h <;> rw [h] <;> rfl
        have hk3 : ¬ (3 : Int) = a[i].kind := by rcases hA.1 with h | h <;> rw [h] <;> decide
        have rc := hrec inn d hd0 hd1
        rw [hkd] at i4
        simp
        refine CallQ.mk (Call.pure callable84 (by simp) (by simp) para) ?_
        simp
        refine CallQ.mk (Call.pure callable85 (by simp) (by simp) i4) ?_
        simp [hk3]
        refine CallQ.mk (Call.pure callable86 (by simp) (by simp) fy3) ?_
        cases hw : wholeN y3
        · simp
          refine CallQ.mk (Call.pure callable48 (by simp) (by simp) rc) ?_
          simp [sizedN]
          exact ⟨by omega, fin _ _ (by rw [hn', hw]) _ (by simp)⟩
        · simp [sizedN, sized1]
          refine ⟨by omega, CallQ.mk (Call.pure callable48 (by simp) (by simp) rc) ?_⟩
          simp [sizedN, sized1, sized_app]
          exact ⟨by omega, fin _ _ (by rw [hn', hw]) _ (by simp [Node.pv_eq y3, gl])⟩
end Go.Proofs.YtlnnnfogbakimaaDoor.Ev
end
section
namespace Go.Proofs.YtlnnnfogbakimaaDoor.Ev
open Go
set_option linter.unusedSimpArgs false in
set_option maxRecDepth 20000 in
set_option maxHeartbeats 4000000 in
theorem refTidy (d : Doc) (hall : ∀ x ∈ d.kids, x.Small) (hl : d.kids.length ≤ 1073741824) : PCon C0 17 [d.pv.toFV] (tidyD d).pv.toFV := by
  have rt := refTidyL _ d.kids (Nat.lt_succ_self _) hall hl 0 0 20000 (by omega) (by omega) (by omega)
  refine penter17 ?_
  simp [Tryd.f17, Doc.pv] at rt ⊢
  refine CallQ.mk (Call.pure callable48 (by simp) (by simp) rt) ?_
  simp [tidyD]
def rA (inn : Int) (x : Node) : Bool := standsIn x.kind inn && (wholeN x && (decide (0 ≤ x.line) && (decide (x.line ≤ 1099511627775) && sqzd x.text)))
def rB (x : Node) : Bool := decide (0 ≤ x.n) && (decide (x.n ≤ 200) && ((hasN x.kind || decide (x.n ≤ 0)) && ((hasText x.kind || decide (x.text = [])) && (hasKids x.kind || decide (x.kids = [])))))
def rC (x : Node) : Bool := (decide (x.kind = 6) || decide (x.rows = [])) && (if x.kind = 7 then rightT x.grid else bareT x.grid)
theorem okN_parts (inn : Int) (x : Node) : okN inn x = (rA inn x && (rB x && rC x)) := by
  unfold okN rA rB rC okHas
  have e0 : decide (x.n ≤ 0) = (decide (x.n < 0) || decide (x.n = 0)) := by
    rw [← Bool.decide_or]; refine decide_eq_decide.2 ?_; omega
  have e1 : decide (0 ≤ x.n) = !decide (x.n < 0) := by
    rw [← decide_not]; refine decide_eq_decide.2 ?_; omega
  have l1 : decide ((x.text.length : Int) = 0) = decide (x.text = []) := by refine decide_eq_decide.2 ?_; simp
  have l2 : decide ((x.kids.length : Int) = 0) = decide (x.kids = []) := by refine decide_eq_decide.2 ?_; simp
  have l3 : decide ((x.rows.length : Int) = 0) = decide (x.rows = []) := by refine decide_eq_decide.2 ?_; simp
  rw [e0, e1, l1, l2, l3]
  generalize (if x.kind = 7 then rightT x.grid else bareT x.grid) = g
  generalize standsIn x.kind inn = b1
  generalize wholeN x = b2
  generalize decide (0 ≤ x.line) = b3
  generalize decide (x.line ≤ 1099511627775) = b4
  generalize decide (x.n < 0) = b5
  generalize decide (x.n ≤ 200) = b6
  generalize sqzd x.text = b7
  generalize hasText x.kind = b8
  generalize hasKids x.kind = b9
  generalize decide (x.kind = 6) = b10
  generalize hasN x.kind = b11
  generalize decide (x.n = 0) = b12
  generalize decide (x.text = []) = b13
  generalize decide (x.kids = []) = b14
  generalize decide (x.rows = []) = b15
  cases b1 <;> cases b2 <;> cases b3 <;> cases b4 <;> cases b5 <;> cases b6 <;> cases b7 <;> simp
  cases b8 <;> cases b9 <;> cases b10 <;> cases b11 <;> cases b12 <;> cases b13 <;> cases b14 <;> cases b15 <;> simp
end Go.Proofs.YtlnnnfogbakimaaDoor.Ev
end
section
namespace Go.Proofs.YtlnnnfogbakimaaDoor.Ev
open Go
set_option linter.unusedSimpArgs false in
set_option maxRecDepth 20000 in
set_option maxHeartbeats 8000000 in
theorem refRightN : ∀ (n : Nat) (x : Node), SizeOf.sizeOf x < n → x.Small → ∀ inn : Int, PCon C0 61 [x.pv.toFV, .sc (.int .i64 inn)] (.sc (.bool (checkN inn x))) := by
  intro n
  induction n with
  | zero => intro x h; omega
  | succ n ih =>
    intro x hn hx inn
    refine penter61 ?_
    have ea := Node.pv_eq x
    have fu := refFull x
    have st := refStands x.kind inn
    have sq := refSqueezed x.text hx.text
    have rt := refRight x.grid hx.tbl
    have i2 := refIn x.kind [4, 5] (by simp)
    have i4 := refIn x.kind [1, 2, 3, 4] (by simp)
    have i5 := refIn x.kind [1, 2, 4, 5] (by simp)
    rw [mem45] at i2
    rw [mem1234] at i4
    rw [mem1245] at i5
    have hce : checkN inn x = (okN inn x && checkL x.kind x.kids) := checkN_eq inn x
    rw [okN_parts] at hce
    have kid : ∀ y ∈ x.kids, PCon C0 61 [y.pv.toFV, .sc (.int .i64 x.kind)] (.sc (.bool (checkN x.kind y))) := fun y hy => ih y (by cases x; simp at hy hn; have := List.sizeOf_lt_of_mem hy; omega) (hx.kids.2 y hy) x.kind
    have hkl := hx.kids.1
    rw [ea] at fu ⊢
    simp [gl, Tbl.pv, pvi] at fu sq rt i2 i4 i5
    simp [Tryd.f61, gl, -KSeq_normal]
    rw [KSeq_normal, wpC_seq]
    refine seq_cut (E := [(0, FV.agg [.sc (.int .i64 x.kind), .sc (.int .i64 x.line), .sc (.int .i64 x.n), .sc (.sl (x.text.map Glyph.pv)), .sc (.sl (x.kids.map Node.pv)), .sc (.sl (x.rows.map gl)), .sc (.str x.grid.cols), .sc (.sl (x.grid.rows.map TRow.pv)), .sc (.bool x.grid.box), .sc (.bool x.grid.all)]), (1, .sc (.int .i64 inn)), (2, .ptr 0 0), (4, .sc (.bool false)), (5, .undef), (6, .undef), (32, .sc (.bool (!rA inn x))), (78, .undef), (130, .undef), (135, .undef), (146, .undef)]) (H₁ := [[.sc (.int .i64 x.kind), .sc (.int .i64 x.line), .sc (.int .i64 x.n), .sc (.sl (x.text.map Glyph.pv)), .sc (.sl (x.kids.map Node.pv)), .sc (.sl (x.rows.map gl)), .sc (.str x.grid.cols), .sc (.sl (x.grid.rows.map TRow.pv)), .sc (.bool x.grid.box), .sc (.bool x.grid.all)]]) ?_ ?_
    · unfold rA
      simp
      refine CallQ.mk (Call.pure callable83 (by simp) (by simp) st) ?_
      cases standsIn x.kind inn
      · simp
      simp
      refine CallQ.mk (Call.pure callable86 (by simp) (by simp) fu) ?_
      cases wholeN x
      · simp
      simp
      by_cases l0 : 0 ≤ x.line
      rotate_left
      · have l0' : x.line < 0 := by omega
        simp [l0, l0']
      have l0' : ¬ x.line < 0 := by omega
      by_cases l1 : x.line ≤ 1099511627775
      rotate_left
      · have l1' : 1099511627775 < x.line := by omega
        simp [l0, l0', l1, l1']
      have l1' : ¬ 1099511627775 < x.line := by omega
      simp [l0, l0', l1, l1']
      refine CallQ.mk (Call.pure callable79 (by simp) (by simp) sq) ?_
      simp
    cases hA : rA inn x
    · simp [hce, hA]
    simp [-KSeq_normal]
    rw [KSeq_normal, wpC_seq]
    refine seq_cut (E := [(0, FV.agg [.sc (.int .i64 x.kind), .sc (.int .i64 x.line), .sc (.int .i64 x.n), .sc (.sl (x.text.map Glyph.pv)), .sc (.sl (x.kids.map Node.pv)), .sc (.sl (x.rows.map gl)), .sc (.str x.grid.cols), .sc (.sl (x.grid.rows.map TRow.pv)), .sc (.bool x.grid.box), .sc (.bool x.grid.all)]), (1, .sc (.int .i64 inn)), (2, .ptr 0 0), (4, .sc (.bool false)), (5, .undef), (6, .undef), (32, .sc (.bool false)), (78, .sc (.bool (!rB x))), (130, .undef), (135, .undef), (146, .undef)]) (H₁ := [[.sc (.int .i64 x.kind), .sc (.int .i64 x.line), .sc (.int .i64 x.n), .sc (.sl (x.text.map Glyph.pv)), .sc (.sl (x.kids.map Node.pv)), .sc (.sl (x.rows.map gl)), .sc (.str x.grid.cols), .sc (.sl (x.grid.rows.map TRow.pv)), .sc (.bool x.grid.box), .sc (.bool x.grid.all)]]) ?_ ?_
    · unfold rB
      by_cases n0 : 0 ≤ x.n
      rotate_left
      · have n0' : x.n < 0 := by omega
        simp [n0, n0']
      have n0' : ¬ x.n < 0 := by omega
      by_cases n1 : x.n ≤ 200
      rotate_left
      · have n1' : 200 < x.n := by omega
        simp [n0, n0', n1, n1']
      have n1' : ¬ 200 < x.n := by omega
      have p1 : ¬ x.text = [] → (0 : Int) < x.text.length ∧ 0 < x.text.length := fun h => by have := List.length_pos_iff.2 h; omega
      have p2 : ¬ x.kids = [] → (0 : Int) < x.kids.length ∧ 0 < x.kids.length := fun h => by have := List.length_pos_iff.2 h; omega
      by_cases n2 : 0 < x.n
      · have n2' : ¬ x.n ≤ 0 := by omega
        simp [n0, n0', n1, n1', n2, n2']
        refine CallQ.mk (Call.pure callable85 (by simp) (by simp) i2) ?_
        cases hasN x.kind
        · simp
        by_cases t0 : x.text = []
        · by_cases k0 : x.kids = []
          · simp [t0, k0]
          · simp [t0, k0, p2 k0]
            refine CallQ.mk (Call.pure callable85 (by simp) (by simp) i5) ?_
            cases hasKids x.kind <;> simp
        · simp [t0, p1 t0]
          refine CallQ.mk (Call.pure callable85 (by simp) (by simp) i4) ?_
          cases hasText x.kind
          · simp
          by_cases k0 : x.kids = []
          · simp [k0]
          · simp [k0, p2 k0]
            refine CallQ.mk (Call.pure callable85 (by simp) (by simp) i5) ?_
            cases hasKids x.kind <;> simp
      · have n2' : x.n ≤ 0 := by omega
        by_cases t0 : x.text = []
        · by_cases k0 : x.kids = []
          · simp [n0, n0', n1, n1', n2, n2', t0, k0]
          · simp [n0, n0', n1, n1', n2, n2', t0, k0, p2 k0]
            refine CallQ.mk (Call.pure callable85 (by simp) (by simp) i5) ?_
            cases hasKids x.kind <;> simp
        · simp [n0, n0', n1, n1', n2, n2', t0, p1 t0]
          refine CallQ.mk (Call.pure callable85 (by simp) (by simp) i4) ?_
          cases hasText x.kind
          · simp
          by_cases k0 : x.kids = []
          · simp [k0]
          · simp [k0, p2 k0]
            refine CallQ.mk (Call.pure callable85 (by simp) (by simp) i5) ?_
            cases hasKids x.kind <;> simp
    cases hB : rB x
    · simp [hce, hA, hB]
    simp [-KSeq_normal]
    rw [KSeq_normal]
    refine seq_cut (E := [(0, FV.agg [.sc (.int .i64 x.kind), .sc (.int .i64 x.line), .sc (.int .i64 x.n), .sc (.sl (x.text.map Glyph.pv)), .sc (.sl (x.kids.map Node.pv)), .sc (.sl (x.rows.map gl)), .sc (.str x.grid.cols), .sc (.sl (x.grid.rows.map TRow.pv)), .sc (.bool x.grid.box), .sc (.bool x.grid.all)]), (1, .sc (.int .i64 inn)), (2, .ptr 0 0), (4, .sc (.bool false)), (5, .sc (.bool (bareT x.grid))), (6, .undef), (32, .sc (.bool false)), (78, .sc (.bool false)), (130, .undef), (135, .undef), (146, .undef)]) (H₁ := [[.sc (.int .i64 x.kind), .sc (.int .i64 x.line), .sc (.int .i64 x.n), .sc (.sl (x.text.map Glyph.pv)), .sc (.sl (x.kids.map Node.pv)), .sc (.sl (x.rows.map gl)), .sc (.str x.grid.cols), .sc (.sl (x.grid.rows.map TRow.pv)), .sc (.bool x.grid.box), .sc (.bool x.grid.all)]]) ?_ ?_
    · have he : (ByteArray.empty = (⟨#[]⟩ : ByteArray)) = True := eq_true rfl
      by_cases h1 : x.grid.cols = ByteArray.empty
      · by_cases h2 : x.grid.rows = []
        · cases h3 : x.grid.box
          · simp [h1, h2, h3, bareT, he]
          · simp [h1, h2, h3, bareT, he]
        · have h2' : ¬ (x.grid.rows.length : Int) = 0 := by have := List.length_pos_iff.2 h2; omega
          simp [h1, h2, h2', bareT, he]
      · have h1' : ¬ x.grid.cols = (⟨#[]⟩ : ByteArray) := h1
        simp [h1', bareT, h1]
    rw [wpC_seq]
    refine seq_cut (E := [(0, FV.agg [.sc (.int .i64 x.kind), .sc (.int .i64 x.line), .sc (.int .i64 x.n), .sc (.sl (x.text.map Glyph.pv)), .sc (.sl (x.kids.map Node.pv)), .sc (.sl (x.rows.map gl)), .sc (.str x.grid.cols), .sc (.sl (x.grid.rows.map TRow.pv)), .sc (.bool x.grid.box), .sc (.bool x.grid.all)]), (1, .sc (.int .i64 inn)), (2, .ptr 0 0), (4, .sc (.bool false)), (5, .sc (.bool (bareT x.grid))), (6, .undef), (32, .sc (.bool false)), (78, .sc (.bool false)), (130, .sc (.bool (!rC x))), (135, .undef), (146, .undef)]) (H₁ := [[.sc (.int .i64 x.kind), .sc (.int .i64 x.line), .sc (.int .i64 x.n), .sc (.sl (x.text.map Glyph.pv)), .sc (.sl (x.kids.map Node.pv)), .sc (.sl (x.rows.map gl)), .sc (.str x.grid.cols), .sc (.sl (x.grid.rows.map TRow.pv)), .sc (.bool x.grid.box), .sc (.bool x.grid.all)]]) ?_ ?_
    · have p3 : ¬ x.rows = [] → (0 : Int) < x.rows.length ∧ 0 < x.rows.length := fun h => by have := List.length_pos_iff.2 h; omega
      by_cases r0 : x.rows = []
      · by_cases k7 : x.kind = 7
        · simp [r0, k7, rC]
          refine CallQ.mk (Call.pure callable43 (by simp) (by simp) rt) ?_
          cases rightT x.grid <;> simp
        · simp [r0, k7, rC]
      · by_cases k6 : x.kind = 6
        · simp [r0, p3 r0, k6, rC]
        · simp [r0, p3 r0, k6, rC]
    cases hC : rC x
    · simp [hce, hA, hB, hC]
    rw [hA, hB, hC, checkL_all] at hce
    simp only [Bool.true_and] at hce
    rw [hce]
    obtain ⟨b, hb⟩ : ∃ b, x.kids.all (checkN x.kind) = b := ⟨_, rfl⟩
    rw [hb]
    clear hce
    clear st sq rt i2 i4 i5 fu
    simp
    refine loopC (fun d e H => ∃ (i : Nat) (x135 x146 : FV), d = x.kids.length - i ∧ i ≤ x.kids.length ∧ (∀ y ∈ x.kids.take i, checkN x.kind y = true) ∧ H = [[.sc (.int .i64 x.kind), .sc (.int .i64 x.line), .sc (.int .i64 x.n), .sc (.sl (x.text.map Glyph.pv)), .sc (.sl (x.kids.map Node.pv)), .sc (.sl (x.rows.map gl)), .sc (.str x.grid.cols), .sc (.sl (x.grid.rows.map TRow.pv)), .sc (.bool x.grid.box), .sc (.bool x.grid.all)]] ∧ e = [(0, FV.agg [.sc (.int .i64 x.kind), .sc (.int .i64 x.line), .sc (.int .i64 x.n), .sc (.sl (x.text.map Glyph.pv)), .sc (.sl (x.kids.map Node.pv)), .sc (.sl (x.rows.map gl)), .sc (.str x.grid.cols), .sc (.sl (x.grid.rows.map TRow.pv)), .sc (.bool x.grid.box), .sc (.bool x.grid.all)]), (1, .sc (.int .i64 inn)), (2, .ptr 0 0), (4, .sc (.bool false)), (5, .sc (.bool (bareT x.grid))), (6, .sc (.int .i64 i)), (32, .sc (.bool false)), (78, .sc (.bool false)), (130, .sc (.bool false)), (135, x135), (146, x146)]) (d := x.kids.length)
      ⟨0, _, _, rfl, by omega, by simp, rfl, rfl⟩ ?_
    rintro d e H ⟨i, x135, x146, rfl, hi, hal, rfl, rfl⟩
    simp
    refine CondC.mk (fun hlt => ?_) (fun hlt => ?_)
    · simp at hlt
      have hq : x.kids[i]? = some x.kids[i] := List.getElem?_eq_getElem hlt
      have kc := kid _ (List.getElem_mem hlt)
      have ek := Node.pv_eq x.kids[i]
      rw [ek] at kc
      simp [gl] at kc
      simp [hlt, hq, ek, gl]
      refine CallQ.mk (CallP.pure callable61 (by simp) (by simp) kc) ?_
      cases hc : checkN x.kind x.kids[i]
      · have hno : b = false := by
          rw [← hb, List.all_eq_false]
          exact ⟨_, List.getElem_mem hlt, by simp [hc]⟩
        subst hno
        simp
      · simp
        refine ⟨x.kids.length - (i + 1), by omega, i + 1, rfl, by omega, ?_, by rw [wrap64 (by omega) (by omega)]; omega⟩
        rw [List.take_succ_eq_append_getElem hlt]
        intro y hy
        rcases List.mem_append.1 hy with h | h
        · exact hal y h
        · rw [List.mem_singleton.1 h]; exact hc
    · simp at hlt
      rw [List.take_of_length_le hlt] at hal
      obtain rfl : b = true := by rw [← hb, List.all_eq_true]; exact hal
      simp
set_option linter.unusedSimpArgs false in
set_option maxRecDepth 20000 in
set_option maxHeartbeats 4000000 in
theorem refCheckD (d : Doc) (hc : Node.cntL d.kids ≤ 1073741824) (hl : d.kids.length ≤ 1073741824) (hs : ∀ x ∈ d.kids, x.Small) (hdp : PCon C0 32 [.sc (.sl (d.kids.map Node.pv))] (.sc (.int .i64 (Node.deeps d.kids)))) : PCon C0 31 [d.pv.toFV] (.sc (.int .i64 (checkD d))) := by
  have c1 := refCount _ d.kids (Nat.lt_succ_self _) hc
  refine penter31 ?_
  simp [Tryd.f31, Doc.pv]
  refine CallQ.mk (Call.pure callable60 (by simp) (by simp) c1) ?_
  by_cases h1 : 20000 < Node.cntL d.kids
  · have h1' : (20000 : Int) < Node.cntL d.kids := by omega
    simp [h1', checkD, h1]
  · have h1' : ¬ (20000 : Int) < Node.cntL d.kids := by omega
    simp [h1']
    refine CallQ.mk (Call.pure callable32 (by simp) (by simp) hdp) ?_
    by_cases h2 : 20 < Node.deeps d.kids
    · have h2' : (20 : Int) < Node.deeps d.kids := by omega
      simp [h2', checkD, h2]
    · have h2' : ¬ (20 : Int) < Node.deeps d.kids := by omega
      have hce : checkD d = if d.kids.all (checkN 0) = true then 0 else 2 := by
        unfold checkD
        rw [if_neg (by omega), checkL_all]
      obtain ⟨b, hb⟩ : ∃ b, d.kids.all (checkN 0) = b := ⟨_, rfl⟩
      rw [hce, hb]
      clear hce
      simp [h2']
      refine loopC (fun dd e H => ∃ (i : Nat) (x18 x27 : FV), dd = d.kids.length - i ∧ i ≤ d.kids.length ∧ (∀ y ∈ d.kids.take i, checkN 0 y = true) ∧ H = [[.sc (.str d.name), .sc (.str d.part), .sc (.str d.date), .sc (.str d.source), .sc (.sl (d.kids.map Node.pv))]] ∧
        e = [(0, FV.agg [.sc (.str d.name), .sc (.str d.part), .sc (.str d.date), .sc (.str d.source), .sc (.sl (d.kids.map Node.pv))]), (1, .ptr 0 0), (2, .sc (.int .i64 0)), (3, .sc (.int .i64 i)), (13, .sc (.bool false)), (18, x18), (27, x27)]) (d := d.kids.length)
        ⟨0, _, _, rfl, by omega, by simp, rfl, rfl⟩ ?_
      rintro dd e H ⟨i, x18, x27, rfl, hi, hal, rfl, rfl⟩
      simp
      refine CondC.mk (fun hlt => ?_) (fun hlt => ?_)
      · simp at hlt
        have hq : d.kids[i]? = some d.kids[i] := List.getElem?_eq_getElem hlt
        have kc := refRightN _ d.kids[i] (Nat.lt_succ_self _) (hs _ (List.getElem_mem hlt)) 0
        have ek := Node.pv_eq d.kids[i]
        rw [ek] at kc
        simp [gl] at kc
        simp [hlt, hq, ek, gl]
        refine CallQ.mk (Call.pure callable61 (by simp) (by simp) kc) ?_
        cases hc : checkN 0 d.kids[i]
        · have hno : b = false := by
            rw [← hb, List.all_eq_false]
            exact ⟨_, List.getElem_mem hlt, by simp [hc]⟩
          subst hno
          simp
        · simp
          refine ⟨d.kids.length - (i + 1), by omega, i + 1, rfl, by omega, ?_, by rw [wrap64 (by omega) (by omega)]; omega⟩
          rw [List.take_succ_eq_append_getElem hlt]
          intro y hy
          rcases List.mem_append.1 hy with h | h
          · exact hal y h
          · rw [List.mem_singleton.1 h]; exact hc
      · simp at hlt
        rw [List.take_of_length_le hlt] at hal
        obtain rfl : b = true := by rw [← hb, List.all_eq_true]; exact hal
        simp
end Go.Proofs.YtlnnnfogbakimaaDoor.Ev
end
section
namespace Go.Proofs.YtlnnnfogbakimaaDoor.Ev
open Go
theorem sumBy_cons {α : Type} (f : α → Nat) (x : α) (l : List α) : sumBy f (x :: l) = f x + sumBy f l := rfl
theorem squeeze_len (l : List Glyph) : (squeeze l).length ≤ 2 * l.length := sqAll_len l
theorem cellM_sum (r : TRow) (n : Nat) : sumBy List.length ((List.range n).map (cellM r)) ≤ 2 * sumBy List.length r.cells := by
  have key : ∀ m, sumBy List.length ((List.range m).map (cellM r)) ≤ 2 * sumBy List.length (r.cells.take m) := by
    intro m
    induction m with
    | zero => simp [sumBy]
    | succ m ih =>
      rw [List.range_succ, List.map_append, sumBy_append]
      simp only [List.map_cons, List.map_nil, sumBy]
      by_cases hm : m < r.cells.length
      · rw [sumBy_take _ hm]
        have e : cellM r m = squeeze r.cells[m] := by simp [cellM, hm]
        rw [e]
        have := squeeze_len r.cells[m]
        omega
      · have e : cellM r m = [] := by simp [cellM, hm]
        rw [e]
        rw [List.take_of_length_le (by omega)] at ih
        rw [List.take_of_length_le (by omega)]
        simp; omega
  have := key n; have := sumBy_take_le List.length r.cells n; omega
theorem mendRow_long (n : Nat) (hn : n ≤ 20) (r : TRow) : trowLong (mendRow n r) ≤ 2 * trowLong r + 20 := by
  rw [mendRow_eq]
  unfold trowLong
  cases hr : r.rule
  · have := cellM_sum r n
    simp; omega
  · simp [sumBy]
theorem mendT_long (t : Tbl) : (mendT t).cols.size + sumBy trowLong (mendT t).rows ≤ 20 + 22 * sumBy trowLong t.rows := by
  obtain ⟨c1, c2, c3⟩ := mendCols_ok t.cols
  have key : ∀ l : List TRow, sumBy trowLong (l.map (mendRow (mendCols t.cols).size)) ≤ 22 * sumBy trowLong l := by
    intro l
    induction l with
    | nil => simp [sumBy]
    | cons r l ih =>
      rw [List.map_cons, sumBy_cons, sumBy_cons]
      have := mendRow_long _ c2 r
      have : 1 ≤ trowLong r := by unfold trowLong; omega
      omega
  have := key t.rows
  show (mendCols t.cols).size + sumBy trowLong (t.rows.map _) ≤ _
  omega
def Node.own1 (x : Node) : Nat := 3 + x.text.length + x.grid.cols.size + rowsLong x.rows + sumBy trowLong x.grid.rows
theorem Node.long_own (x : Node) : x.long = x.own1 + sumBy Node.long x.kids := by rw [Node.long_eq, Node.own1]; omega
theorem ownN_long (x : Node) (k : Int) : (ownN x k).own1 ≤ 24 * x.own1 := by
  have h1 := squeeze_len x.text
  have h2 := mendT_long x.grid
  unfold ownN Node.own1
  simp only [Node.text_mk, Node.rows_mk, Node.grid_mk]
  have e1 : (if hasText k = true then squeeze x.text else []).length ≤ 2 * x.text.length := by
    split
    · exact h1
    · exact Nat.zero_le _
  have e2 : rowsLong (if k = 6 then x.rows else []) ≤ rowsLong x.rows := by
    split
    · omega
    · simp [rowsLong, sumBy]
  have e3 : (if k = 7 then mendT x.grid else noTbl).cols.size + sumBy trowLong (if k = 7 then mendT x.grid else noTbl).rows ≤ 20 + 22 * sumBy trowLong x.grid.rows := by
    split
    · exact h2
    · simp [noTbl, sumBy]
  omega
theorem own1_wk (x : Node) (l : List Node) : (x.withKids l).own1 = x.own1 := rfl
theorem tidy_long : ∀ (n : Nat) (l : List Node), SizeOf.sizeOf l < n → ∀ inn d k, sumBy Node.long (tidyL inn d k l).1 ≤ 24 * sumBy Node.long l := by
  intro n
  induction n with
  | zero => intro l h; omega
  | succ n ih =>
    intro l hn inn d k
    cases l with
    | nil => rw [tidyL]; simp [sumBy]
    | cons x l =>
      have hx : SizeOf.sizeOf x.kids < n ∧ SizeOf.sizeOf l < n := by
        cases x; simp at hn ⊢; omega
      rw [tidyL, sumBy_cons]
      split
      · simp [sumBy]
      · split
        · have := ih l hx.2 inn d k; omega
        · have h1 : sumBy Node.long (tidyN inn d k x).1 ≤ 24 * x.long := by
            rw [tidyN_eq, Node.long_own x]
            have h1 := ih x.kids hx.1 inn d (k - 1)
            have h2 := ih x.kids hx.1 x.kind (d + 1) (k - 1)
            have o1 := ownN_long x 3
            have o2 := ownN_long x x.kind
            have z1 : (ownN x 3).long = (ownN x 3).own1 := by rw [Node.long_own, ownN_kids]; rfl
            have z2 : (ownN x x.kind).long = (ownN x x.kind).own1 := by rw [Node.long_own, ownN_kids]; rfl
            have z3 : ∀ m : List Node, ((ownN x x.kind).withKids m).long = (ownN x x.kind).own1 + sumBy Node.long m := fun m => by rw [Node.long_own, own1_wk, Node.kids_wk]
            split
            · simp only [sumBy_append]
              split
              · simp only [sumBy]; omega
              · simp only [sumBy]; omega
            · split
              · simp only
                split <;> split
                all_goals
                  try simp only [sumBy, z3]
                  omega
              · split
                · simp only [sumBy]; omega
                · simp only [sumBy]; omega
          have h2 := ih l hx.2 inn d (tidyN inn d k x).2
          simp only [sumBy_append]; omega
theorem Node.Small.ok : ∀ (n : Nat) (x : Node), SizeOf.sizeOf x < n → x.Small → x.Ok := by
  intro n
  induction n with
  | zero => intro x h; omega
  | succ n ih =>
    intro x hn hx
    obtain ⟨kind, line, m, text, kids, rows, grid⟩ := x
    have h1 := hx.text
    have h2 := hx.kids
    have h3 := hx.rows
    simp at h1 h2 h3
    refine .mk (by omega) (by omega) (fun y hy => ih y ?_ (h2.2 y hy)) (by omega) (fun r hr => by have := h3.2 r hr; omega) hx.tbl.ok
    simp at hn; have := List.sizeOf_lt_of_mem hy; omega
theorem small_of {l : List Node} (h : sumBy Node.long l ≤ 1073741824) : ∀ x ∈ l, x.Small := fun x hx => by
  have := long_mem hx; unfold Node.Small; omega
theorem ok_of {l : List Node} (h : sumBy Node.long l ≤ 1073741824) : ∀ x ∈ l, x.Ok := fun x hx => Node.Small.ok _ x (Nat.lt_succ_self _) (small_of h x hx)
end Go.Proofs.YtlnnnfogbakimaaDoor.Ev
end
section
namespace Go.Proofs.YtlnnnfogbakimaaDoor.Ev
open Go
theorem refDeep' (l : List Node) (h : sumBy Node.long l ≤ 1073741824) : PCon C0 32 [.sc (.sl (l.map Node.pv))] (.sc (.int .i64 (Node.deeps l))) := by
  have hl : l.length ≤ 1073741824 := Nat.le_trans (len_le_long _) h
  have hd := refDeep _ l (Nat.lt_succ_self _) (by omega) (ok_of h)
  have hcl := Node.cnt_long _ l (Nat.lt_succ_self _)
  have hdc := Node.deeps_cnt _ l (Nat.lt_succ_self _)
  rwa [Node.deepsW_eq _ l (Nat.lt_succ_self _) (by omega)] at hd
theorem short_of {l : List Node} (h : tooLong l = false) (hb : sumBy Node.long l ≤ 1073741824) : sumBy Node.long l ≤ 600 := by
  simp [tooLong] at h
  have := h.1
  rw [wrap64 (by omega) (by omega)] at this
  omega
set_option linter.unusedSimpArgs false in
set_option maxRecDepth 20000 in
set_option maxHeartbeats 4000000 in
theorem treeTidiesLaw (d : Doc) (hb : sumBy Node.long d.kids ≤ 1073741824) : PCon C0 13 [d.pv.toFV] (.sc (.bool true)) := by
  have hl : d.kids.length ≤ 1073741824 := Nat.le_trans (len_le_long _) hb
  have cl := lawLong d.kids (ok_of hb) (by omega)
  have kn := treeKnown
  refine penter13 ?_
  simp [Tryd.f13, Doc.pv]
  refine CallQ.mk (Call.pure callable15 (by simp) (by simp) cl) ?_
  cases htl : tooLong d.kids
  · have hlong := short_of htl hb
    have hcl := Node.cnt_long _ d.kids (Nat.lt_succ_self _)
    have htd := tidy_long _ d.kids (Nat.lt_succ_self _) 0 0 20000
    have hl2 := len_le_long (tidyL 0 0 20000 d.kids).1
    have t1 := treeTidy fitS d (small_of (by omega)) (by omega)
    have t2 := refTidy d (small_of (by omega)) (by omega)
    have sd := refSameDoc (tidyD d) (tidyD d) (by show (tidyL 0 0 20000 d.kids).1.length ≤ _; omega) (ok_of (by show sumBy Node.long (tidyL 0 0 20000 d.kids).1 ≤ _; omega))
    have c1 := treeCheckD d (by omega) (by omega) (small_of (by omega))
    have c2 := refCheckD d (by omega) (by omega) (small_of (by omega)) (refDeep' _ (by omega))
    simp [Doc.pv] at t1 t2 sd c1 c2
    simp
    refine CallQ.mk (CallP.pure callable18 (by simp) (by simp) t1) ?_
    simp
    refine CallQ.mk (CallP.pure callable17 (by simp) (by simp) t2) ?_
    simp
    refine CallQ.mk (CallP.pure callable19 (by simp) (by simp) sd) ?_
    simp
    refine CallQ.mk (CallP.pure callable44 (by simp) (by simp) c1) ?_
    simp
    refine CallQ.mk (CallP.pure callable31 (by simp) (by simp) c2) ?_
    simp
    refine CallQ.mk (CallP.pure callable16 (by simp) (by simp) kn) ?_
    simp
  · simp
    refine CallQ.mk (Call.pure callable16 (by simp) (by simp) kn) ?_
    simp
end Go.Proofs.YtlnnnfogbakimaaDoor.Ev
end
