/- Of what the law TreeTables needs: part 10. -/
import Derived.Shelf.Strings.SlTrimAscii
import Derived.Test.YtlnnnfogbakimaaDoorBTT9
set_option linter.unusedSimpArgs false
set_option linter.unusedVariables false
section
namespace Go.Proofs.YtlnnnfogbakimaaDoor.Ev
open Go
def sqzd (l : List Glyph) : Bool := decide (squeeze l = l)
set_option maxRecDepth 20000 in
set_option maxHeartbeats 4000000 in
theorem treeSqueezed (l : List Glyph) (hl : l.length ≤ 1073741824) : PCon C0 78 [.sc (gl l)] (.sc (.bool (sqzd l))) := by
  have sq := treeSqueeze l hl
  have sm := cellsSame (squeeze l) l (by have := sqAll_len l; unfold squeeze; omega)
  refine penter78 ?_
  simp [Tryd.f78, gl] at sq sm ⊢
  refine CallQ.mk (Call.pure callable70 (by simp) (by simp) sq) ?_
  simp
  refine CallQ.mk (Call.pure callable52 (by simp) (by simp) sm) ?_
  simp [sqzd]
set_option maxRecDepth 20000 in
set_option maxHeartbeats 4000000 in
theorem notSqueezed (l : List Glyph) (hl : l.length ≤ 1073741824) : PCon C0 77 [.sc (gl l)] (.sc (.bool (!sqzd l))) := by
  have sq := treeSqueezed l hl
  refine penter77 ?_
  simp [Tryd.f77, gl] at sq ⊢
  refine CallQ.mk (Call.pure callable78 (by simp) (by simp) sq) ?_
  simp
def idxP {α : Type} (p : α → Bool) (l : List α) : Int := if l.findIdx p < l.length then (l.findIdx p : Nat) else -1
theorem idxP_any {α : Type} (p : α → Bool) (l : List α) : decide (0 ≤ idxP p l) = l.any p := by
  unfold idxP
  cases h : l.any p
  · have : ¬ l.findIdx p < l.length := by
      rw [List.findIdx_lt_length]
      intro ⟨x, hx, hp⟩
      rw [List.any_eq_false] at h
      exact h x hx hp
    rw [if_neg this]; rfl
  · have : l.findIdx p < l.length := by
      rw [List.findIdx_lt_length]
      rw [List.any_eq_true] at h
      exact h
    rw [if_pos this]; simp
theorem idxP_at {α : Type} {p : α → Bool} {l : List α} {i : Nat} (h : i < l.length) (hb : ∀ j (hj : j < l.length), j < i → p l[j] = false) (hi : p l[i] = true) : idxP p l = i := by
  have : l.findIdx p = i := by
    rw [List.findIdx_eq h]
    exact ⟨hi, fun j hj => hb j (by omega) hj⟩
  rw [idxP, this, if_pos h]
theorem idxP_none {α : Type} {p : α → Bool} {l : List α} (hb : ∀ j (hj : j < l.length), p l[j] = false) : idxP p l = -1 := by
  rw [idxP, if_neg]
  rw [List.findIdx_lt_length]
  rintro ⟨x, hx, hp⟩
  obtain ⟨j, hj, rfl⟩ := List.getElem_of_mem hx
  rw [hb j hj] at hp; simp at hp
set_option linter.unusedSimpArgs false in
set_option maxRecDepth 20000 in
set_option maxHeartbeats 4000000 in
theorem indexRows (l : List (List Glyph)) (p : List Glyph → Bool) (f : Nat) (hl : l.length ≤ 1073741824) (hc : callable C0.P f = true) (hf : ∀ x ∈ l, PCon C0 f [.sc (gl x)] (.sc (.bool (p x)))) : PCon C0 118 [.sc (.sl (l.map gl)), .fn f [] []] (.sc (.int .i64 (idxP p l))) := by
  refine penter118 ?_
  simp [Tryd.f118]
  refine loopC (fun d e H => ∃ (i : Nat) (x4 x5 x9 x16 : FV), d = l.length - i ∧ i ≤ l.length ∧ (∀ j (hj : j < l.length), j < i → p l[j] = false) ∧ e = [(0, .sc (.sl (l.map gl))), (1, .fn f [] []), (4, x4), (5, x5), (7, .sc (.int .i64 l.length)), (8, .sc (.int .i64 i)), (9, x9), (16, x16)]) (d := l.length)
    ⟨0, _, _, _, _, rfl, by omega, by simp, rfl⟩ ?_
  rintro d e H ⟨i, x4, x5, x9, x16, rfl, hi, hbef, rfl⟩
  simp
  refine CondC.mk (fun hlt => ?_) (fun hlt => ?_)
  · simp at hlt
    have hcon := hf l[i] (List.getElem_mem hlt)
    simp only [gl] at hcon
    simp [hlt, gl]
    refine CallQ.mk (Call.pure hc (by simp) (by simp) hcon) ?_
    simp
    refine CondC.mk (fun hp => ?_) (fun hp => ?_)
    · simp [idxP_at hlt hbef hp]
    · simp
      refine ⟨l.length - (i + 1), by omega, i + 1, rfl, by omega, fun j hj h => ?_, by rw [wrap64 (by omega) (by omega)]; omega⟩
      rcases Nat.lt_or_ge j i with h' | h'
      · exact hbef j hj h'
      · obtain rfl : j = i := by omega
        exact hp
  · simp at hlt
    simp [idxP_none fun j hj => hbef j hj (by omega)]
set_option maxRecDepth 20000 in
set_option maxHeartbeats 4000000 in
theorem containsRows (l : List (List Glyph)) (p : List Glyph → Bool) (f : Nat) (hl : l.length ≤ 1073741824) (hc : callable C0.P f = true) (hf : ∀ x ∈ l, PCon C0 f [.sc (gl x)] (.sc (.bool (p x)))) : PCon C0 76 [.sc (.sl (l.map gl)), .fn f [] []] (.sc (.bool (l.any p))) := by
  have ci := indexRows l p f hl hc hf
  refine penter76 ?_
  simp [Tryd.f76]
  refine CallQ.mk (Call.pure callable118 (by simp) (by simp) ci) ?_
  simp [idxP_any]
def badRow (n : Nat) (r : TRow) : Bool := if r.rule = true then decide (0 < r.cells.length) else !decide (r.cells.length = n) || r.cells.any fun c => !sqzd c
set_option linter.unusedSimpArgs false in
set_option maxRecDepth 20000 in
set_option maxHeartbeats 4000000 in
theorem rowBad (r : TRow) (hr : r.cells.length ≤ 1073741824 ∧ ∀ c ∈ r.cells, c.length ≤ 1073741824) (H : Heap) (b n : Nat) (hb : H[b]? = some [.sc (.int .i64 n)]) (hp : NP H) : Con C0 75 [r.pv.toFV, .ptr b 0] H (.sc (.bool (badRow n r))) H := by
  have hbl : b < H.length := (List.getElem?_eq_some_iff.1 hb).1
  refine con_trim (C := C0) (fn := Tryd.f75) Tryd.func75 rfl (by decide) mixed (mv := []) (vars := [0, 1, 2, 3, 5, 9, 19]) (c := Tryd.f75.body.getD .skip) rfl rfl hp ?_
  have cr := containsRows r.cells (fun c => !sqzd c) 77 hr.1 callable77 fun x hx => notSqueezed x (hr.2 x hx)
  simp [Tryd.f75, TRow.pv]
  cases hrule : r.rule
  · by_cases hn : r.cells.length = n
    · simp [hn, hb, heap_old hbl]
      refine CallQ.mk (Call.pure callable76 (by simp) (by simp) cr) ?_
      simp [badRow, hrule, hn]
    · have hn' : ¬ (r.cells.length : Int) = n := by omega
      simp [hn', hb, heap_old hbl]
      simp [badRow, hrule, hn]
  · simp [badRow, hrule]
set_option linter.unusedSimpArgs false in
set_option maxRecDepth 20000 in
set_option maxHeartbeats 4000000 in
theorem indexBad (l : List TRow) (hl : l.length ≤ 1073741824) (hr : ∀ r ∈ l, r.cells.length ≤ 1073741824 ∧ ∀ c ∈ r.cells, c.length ≤ 1073741824) (H : Heap) (b n : Nat) (hb : H[b]? = some [.sc (.int .i64 n)]) (hp : NP H) :
    Con C0 117 [.sc (.sl (l.map TRow.pv)), .fn 75 [] [.ptr b 0]] H (.sc (.int .i64 (idxP (badRow n) l))) H := by
  refine con_of (C := C0) (fn := Tryd.f117) Tryd.func117 rfl (by decide) mixed (mv := []) (vars := [0, 1, 4, 5, 7, 8, 9, 16]) (c := Tryd.f117.body.getD .skip) rfl ?_
  simp [Tryd.f117]
  refine loopC (fun d e H' => ∃ (i : Nat) (x4 x5 x9 x16 : FV), d = l.length - i ∧ i ≤ l.length ∧ (∀ j (hj : j < l.length), j < i → badRow n l[j] = false) ∧ H' = H ∧ e = [(0, .sc (.sl (l.map TRow.pv))), (1, .fn 75 [] [.ptr b 0]), (4, x4), (5, x5), (7, .sc (.int .i64 l.length)), (8, .sc (.int .i64 i)), (9, x9), (16, x16)]) (d := l.length)
    ⟨0, _, _, _, _, rfl, by omega, by simp, rfl, rfl⟩ ?_
  rintro d e H' ⟨i, x4, x5, x9, x16, rfl, hi, hbef, rfl, rfl⟩
  simp
  refine CondC.mk (fun hlt => ?_) (fun hlt => ?_)
  · simp at hlt
    have hcon := rowBad l[i] (hr _ (List.getElem_mem hlt)) H' b n hb hp
    simp only [TRow.pv] at hcon
    simp at hcon
    simp [hlt, TRow.pv]
    refine CallQ.mk (Call.shared callable75 hcon) ?_
    simp
    refine CondC.mk (fun hp => ?_) (fun hp => ?_)
    · simp [idxP_at hlt hbef hp]
    · simp
      refine ⟨l.length - (i + 1), by omega, i + 1, rfl, by omega, fun j hj h => ?_, by rw [wrap64 (by omega) (by omega)]; omega⟩
      rcases Nat.lt_or_ge j i with h' | h'
      · exact hbef j hj h'
      · obtain rfl : j = i := by omega
        exact hp
  · simp at hlt
    simp [idxP_none fun j hj => hbef j hj (by omega)]
set_option maxRecDepth 20000 in
set_option maxHeartbeats 4000000 in
theorem containsBad (l : List TRow) (hl : l.length ≤ 1073741824) (hr : ∀ r ∈ l, r.cells.length ≤ 1073741824 ∧ ∀ c ∈ r.cells, c.length ≤ 1073741824) (H : Heap) (b n : Nat) (hb : H[b]? = some [.sc (.int .i64 n)]) (hp : NP H) :
    Con C0 74 [.sc (.sl (l.map TRow.pv)), .fn 75 [] [.ptr b 0]] H (.sc (.bool (l.any (badRow n)))) H := by
  have ci := indexBad l hl hr H b n hb hp
  refine con_of (C := C0) (fn := Tryd.f74) Tryd.func74 rfl (by decide) mixed (mv := []) (vars := [0, 1, 4]) (c := Tryd.f74.body.getD .skip) rfl ?_
  simp [Tryd.f74]
  refine CallQ.mk (Call.shared callable117 ci) ?_
  simp [idxP_any]
theorem dropWhile_nil {α : Type} (p : α → Bool) (l : List α) : l.dropWhile p = [] ↔ ∀ x ∈ l, p x = true := by
  induction l with
  | nil => simp
  | cons x l ih =>
    rw [List.dropWhile_cons]
    by_cases h : p x = true
    · rw [if_pos h, ih]; simp [h]
    · rw [if_neg h]; simp [h]
theorem trim_nil (l cs : List UInt8) : Go.Lib.trimS l cs = [] ↔ ∀ x ∈ l, cs.contains x = true := by
  unfold Go.Lib.trimS Go.Lib.trimLeftS Go.Lib.trimRightS
  rw [dropWhile_nil]
  constructor
  · intro h
    by_cases hn : l.reverse.dropWhile (cs.contains ·) = []
    · rw [dropWhile_nil] at hn
      exact fun x hx => hn x (List.mem_reverse.2 hx)
    · exfalso
      obtain ⟨y, r, hy⟩ := List.exists_cons_of_ne_nil hn
      have h1 : cs.contains y = true := h y (by rw [hy]; simp)
      have h2 : ¬ (cs.contains y = true) := by
        have := List.head?_dropWhile_not (cs.contains ·) l.reverse
        rw [hy] at this
        simpa using this
      exact h2 h1
  · intro h x hx
    exact h x (by
      rw [List.mem_reverse] at hx
      exact List.mem_reverse.1 ((List.dropWhile_sublist _).subset hx))
theorem conTrim (s : ByteArray) (hs : s.size ≤ 1073741824) : PCon C0 73 [.sc (.str s), .sc (.str lcr)] (.sc (.str ⟨(Go.Lib.trimS s.data.toList [108, 99, 114]).toArray⟩)) := by
  refine pcon_below rfl (fun _ _ => .str) fun vs W hl ha hH => ?_
  obtain ⟨u, v, rfl, hu, hv⟩ := args2 hl ha
  rw [hu.str, hv.str]
  exact Any.strings_Trim_laid Tryd.lays160 (by kernel_rfl) s lcr W.w (by omega) (by decide) (ascii_of_all (by decide))
def colsOk (c : ByteArray) : Bool := c.data.toList.all isSide
theorem side_contains (b : UInt8) : [(108 : UInt8), 99, 114].contains b = isSide b := by
  apply Bool.eq_iff_iff.2
  simp [isSide, or_assoc]
theorem trim_cols (c : ByteArray) : decide ((⟨(Go.Lib.trimS c.data.toList [108, 99, 114]).toArray⟩ : ByteArray) = ⟨#[]⟩) = colsOk c := by
  apply Bool.eq_iff_iff.2
  rw [decide_eq_true_eq, colsOk, List.all_eq_true]
  have : ((⟨(Go.Lib.trimS c.data.toList [108, 99, 114]).toArray⟩ : ByteArray) = ⟨#[]⟩) ↔ Go.Lib.trimS c.data.toList [108, 99, 114] = [] :=
    ⟨fun h => by have := congrArg (fun b : ByteArray => b.data.toList) h; simpa using this, fun h => by rw [h]⟩
  rw [this, trim_nil]
  simp only [side_contains]
def rightT (t : Tbl) : Bool := !(decide (t.cols.size = 0) || (decide (20 < t.cols.size) || (!colsOk t.cols || (t.all && !t.box)))) && !t.rows.any (badRow t.cols.size)
set_option linter.unusedSimpArgs false in
set_option maxRecDepth 20000 in
set_option maxHeartbeats 4000000 in
theorem treeRight (t : Tbl) (ht : TblS t) : PCon C0 42 [t.pv.toFV] (.sc (.bool (rightT t))) := by
  refine penter42 ?_
  have tr := conTrim t.cols ht.cols
  have tc := trim_cols t.cols
  generalize (⟨(Go.Lib.trimS t.cols.data.toList [108, 99, 114]).toArray⟩ : ByteArray) = T at tr tc
  have cb := containsBad t.rows ht.rows ht.cells [[.sc (.str t.cols), .sc (.sl (t.rows.map TRow.pv)), .sc (.bool t.box), .sc (.bool t.all)], [.sc (.int .i64 t.cols.size)]] 1 t.cols.size rfl (np_cons (by simp) (np_cons (by simp) np_nil))
  by_cases h0 : t.cols.size = 0
  · simp [Tryd.f42, Tbl.pv, h0, rightT]
  have h0' : ¬ t.cols = ByteArray.empty := fun h => h0 (by rw [h]; rfl)
  by_cases h20 : 20 < t.cols.size
  · have h20' : (20 : Int) < t.cols.size := by omega
    simp [Tryd.f42, Tbl.pv, h0', h20', rightT, h20]
  have h20' : ¬ (20 : Int) < t.cols.size := by omega
  simp [Tryd.f42, Tbl.pv, h0', h20', lcr] at tr ⊢
  refine CallQ.mk (Call.pure callable73 (by simp) (by simp) tr) ?_
  simp
  by_cases hT : T = ⟨#[]⟩
  · have hco : colsOk t.cols = true := by rw [← tc]; simp [hT]
    cases hall : t.all
    · rw [hall] at cb
      simp [hT]
      refine CallQ.mk (Call.shared callable74 cb) ?_
      simp [rightT, h0, h20, hco, hall]
    · cases hbox : t.box
      · simp [hT]
        simp [rightT, h0, h20, hco, hall, hbox]
      · rw [hall, hbox] at cb
        simp [hT]
        refine CallQ.mk (Call.shared callable74 cb) ?_
        simp [rightT, h0, h20, hco, hall, hbox]
  · have hco : colsOk t.cols = false := by rw [← tc]; simp [hT]
    simp [hT]
    simp [rightT, hco]
end Go.Proofs.YtlnnnfogbakimaaDoor.Ev
end
section
namespace Go.Proofs.YtlnnnfogbakimaaDoor.Ev
open Go
def trimG (l : List Glyph) : List Glyph := (l.reverse.dropWhile Glyph.blank).reverse
def ends (l : List Glyph) : Nat := (trimG l).length
theorem mem_tw {α : Type} {p : α → Bool} : ∀ {l : List α} {x : α}, x ∈ l.takeWhile p → p x = true
  | y :: l, x, h => by
    rw [List.takeWhile_cons] at h
    split at h
    · rename_i hy
      rcases List.mem_cons.1 h with rfl | h
      · exact hy
      · exact mem_tw h
    · simp at h
theorem trimG_append (l : List Glyph) : ∃ b, l = trimG l ++ b ∧ ∀ g ∈ b, g.blank = true := by
  refine ⟨(l.reverse.takeWhile Glyph.blank).reverse, ?_, fun g hg => ?_⟩
  · rw [trimG, ← List.reverse_append, List.takeWhile_append_dropWhile, List.reverse_reverse]
  · have := List.mem_reverse.1 hg
    exact mem_tw this
theorem trimG_take (l : List Glyph) : trimG l = l.take (ends l) := by
  obtain ⟨b, h, _⟩ := trimG_append l
  have := congrArg (List.take (ends l)) h
  rw [show List.take (ends l) (trimG l ++ b) = trimG l from List.take_left' rfl] at this
  exact this.symm
theorem ends_le (l : List Glyph) : ends l ≤ l.length := by
  obtain ⟨b, h, _⟩ := trimG_append l
  have := congrArg List.length h
  rw [List.length_append] at this
  unfold ends; omega
theorem ends_behind {l : List Glyph} {i : Nat} (h : i < l.length) (hi : ends l ≤ i) : l[i].blank = true := by
  obtain ⟨b, hb, hbl⟩ := trimG_append l
  have : l[i] ∈ b := by
    have e : l[i]? = b[i - ends l]? := by
      conv => lhs; rw [hb]
      rw [List.getElem?_append_right hi]; rfl
    rw [List.getElem?_eq_getElem h] at e
    exact List.mem_of_getElem? e.symm
  exact hbl _ this
theorem ends_at {l : List Glyph} (h : 0 < ends l) : (l[ends l - 1]'(by have := ends_le l; omega)).blank = false := by
  have hne : l.reverse.dropWhile Glyph.blank ≠ [] := fun hh => by
    have : ends l = 0 := by unfold ends trimG; rw [hh]; rfl
    omega
  obtain ⟨y, r, hy⟩ := List.exists_cons_of_ne_nil hne
  have h2 : y.blank = false := by
    have := List.head?_dropWhile_not Glyph.blank l.reverse
    rw [hy] at this
    simpa using this
  have ht : trimG l = r.reverse ++ [y] := by rw [trimG, hy, List.reverse_cons]
  have e : (trimG l)[ends l - 1]? = some y := by
    rw [ends, ht]
    simp
  rw [trimG_take, List.getElem?_take_of_lt (by omega)] at e
  have := (List.getElem?_eq_some_iff.1 e).2
  rw [this]; exact h2
set_option linter.unusedSimpArgs false in
set_option maxRecDepth 20000 in
set_option maxHeartbeats 4000000 in
theorem refTrim (l : List Glyph) (hl : l.length ≤ 1073741824) : PCon C0 109 [.sc (gl l)] (.sc (gl (trimG l))) := by
  refine penter109 ?_
  simp [Tryd.f109, gl]
  refine loopC (fun d e H => ∃ (n : Nat) (x2 x16 : FV), d = n ∧ ends l ≤ n ∧ n ≤ l.length ∧ e = [(0, .sc (.sl (l.map Glyph.pv))), (2, x2), (3, .sc (.int .i64 n)), (16, x16)]) (d := l.length) ⟨l.length, _, _, rfl, ends_le l, Nat.le_refl _, rfl⟩ ?_
  rintro d e H ⟨n, x2, x16, hd, hn, hnl, rfl⟩
  have hd' := hd.symm
  subst hd'
  by_cases h0 : n = 0
  · subst h0
    have ht : trimG l = [] := List.eq_nil_of_length_eq_zero (by unfold ends at hn; omega)
    have h1 : Sized 2 (l.map Glyph.pv) := sizedG l
    have hsb : sizedB 2 (l.map Glyph.pv) = true := by simp [sizedB]; exact fun g _ => rfl
    simp [ht, hsb]
  · obtain ⟨k, rfl⟩ : ∃ k, n = k + 1 := ⟨n - 1, by omega⟩
    have hk : k < l.length := by omega
    have w1 : IntKind.i64.wrap (((k + 1 : Nat) : Int) - 1) = (k : Nat) := by rw [wrap64 (by omega) (by omega)]; omega
    simp at w1
    simp [w1, hk, Glyph.pv]
    have hsb : sizedB 2 (l.map Glyph.pv) = true := by simp [sizedB]; exact fun g _ => rfl
    refine CondC.mk (fun h32 => ?_) (fun h32 => ?_)
    · simp at h32
      have hne : ¬ ends l = k + 1 := fun he => by
        have := ends_at (l := l) (by omega)
        simp [he, Glyph.blank, h32] at this
      simp [w1]
      exact ⟨k, by omega, by omega, by omega, rfl⟩
    · simp at h32
      have he : ends l = k + 1 := by
        rcases Nat.lt_or_ge k (ends l) with h | h
        · omega
        · have := ends_behind hk h
          simp [Glyph.blank, h32] at this
      have hkl : (k : Int) + 1 ≤ l.length := by omega
      rw [trimG_take, he]
      have hk0 : (0 : Int) ≤ (k : Int) + 1 := by omega
      simp [hsb, hkl, hk0]
theorem sqAll_app (l m : List Glyph) : sqAll (l ++ m) = m.foldl sqStep (sqAll l) := by rw [sqAll, List.foldl_append]; rfl
theorem sq_blanks (b : List Glyph) (hb : ∀ g ∈ b, g.blank = true) (s : List Glyph × Bool) : (b.foldl sqStep s).1 = s.1 := by
  induction b generalizing s with
  | nil => rfl
  | cons g b ih =>
    rw [List.foldl_cons, ih (fun x hx => hb x (by simp [hx]))]
    have := hb g (by simp)
    simp [Glyph.blank] at this
    simp [sqStep, this]
theorem squeeze_trim (l : List Glyph) : squeeze (trimG l) = squeeze l := by
  obtain ⟨b, h, hb⟩ := trimG_append l
  conv => rhs; rw [h]
  rw [squeeze, squeeze, sqAll_app, sq_blanks b hb]
def sqR (s : List Glyph × Bool) : List Glyph := if s.2 = true ∧ s.1 ≠ [] then s.1 ++ [⟨32, 0⟩] else s.1
theorem sq_last (l : List Glyph) : ∀ g, (sqAll l).1.getLast? = some g → g.blank = false := by
  have : ∀ (l : List Glyph) (s : List Glyph × Bool), (∀ g, s.1.getLast? = some g → g.blank = false) → ∀ g, (l.foldl sqStep s).1.getLast? = some g → g.blank = false := by
    intro l
    induction l with
    | nil => intro s h; exact h
    | cons x l ih =>
      intro s h
      rw [List.foldl_cons]
      refine ih _ fun g hg => ?_
      unfold sqStep at hg
      split at hg
      · exact h g hg
      · rename_i hx
        simp only [List.getLast?_append, List.getLast?_singleton, Option.some_or, Option.some.injEq] at hg
        subst hg
        simp [Glyph.blank, hx]
  exact this l ([], false) (by simp)
theorem sq_want {l : List Glyph} (h : 0 < ends l) (hl : trimG l = l) : (sqAll l).2 = false := by
  have he : ends l = l.length := by unfold ends; rw [hl]
  have hb := ends_at h
  have hlt : ends l - 1 < l.length := by omega
  have e : l = l.take (ends l - 1) ++ [l[ends l - 1]] := by
    rw [← List.take_succ_eq_append_getElem hlt, show ends l - 1 + 1 = ends l by omega, he, List.take_length]
  generalize hx : l[ends l - 1] = x at e hb
  rw [e, sqAll_app]
  simp [Glyph.blank] at hb
  simp [sqStep, hb]
theorem sqR_end (l : List Glyph) (hl : trimG l = l) : sqR (sqAll l) = squeeze l := by
  by_cases h : 0 < ends l
  · simp [sqR, sq_want h hl, squeeze]
  · have : l = [] := List.eq_nil_of_length_eq_zero (by have : ends l = l.length := by unfold ends; rw [hl]
                                                       omega)
    subst this
    rfl
theorem trim_trim (l : List Glyph) : trimG (trimG l) = trimG l := by
  by_cases h : trimG l = []
  · rw [h]; rfl
  · have h0 : 0 < ends l := by unfold ends; exact List.length_pos_iff.2 h
    have hb := ends_at h0
    rw [trimG_take (trimG l)]
    refine List.take_of_length_le ?_
    rcases Nat.lt_or_ge (ends (trimG l)) (trimG l).length with h1 | h1
    · exfalso
      have h2 : (trimG l).length - 1 < (trimG l).length := by omega
      have := ends_behind (l := trimG l) h2 (by omega)
      have e : (trimG l)[(trimG l).length - 1] = l[ends l - 1]'(by have := ends_le l; omega) := by
        have : (trimG l)[(trimG l).length - 1]? = l[ends l - 1]? := by
          have e2 : (trimG l).length - 1 = ends l - 1 := rfl
          rw [e2, trimG_take, List.getElem?_take_of_lt (by omega)]
        rw [List.getElem?_eq_getElem h2, List.getElem?_eq_getElem (by have := ends_le l; omega)] at this
        exact Option.some.inj this
      rw [e, hb] at this
      simp at this
    · exact h1
set_option linter.unusedSimpArgs false in
set_option maxRecDepth 20000 in
set_option maxHeartbeats 4000000 in
theorem refSqueeze (l : List Glyph) (hl : l.length ≤ 1073741824) : PCon C0 72 [.sc (gl l)] (.own ((squeeze l).map Glyph.pv)) := by
  have tr := refTrim l hl
  rw [← squeeze_trim l]
  have ht := trim_trim l
  have hll : (trimG l).length ≤ 1073741824 := by have := ends_le l; unfold ends at this; omega
  generalize trimG l = m at *
  refine penter72 ?_
  simp [Tryd.f72, gl] at tr ⊢
  refine CallQ.mk (Call.pure callable109 (by simp) (by simp) tr) ?_
  simp
  refine loopC (fun d e H => ∃ (i : Nat) (x2 x10 x18 x38 : FV), d = m.length - i ∧ i ≤ m.length ∧ e = [(0, .sc (.sl (m.map Glyph.pv))), (2, x2), (3, .own ((sqR (sqAll (m.take i))).map Glyph.pv)), (4, .sc (.int .i64 i)), (10, x10), (18, x18), (38, x38)]) (d := m.length) ⟨0, _, _, _, _, rfl, by omega, rfl⟩ ?_
  rintro d e H ⟨i, x2, x10, x18, x38, rfl, hi, rfl⟩
  simp
  refine CondC.mk (fun hlt => ?_) (fun hlt => ?_)
  · simp at hlt
    have hs := sqAll_take hlt
    have hlast := sq_last (m.take i)
    have hlen := sqAll_len (m.take i)
    simp only [List.length_take] at hlen
    generalize hS : sqAll (m.take i) = S at *
    obtain ⟨out, wants⟩ := S
    simp only at hlast hlen
    have hol : out.length ≤ 2147483648 := by omega
    have fin : ∀ q : List PV, q = (sqR (sqStep (out, wants) m[i])).map Glyph.pv → ∃ d', d' < m.length - i ∧ ∃ k, d' = m.length - k ∧ k ≤ m.length ∧ q = List.map Glyph.pv (sqR (sqAll (List.take k m))) ∧ IntKind.i64.wrap ((i : Int) + 1) = (k : Nat) := fun q hq =>
      ⟨m.length - (i + 1), by omega, i + 1, rfl, by omega, by rw [hs, hq], by rw [wrap64 (by omega) (by omega)]; omega⟩
    simp [hlt, Glyph.pv]
    refine CondC.mk (fun h32 => ?_) (fun h32 => ?_)
    · simp at h32
      have hst : sqStep (out, wants) m[i] = ((if wants = true ∧ out ≠ [] then out ++ [⟨32, 0⟩] else out) ++ [m[i]], false) := by simp [sqStep, h32]
      have e1 : sqR (sqStep (out, wants) m[i]) = sqR (out, wants) ++ [m[i]] := by
        rw [hst]
        cases wants <;> simp [sqR]
      have hrl : (sqR (out, wants)).length ≤ out.length + 1 := by
        unfold sqR; simp only; split <;> simp
      simp [hlt, Glyph.pv]
      exact ⟨sizedAgg2, sizedG _, sizedAgg2, by unfold lenMax; omega, fin _ (by rw [e1, List.map_append]; rfl)⟩
    · simp at h32
      have hst : sqStep (out, wants) m[i] = (out, true) := by simp [sqStep, h32]
      by_cases ho : out = []
      · subst ho
        have e0 : sqR ([], wants) = [] := by simp [sqR]
        have fin := fin [] (by rw [hst]; simp [sqR])
        simp [e0]
        obtain ⟨d', h1, k, h2, h3, h4, h5⟩ := fin
        exact ⟨d', h1, k, h2, h3, by simpa using h4.symm, h5⟩
      · have hop : 0 < out.length := List.length_pos_iff.2 ho
        cases wants
        · have e0 : sqR (out, false) = out := by simp [sqR]
          have w1 : IntKind.i64.wrap ((out.length : Int) - 1) = (out.length - 1 : Nat) := by rw [wrap64 (by omega) (by omega)]; omega
          have hk : out.length - 1 < out.length := by omega
          have hb : out[out.length - 1].r ≠ 32 := by
            have := hlast out[out.length - 1] (by rw [List.getLast?_eq_getElem?, List.getElem?_eq_getElem hk])
            simpa [Glyph.blank] using this
          have fin := fin (out.map Glyph.pv ++ [(⟨32, 0⟩ : Glyph).pv]) (by rw [hst]; simp [sqR, ho])
          simp [e0, hop, w1, hk, hb, Glyph.pv]
          exact ⟨sizedAgg2, sizedG _, sizedAgg2, by unfold lenMax; omega, fin⟩
        · have e0 : sqR (out, true) = out ++ [⟨32, 0⟩] := by simp [sqR, ho]
          have w1 : IntKind.i64.wrap (out.length : Int) = (out.length : Nat) := by rw [wrap64 (by omega) (by omega)]
          have hx : (List.map Glyph.pv out ++ [PV.agg [PV.int IntKind.i32 32, PV.int IntKind.u8 0]])[out.length]? = some (PV.agg [PV.int IntKind.i32 32, PV.int IntKind.u8 0]) := by
            rw [List.getElem?_append_right (by simp)]; simp
          have fin := fin (out.map Glyph.pv ++ [(⟨32, 0⟩ : Glyph).pv]) (by rw [hst, e0]; simp)
          simp [e0, w1, Glyph.pv, hx]
          exact fin
  · simp at hlt
    simp [List.take_of_length_le hlt, sqR_end m ht]
set_option maxRecDepth 20000 in
set_option maxHeartbeats 4000000 in
theorem refSqueezed (l : List Glyph) (hl : l.length ≤ 1073741824) : PCon C0 79 [.sc (gl l)] (.sc (.bool (sqzd l))) := by
  have sq := refSqueeze l hl
  have sm := refSame (squeeze l) l (by have := sqAll_len l; unfold squeeze; omega)
  refine penter79 ?_
  simp [Tryd.f79, gl] at sq sm ⊢
  refine CallQ.mk (Call.pure callable72 (by simp) (by simp) sq) ?_
  simp
  refine CallQ.mk (Call.pure callable35 (by simp) (by simp) sm) ?_
  simp [sqzd]
set_option maxRecDepth 20000 in
set_option maxHeartbeats 4000000 in
theorem refSide (b : UInt8) : PCon C0 71 [.sc (.int .u8 b.toNat)] (.sc (.bool (isSide b))) := by
  rw [side_iff]
  generalize b.toNat = c
  refine penter71 ?_
  by_cases h1 : c = 108
  · simp [Tryd.f71, h1]
  · by_cases h2 : c = 99
    · simp [Tryd.f71, h2]
    · have h1' : ¬ (c : Int) = 108 := by omega
      have h2' : ¬ (c : Int) = 99 := by omega
      simp [Tryd.f71, h1', h2']
end Go.Proofs.YtlnnnfogbakimaaDoor.Ev
end
section
namespace Go.Proofs.YtlnnnfogbakimaaDoor.Ev
open Go
def colsF (c : ByteArray) (i : Nat) : List UInt8 := ((c.data.toList.take i).filter isSide).take 20
theorem colsF_len (c : ByteArray) (i : Nat) : (colsF c i).length ≤ 20 := by unfold colsF; rw [List.length_take]; omega
theorem colsF_next {c : ByteArray} {i : Nat} (h : i < c.size) : colsF c (i + 1) = if isSide (c.data[i]'h) = true ∧ (colsF c i).length < 20 then colsF c i ++ [c.data[i]'h] else colsF c i := by
  have hl : i < c.data.toList.length := by simpa using h
  have e : c.data.toList[i] = c.data[i]'h := by simp
  unfold colsF
  rw [List.take_succ_eq_append_getElem hl, List.filter_append, e]
  cases hs : isSide (c.data[i]'h)
  · simp [hs]
  · have e1 : List.filter isSide [c.data[i]'h] = [c.data[i]'h] := by simp [hs]
    rw [e1]
    generalize List.filter isSide (List.take i c.data.toList) = L
    by_cases h20 : L.length < 20
    · rw [if_pos ⟨rfl, by rw [List.length_take]; omega⟩, List.take_of_length_le (by simp; omega), List.take_of_length_le (by omega)]
    · rw [if_neg (fun hh => by have := hh.2; rw [List.length_take] at this; omega), List.take_append_of_le_length (by omega)]
theorem colsF_end (c : ByteArray) : colsF c c.size = (c.data.toList.filter isSide).take 20 := by
  unfold colsF
  rw [show c.data.toList.take c.size = c.data.toList from List.take_of_length_le (by show c.data.toList.length ≤ c.data.size; rw [Array.length_toList]; exact Nat.le_refl _)]
theorem str_add (l : List UInt8) (c : ByteArray) (i : Nat) (h : i < c.size) : (⟨l.toArray⟩ : ByteArray) ++ c.extract i (i + 1) = ⟨(l ++ [c.data[i]'h]).toArray⟩ := by
  have e : (c.extract i (i + 1)).data = #[c.data[i]'h] := by
    rw [ByteArray.data_extract]
    apply Array.toList_inj.1
    have hl : i < c.data.toList.length := by simpa using h
    simp [List.drop_take, List.take_one, List.head?_drop, List.getElem?_eq_getElem hl]
  apply ByteArray.ext
  rw [ByteArray.data_append, e]
  apply Array.toList_inj.1
  simp
set_option linter.unusedSimpArgs false in
set_option maxRecDepth 20000 in
set_option maxHeartbeats 4000000 in
theorem refMend (t : Tbl) (ht : TblS t) : PCon C0 41 [t.pv.toFV] (mendT t).pv.toFV := by
  refine penter41 ?_
  have hcs := ht.cols
  have hmc : mendCols t.cols = ⟨(if colsF t.cols t.cols.size = [] then [108] else colsF t.cols t.cols.size).toArray⟩ := by rw [mendCols, colsF_end]
  simp [Tryd.f41, Tbl.pv]
  refine loopC (fun d e H => ∃ (i : Nat) (x0 x14 x26 : FV), d = t.cols.size - i ∧ i ≤ t.cols.size ∧
    H = [[FV.sc (PV.str t.cols), FV.sc (PV.sl (List.map TRow.pv t.rows)), FV.sc (PV.bool t.box), FV.sc (PV.bool t.all)], [FV.sc (PV.str ByteArray.empty), FV.own [], FV.sc (PV.bool false), FV.sc (PV.bool false)]] ∧
    e = [(0, x0), (1, .ptr 0 0), (2, .ptr 1 0), (3, .sc (.str ⟨(colsF t.cols i).toArray⟩)), (4, .sc (.int .i64 i)), (5, .undef), (6, .undef), (7, .undef), (8, .undef), (9, .undef), (14, x14), (26, x26), (36, .undef), (51, .undef), (69, .undef), (80, .undef)]) (d := t.cols.size)
    ⟨0, _, _, _, rfl, by omega, rfl, rfl⟩ ?_
  rintro d e H ⟨i, x0, x14, x26, rfl, hi, rfl, rfl⟩
  simp
  refine CondC.mk (fun hlt => ?_) (fun hlt => ?_)
  · simp at hlt
    have hlt' : i < t.cols.data.size := hlt
    have hnx := colsF_next hlt
    have hlen := colsF_len t.cols i
    have rs := refSide (t.cols.data[i]'hlt)
    have hsa := str_add (colsF t.cols i) t.cols i hlt
    have fin : ∀ q : List UInt8, q = colsF t.cols (i + 1) → ∃ d', d' < t.cols.size - i ∧ ∃ j, d' = t.cols.size - j ∧ j ≤ t.cols.size ∧ q = colsF t.cols j ∧ IntKind.i64.wrap ((i : Int) + 1) = (j : Nat) := fun q hq =>
      ⟨t.cols.size - (i + 1), by omega, i + 1, rfl, by omega, hq, by rw [wrap64 (by omega) (by omega)]; omega⟩
    have w1 : IntKind.i64.wrap ((i : Int) + 1) = ((i + 1 : Nat) : Int) := by rw [wrap64 (by omega) (by omega)]; omega
    have hsz : (⟨(colsF t.cols i).toArray⟩ : ByteArray).size = (colsF t.cols i).length := by simp [ByteArray.size]
    obtain ⟨b, hb⟩ : ∃ b, t.cols.data[i]'hlt = b := ⟨_, rfl⟩
    rw [hb] at hnx rs hsa
    simp [hlt, hlt', hb]
    refine CallQ.mk (Call.pure callable71 (by simp) (by simp) rs) ?_
    cases hs : isSide b
    · have := fin (colsF t.cols i) (by rw [hnx, hs]; simp)
      simp
      exact this
    · simp [hsz]
      refine CondC.mk (fun h20 => ?_) (fun h20 => ?_)
      · have h20' : (colsF t.cols i).length < 20 := by simp at h20; omega
        have := fin (colsF t.cols i ++ [b]) (by rw [hnx, hs, if_pos ⟨rfl, h20'⟩])
        have hle : (i : Int) + 1 ≤ t.cols.size := by omega
        have hle0 : (0 : Int) ≤ (i : Int) + 1 := by omega
        have hle1 : (i : Int) ≤ (i : Int) + 1 := by omega
        have hex : (t.cols.extract i (i + 1)).size = 1 := by rw [ByteArray.size_extract]; omega
        have h40 : (colsF t.cols i).length + 1 ≤ 1099511627776 := by omega
        simp [w1, hle, hle0, hle1, hsa, hsz, hex, h40]
        obtain ⟨d', e1, j, e2, e3, e4, e5⟩ := this
        exact ⟨d', e1, j, e2, e3, e4, by rw [w1] at e5; omega⟩
      · have h20' : ¬ (colsF t.cols i).length < 20 := by simp at h20; omega
        have := fin (colsF t.cols i) (by rw [hnx, if_neg (fun h => h20' h.2)])
        simp
        exact this
  · simp at hlt
    obtain rfl : i = t.cols.size := by omega
    simp
    have hn20 : (mendCols t.cols).size ≤ 20 := by
      rw [hmc]
      have := colsF_len t.cols t.cols.size
      show (if colsF t.cols t.cols.size = [] then [108] else colsF t.cols t.cols.size).toArray.size ≤ 20
      split
      · simp
      · simp; omega
    have hCM : (if colsF t.cols t.cols.size = [] then (⟨#[108]⟩ : ByteArray) else ⟨(colsF t.cols t.cols.size).toArray⟩) = mendCols t.cols := by
      rw [hmc]
      split <;> rfl
    obtain ⟨n, hn⟩ : ∃ n, (mendCols t.cols).size = n := ⟨_, rfl⟩
    rw [hn] at hn20
    refine CondC.mk (fun hc => ?_) (fun hc => ?_)
    · rw [if_pos (by simpa using hc)] at hCM
      simp
      rw [hCM]
      cases hall : t.all
      · simp
        refine loopC (fun d e H => ∃ (i : Nat) (X : Heap) (x0 x4 x7 x8 x9 x14 x26 x36 x51 x69 x80 : FV), d = t.rows.length - i ∧ i ≤ t.rows.length ∧
          H = [FV.sc (PV.str t.cols), FV.sc (PV.sl (List.map TRow.pv t.rows)), FV.sc (PV.bool t.box), FV.sc (PV.bool false)] :: [FV.sc (PV.str ByteArray.empty), FV.own [], FV.sc (PV.bool false), FV.sc (PV.bool false)] :: [FV.sc (PV.str (mendCols t.cols)), FV.own (((t.rows.take i).map (mendRow n)).map TRow.pv), FV.sc (PV.bool t.box), FV.sc (PV.bool false)] :: X ∧
          e = [(0, x0), (1, .ptr 0 0), (2, .ptr 1 0), (3, .sc (.str (mendCols t.cols))), (4, x4), (5, .ptr 2 0), (6, .sc (.int .i64 i)), (7, x7), (8, x8), (9, x9), (14, x14), (26, x26), (36, x36), (51, x51), (69, x69), (80, x80)]) (d := t.rows.length)
          ⟨0, [], _, _, _, _, _, _, _, _, _, _, _, rfl, by omega, by simp, rfl⟩ ?_
        rintro d e H ⟨i, X, x0, x4, x7, x8, x9, x14, x26, x36, x51, x69, x80, rfl, hi, rfl, rfl⟩
        simp
        refine CondC.mk (fun hlt => ?_) (fun hlt => ?_)
        · simp at hlt
          have hr := ht.cells _ (List.getElem_mem hlt)
          have htk : t.rows.take (i + 1) = t.rows.take i ++ [t.rows[i]] := List.take_succ_eq_append_getElem hlt
          have hrl := ht.rows
          obtain ⟨r, hrr⟩ : ∃ r, t.rows[i] = r := ⟨_, rfl⟩
          have hat : (List.map TRow.pv t.rows)[i]? = some (PV.agg [.bool r.rule, .sl (r.cells.map gl)]) := by
            rw [map_at hlt, hrr]; rfl
          have hq : t.rows[i]? = some r := by rw [List.getElem?_eq_getElem hlt, hrr]
          rw [hrr] at hr htk
          simp [hq, TRow.pv]
          obtain ⟨c0, hc0⟩ : ∃ c0 : List FV, [FV.sc (PV.str t.cols), FV.sc (PV.sl (List.map TRow.pv t.rows)), FV.sc (PV.bool t.box), FV.sc (PV.bool false)] = c0 := ⟨_, rfl⟩
          refine loopC (fun d e H => ∃ (k : Nat) (x9 x69 x80 : FV), d = n - k ∧ k ≤ n ∧ (r.rule = true → k = 0) ∧
            H = c0 :: [FV.sc (PV.str ByteArray.empty), FV.own [], FV.sc (PV.bool false), FV.sc (PV.bool false)] :: [FV.sc (PV.str (mendCols t.cols)), FV.own (((t.rows.take i).map (mendRow n)).map TRow.pv), FV.sc (PV.bool t.box), FV.sc (PV.bool false)] :: (X ++ [[FV.sc (.bool r.rule), FV.own (((List.range k).map (cellM r)).map gl)]]) ∧
            e = [(0, x0), (1, .ptr 0 0), (2, .ptr 1 0), (3, .sc (.str (mendCols t.cols))), (4, x4), (5, .ptr 2 0), (6, .sc (.int .i64 i)), (7, .ptr (X.length + 1 + 1 + 1) 0), (8, .sc (.int .i64 k)), (9, x9), (14, x14), (26, x26), (36, x36), (51, .sc (.bool true)), (69, x69), (80, x80)]) (d := n)
            ⟨0, x9, x69, x80, rfl, by omega, by simp, ?_, ?_⟩ ?_
          · rw [hc0]; simp
          · simp [hlt]
          · rintro d e H ⟨k, x9, x69, x80, rfl, hk, hrk, rfl, rfl⟩
            have hmr := mendRow_eq n r
            by_cases hkn : k < n ∧ r.rule = false
            · obtain ⟨hkn, hrule⟩ := hkn
              have hkn' : k < (mendCols t.cols).size := by omega
              have hnk : (List.range (k + 1)).map (cellM r) = (List.range k).map (cellM r) ++ [cellM r k] := by rw [List.range_succ, List.map_append]; rfl
              simp [hkn', hrule, ← hc0, hq, TRow.pv]
              by_cases hkc : k < r.cells.length
              · have sq := refSqueeze r.cells[k] (hr.2 _ (List.getElem_mem hkc))
                have hcm : cellM r k = squeeze r.cells[k] := by simp [cellM, hkc]
                simp only [gl] at sq
                simp [hkc, gl, hq, TRow.pv]
                refine CallQ.mk (Call.pure callable72 (by simp) (by simp) sq) ?_
                simp
                exact ⟨sized1l, sizedGlC r k, sized1l, by unfold lenMax; omega, n - (k + 1), by omega, k + 1, rfl, by omega, by rw [List.range_succ, List.map_append]; simp [hcm, gl], by rw [wrap64 (by omega) (by omega)]; omega⟩
              · have hcm : cellM r k = [] := by simp [cellM, hkc]
                simp [hkc]
                exact ⟨sized1l, sizedGlC r k, sized1l, by unfold lenMax; omega, n - (k + 1), by omega, k + 1, rfl, by omega, by rw [List.range_succ, List.map_append]; simp [hcm, gl], by rw [wrap64 (by omega) (by omega)]; omega⟩
            · have hcells : (mendRow n r).cells = (List.range k).map (cellM r) := by
                rw [hmr]
                cases hrule : r.rule
                · simp only [hrule, and_true] at hkn
                  obtain rfl : k = n := by omega
                  rfl
                · rw [hrk hrule]; rfl
              have hrow : (mendRow n r).pv = .agg [.bool r.rule, .sl (((List.range k).map (cellM r)).map gl)] := by
                rw [TRow.pv, hcells]; rfl
              by_cases hk2 : k < (mendCols t.cols).size
              · have hrule : r.rule = true := by
                  cases hrule : r.rule
                  · exact absurd ⟨by omega, hrule⟩ hkn
                  · rfl
                simp [hk2, hrule]
                exact ⟨sizedAgg2, sizedTR2 _ _ _, sizedAgg2, by unfold lenMax; omega, t.rows.length - (i + 1), by omega, i + 1, rfl, by omega, ⟨hc0.symm, by rw [← List.map_take, ← List.map_take, htk, List.map_append]; simp [hrow, hrule]⟩, by rw [wrap64 (by omega) (by omega)]; omega⟩
              · simp [hk2]
                exact ⟨sizedAgg2, sizedTR2 _ _ _, sizedAgg2, by unfold lenMax; omega, t.rows.length - (i + 1), by omega, i + 1, rfl, by omega, ⟨hc0.symm, by rw [← List.map_take, ← List.map_take, htk, List.map_append]; simp [hrow]⟩, by rw [wrap64 (by omega) (by omega)]; omega⟩
        · simp at hlt
          simp [List.take_of_length_le hlt]
          exact ⟨rfl, by simp [mendT, hn]; exact List.take_of_length_le (by simpa using hlt), rfl, by simp [mendT, hall]⟩
      · simp
        refine loopC (fun d e H => ∃ (i : Nat) (X : Heap) (x0 x4 x7 x8 x9 x14 x26 x36 x51 x69 x80 : FV), d = t.rows.length - i ∧ i ≤ t.rows.length ∧
          H = [FV.sc (PV.str t.cols), FV.sc (PV.sl (List.map TRow.pv t.rows)), FV.sc (PV.bool t.box), FV.sc (PV.bool true)] :: [FV.sc (PV.str ByteArray.empty), FV.own [], FV.sc (PV.bool false), FV.sc (PV.bool false)] :: [FV.sc (PV.str (mendCols t.cols)), FV.own (((t.rows.take i).map (mendRow n)).map TRow.pv), FV.sc (PV.bool t.box), FV.sc (PV.bool t.box)] :: X ∧
          e = [(0, x0), (1, .ptr 0 0), (2, .ptr 1 0), (3, .sc (.str (mendCols t.cols))), (4, x4), (5, .ptr 2 0), (6, .sc (.int .i64 i)), (7, x7), (8, x8), (9, x9), (14, x14), (26, x26), (36, x36), (51, x51), (69, x69), (80, x80)]) (d := t.rows.length)
          ⟨0, [], _, _, _, _, _, _, _, _, _, _, _, rfl, by omega, by simp, rfl⟩ ?_
        rintro d e H ⟨i, X, x0, x4, x7, x8, x9, x14, x26, x36, x51, x69, x80, rfl, hi, rfl, rfl⟩
        simp
        refine CondC.mk (fun hlt => ?_) (fun hlt => ?_)
        · simp at hlt
          have hr := ht.cells _ (List.getElem_mem hlt)
          have htk : t.rows.take (i + 1) = t.rows.take i ++ [t.rows[i]] := List.take_succ_eq_append_getElem hlt
          have hrl := ht.rows
          obtain ⟨r, hrr⟩ : ∃ r, t.rows[i] = r := ⟨_, rfl⟩
          have hat : (List.map TRow.pv t.rows)[i]? = some (PV.agg [.bool r.rule, .sl (r.cells.map gl)]) := by
            rw [map_at hlt, hrr]; rfl
          have hq : t.rows[i]? = some r := by rw [List.getElem?_eq_getElem hlt, hrr]
          rw [hrr] at hr htk
          simp [hq, TRow.pv]
          obtain ⟨c0, hc0⟩ : ∃ c0 : List FV, [FV.sc (PV.str t.cols), FV.sc (PV.sl (List.map TRow.pv t.rows)), FV.sc (PV.bool t.box), FV.sc (PV.bool true)] = c0 := ⟨_, rfl⟩
          refine loopC (fun d e H => ∃ (k : Nat) (x9 x69 x80 : FV), d = n - k ∧ k ≤ n ∧ (r.rule = true → k = 0) ∧
            H = c0 :: [FV.sc (PV.str ByteArray.empty), FV.own [], FV.sc (PV.bool false), FV.sc (PV.bool false)] :: [FV.sc (PV.str (mendCols t.cols)), FV.own (((t.rows.take i).map (mendRow n)).map TRow.pv), FV.sc (PV.bool t.box), FV.sc (PV.bool t.box)] :: (X ++ [[FV.sc (.bool r.rule), FV.own (((List.range k).map (cellM r)).map gl)]]) ∧
            e = [(0, x0), (1, .ptr 0 0), (2, .ptr 1 0), (3, .sc (.str (mendCols t.cols))), (4, x4), (5, .ptr 2 0), (6, .sc (.int .i64 i)), (7, .ptr (X.length + 1 + 1 + 1) 0), (8, .sc (.int .i64 k)), (9, x9), (14, x14), (26, x26), (36, x36), (51, .sc (.bool true)), (69, x69), (80, x80)]) (d := n)
            ⟨0, x9, x69, x80, rfl, by omega, by simp, ?_, ?_⟩ ?_
          · rw [hc0]; simp
          · simp [hlt]
          · rintro d e H ⟨k, x9, x69, x80, rfl, hk, hrk, rfl, rfl⟩
            have hmr := mendRow_eq n r
            by_cases hkn : k < n ∧ r.rule = false
            · obtain ⟨hkn, hrule⟩ := hkn
              have hkn' : k < (mendCols t.cols).size := by omega
              have hnk : (List.range (k + 1)).map (cellM r) = (List.range k).map (cellM r) ++ [cellM r k] := by rw [List.range_succ, List.map_append]; rfl
              simp [hkn', hrule, ← hc0, hq, TRow.pv]
              by_cases hkc : k < r.cells.length
              · have sq := refSqueeze r.cells[k] (hr.2 _ (List.getElem_mem hkc))
                have hcm : cellM r k = squeeze r.cells[k] := by simp [cellM, hkc]
                simp only [gl] at sq
                simp [hkc, gl, hq, TRow.pv]
                refine CallQ.mk (Call.pure callable72 (by simp) (by simp) sq) ?_
                simp
                exact ⟨sized1l, sizedGlC r k, sized1l, by unfold lenMax; omega, n - (k + 1), by omega, k + 1, rfl, by omega, by rw [List.range_succ, List.map_append]; simp [hcm, gl], by rw [wrap64 (by omega) (by omega)]; omega⟩
              · have hcm : cellM r k = [] := by simp [cellM, hkc]
                simp [hkc]
                exact ⟨sized1l, sizedGlC r k, sized1l, by unfold lenMax; omega, n - (k + 1), by omega, k + 1, rfl, by omega, by rw [List.range_succ, List.map_append]; simp [hcm, gl], by rw [wrap64 (by omega) (by omega)]; omega⟩
            · have hcells : (mendRow n r).cells = (List.range k).map (cellM r) := by
                rw [hmr]
                cases hrule : r.rule
                · simp only [hrule, and_true] at hkn
                  obtain rfl : k = n := by omega
                  rfl
                · rw [hrk hrule]; rfl
              have hrow : (mendRow n r).pv = .agg [.bool r.rule, .sl (((List.range k).map (cellM r)).map gl)] := by
                rw [TRow.pv, hcells]; rfl
              by_cases hk2 : k < (mendCols t.cols).size
              · have hrule : r.rule = true := by
                  cases hrule : r.rule
                  · exact absurd ⟨by omega, hrule⟩ hkn
                  · rfl
                simp [hk2, hrule]
                exact ⟨sizedAgg2, sizedTR2 _ _ _, sizedAgg2, by unfold lenMax; omega, t.rows.length - (i + 1), by omega, i + 1, rfl, by omega, ⟨hc0.symm, by rw [← List.map_take, ← List.map_take, htk, List.map_append]; simp [hrow, hrule]⟩, by rw [wrap64 (by omega) (by omega)]; omega⟩
              · simp [hk2]
                exact ⟨sizedAgg2, sizedTR2 _ _ _, sizedAgg2, by unfold lenMax; omega, t.rows.length - (i + 1), by omega, i + 1, rfl, by omega, ⟨hc0.symm, by rw [← List.map_take, ← List.map_take, htk, List.map_append]; simp [hrow]⟩, by rw [wrap64 (by omega) (by omega)]; omega⟩
        · simp at hlt
          simp [List.take_of_length_le hlt]
          exact ⟨rfl, by simp [mendT, hn]; exact List.take_of_length_le (by simpa using hlt), rfl, by simp [mendT, hall]⟩
    · rw [if_neg (by simpa using hc)] at hCM
      simp
      rw [hCM]
      cases hall : t.all
      · simp
        refine loopC (fun d e H => ∃ (i : Nat) (X : Heap) (x0 x4 x7 x8 x9 x14 x26 x36 x51 x69 x80 : FV), d = t.rows.length - i ∧ i ≤ t.rows.length ∧
          H = [FV.sc (PV.str t.cols), FV.sc (PV.sl (List.map TRow.pv t.rows)), FV.sc (PV.bool t.box), FV.sc (PV.bool false)] :: [FV.sc (PV.str ByteArray.empty), FV.own [], FV.sc (PV.bool false), FV.sc (PV.bool false)] :: [FV.sc (PV.str (mendCols t.cols)), FV.own (((t.rows.take i).map (mendRow n)).map TRow.pv), FV.sc (PV.bool t.box), FV.sc (PV.bool false)] :: X ∧
          e = [(0, x0), (1, .ptr 0 0), (2, .ptr 1 0), (3, .sc (.str (mendCols t.cols))), (4, x4), (5, .ptr 2 0), (6, .sc (.int .i64 i)), (7, x7), (8, x8), (9, x9), (14, x14), (26, x26), (36, x36), (51, x51), (69, x69), (80, x80)]) (d := t.rows.length)
          ⟨0, [], _, _, _, _, _, _, _, _, _, _, _, rfl, by omega, by simp, rfl⟩ ?_
        rintro d e H ⟨i, X, x0, x4, x7, x8, x9, x14, x26, x36, x51, x69, x80, rfl, hi, rfl, rfl⟩
        simp
        refine CondC.mk (fun hlt => ?_) (fun hlt => ?_)
        · simp at hlt
          have hr := ht.cells _ (List.getElem_mem hlt)
          have htk : t.rows.take (i + 1) = t.rows.take i ++ [t.rows[i]] := List.take_succ_eq_append_getElem hlt
          have hrl := ht.rows
          obtain ⟨r, hrr⟩ : ∃ r, t.rows[i] = r := ⟨_, rfl⟩
          have hat : (List.map TRow.pv t.rows)[i]? = some (PV.agg [.bool r.rule, .sl (r.cells.map gl)]) := by
            rw [map_at hlt, hrr]; rfl
          have hq : t.rows[i]? = some r := by rw [List.getElem?_eq_getElem hlt, hrr]
          rw [hrr] at hr htk
          simp [hq, TRow.pv]
          obtain ⟨c0, hc0⟩ : ∃ c0 : List FV, [FV.sc (PV.str t.cols), FV.sc (PV.sl (List.map TRow.pv t.rows)), FV.sc (PV.bool t.box), FV.sc (PV.bool false)] = c0 := ⟨_, rfl⟩
          refine loopC (fun d e H => ∃ (k : Nat) (x9 x69 x80 : FV), d = n - k ∧ k ≤ n ∧ (r.rule = true → k = 0) ∧
            H = c0 :: [FV.sc (PV.str ByteArray.empty), FV.own [], FV.sc (PV.bool false), FV.sc (PV.bool false)] :: [FV.sc (PV.str (mendCols t.cols)), FV.own (((t.rows.take i).map (mendRow n)).map TRow.pv), FV.sc (PV.bool t.box), FV.sc (PV.bool false)] :: (X ++ [[FV.sc (.bool r.rule), FV.own (((List.range k).map (cellM r)).map gl)]]) ∧
            e = [(0, x0), (1, .ptr 0 0), (2, .ptr 1 0), (3, .sc (.str (mendCols t.cols))), (4, x4), (5, .ptr 2 0), (6, .sc (.int .i64 i)), (7, .ptr (X.length + 1 + 1 + 1) 0), (8, .sc (.int .i64 k)), (9, x9), (14, x14), (26, x26), (36, x36), (51, .sc (.bool true)), (69, x69), (80, x80)]) (d := n)
            ⟨0, x9, x69, x80, rfl, by omega, by simp, ?_, ?_⟩ ?_
          · rw [hc0]; simp
          · simp [hlt]
          · rintro d e H ⟨k, x9, x69, x80, rfl, hk, hrk, rfl, rfl⟩
            have hmr := mendRow_eq n r
            by_cases hkn : k < n ∧ r.rule = false
            · obtain ⟨hkn, hrule⟩ := hkn
              have hkn' : k < (mendCols t.cols).size := by omega
              have hnk : (List.range (k + 1)).map (cellM r) = (List.range k).map (cellM r) ++ [cellM r k] := by rw [List.range_succ, List.map_append]; rfl
              simp [hkn', hrule, ← hc0, hq, TRow.pv]
              by_cases hkc : k < r.cells.length
              · have sq := refSqueeze r.cells[k] (hr.2 _ (List.getElem_mem hkc))
                have hcm : cellM r k = squeeze r.cells[k] := by simp [cellM, hkc]
                simp only [gl] at sq
                simp [hkc, gl, hq, TRow.pv]
                refine CallQ.mk (Call.pure callable72 (by simp) (by simp) sq) ?_
                simp
                exact ⟨sized1l, sizedGlC r k, sized1l, by unfold lenMax; omega, n - (k + 1), by omega, k + 1, rfl, by omega, by rw [List.range_succ, List.map_append]; simp [hcm, gl], by rw [wrap64 (by omega) (by omega)]; omega⟩
              · have hcm : cellM r k = [] := by simp [cellM, hkc]
                simp [hkc]
                exact ⟨sized1l, sizedGlC r k, sized1l, by unfold lenMax; omega, n - (k + 1), by omega, k + 1, rfl, by omega, by rw [List.range_succ, List.map_append]; simp [hcm, gl], by rw [wrap64 (by omega) (by omega)]; omega⟩
            · have hcells : (mendRow n r).cells = (List.range k).map (cellM r) := by
                rw [hmr]
                cases hrule : r.rule
                · simp only [hrule, and_true] at hkn
                  obtain rfl : k = n := by omega
                  rfl
                · rw [hrk hrule]; rfl
              have hrow : (mendRow n r).pv = .agg [.bool r.rule, .sl (((List.range k).map (cellM r)).map gl)] := by
                rw [TRow.pv, hcells]; rfl
              by_cases hk2 : k < (mendCols t.cols).size
              · have hrule : r.rule = true := by
                  cases hrule : r.rule
                  · exact absurd ⟨by omega, hrule⟩ hkn
                  · rfl
                simp [hk2, hrule]
                exact ⟨sizedAgg2, sizedTR2 _ _ _, sizedAgg2, by unfold lenMax; omega, t.rows.length - (i + 1), by omega, i + 1, rfl, by omega, ⟨hc0.symm, by rw [← List.map_take, ← List.map_take, htk, List.map_append]; simp [hrow, hrule]⟩, by rw [wrap64 (by omega) (by omega)]; omega⟩
              · simp [hk2]
                exact ⟨sizedAgg2, sizedTR2 _ _ _, sizedAgg2, by unfold lenMax; omega, t.rows.length - (i + 1), by omega, i + 1, rfl, by omega, ⟨hc0.symm, by rw [← List.map_take, ← List.map_take, htk, List.map_append]; simp [hrow]⟩, by rw [wrap64 (by omega) (by omega)]; omega⟩
        · simp at hlt
          simp [List.take_of_length_le hlt]
          exact ⟨rfl, by simp [mendT, hn]; exact List.take_of_length_le (by simpa using hlt), rfl, by simp [mendT, hall]⟩
      · simp
        refine loopC (fun d e H => ∃ (i : Nat) (X : Heap) (x0 x4 x7 x8 x9 x14 x26 x36 x51 x69 x80 : FV), d = t.rows.length - i ∧ i ≤ t.rows.length ∧
          H = [FV.sc (PV.str t.cols), FV.sc (PV.sl (List.map TRow.pv t.rows)), FV.sc (PV.bool t.box), FV.sc (PV.bool true)] :: [FV.sc (PV.str ByteArray.empty), FV.own [], FV.sc (PV.bool false), FV.sc (PV.bool false)] :: [FV.sc (PV.str (mendCols t.cols)), FV.own (((t.rows.take i).map (mendRow n)).map TRow.pv), FV.sc (PV.bool t.box), FV.sc (PV.bool t.box)] :: X ∧
          e = [(0, x0), (1, .ptr 0 0), (2, .ptr 1 0), (3, .sc (.str (mendCols t.cols))), (4, x4), (5, .ptr 2 0), (6, .sc (.int .i64 i)), (7, x7), (8, x8), (9, x9), (14, x14), (26, x26), (36, x36), (51, x51), (69, x69), (80, x80)]) (d := t.rows.length)
          ⟨0, [], _, _, _, _, _, _, _, _, _, _, _, rfl, by omega, by simp, rfl⟩ ?_
        rintro d e H ⟨i, X, x0, x4, x7, x8, x9, x14, x26, x36, x51, x69, x80, rfl, hi, rfl, rfl⟩
        simp
        refine CondC.mk (fun hlt => ?_) (fun hlt => ?_)
        · simp at hlt
          have hr := ht.cells _ (List.getElem_mem hlt)
          have htk : t.rows.take (i + 1) = t.rows.take i ++ [t.rows[i]] := List.take_succ_eq_append_getElem hlt
          have hrl := ht.rows
          obtain ⟨r, hrr⟩ : ∃ r, t.rows[i] = r := ⟨_, rfl⟩
          have hat : (List.map TRow.pv t.rows)[i]? = some (PV.agg [.bool r.rule, .sl (r.cells.map gl)]) := by
            rw [map_at hlt, hrr]; rfl
          have hq : t.rows[i]? = some r := by rw [List.getElem?_eq_getElem hlt, hrr]
          rw [hrr] at hr htk
          simp [hq, TRow.pv]
          obtain ⟨c0, hc0⟩ : ∃ c0 : List FV, [FV.sc (PV.str t.cols), FV.sc (PV.sl (List.map TRow.pv t.rows)), FV.sc (PV.bool t.box), FV.sc (PV.bool true)] = c0 := ⟨_, rfl⟩
          refine loopC (fun d e H => ∃ (k : Nat) (x9 x69 x80 : FV), d = n - k ∧ k ≤ n ∧ (r.rule = true → k = 0) ∧
            H = c0 :: [FV.sc (PV.str ByteArray.empty), FV.own [], FV.sc (PV.bool false), FV.sc (PV.bool false)] :: [FV.sc (PV.str (mendCols t.cols)), FV.own (((t.rows.take i).map (mendRow n)).map TRow.pv), FV.sc (PV.bool t.box), FV.sc (PV.bool t.box)] :: (X ++ [[FV.sc (.bool r.rule), FV.own (((List.range k).map (cellM r)).map gl)]]) ∧
            e = [(0, x0), (1, .ptr 0 0), (2, .ptr 1 0), (3, .sc (.str (mendCols t.cols))), (4, x4), (5, .ptr 2 0), (6, .sc (.int .i64 i)), (7, .ptr (X.length + 1 + 1 + 1) 0), (8, .sc (.int .i64 k)), (9, x9), (14, x14), (26, x26), (36, x36), (51, .sc (.bool true)), (69, x69), (80, x80)]) (d := n)
            ⟨0, x9, x69, x80, rfl, by omega, by simp, ?_, ?_⟩ ?_
          · rw [hc0]; simp
          · simp [hlt]
          · rintro d e H ⟨k, x9, x69, x80, rfl, hk, hrk, rfl, rfl⟩
            have hmr := mendRow_eq n r
            by_cases hkn : k < n ∧ r.rule = false
            · obtain ⟨hkn, hrule⟩ := hkn
              have hkn' : k < (mendCols t.cols).size := by omega
              have hnk : (List.range (k + 1)).map (cellM r) = (List.range k).map (cellM r) ++ [cellM r k] := by rw [List.range_succ, List.map_append]; rfl
              simp [hkn', hrule, ← hc0, hq, TRow.pv]
              by_cases hkc : k < r.cells.length
              · have sq := refSqueeze r.cells[k] (hr.2 _ (List.getElem_mem hkc))
                have hcm : cellM r k = squeeze r.cells[k] := by simp [cellM, hkc]
                simp only [gl] at sq
                simp [hkc, gl, hq, TRow.pv]
                refine CallQ.mk (Call.pure callable72 (by simp) (by simp) sq) ?_
                simp
                exact ⟨sized1l, sizedGlC r k, sized1l, by unfold lenMax; omega, n - (k + 1), by omega, k + 1, rfl, by omega, by rw [List.range_succ, List.map_append]; simp [hcm, gl], by rw [wrap64 (by omega) (by omega)]; omega⟩
              · have hcm : cellM r k = [] := by simp [cellM, hkc]
                simp [hkc]
                exact ⟨sized1l, sizedGlC r k, sized1l, by unfold lenMax; omega, n - (k + 1), by omega, k + 1, rfl, by omega, by rw [List.range_succ, List.map_append]; simp [hcm, gl], by rw [wrap64 (by omega) (by omega)]; omega⟩
            · have hcells : (mendRow n r).cells = (List.range k).map (cellM r) := by
                rw [hmr]
                cases hrule : r.rule
                · simp only [hrule, and_true] at hkn
                  obtain rfl : k = n := by omega
                  rfl
                · rw [hrk hrule]; rfl
              have hrow : (mendRow n r).pv = .agg [.bool r.rule, .sl (((List.range k).map (cellM r)).map gl)] := by
                rw [TRow.pv, hcells]; rfl
              by_cases hk2 : k < (mendCols t.cols).size
              · have hrule : r.rule = true := by
                  cases hrule : r.rule
                  · exact absurd ⟨by omega, hrule⟩ hkn
                  · rfl
                simp [hk2, hrule]
                exact ⟨sizedAgg2, sizedTR2 _ _ _, sizedAgg2, by unfold lenMax; omega, t.rows.length - (i + 1), by omega, i + 1, rfl, by omega, ⟨hc0.symm, by rw [← List.map_take, ← List.map_take, htk, List.map_append]; simp [hrow, hrule]⟩, by rw [wrap64 (by omega) (by omega)]; omega⟩
              · simp [hk2]
                exact ⟨sizedAgg2, sizedTR2 _ _ _, sizedAgg2, by unfold lenMax; omega, t.rows.length - (i + 1), by omega, i + 1, rfl, by omega, ⟨hc0.symm, by rw [← List.map_take, ← List.map_take, htk, List.map_append]; simp [hrow]⟩, by rw [wrap64 (by omega) (by omega)]; omega⟩
        · simp at hlt
          simp [List.take_of_length_le hlt]
          exact ⟨rfl, by simp [mendT, hn]; exact List.take_of_length_le (by simpa using hlt), rfl, by simp [mendT, hall]⟩
end Go.Proofs.YtlnnnfogbakimaaDoor.Ev
end
section
namespace Go.Proofs.YtlnnnfogbakimaaDoor.Ev
open Go
set_option linter.unusedSimpArgs false in
set_option maxRecDepth 20000 in
set_option maxHeartbeats 4000000 in
theorem refRight (t : Tbl) (ht : TblS t) : PCon C0 43 [t.pv.toFV] (.sc (.bool (rightT t))) := by
  refine penter43 ?_
  have hcs := ht.cols
  have hrl := ht.rows
  by_cases h0 : t.cols.size = 0
  · have h0' : (t.cols.size : Int) < 1 := by omega
    simp [Tryd.f43, Tbl.pv, h0', h0, rightT]
  have h0' : ¬ (t.cols.size : Int) < 1 := by omega
  by_cases h20 : 20 < t.cols.size
  · have h20' : (20 : Int) < t.cols.size := by omega
    simp [Tryd.f43, Tbl.pv, h0', h20', rightT, h20]
  have h20' : ¬ (20 : Int) < t.cols.size := by omega
  by_cases hab : t.all = true ∧ t.box = false
  · obtain ⟨ha, hb⟩ := hab
    simp [Tryd.f43, Tbl.pv, h0', h20', ha, hb, rightT]
  have hab' : (t.all && !t.box) = false := by
    cases ha : t.all <;> cases hb : t.box <;> simp_all
  have hgo : ∀ c : Bool, t.all = c → (c = true → t.box = true) := fun c hc h => by
    cases hb : t.box
    · exact absurd ⟨hc.trans h, hb⟩ hab
    · rfl
  have hright : rightT t = (colsOk t.cols && !t.rows.any (badRow t.cols.size)) := by
    simp [rightT, h0, h20, hab']
  rw [hright]
  cases hall : t.all
  · simp [Tryd.f43, Tbl.pv, h0', h20', hall]
    refine loopC (fun d e H => ∃ (i : Nat) (x0 x25 x30 x38 : FV), d = t.cols.size - i ∧ i ≤ t.cols.size ∧ (∀ j (hj : j < t.cols.size), j < i → isSide (t.cols.data[j]'hj) = true) ∧ H = [[FV.sc (PV.str t.cols), FV.sc (PV.sl (List.map TRow.pv t.rows)), FV.sc (PV.bool t.box), FV.sc (PV.bool false)]] ∧
      e = [(0, x0), (1, .ptr 0 0), (2, .sc (.bool false)), (3, .sc (.int .i64 i)), (4, .undef), (5, .undef), (6, .undef), (25, x25), (30, x30), (38, x38), (43, .undef), (72, .undef), (77, .undef), (86, .undef)]) (d := t.cols.size) ⟨0, _, _, _, _, rfl, by omega, by simp, rfl, rfl⟩ ?_
    rintro d e H ⟨i, x0, x25, x30, x38, rfl, hi, hall1, rfl, rfl⟩
    simp
    refine CondC.mk (fun hlt => ?_) (fun hlt => ?_)
    · simp at hlt
      have hlt' : i < t.cols.data.size := hlt
      have rs := refSide (t.cols.data[i]'hlt)
      have hmem : t.cols.data[i]'hlt ∈ t.cols.data.toList := by simp
      obtain ⟨b, hb⟩ : ∃ b, t.cols.data[i]'hlt = b := ⟨_, rfl⟩
      rw [hb] at rs hmem
      simp [hlt, hlt', hb]
      refine CallQ.mk (Call.pure callable71 (by simp) (by simp) rs) ?_
      cases hs : isSide b
      · have hco : colsOk t.cols = false := by
          rw [colsOk, List.all_eq_false]
          exact ⟨b, hmem, by simp [hs]⟩
        simp [hco]
      · simp
        refine ⟨t.cols.size - (i + 1), by omega, i + 1, rfl, by omega, fun j hj h => ?_, by rw [wrap64 (by omega) (by omega)]; omega⟩
        rcases Nat.lt_or_ge j i with h' | h'
        · exact hall1 j hj h'
        · obtain rfl : j = i := by omega
          rw [hb]; exact hs
    · simp at hlt
      have hco : colsOk t.cols = true := by
        rw [colsOk, List.all_eq_true]
        intro b hb
        obtain ⟨j, hj, rfl⟩ := List.getElem_of_mem hb
        have hj' : j < t.cols.size := by simpa using hj
        have := hall1 j hj' (by omega)
        simpa using this
      simp [hco]
      refine loopC (fun d e H => ∃ (i : Nat) (X : Heap) (x0 x3 x5 x6 x25 x30 x38 x43 x72 x77 x86 : FV), d = t.rows.length - i ∧ i ≤ t.rows.length ∧ (∀ j (hj : j < t.rows.length), j < i → badRow t.cols.size t.rows[j] = false) ∧ H = [FV.sc (PV.str t.cols), FV.sc (PV.sl (List.map TRow.pv t.rows)), FV.sc (PV.bool t.box), FV.sc (PV.bool false)] :: X ∧
        e = [(0, x0), (1, .ptr 0 0), (2, .sc (.bool false)), (3, x3), (4, .sc (.int .i64 i)), (5, x5), (6, x6), (25, x25), (30, x30), (38, x38), (43, x43), (72, x72), (77, x77), (86, x86)]) (d := t.rows.length) ⟨0, [], _, _, _, _, _, _, _, _, _, _, _, rfl, by omega, by simp, rfl, rfl⟩ ?_
      rintro d e H ⟨i, X, x0, x3, x5, x6, x25, x30, x38, x43, x72, x77, x86, rfl, hi, hall2, rfl, rfl⟩
      simp
      refine CondC.mk (fun hlt => ?_) (fun hlt => ?_)
      · simp at hlt
        have hr := ht.cells _ (List.getElem_mem hlt)
        have hmem := List.getElem_mem hlt
        obtain ⟨r, hrr⟩ : ∃ r, t.rows[i] = r := ⟨_, rfl⟩
        rw [hrr] at hr hmem
        have fail : badRow t.cols.size r = true → (t.rows.any (badRow t.cols.size)) = true := fun h => List.any_eq_true.2 ⟨r, hmem, h⟩
        have next : badRow t.cols.size r = false → ∃ d', d' < t.rows.length - i ∧ ∃ i', d' = t.rows.length - i' ∧ i' ≤ t.rows.length ∧ (∀ j (hj : j < t.rows.length), j < i' → badRow t.cols.size t.rows[j] = false) ∧ IntKind.i64.wrap ((i : Int) + 1) = (i' : Nat) := fun h =>
          ⟨t.rows.length - (i + 1), by omega, i + 1, rfl, by omega, fun j hj hji => by
            rcases Nat.lt_or_ge j i with h' | h'
            · exact hall2 j hj h'
            · obtain rfl : j = i := by omega
              rw [hrr]; exact h, by rw [wrap64 (by omega) (by omega)]; omega⟩
        have hq : t.rows[i]? = some r := by rw [List.getElem?_eq_getElem hlt, hrr]
        have hgl : r.cells.map gl = r.cells.map gl := rfl
        cases hrule : r.rule
        · by_cases hlen : r.cells.length = t.cols.size
          · have hlen' : (r.cells.length : Int) = t.cols.size := by omega
            simp [hq, TRow.pv, hrule, hlen']
            refine loopC (fun d e H => ∃ (k : Nat) (x77 x86 : FV), d = r.cells.length - k ∧ k ≤ r.cells.length ∧ (∀ j (hj : j < r.cells.length), j < k → sqzd r.cells[j] = true) ∧ H = [FV.sc (PV.str t.cols), FV.sc (PV.sl (List.map TRow.pv t.rows)), FV.sc (PV.bool t.box), FV.sc (PV.bool false)] :: (X ++ [[FV.sc (.bool false), FV.sc (.sl (r.cells.map gl))]]) ∧
              e = [(0, x0), (1, .ptr 0 0), (2, .sc (.bool false)), (3, x3), (4, .sc (.int .i64 i)), (5, .ptr (X.length + 1) 0), (6, .sc (.int .i64 k)), (25, x25), (30, x30), (38, x38), (43, .sc (.bool true)), (72, .sc (.bool false)), (77, x77), (86, x86)]) (d := r.cells.length) ⟨0, x77, x86, rfl, by omega, by simp, by first | rfl | simp, by first | rfl | (simp [hlt]; done) | (simp [hlt, hlen]; done)⟩ ?_
            rintro d e H ⟨k, x77, x86, rfl, hk, hsq, rfl, rfl⟩
            simp
            refine CondC.mk (fun hkl => ?_) (fun hkl => ?_)
            · simp at hkl
              have cs := refSqueezed r.cells[k] (hr.2 _ (List.getElem_mem hkl))
              simp only [gl] at cs
              simp [hkl, gl]
              refine CallQ.mk (Call.pure callable79 (by simp) (by simp) cs) ?_
              cases hs : sqzd r.cells[k]
              · have hbad : badRow t.cols.size r = true := by
                  have hany : (r.cells.any fun c => !sqzd c) = true := List.any_eq_true.2 ⟨_, List.getElem_mem hkl, by rw [hs]; rfl⟩
                  simp [badRow, hrule, hany]
                have := fail hbad
                simp [this]
              · simp
                refine ⟨r.cells.length - (k + 1), by omega, k + 1, rfl, by omega, fun j hj h => ?_, by rw [wrap64 (by omega) (by omega)]; omega⟩
                rcases Nat.lt_or_ge j k with h' | h'
                · exact hsq j hj h'
                · obtain rfl : j = k := by omega
                  exact hs
            · simp at hkl
              have hgood : badRow t.cols.size r = false := by
                have hany : (r.cells.any fun c => !sqzd c) = false := by
                  rw [List.any_eq_false]
                  intro c hc
                  obtain ⟨j, hj, rfl⟩ := List.getElem_of_mem hc
                  simp [hsq j hj (by omega)]
                simp [badRow, hrule, hany, hlen]
              simp
              exact next hgood
          · have hlen' : ¬ (r.cells.length : Int) = t.cols.size := by omega
            have := fail (by simp [badRow, hrule, hlen])
            simp [hq, TRow.pv, hrule, hlen', this]
        · by_cases hlen : r.cells.length = 0
          · have hlen' : ¬ 0 < r.cells.length := by omega
            simp [hq, TRow.pv, hrule, hlen']
            refine loopC (fun d e H => ∃ (k : Nat) (x77 x86 : FV), d = r.cells.length - k ∧ k ≤ r.cells.length ∧ (∀ j (hj : j < r.cells.length), j < k → sqzd r.cells[j] = true) ∧ H = [FV.sc (PV.str t.cols), FV.sc (PV.sl (List.map TRow.pv t.rows)), FV.sc (PV.bool t.box), FV.sc (PV.bool false)] :: (X ++ [[FV.sc (.bool true), FV.sc (.sl (r.cells.map gl))]]) ∧
              e = [(0, x0), (1, .ptr 0 0), (2, .sc (.bool false)), (3, x3), (4, .sc (.int .i64 i)), (5, .ptr (X.length + 1) 0), (6, .sc (.int .i64 k)), (25, x25), (30, x30), (38, x38), (43, .sc (.bool true)), (72, .sc (.bool false)), (77, x77), (86, x86)]) (d := r.cells.length) ⟨0, x77, x86, rfl, by omega, by simp, by first | rfl | simp, by first | rfl | (simp [hlt]; done) | (simp [hlt, hlen]; done)⟩ ?_
            rintro d e H ⟨k, x77, x86, rfl, hk, hsq, rfl, rfl⟩
            simp
            refine CondC.mk (fun hkl => ?_) (fun hkl => ?_)
            · simp at hkl
              have cs := refSqueezed r.cells[k] (hr.2 _ (List.getElem_mem hkl))
              simp only [gl] at cs
              simp [hkl, gl]
              refine CallQ.mk (Call.pure callable79 (by simp) (by simp) cs) ?_
              cases hs : sqzd r.cells[k]
              · have hbad : badRow t.cols.size r = true := by
                  have hany : (r.cells.any fun c => !sqzd c) = true := List.any_eq_true.2 ⟨_, List.getElem_mem hkl, by rw [hs]; rfl⟩
                  simp [badRow, hrule]; omega
                have := fail hbad
                simp [this]
              · simp
                refine ⟨r.cells.length - (k + 1), by omega, k + 1, rfl, by omega, fun j hj h => ?_, by rw [wrap64 (by omega) (by omega)]; omega⟩
                rcases Nat.lt_or_ge j k with h' | h'
                · exact hsq j hj h'
                · obtain rfl : j = k := by omega
                  exact hs
            · simp at hkl
              have hgood : badRow t.cols.size r = false := by
                have hany : (r.cells.any fun c => !sqzd c) = false := by
                  rw [List.any_eq_false]
                  intro c hc
                  obtain ⟨j, hj, rfl⟩ := List.getElem_of_mem hc
                  simp [hsq j hj (by omega)]
                simp [badRow, hrule, hlen]
              simp
              exact next hgood
          · have hlen' : 0 < r.cells.length := by omega
            have := fail (by simp [badRow, hrule]; omega)
            simp [hq, TRow.pv, hrule, hlen', this]
      · simp at hlt
        have : (t.rows.any (badRow t.cols.size)) = false := by
          rw [List.any_eq_false]
          intro r hr
          obtain ⟨j, hj, rfl⟩ := List.getElem_of_mem hr
          simp [hall2 j hj (by omega)]
        simp [this]
  · have hbox := hgo true hall rfl
    simp [Tryd.f43, Tbl.pv, h0', h20', hall, hbox]
    refine loopC (fun d e H => ∃ (i : Nat) (x0 x25 x30 x38 : FV), d = t.cols.size - i ∧ i ≤ t.cols.size ∧ (∀ j (hj : j < t.cols.size), j < i → isSide (t.cols.data[j]'hj) = true) ∧ H = [[FV.sc (PV.str t.cols), FV.sc (PV.sl (List.map TRow.pv t.rows)), FV.sc (PV.bool true), FV.sc (PV.bool true)]] ∧
      e = [(0, x0), (1, .ptr 0 0), (2, .sc (.bool false)), (3, .sc (.int .i64 i)), (4, .undef), (5, .undef), (6, .undef), (25, x25), (30, x30), (38, x38), (43, .undef), (72, .undef), (77, .undef), (86, .undef)]) (d := t.cols.size) ⟨0, _, _, _, _, rfl, by omega, by simp, rfl, rfl⟩ ?_
    rintro d e H ⟨i, x0, x25, x30, x38, rfl, hi, hall1, rfl, rfl⟩
    simp
    refine CondC.mk (fun hlt => ?_) (fun hlt => ?_)
    · simp at hlt
      have hlt' : i < t.cols.data.size := hlt
      have rs := refSide (t.cols.data[i]'hlt)
      have hmem : t.cols.data[i]'hlt ∈ t.cols.data.toList := by simp
      obtain ⟨b, hb⟩ : ∃ b, t.cols.data[i]'hlt = b := ⟨_, rfl⟩
      rw [hb] at rs hmem
      simp [hlt, hlt', hb]
      refine CallQ.mk (Call.pure callable71 (by simp) (by simp) rs) ?_
      cases hs : isSide b
      · have hco : colsOk t.cols = false := by
          rw [colsOk, List.all_eq_false]
          exact ⟨b, hmem, by simp [hs]⟩
        simp [hco]
      · simp
        refine ⟨t.cols.size - (i + 1), by omega, i + 1, rfl, by omega, fun j hj h => ?_, by rw [wrap64 (by omega) (by omega)]; omega⟩
        rcases Nat.lt_or_ge j i with h' | h'
        · exact hall1 j hj h'
        · obtain rfl : j = i := by omega
          rw [hb]; exact hs
    · simp at hlt
      have hco : colsOk t.cols = true := by
        rw [colsOk, List.all_eq_true]
        intro b hb
        obtain ⟨j, hj, rfl⟩ := List.getElem_of_mem hb
        have hj' : j < t.cols.size := by simpa using hj
        have := hall1 j hj' (by omega)
        simpa using this
      simp [hco]
      refine loopC (fun d e H => ∃ (i : Nat) (X : Heap) (x0 x3 x5 x6 x25 x30 x38 x43 x72 x77 x86 : FV), d = t.rows.length - i ∧ i ≤ t.rows.length ∧ (∀ j (hj : j < t.rows.length), j < i → badRow t.cols.size t.rows[j] = false) ∧ H = [FV.sc (PV.str t.cols), FV.sc (PV.sl (List.map TRow.pv t.rows)), FV.sc (PV.bool true), FV.sc (PV.bool true)] :: X ∧
        e = [(0, x0), (1, .ptr 0 0), (2, .sc (.bool false)), (3, x3), (4, .sc (.int .i64 i)), (5, x5), (6, x6), (25, x25), (30, x30), (38, x38), (43, x43), (72, x72), (77, x77), (86, x86)]) (d := t.rows.length) ⟨0, [], _, _, _, _, _, _, _, _, _, _, _, rfl, by omega, by simp, rfl, rfl⟩ ?_
      rintro d e H ⟨i, X, x0, x3, x5, x6, x25, x30, x38, x43, x72, x77, x86, rfl, hi, hall2, rfl, rfl⟩
      simp
      refine CondC.mk (fun hlt => ?_) (fun hlt => ?_)
      · simp at hlt
        have hr := ht.cells _ (List.getElem_mem hlt)
        have hmem := List.getElem_mem hlt
        obtain ⟨r, hrr⟩ : ∃ r, t.rows[i] = r := ⟨_, rfl⟩
        rw [hrr] at hr hmem
        have fail : badRow t.cols.size r = true → (t.rows.any (badRow t.cols.size)) = true := fun h => List.any_eq_true.2 ⟨r, hmem, h⟩
        have next : badRow t.cols.size r = false → ∃ d', d' < t.rows.length - i ∧ ∃ i', d' = t.rows.length - i' ∧ i' ≤ t.rows.length ∧ (∀ j (hj : j < t.rows.length), j < i' → badRow t.cols.size t.rows[j] = false) ∧ IntKind.i64.wrap ((i : Int) + 1) = (i' : Nat) := fun h =>
          ⟨t.rows.length - (i + 1), by omega, i + 1, rfl, by omega, fun j hj hji => by
            rcases Nat.lt_or_ge j i with h' | h'
            · exact hall2 j hj h'
            · obtain rfl : j = i := by omega
              rw [hrr]; exact h, by rw [wrap64 (by omega) (by omega)]; omega⟩
        have hq : t.rows[i]? = some r := by rw [List.getElem?_eq_getElem hlt, hrr]
        have hgl : r.cells.map gl = r.cells.map gl := rfl
        cases hrule : r.rule
        · by_cases hlen : r.cells.length = t.cols.size
          · have hlen' : (r.cells.length : Int) = t.cols.size := by omega
            simp [hq, TRow.pv, hrule, hlen']
            refine loopC (fun d e H => ∃ (k : Nat) (x77 x86 : FV), d = r.cells.length - k ∧ k ≤ r.cells.length ∧ (∀ j (hj : j < r.cells.length), j < k → sqzd r.cells[j] = true) ∧ H = [FV.sc (PV.str t.cols), FV.sc (PV.sl (List.map TRow.pv t.rows)), FV.sc (PV.bool true), FV.sc (PV.bool true)] :: (X ++ [[FV.sc (.bool false), FV.sc (.sl (r.cells.map gl))]]) ∧
              e = [(0, x0), (1, .ptr 0 0), (2, .sc (.bool false)), (3, x3), (4, .sc (.int .i64 i)), (5, .ptr (X.length + 1) 0), (6, .sc (.int .i64 k)), (25, x25), (30, x30), (38, x38), (43, .sc (.bool true)), (72, .sc (.bool false)), (77, x77), (86, x86)]) (d := r.cells.length) ⟨0, x77, x86, rfl, by omega, by simp, by first | rfl | simp, by first | rfl | (simp [hlt]; done) | (simp [hlt, hlen]; done)⟩ ?_
            rintro d e H ⟨k, x77, x86, rfl, hk, hsq, rfl, rfl⟩
            simp
            refine CondC.mk (fun hkl => ?_) (fun hkl => ?_)
            · simp at hkl
              have cs := refSqueezed r.cells[k] (hr.2 _ (List.getElem_mem hkl))
              simp only [gl] at cs
              simp [hkl, gl]
              refine CallQ.mk (Call.pure callable79 (by simp) (by simp) cs) ?_
              cases hs : sqzd r.cells[k]
              · have hbad : badRow t.cols.size r = true := by
                  have hany : (r.cells.any fun c => !sqzd c) = true := List.any_eq_true.2 ⟨_, List.getElem_mem hkl, by rw [hs]; rfl⟩
                  simp [badRow, hrule, hany]
                have := fail hbad
                simp [this]
              · simp
                refine ⟨r.cells.length - (k + 1), by omega, k + 1, rfl, by omega, fun j hj h => ?_, by rw [wrap64 (by omega) (by omega)]; omega⟩
                rcases Nat.lt_or_ge j k with h' | h'
                · exact hsq j hj h'
                · obtain rfl : j = k := by omega
                  exact hs
            · simp at hkl
              have hgood : badRow t.cols.size r = false := by
                have hany : (r.cells.any fun c => !sqzd c) = false := by
                  rw [List.any_eq_false]
                  intro c hc
                  obtain ⟨j, hj, rfl⟩ := List.getElem_of_mem hc
                  simp [hsq j hj (by omega)]
                simp [badRow, hrule, hany, hlen]
              simp
              exact next hgood
          · have hlen' : ¬ (r.cells.length : Int) = t.cols.size := by omega
            have := fail (by simp [badRow, hrule, hlen])
            simp [hq, TRow.pv, hrule, hlen', this]
        · by_cases hlen : r.cells.length = 0
          · have hlen' : ¬ 0 < r.cells.length := by omega
            simp [hq, TRow.pv, hrule, hlen']
            refine loopC (fun d e H => ∃ (k : Nat) (x77 x86 : FV), d = r.cells.length - k ∧ k ≤ r.cells.length ∧ (∀ j (hj : j < r.cells.length), j < k → sqzd r.cells[j] = true) ∧ H = [FV.sc (PV.str t.cols), FV.sc (PV.sl (List.map TRow.pv t.rows)), FV.sc (PV.bool true), FV.sc (PV.bool true)] :: (X ++ [[FV.sc (.bool true), FV.sc (.sl (r.cells.map gl))]]) ∧
              e = [(0, x0), (1, .ptr 0 0), (2, .sc (.bool false)), (3, x3), (4, .sc (.int .i64 i)), (5, .ptr (X.length + 1) 0), (6, .sc (.int .i64 k)), (25, x25), (30, x30), (38, x38), (43, .sc (.bool true)), (72, .sc (.bool false)), (77, x77), (86, x86)]) (d := r.cells.length) ⟨0, x77, x86, rfl, by omega, by simp, by first | rfl | simp, by first | rfl | (simp [hlt]; done) | (simp [hlt, hlen]; done)⟩ ?_
            rintro d e H ⟨k, x77, x86, rfl, hk, hsq, rfl, rfl⟩
            simp
            refine CondC.mk (fun hkl => ?_) (fun hkl => ?_)
            · simp at hkl
              have cs := refSqueezed r.cells[k] (hr.2 _ (List.getElem_mem hkl))
              simp only [gl] at cs
              simp [hkl, gl]
              refine CallQ.mk (Call.pure callable79 (by simp) (by simp) cs) ?_
              cases hs : sqzd r.cells[k]
              · have hbad : badRow t.cols.size r = true := by
                  have hany : (r.cells.any fun c => !sqzd c) = true := List.any_eq_true.2 ⟨_, List.getElem_mem hkl, by rw [hs]; rfl⟩
                  simp [badRow, hrule]; omega
                have := fail hbad
                simp [this]
              · simp
                refine ⟨r.cells.length - (k + 1), by omega, k + 1, rfl, by omega, fun j hj h => ?_, by rw [wrap64 (by omega) (by omega)]; omega⟩
                rcases Nat.lt_or_ge j k with h' | h'
                · exact hsq j hj h'
                · obtain rfl : j = k := by omega
                  exact hs
            · simp at hkl
              have hgood : badRow t.cols.size r = false := by
                have hany : (r.cells.any fun c => !sqzd c) = false := by
                  rw [List.any_eq_false]
                  intro c hc
                  obtain ⟨j, hj, rfl⟩ := List.getElem_of_mem hc
                  simp [hsq j hj (by omega)]
                simp [badRow, hrule, hlen]
              simp
              exact next hgood
          · have hlen' : 0 < r.cells.length := by omega
            have := fail (by simp [badRow, hrule]; omega)
            simp [hq, TRow.pv, hrule, hlen', this]
      · simp at hlt
        have : (t.rows.any (badRow t.cols.size)) = false := by
          rw [List.any_eq_false]
          intro r hr
          obtain ⟨j, hj, rfl⟩ := List.getElem_of_mem hr
          simp [hall2 j hj (by omega)]
        simp [this]
end Go.Proofs.YtlnnnfogbakimaaDoor.Ev
end
section
namespace Go.Proofs.YtlnnnfogbakimaaDoor.Ev
open Go
theorem squeeze_idem (l : List Glyph) : squeeze (squeeze l) = squeeze l := by
  have : ∀ (l : List Glyph) (s : List Glyph × Bool), sqAll s.1 = (s.1, false) → sqAll (l.foldl sqStep s).1 = ((l.foldl sqStep s).1, false) := by
    intro l
    induction l with
    | nil => intro s h; exact h
    | cons g l ih =>
      intro s h
      rw [List.foldl_cons]
      refine ih _ ?_
      unfold sqStep
      split
      · exact h
      · rename_i hg
        simp only
        split
        · rename_i hw
          rw [List.append_assoc, sqAll_app, h]
          simp [sqStep, hg, hw.2]
        · rw [sqAll_app, h]
          simp [sqStep, hg]
  have := this l ([], false) rfl
  rw [squeeze, squeeze]
  rw [show sqAll (sqAll l).1 = ((sqAll l).1, false) from this]
theorem sqzd_squeeze (l : List Glyph) : sqzd (squeeze l) = true := by simp [sqzd, squeeze_idem]
theorem sqzd_nil : sqzd [] = true := by decide
theorem cellM_sq (r : TRow) (k : Nat) : sqzd (cellM r k) = true := by
  unfold cellM
  split
  · exact sqzd_squeeze _
  · exact sqzd_nil
theorem mendCols_ok (c : ByteArray) : 0 < (mendCols c).size ∧ (mendCols c).size ≤ 20 ∧ colsOk (mendCols c) = true := by
  unfold mendCols
  by_cases h : List.take 20 (List.filter isSide c.data.toList) = []
  · rw [if_pos h]; decide
  · rw [if_neg h]
    refine ⟨?_, ?_, ?_⟩
    · show 0 < (List.take 20 (List.filter isSide c.data.toList)).toArray.size
      rw [List.size_toArray]; exact List.length_pos_iff.2 h
    · show (List.take 20 (List.filter isSide c.data.toList)).toArray.size ≤ 20
      rw [List.size_toArray, List.length_take]; omega
    · rw [colsOk, List.all_eq_true]
      intro b hb
      have hb' : b ∈ List.take 20 (List.filter isSide c.data.toList) := by simpa using hb
      exact (List.mem_filter.1 (List.mem_of_mem_take hb')).2
theorem mend_right (t : Tbl) : rightT (mendT t) = true := by
  obtain ⟨h1, h2, h3⟩ := mendCols_ok t.cols
  have hr : (mendT t).rows.any (badRow (mendT t).cols.size) = false := by
    rw [List.any_eq_false]
    intro r hr
    obtain ⟨x, _, rfl⟩ := List.mem_map.1 hr
    show ¬ badRow (mendCols t.cols).size (mendRow (mendCols t.cols).size x) = true
    rw [mendRow_eq]
    cases hx : x.rule
    · have hany : ((List.range (mendCols t.cols).size).map (cellM x)).any (fun c => !sqzd c) = false := by
        rw [List.any_eq_false]
        intro c hc
        obtain ⟨k, _, rfl⟩ := List.mem_map.1 hc
        simp [cellM_sq]
      simp only [badRow, hany]
      simp [cellM_sq]
    · simp [badRow]
  have ha : ((mendT t).all && !(mendT t).box) = false := by
    show ((t.all && t.box) && !t.box) = false
    cases t.all <;> cases t.box <;> rfl
  unfold rightT
  rw [hr, ha, show (mendT t).cols = mendCols t.cols from rfl, h3]
  have e1 : decide ((mendCols t.cols).size = 0) = false := decide_eq_false (by omega)
  have e2 : decide (20 < (mendCols t.cols).size) = false := decide_eq_false (by omega)
  rw [e1, e2]; rfl
theorem right_all {t : Tbl} (h : rightT t = true) : 0 < t.cols.size ∧ t.cols.size ≤ 20 ∧ colsOk t.cols = true ∧ (t.all && !t.box) = false ∧ ∀ r ∈ t.rows, badRow t.cols.size r = false := by
  unfold rightT at h
  simp only [Bool.and_eq_true, Bool.not_eq_true', Bool.or_eq_false_iff, decide_eq_false_iff_not, Bool.not_eq_false'] at h
  obtain ⟨⟨h1, h2, h3, h4⟩, h5⟩ := h
  refine ⟨by omega, by omega, h3, h4, fun r hr => ?_⟩
  rw [List.any_eq_false] at h5
  simpa using h5 r hr
theorem mend_same {t : Tbl} (h : rightT t = true) : mendT t = t := by
  obtain ⟨h1, h2, h3, h4, h5⟩ := right_all h
  have hc : mendCols t.cols = t.cols := by
    have hf : List.filter isSide t.cols.data.toList = t.cols.data.toList := by
      rw [List.filter_eq_self]
      rw [colsOk, List.all_eq_true] at h3
      exact h3
    have hl : t.cols.data.toList.length ≤ 20 := by rw [Array.length_toList]; exact h2
    unfold mendCols
    rw [hf, List.take_of_length_le hl, if_neg (fun hn => by
      have : t.cols.data.toList.length = 0 := by rw [hn]; rfl
      rw [Array.length_toList] at this
      have h1' : 0 < t.cols.data.size := h1
      omega)]
  have hr : t.rows.map (mendRow t.cols.size) = t.rows := by
    conv => rhs; rw [← List.map_id t.rows]
    refine List.map_congr_left fun r hr => ?_
    have hb := h5 r hr
    rw [mendRow_eq]
    obtain ⟨rule, cells⟩ := r
    cases hx : rule
    · subst hx
      simp [badRow] at hb
      obtain ⟨hb1, hb2⟩ := hb
      have : (List.range t.cols.size).map (cellM ⟨false, cells⟩) = cells := by
        refine List.ext_getElem (by simp [hb1]) fun k hk1 hk2 => ?_
        have hs := hb2 cells[k] (List.getElem_mem hk2)
        simp [cellM, hk2]
        simpa [sqzd] using hs
      simp [this]
    · subst hx
      simp [badRow] at hb
      simp [hb]
  have ha : (t.all && t.box) = t.all := by
    revert h4
    cases t.all <;> cases t.box <;> simp
  unfold mendT
  rw [hc, hr, ha]
theorem tblS_mend {t : Tbl} (h : t.cols.size + sumBy trowLong t.rows ≤ 536870912) : TblS (mendT t) := by
  have h1 := tblS_of (t := t) (by omega)
  obtain ⟨c1, c2, c3⟩ := mendCols_ok t.cols
  refine ⟨by show (mendCols t.cols).size ≤ _; omega, by show (t.rows.map _).length ≤ _; rw [List.length_map]; exact h1.rows, fun r hr => ?_⟩
  obtain ⟨x, hx, rfl⟩ := List.mem_map.1 hr
  have hxl := sumBy_mem' trowLong hx
  simp only [trowLong] at hxl
  rw [mendRow_eq]
  refine ⟨?_, fun c hc => ?_⟩
  · show (if x.rule = true then [] else (List.range (mendCols t.cols).size).map (cellM x)).length ≤ _
    split
    · simp
    · simp; omega
  · have hc' : c ∈ (if x.rule = true then [] else (List.range (mendCols t.cols).size).map (cellM x)) := hc
    split at hc'
    · simp at hc'
    · obtain ⟨k, _, rfl⟩ := List.mem_map.1 hc'
      unfold cellM
      split
      · rename_i hk
        have h2 := sumBy_mem' List.length (List.getElem_mem hk)
        have h3 := sqAll_len (x.cells.getD k [])
        have e : x.cells.getD k [] = x.cells[k] := by simp [List.getD, hk]
        rw [e] at h3 ⊢
        unfold squeeze
        omega
      · simp
theorem TblS.ok {t : Tbl} (h : TblS t) : t.ok := ⟨by have := h.rows; omega, fun r hr => ⟨by have := (h.cells r hr).1; omega, fun c hc => by have := (h.cells r hr).2 c hc; omega⟩⟩
end Go.Proofs.YtlnnnfogbakimaaDoor.Ev
end
section
namespace Go.Proofs.YtlnnnfogbakimaaDoor.Ev
open Go
set_option linter.unusedSimpArgs false in
set_option maxRecDepth 20000 in
set_option maxHeartbeats 4000000 in
theorem treeTablesLaw (t : Tbl) (hb : t.cols.size + sumBy trowLong t.rows ≤ 536870912) : PCon C0 12 [t.pv.toFV] (.sc (.bool true)) := by
  have hS := tblS_of (t := t) (by omega)
  have hM := tblS_mend hb
  have cs := lawLong [Node.mk 0 0 0 [] [] [] t] (by
      intro x hx
      rw [List.mem_singleton.1 hx]
      exact .mk (by simp) (by simp) (by simp) (by simp) (by simp) hS.ok) (by simp)
  simp [Node.pv_eq, gl] at cs
  generalize tooLong [Node.mk 0 0 0 [] [] [] t] = tl at cs
  have kn := treeKnown
  have m1 := treeMend t hS
  have m2 := refMend t hS
  have m3 := treeMend (mendT t) hM
  rw [mend_same (mend_right t)] at m3
  have r1 := treeRight t hS
  have r2 := refRight t hS
  have r3 := treeRight (mendT t) hM
  rw [mend_right t] at r3
  have s1 := refTableSame (mendT t) (mendT t) hM.ok
  have s2 := refTableSame (mendT t) t hM.ok
  have hfin : rightT t = true → mendT t = t := mend_same
  generalize mendT t = m at *
  obtain ⟨mc, mr, mb, ma⟩ := m
  simp [Tbl.pv] at m1 m2 m3 r1 r2 r3 s1 s2
  refine penter12 ?_
  simp [Tryd.f12, Tbl.pv, sized1]
  refine CallQ.mk (Call.pure callable15 (by simp) (by simp) cs) ?_
  cases tl
  · simp
    refine CallQ.mk (Call.pure callable40 (by simp) (by simp) m1) ?_
    simp
    refine CallQ.mk (CallP.pure callable41 (by simp) (by simp) m2) ?_
    simp
    refine CallQ.mk (CallP.pure callable23 (by simp) (by simp) s1) ?_
    simp
    refine CallQ.mk (CallP.pure callable42 (by simp) (by simp) r1) ?_
    simp
    refine CallQ.mk (CallP.pure callable43 (by simp) (by simp) r2) ?_
    simp
    refine CallQ.mk (CallP.pure callable42 (by simp) (by simp) r3) ?_
    simp
    refine CallQ.mk (CallP.pure callable40 (by simp) (by simp) m3) ?_
    simp
    refine CallQ.mk (CallP.pure callable23 (by simp) (by simp) s1) ?_
    simp
    refine CallQ.mk (CallP.pure callable42 (by simp) (by simp) r1) ?_
    cases hr : rightT t
    · simp
      refine CallQ.mk (CallP.pure callable16 (by simp) (by simp) kn) ?_
      simp
    · rw [decide_eq_true (hfin hr)] at s2
      simp
      refine CallQ.mk (CallP.pure callable23 (by simp) (by simp) s2) ?_
      simp
      refine CallQ.mk (CallP.pure callable16 (by simp) (by simp) kn) ?_
      simp
  · simp
    refine CallQ.mk (Call.pure callable16 (by simp) (by simp) kn) ?_
    simp
end Go.Proofs.YtlnnnfogbakimaaDoor.Ev
end
