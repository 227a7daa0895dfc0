/- Of what the law MdocLists needs: part 13. -/
import Derived.Shelf.Strings.SlTrimAscii
import Derived.Test.YtkjgkhgklkdbjaaGreatDoorBML12
set_option linter.unusedSimpArgs false
set_option linter.unusedVariables false
section
namespace Go.Proofs.YtkjgkhgklkdbjaaGreatDoor.Ev
open Go
def sqzd (l : List Glyph) : Bool := decide (squeeze l = l)
def badRow (n : Nat) (r : TRow) : Bool := if r.rule = true then decide (0 < r.cells.length) else !decide (r.cells.length = n) || r.cells.any fun c => !sqzd c
def colsOk (c : ByteArray) : Bool := c.data.toList.all isSide
def rightT (t : Tbl) : Bool := !(decide (t.cols.size = 0) || (decide (20 < t.cols.size) || (!colsOk t.cols || (t.all && !t.box)))) && !t.rows.any (badRow t.cols.size)
end Go.Proofs.YtkjgkhgklkdbjaaGreatDoor.Ev
end
section
namespace Go.Proofs.YtkjgkhgklkdbjaaGreatDoor.Ev
open Go
def trimG (l : List Glyph) : List Glyph := (l.reverse.dropWhile Glyph.blank).reverse
def ends (l : List Glyph) : Nat := (trimG l).length
theorem mem_tw {α : Type} {p : α → Bool} : ∀ {l : List α} {x : α}, x ∈ l.takeWhile p → p x = true
  | y :: l, x, h => by
    rw [List.takeWhile_cons] at h
    split at h
    · rename_i hy
      rcases List.mem_cons.1 h with rfl | h
      · exact hy
      · exact mem_tw h
    · simp at h
theorem trimG_append (l : List Glyph) : ∃ b, l = trimG l ++ b ∧ ∀ g ∈ b, g.blank = true := by
  refine ⟨(l.reverse.takeWhile Glyph.blank).reverse, ?_, fun g hg => ?_⟩
  · rw [trimG, ← List.reverse_append, List.takeWhile_append_dropWhile, List.reverse_reverse]
  · have := List.mem_reverse.1 hg
    exact mem_tw this
theorem trimG_take (l : List Glyph) : trimG l = l.take (ends l) := by
  obtain ⟨b, h, _⟩ := trimG_append l
  have := congrArg (List.take (ends l)) h
  rw [show List.take (ends l) (trimG l ++ b) = trimG l from List.take_left' rfl] at this
  exact this.symm
theorem ends_le (l : List Glyph) : ends l ≤ l.length := by
  obtain ⟨b, h, _⟩ := trimG_append l
  have := congrArg List.length h
  rw [List.length_append] at this
  unfold ends; omega
theorem ends_behind {l : List Glyph} {i : Nat} (h : i < l.length) (hi : ends l ≤ i) : l[i].blank = true := by
  obtain ⟨b, hb, hbl⟩ := trimG_append l
  have : l[i] ∈ b := by
    have e : l[i]? = b[i - ends l]? := by
      conv => lhs; rw [hb]
      rw [List.getElem?_append_right hi]; rfl
    rw [List.getElem?_eq_getElem h] at e
    exact List.mem_of_getElem? e.symm
  exact hbl _ this
theorem ends_at {l : List Glyph} (h : 0 < ends l) : (l[ends l - 1]'(by have := ends_le l; omega)).blank = false := by
  have hne : l.reverse.dropWhile Glyph.blank ≠ [] := fun hh => by
    have : ends l = 0 := by unfold ends trimG; rw [hh]; rfl
    omega
  obtain ⟨y, r, hy⟩ := List.exists_cons_of_ne_nil hne
  have h2 : y.blank = false := by
    have := List.head?_dropWhile_not Glyph.blank l.reverse
    rw [hy] at this
    simpa using this
  have ht : trimG l = r.reverse ++ [y] := by rw [trimG, hy, List.reverse_cons]
  have e : (trimG l)[ends l - 1]? = some y := by
    rw [ends, ht]
    simp
  rw [trimG_take, List.getElem?_take_of_lt (by omega)] at e
  have := (List.getElem?_eq_some_iff.1 e).2
  rw [this]; exact h2
end Go.Proofs.YtkjgkhgklkdbjaaGreatDoor.Ev
end
section
namespace Go.Proofs.YtkjgkhgklkdbjaaGreatDoor.Ev
open Go
theorem right_all {t : Tbl} (h : rightT t = true) : 0 < t.cols.size ∧ t.cols.size ≤ 20 ∧ colsOk t.cols = true ∧ (t.all && !t.box) = false ∧ ∀ r ∈ t.rows, badRow t.cols.size r = false := by
  unfold rightT at h
  simp only [Bool.and_eq_true, Bool.not_eq_true', Bool.or_eq_false_iff, decide_eq_false_iff_not, Bool.not_eq_false'] at h
  obtain ⟨⟨h1, h2, h3, h4⟩, h5⟩ := h
  refine ⟨by omega, by omega, h3, h4, fun r hr => ?_⟩
  rw [List.any_eq_false] at h5
  simpa using h5 r hr
theorem mend_same {t : Tbl} (h : rightT t = true) : mendT t = t := by
  obtain ⟨h1, h2, h3, h4, h5⟩ := right_all h
  have hc : mendCols t.cols = t.cols := by
    have hf : List.filter isSide t.cols.data.toList = t.cols.data.toList := by
      rw [List.filter_eq_self]
      rw [colsOk, List.all_eq_true] at h3
      exact h3
    have hl : t.cols.data.toList.length ≤ 20 := by rw [Array.length_toList]; exact h2
    unfold mendCols
    rw [hf, List.take_of_length_le hl, if_neg (fun hn => by
      have : t.cols.data.toList.length = 0 := by rw [hn]; rfl
      rw [Array.length_toList] at this
      have h1' : 0 < t.cols.data.size := h1
      omega)]
  have hr : t.rows.map (mendRow t.cols.size) = t.rows := by
    conv => rhs; rw [← List.map_id t.rows]
    refine List.map_congr_left fun r hr => ?_
    have hb := h5 r hr
    rw [mendRow_eq]
    obtain ⟨rule, cells⟩ := r
    cases hx : rule
    · subst hx
      simp [badRow] at hb
      obtain ⟨hb1, hb2⟩ := hb
      have : (List.range t.cols.size).map (cellM ⟨false, cells⟩) = cells := by
        refine List.ext_getElem (by simp [hb1]) fun k hk1 hk2 => ?_
        have hs := hb2 cells[k] (List.getElem_mem hk2)
        simp [cellM, hk2]
        simpa [sqzd] using hs
      simp [this]
    · subst hx
      simp [badRow] at hb
      simp [hb]
  have ha : (t.all && t.box) = t.all := by
    revert h4
    cases t.all <;> cases t.box <;> simp
  unfold mendT
  rw [hc, hr, ha]
end Go.Proofs.YtkjgkhgklkdbjaaGreatDoor.Ev
end
section
namespace Go.Proofs.YtkjgkhgklkdbjaaGreatDoor.Ev
open Go
def bareT (t : Tbl) : Bool := decide (t.cols = ByteArray.empty) && (t.rows.isEmpty && (!t.box && !t.all))
end Go.Proofs.YtkjgkhgklkdbjaaGreatDoor.Ev
end
section
namespace Go.Proofs.YtkjgkhgklkdbjaaGreatDoor.Ev
open Go
def okHas (x : Node) : Bool := (hasText x.kind || decide ((x.text.length : Int) = 0)) && ((hasKids x.kind || decide ((x.kids.length : Int) = 0)) && ((decide (x.kind = 6) || decide ((x.rows.length : Int) = 0)) && (hasN x.kind || decide (x.n = 0))))
def okN (inn : Int) (x : Node) : Bool := standsIn x.kind inn && (wholeN x && (decide (0 ≤ x.line) && (decide (x.line ≤ 1099511627775) && (decide (0 ≤ x.n) && (decide (x.n ≤ 200) && (sqzd x.text &&
  (okHas x && (if x.kind = 7 then rightT x.grid else bareT x.grid))))))))
mutual
def checkN (inn : Int) : Node → Bool
  | .mk kind line n text kids rows grid => okN inn (.mk kind line n text kids rows grid) && checkL kind kids
def checkL (inn : Int) : List Node → Bool
  | [] => true
  | x :: l => checkN inn x && checkL inn l
end
theorem checkN_eq (inn : Int) (x : Node) : checkN inn x = (okN inn x && checkL x.kind x.kids) := by cases x; rw [checkN]; rfl
theorem checkL_all (inn : Int) (l : List Node) : checkL inn l = l.all (checkN inn) := by
  induction l with
  | nil => rw [checkL]; rfl
  | cons x l ih => rw [checkL, ih]; rfl
end Go.Proofs.YtkjgkhgklkdbjaaGreatDoor.Ev
end
section
namespace Go.Proofs.YtkjgkhgklkdbjaaGreatDoor.Ev
open Go
@[simp] theorem range1 : ([0] = List.range 1) = True := eq_true rfl
@[simp] theorem range2 : ([0, 1] = List.range 2) = True := eq_true rfl
@[simp] theorem range3 : ([0, 1, 2] = List.range 3) = True := eq_true rfl
@[simp] theorem range4 : ([0, 1, 2, 3] = List.range 4) = True := eq_true rfl
@[simp] theorem sized_nil {n : Nat} : Sized n [] = True := eq_true fun p h => by simp at h
@[simp] theorem sized_int {k : IntKind} {n : Int} {l : List PV} : Sized 1 (PV.int k n :: l) = Sized 1 l := propext ⟨fun h p hp => h p (List.mem_cons_of_mem _ hp), fun h p hp => by
  rcases List.mem_cons.1 hp with rfl | hp
  · rfl
  · exact h p hp⟩
def checkD (d : Doc) : Int := if 20000 < Node.cntL d.kids ∨ 20 < Node.deeps d.kids then 3 else if checkL 0 d.kids = true then 0 else 2
end Go.Proofs.YtkjgkhgklkdbjaaGreatDoor.Ev
end
section
namespace Go.Proofs.YtkjgkhgklkdbjaaGreatDoor.Ev
open Go
theorem whole_kids {y : Node} (l : List Node) (h : y.kind ≠ 5) : wholeN (y.withKids l) = wholeN y := by
  by_cases h1 : y.kind = 1 ∨ y.kind = 2 ∨ y.kind = 3
  · simp [wholeN, h1]
  · simp [wholeN, h1, h]; rfl
theorem whole_five {y : Node} (x : Node) (l : List Node) (h : y.kind = 5) : wholeN (y.withKids (x :: l)) = true := by
  unfold wholeN
  simp [h]
end Go.Proofs.YtkjgkhgklkdbjaaGreatDoor.Ev
end
section
namespace Go.Proofs.YtkjgkhgklkdbjaaGreatDoor.Ev
open Go
theorem small_of {l : List Node} (h : sumBy Node.long l ≤ 1073741824) : ∀ x ∈ l, x.Small := fun x hx => by
  have := long_mem hx; unfold Node.Small; omega
end Go.Proofs.YtkjgkhgklkdbjaaGreatDoor.Ev
end
section
namespace Go.Proofs.YtkjgkhgklkdbjaaGreatDoor.Ev
open Go
namespace Node
theorem cntL_cons (x : Node) (l : List Node) : cntL (x :: l) = 1 + cntL x.kids + cntL l := by rw [cntL, cnt_eq]
theorem cntL_nil : cntL [] = 0 := by rw [cntL]
theorem deeps_cons (x : Node) (l : List Node) : deeps (x :: l) = max (1 + deeps x.kids) (deeps l) := by rw [deeps, deep_eq]
theorem sz_kids {x : Node} {l : List Node} {n : Nat} (hn : SizeOf.sizeOf (x :: l) < n + 1) : SizeOf.sizeOf x.kids < n ∧ SizeOf.sizeOf l < n := by
  cases x; simp at hn ⊢; omega
end Node
theorem clamp_id {m n : Int} (h0 : 0 ≤ n) (h1 : n ≤ m) : clamp m n = n := by
  unfold clamp
  split <;> split <;> omega
theorem withKids_nil (x : Node) (k : Int) : (ownN x k).withKids [] = ownN x k := rfl
theorem okN_all {inn : Int} {x : Node} (h : okN inn x = true) : standsIn x.kind inn = true ∧ wholeN x = true ∧ 0 ≤ x.line ∧ x.line ≤ 1099511627775 ∧ 0 ≤ x.n ∧ x.n ≤ 200 ∧ squeeze x.text = x.text ∧
    (hasText x.kind = true ∨ x.text = []) ∧ (hasKids x.kind = true ∨ x.kids = []) ∧ (x.kind = 6 ∨ x.rows = []) ∧ (hasN x.kind = true ∨ x.n = 0) ∧ (x.kind = 7 → rightT x.grid = true) ∧ (x.kind ≠ 7 → bareT x.grid = true) := by
  simp only [okN, okHas, Bool.and_eq_true, decide_eq_true_eq, Bool.or_eq_true, sqzd] at h
  obtain ⟨h1, h2, h3, h4, h5, h6, h7, ⟨h8, h9, h10, h11⟩, h12⟩ := h
  refine ⟨h1, h2, h3, h4, h5, h6, h7, h8.imp_right ?_, h9.imp_right ?_, h10.imp_right ?_, h11, ?_, ?_⟩
  · intro h; exact List.eq_nil_of_length_eq_zero (by omega)
  · intro h; exact List.eq_nil_of_length_eq_zero (by omega)
  · intro h; exact List.eq_nil_of_length_eq_zero (by omega)
  · intro h; rwa [if_pos h] at h12
  · intro h; rwa [if_neg h] at h12
theorem bareT_eq {t : Tbl} (h : bareT t = true) : t = noTbl := by
  obtain ⟨c, r, b, a⟩ := t
  simp [bareT] at h
  obtain ⟨h1, h2, h3, h4⟩ := h
  subst h1; subst h2; subst h3; subst h4
  rfl
theorem own_same {inn : Int} {x : Node} (h : okN inn x = true) : (ownN x x.kind).withKids x.kids = x := by
  obtain ⟨h1, h2, h3, h4, h5, h6, h7, h8, h9, h10, h11, h12, h13⟩ := okN_all h
  have e3 : (if hasN x.kind = true then clamp 200 x.n else 0) = x.n := by
    split
    · exact clamp_id h5 h6
    · rename_i hn
      rcases h11 with h | h
      · exact absurd h hn
      · exact h.symm
  have e4 : (if hasText x.kind = true then squeeze x.text else []) = x.text := by
    split
    · exact h7
    · rename_i hn
      rcases h8 with h | h
      · exact absurd h hn
      · exact h.symm
  have e5 : (if x.kind = 6 then x.rows else []) = x.rows := by
    split
    · rfl
    · rename_i hn
      rcases h10 with h | h
      · exact absurd h hn
      · exact h.symm
  have e6 : (if x.kind = 7 then mendT x.grid else noTbl) = x.grid := by
    split
    · rename_i h; exact mend_same (h12 h)
    · rename_i h; exact (bareT_eq (h13 h)).symm
  exact Node.ext' rfl (clamp_id h3 h4) e3 e4 e5 e6 rfl
theorem tidy_same : ∀ (n : Nat) (l : List Node), SizeOf.sizeOf l < n → ∀ (inn d : Int) (k : Nat), checkL inn l = true → Node.cntL l ≤ k → d + (Node.deeps l : Int) ≤ 20 → tidyL inn d k l = (l, k - Node.cntL l) := by
  intro n
  induction n with
  | zero => intro l h; omega
  | succ n ih =>
    intro l hn inn d k hc hk hd
    cases l with
    | nil => rw [tidyL, Node.cntL_nil]; rfl
    | cons x l =>
      obtain ⟨hx1, hx2⟩ := Node.sz_kids hn
      rw [Node.cntL_cons] at hk ⊢
      rw [Node.deeps_cons] at hd
      rw [checkL_all, List.all_cons, Bool.and_eq_true, checkN_eq, Bool.and_eq_true, ← checkL_all] at hc
      obtain ⟨⟨hok, hkids⟩, hrest⟩ := hc
      obtain ⟨h1, h2, h3, h4, h5, h6, h7, h8, h9, h10, h11, h12, h13⟩ := okN_all hok
      have hsame := own_same hok
      have hN : tidyN inn d k x = ([x], k - 1 - Node.cntL x.kids) := by
        rw [tidyN_eq]
        have hA : ¬((x.kind = 1 ∨ x.kind = 2) ∧ standsIn x.kind inn = false) := by rw [h1]; simp
        rw [if_neg hA]
        rcases h9 with hkd | hkd
        · have r := ih x.kids hx1 x.kind (d + 1) (k - 1) hkids (by omega) (by omega)
          have hz : wholeN ((ownN x x.kind).withKids [Node.zero]) = true := by
            by_cases h5 : x.kind = 5
            · exact whole_five _ _ h5
            · rw [whole_kids (y := ownN x x.kind) _ h5]
              rw [← whole_kids (y := ownN x x.kind) x.kids h5, hsame]
              exact h2
          rw [if_pos hkd, if_pos hz, r]
          simp only [hsame, h2, if_true]
        · have h0 : tidyL x.kind (d + 1) (k - 1) x.kids = ([], k - 1) := by rw [hkd, tidyL]
          have hs0 : ownN x x.kind = x := by rw [← withKids_nil, ← hkd]; exact hsame
          have hs1 : (ownN x x.kind).withKids [] = x := by rw [withKids_nil]; exact hs0
          cases hkk : hasKids x.kind
          · simp only [hs0, h2, if_true, Bool.false_eq_true, if_false, hkd, Node.cntL_nil, Nat.sub_zero]
          · have hz : wholeN ((ownN x x.kind).withKids [Node.zero]) = true := by
              by_cases h5 : x.kind = 5
              · exact whole_five _ _ h5
              · rw [whole_kids (y := ownN x x.kind) _ h5]
                rw [hs0]; exact h2
            rw [if_pos rfl, if_pos hz, h0]
            simp only [hs1, h2, if_true, hkd, Node.cntL_nil, Nat.sub_zero]
      have r2 := ih l hx2 inn d (k - 1 - Node.cntL x.kids) hrest (by omega) (by omega)
      rw [tidyL, if_neg (by omega), if_neg (by omega), hN]
      simp only [r2]
      refine Prod.ext rfl ?_
      simp only; omega
theorem tidyD_same {d : Doc} (h : checkD d = 0) : tidyD d = d := by
  unfold checkD at h
  split at h
  · simp at h
  · rename_i hn
    split at h
    · rename_i hc
      unfold tidyD
      rw [tidy_same _ d.kids (Nat.lt_succ_self _) 0 0 20000 hc (by omega) (by omega)]
    · simp at h
end Go.Proofs.YtkjgkhgklkdbjaaGreatDoor.Ev
end
