/- Of what the law LowerGaps needs: part 10. -/
import Derived.Shelf.Strings.SlTrimAscii
import Derived.Test.YtlnnnfogbakimaaDoorBLG9
set_option linter.unusedSimpArgs false
set_option linter.unusedVariables false
section
namespace Go.Proofs.YtlnnnfogbakimaaDoor.Ev
open Go
def sqzd (l : List Glyph) : Bool := decide (squeeze l = l)
def badRow (n : Nat) (r : TRow) : Bool := if r.rule = true then decide (0 < r.cells.length) else !decide (r.cells.length = n) || r.cells.any fun c => !sqzd c
def colsOk (c : ByteArray) : Bool := c.data.toList.all isSide
def rightT (t : Tbl) : Bool := !(decide (t.cols.size = 0) || (decide (20 < t.cols.size) || (!colsOk t.cols || (t.all && !t.box)))) && !t.rows.any (badRow t.cols.size)
end Go.Proofs.YtlnnnfogbakimaaDoor.Ev
end
section
namespace Go.Proofs.YtlnnnfogbakimaaDoor.Ev
open Go
def trimG (l : List Glyph) : List Glyph := (l.reverse.dropWhile Glyph.blank).reverse
def ends (l : List Glyph) : Nat := (trimG l).length
theorem sqAll_app (l m : List Glyph) : sqAll (l ++ m) = m.foldl sqStep (sqAll l) := by rw [sqAll, List.foldl_append]; rfl
end Go.Proofs.YtlnnnfogbakimaaDoor.Ev
end
section
namespace Go.Proofs.YtlnnnfogbakimaaDoor.Ev
open Go
theorem squeeze_idem (l : List Glyph) : squeeze (squeeze l) = squeeze l := by
  have : ∀ (l : List Glyph) (s : List Glyph × Bool), sqAll s.1 = (s.1, false) → sqAll (l.foldl sqStep s).1 = ((l.foldl sqStep s).1, false) := by
    intro l
    induction l with
    | nil => intro s h; exact h
    | cons g l ih =>
      intro s h
      rw [List.foldl_cons]
      refine ih _ ?_
      unfold sqStep
      split
      · exact h
      · rename_i hg
        simp only
        split
        · rename_i hw
          rw [List.append_assoc, sqAll_app, h]
          simp [sqStep, hg, hw.2]
        · rw [sqAll_app, h]
          simp [sqStep, hg]
  have := this l ([], false) rfl
  rw [squeeze, squeeze]
  rw [show sqAll (sqAll l).1 = ((sqAll l).1, false) from this]
theorem sqzd_squeeze (l : List Glyph) : sqzd (squeeze l) = true := by simp [sqzd, squeeze_idem]
theorem sqzd_nil : sqzd [] = true := by decide
theorem cellM_sq (r : TRow) (k : Nat) : sqzd (cellM r k) = true := by
  unfold cellM
  split
  · exact sqzd_squeeze _
  · exact sqzd_nil
theorem mendCols_ok (c : ByteArray) : 0 < (mendCols c).size ∧ (mendCols c).size ≤ 20 ∧ colsOk (mendCols c) = true := by
  unfold mendCols
  by_cases h : List.take 20 (List.filter isSide c.data.toList) = []
  · rw [if_pos h]; decide
  · rw [if_neg h]
    refine ⟨?_, ?_, ?_⟩
    · show 0 < (List.take 20 (List.filter isSide c.data.toList)).toArray.size
      rw [List.size_toArray]; exact List.length_pos_iff.2 h
    · show (List.take 20 (List.filter isSide c.data.toList)).toArray.size ≤ 20
      rw [List.size_toArray, List.length_take]; omega
    · rw [colsOk, List.all_eq_true]
      intro b hb
      have hb' : b ∈ List.take 20 (List.filter isSide c.data.toList) := by simpa using hb
      exact (List.mem_filter.1 (List.mem_of_mem_take hb')).2
theorem mend_right (t : Tbl) : rightT (mendT t) = true := by
  obtain ⟨h1, h2, h3⟩ := mendCols_ok t.cols
  have hr : (mendT t).rows.any (badRow (mendT t).cols.size) = false := by
    rw [List.any_eq_false]
    intro r hr
    obtain ⟨x, _, rfl⟩ := List.mem_map.1 hr
    show ¬ badRow (mendCols t.cols).size (mendRow (mendCols t.cols).size x) = true
    rw [mendRow_eq]
    cases hx : x.rule
    · have hany : ((List.range (mendCols t.cols).size).map (cellM x)).any (fun c => !sqzd c) = false := by
        rw [List.any_eq_false]
        intro c hc
        obtain ⟨k, _, rfl⟩ := List.mem_map.1 hc
        simp [cellM_sq]
      simp only [badRow, hany]
      simp [cellM_sq]
    · simp [badRow]
  have ha : ((mendT t).all && !(mendT t).box) = false := by
    show ((t.all && t.box) && !t.box) = false
    cases t.all <;> cases t.box <;> rfl
  unfold rightT
  rw [hr, ha, show (mendT t).cols = mendCols t.cols from rfl, h3]
  have e1 : decide ((mendCols t.cols).size = 0) = false := decide_eq_false (by omega)
  have e2 : decide (20 < (mendCols t.cols).size) = false := decide_eq_false (by omega)
  rw [e1, e2]; rfl
theorem TblS.ok {t : Tbl} (h : TblS t) : t.ok := ⟨by have := h.rows; omega, fun r hr => ⟨by have := (h.cells r hr).1; omega, fun c hc => by have := (h.cells r hr).2 c hc; omega⟩⟩
end Go.Proofs.YtlnnnfogbakimaaDoor.Ev
end
section
namespace Go.Proofs.YtlnnnfogbakimaaDoor.Ev
open Go
def bareT (t : Tbl) : Bool := decide (t.cols = ByteArray.empty) && (t.rows.isEmpty && (!t.box && !t.all))
end Go.Proofs.YtlnnnfogbakimaaDoor.Ev
end
section
namespace Go.Proofs.YtlnnnfogbakimaaDoor.Ev
open Go
def okHas (x : Node) : Bool := (hasText x.kind || decide ((x.text.length : Int) = 0)) && ((hasKids x.kind || decide ((x.kids.length : Int) = 0)) && ((decide (x.kind = 6) || decide ((x.rows.length : Int) = 0)) && (hasN x.kind || decide (x.n = 0))))
def okN (inn : Int) (x : Node) : Bool := standsIn x.kind inn && (wholeN x && (decide (0 ≤ x.line) && (decide (x.line ≤ 1099511627775) && (decide (0 ≤ x.n) && (decide (x.n ≤ 200) && (sqzd x.text &&
  (okHas x && (if x.kind = 7 then rightT x.grid else bareT x.grid))))))))
mutual
def checkN (inn : Int) : Node → Bool
  | .mk kind line n text kids rows grid => okN inn (.mk kind line n text kids rows grid) && checkL kind kids
def checkL (inn : Int) : List Node → Bool
  | [] => true
  | x :: l => checkN inn x && checkL inn l
end
theorem checkN_eq (inn : Int) (x : Node) : checkN inn x = (okN inn x && checkL x.kind x.kids) := by cases x; rw [checkN]; rfl
theorem checkL_all (inn : Int) (l : List Node) : checkL inn l = l.all (checkN inn) := by
  induction l with
  | nil => rw [checkL]; rfl
  | cons x l ih => rw [checkL, ih]; rfl
end Go.Proofs.YtlnnnfogbakimaaDoor.Ev
end
section
namespace Go.Proofs.YtlnnnfogbakimaaDoor.Ev
open Go
@[simp] theorem range1 : ([0] = List.range 1) = True := eq_true rfl
@[simp] theorem range2 : ([0, 1] = List.range 2) = True := eq_true rfl
@[simp] theorem range3 : ([0, 1, 2] = List.range 3) = True := eq_true rfl
@[simp] theorem range4 : ([0, 1, 2, 3] = List.range 4) = True := eq_true rfl
@[simp] theorem sized_nil {n : Nat} : Sized n [] = True := eq_true fun p h => by simp at h
@[simp] theorem sized_int {k : IntKind} {n : Int} {l : List PV} : Sized 1 (PV.int k n :: l) = Sized 1 l := propext ⟨fun h p hp => h p (List.mem_cons_of_mem _ hp), fun h p hp => by
  rcases List.mem_cons.1 hp with rfl | hp
  · rfl
  · exact h p hp⟩
end Go.Proofs.YtlnnnfogbakimaaDoor.Ev
end
section
namespace Go.Proofs.YtlnnnfogbakimaaDoor.Ev
open Go
theorem whole_kids {y : Node} (l : List Node) (h : y.kind ≠ 5) : wholeN (y.withKids l) = wholeN y := by
  by_cases h1 : y.kind = 1 ∨ y.kind = 2 ∨ y.kind = 3
  · simp [wholeN, h1]
  · simp [wholeN, h1, h]; rfl
theorem whole_five {y : Node} (x : Node) (l : List Node) (h : y.kind = 5) : wholeN (y.withKids (x :: l)) = true := by
  unfold wholeN
  simp [h]
theorem ownN_kind (x : Node) (k : Int) : (ownN x k).kind = k := rfl
theorem ownN_kids (x : Node) (k : Int) : (ownN x k).kids = [] := rfl
end Go.Proofs.YtlnnnfogbakimaaDoor.Ev
end
section
namespace Go.Proofs.YtlnnnfogbakimaaDoor.Ev
open Go
theorem sumBy_cons {α : Type} (f : α → Nat) (x : α) (l : List α) : sumBy f (x :: l) = f x + sumBy f l := rfl
theorem squeeze_len (l : List Glyph) : (squeeze l).length ≤ 2 * l.length := sqAll_len l
theorem cellM_sum (r : TRow) (n : Nat) : sumBy List.length ((List.range n).map (cellM r)) ≤ 2 * sumBy List.length r.cells := by
  have key : ∀ m, sumBy List.length ((List.range m).map (cellM r)) ≤ 2 * sumBy List.length (r.cells.take m) := by
    intro m
    induction m with
    | zero => simp [sumBy]
    | succ m ih =>
      rw [List.range_succ, List.map_append, sumBy_append]
      simp only [List.map_cons, List.map_nil, sumBy]
      by_cases hm : m < r.cells.length
      · rw [sumBy_take _ hm]
        have e : cellM r m = squeeze r.cells[m] := by simp [cellM, hm]
        rw [e]
        have := squeeze_len r.cells[m]
        omega
      · have e : cellM r m = [] := by simp [cellM, hm]
        rw [e]
        rw [List.take_of_length_le (by omega)] at ih
        rw [List.take_of_length_le (by omega)]
        simp; omega
  have := key n; have := sumBy_take_le List.length r.cells n; omega
theorem mendRow_long (n : Nat) (hn : n ≤ 20) (r : TRow) : trowLong (mendRow n r) ≤ 2 * trowLong r + 20 := by
  rw [mendRow_eq]
  unfold trowLong
  cases hr : r.rule
  · have := cellM_sum r n
    simp; omega
  · simp [sumBy]
theorem mendT_long (t : Tbl) : (mendT t).cols.size + sumBy trowLong (mendT t).rows ≤ 20 + 22 * sumBy trowLong t.rows := by
  obtain ⟨c1, c2, c3⟩ := mendCols_ok t.cols
  have key : ∀ l : List TRow, sumBy trowLong (l.map (mendRow (mendCols t.cols).size)) ≤ 22 * sumBy trowLong l := by
    intro l
    induction l with
    | nil => simp [sumBy]
    | cons r l ih =>
      rw [List.map_cons, sumBy_cons, sumBy_cons]
      have := mendRow_long _ c2 r
      have : 1 ≤ trowLong r := by unfold trowLong; omega
      omega
  have := key t.rows
  show (mendCols t.cols).size + sumBy trowLong (t.rows.map _) ≤ _
  omega
def Node.own1 (x : Node) : Nat := 3 + x.text.length + x.grid.cols.size + rowsLong x.rows + sumBy trowLong x.grid.rows
theorem Node.long_own (x : Node) : x.long = x.own1 + sumBy Node.long x.kids := by rw [Node.long_eq, Node.own1]; omega
theorem ownN_long (x : Node) (k : Int) : (ownN x k).own1 ≤ 24 * x.own1 := by
  have h1 := squeeze_len x.text
  have h2 := mendT_long x.grid
  unfold ownN Node.own1
  simp only [Node.text_mk, Node.rows_mk, Node.grid_mk]
  have e1 : (if hasText k = true then squeeze x.text else []).length ≤ 2 * x.text.length := by
    split
    · exact h1
    · exact Nat.zero_le _
  have e2 : rowsLong (if k = 6 then x.rows else []) ≤ rowsLong x.rows := by
    split
    · omega
    · simp [rowsLong, sumBy]
  have e3 : (if k = 7 then mendT x.grid else noTbl).cols.size + sumBy trowLong (if k = 7 then mendT x.grid else noTbl).rows ≤ 20 + 22 * sumBy trowLong x.grid.rows := by
    split
    · exact h2
    · simp [noTbl, sumBy]
  omega
theorem own1_wk (x : Node) (l : List Node) : (x.withKids l).own1 = x.own1 := rfl
theorem tidy_long : ∀ (n : Nat) (l : List Node), SizeOf.sizeOf l < n → ∀ inn d k, sumBy Node.long (tidyL inn d k l).1 ≤ 24 * sumBy Node.long l := by
  intro n
  induction n with
  | zero => intro l h; omega
  | succ n ih =>
    intro l hn inn d k
    cases l with
    | nil => rw [tidyL]; simp [sumBy]
    | cons x l =>
      have hx : SizeOf.sizeOf x.kids < n ∧ SizeOf.sizeOf l < n := by
        cases x; simp at hn ⊢; omega
      rw [tidyL, sumBy_cons]
      split
      · simp [sumBy]
      · split
        · have := ih l hx.2 inn d k; omega
        · have h1 : sumBy Node.long (tidyN inn d k x).1 ≤ 24 * x.long := by
            rw [tidyN_eq, Node.long_own x]
            have h1 := ih x.kids hx.1 inn d (k - 1)
            have h2 := ih x.kids hx.1 x.kind (d + 1) (k - 1)
            have o1 := ownN_long x 3
            have o2 := ownN_long x x.kind
            have z1 : (ownN x 3).long = (ownN x 3).own1 := by rw [Node.long_own, ownN_kids]; rfl
            have z2 : (ownN x x.kind).long = (ownN x x.kind).own1 := by rw [Node.long_own, ownN_kids]; rfl
            have z3 : ∀ m : List Node, ((ownN x x.kind).withKids m).long = (ownN x x.kind).own1 + sumBy Node.long m := fun m => by rw [Node.long_own, own1_wk, Node.kids_wk]
            split
            · simp only [sumBy_append]
              split
              · simp only [sumBy]; omega
              · simp only [sumBy]; omega
            · split
              · simp only
                split <;> split
                all_goals
                  try simp only [sumBy, z3]
                  omega
              · split
                · simp only [sumBy]; omega
                · simp only [sumBy]; omega
          have h2 := ih l hx.2 inn d (tidyN inn d k x).2
          simp only [sumBy_append]; omega
theorem Node.Small.ok : ∀ (n : Nat) (x : Node), SizeOf.sizeOf x < n → x.Small → x.Ok := by
  intro n
  induction n with
  | zero => intro x h; omega
  | succ n ih =>
    intro x hn hx
    obtain ⟨kind, line, m, text, kids, rows, grid⟩ := x
    have h1 := hx.text
    have h2 := hx.kids
    have h3 := hx.rows
    simp at h1 h2 h3
    refine .mk (by omega) (by omega) (fun y hy => ih y ?_ (h2.2 y hy)) (by omega) (fun r hr => by have := h3.2 r hr; omega) hx.tbl.ok
    simp at hn; have := List.sizeOf_lt_of_mem hy; omega
theorem small_of {l : List Node} (h : sumBy Node.long l ≤ 1073741824) : ∀ x ∈ l, x.Small := fun x hx => by
  have := long_mem hx; unfold Node.Small; omega
theorem ok_of {l : List Node} (h : sumBy Node.long l ≤ 1073741824) : ∀ x ∈ l, x.Ok := fun x hx => Node.Small.ok _ x (Nat.lt_succ_self _) (small_of h x hx)
end Go.Proofs.YtlnnnfogbakimaaDoor.Ev
end
section
namespace Go.Proofs.YtlnnnfogbakimaaDoor.Ev
open Go
theorem short_of {l : List Node} (h : tooLong l = false) (hb : sumBy Node.long l ≤ 1073741824) : sumBy Node.long l ≤ 600 := by
  simp [tooLong] at h
  have := h.1
  rw [wrap64 (by omega) (by omega)] at this
  omega
end Go.Proofs.YtlnnnfogbakimaaDoor.Ev
end
section
namespace Go.Proofs.YtlnnnfogbakimaaDoor.Ev
open Go
namespace Node
theorem cntL_append (l m : List Node) : cntL (l ++ m) = cntL l + cntL m := by
  induction l with
  | nil => simp [cntL]
  | cons x l ih => rw [List.cons_append, cntL, cntL, ih]; omega
theorem cntL_cons (x : Node) (l : List Node) : cntL (x :: l) = 1 + cntL x.kids + cntL l := by rw [cntL, cnt_eq]
theorem cntL_nil : cntL [] = 0 := by rw [cntL]
theorem deeps_cons (x : Node) (l : List Node) : deeps (x :: l) = max (1 + deeps x.kids) (deeps l) := by rw [deeps, deep_eq]
theorem deeps_nil : deeps [] = 0 := by rw [deeps]
theorem sz_kids {x : Node} {l : List Node} {n : Nat} (hn : SizeOf.sizeOf (x :: l) < n + 1) : SizeOf.sizeOf x.kids < n ∧ SizeOf.sizeOf l < n := by
  cases x; simp at hn ⊢; omega
end Node
theorem tidyN_ind {n : Nat} {P : Int → Int → Nat → List Node → List Node × Nat → Prop} (x : Node) (inn d : Int) (k : Nat)
    (hA : (x.kind = 1 ∨ x.kind = 2) ∧ standsIn x.kind inn = false → P inn d k [x] ((if wholeN (ownN x 3) = true then [ownN x 3] else []) ++ (tidyL inn d (k - 1) x.kids).1, (tidyL inn d (k - 1) x.kids).2))
    (hB : ¬((x.kind = 1 ∨ x.kind = 2) ∧ standsIn x.kind inn = false) → hasKids x.kind = true → wholeN ((ownN x x.kind).withKids (tidyL x.kind (d + 1) (k - 1) x.kids).1) = true → P inn d k [x] ([(ownN x x.kind).withKids (tidyL x.kind (d + 1) (k - 1) x.kids).1], (tidyL x.kind (d + 1) (k - 1) x.kids).2))
    (hB0 : hasKids x.kind = true → (tidyL x.kind (d + 1) (k - 1) x.kids).1 = [] → P inn d k [x] ([], (tidyL x.kind (d + 1) (k - 1) x.kids).2))
    (hC : hasKids x.kind = true → P inn d k [x] (tidyL inn d (k - 1) x.kids))
    (hD : hasKids x.kind = false → P inn d k [x] (if wholeN (ownN x x.kind) = true then [ownN x x.kind] else [], k - 1)) : P inn d k [x] (tidyN inn d k x) := by
  rw [tidyN_eq]
  by_cases h1 : (x.kind = 1 ∨ x.kind = 2) ∧ standsIn x.kind inn = false
  · rw [if_pos h1]; exact hA h1
  rw [if_neg h1]
  cases hk : hasKids x.kind
  · simp only [Bool.false_eq_true, if_false]
    exact hD hk
  simp only [if_true]
  by_cases h5 : x.kind = 5
  · have hz : wholeN ((ownN x x.kind).withKids [Node.zero]) = true := whole_five _ _ h5
    rw [if_pos hz]
    by_cases hw : wholeN ((ownN x x.kind).withKids (tidyL x.kind (d + 1) (k - 1) x.kids).1) = true
    · rw [if_pos hw]; exact hB h1 hk hw
    · rw [if_neg hw]
      have hr : (tidyL x.kind (d + 1) (k - 1) x.kids).1 = [] := by
        simp [wholeN, ownN_kind, h5] at hw ⊢
        exact hw
      have := hB0 hk hr
      rw [hr]
      exact this
  · have hz : ∀ l, wholeN ((ownN x x.kind).withKids l) = wholeN (ownN x x.kind) := fun l => whole_kids l h5
    by_cases hw : wholeN (ownN x x.kind) = true
    · have h2 : wholeN ((ownN x x.kind).withKids (tidyL x.kind (d + 1) (k - 1) x.kids).1) = true := by rw [hz]; exact hw
      have h0 : wholeN ((ownN x x.kind).withKids [Node.zero]) = true := by rw [hz]; exact hw
      rw [if_pos h0, if_pos h2]
      exact hB h1 hk h2
    · have h0 : ¬ wholeN ((ownN x x.kind).withKids [Node.zero]) = true := by rw [hz]; exact hw
      have h2 : ¬ wholeN ((ownN x x.kind).withKids (tidyL inn d (k - 1) x.kids).1) = true := by rw [hz]; exact hw
      rw [if_neg h0, if_neg h2]
      exact hC hk
theorem tidy_count : ∀ (n : Nat) (l : List Node), SizeOf.sizeOf l < n → ∀ inn d k, Node.cntL (tidyL inn d k l).1 + (tidyL inn d k l).2 ≤ k ∧ Node.cntL (tidyL inn d k l).1 ≤ Node.cntL l ∧ Node.deeps (tidyL inn d k l).1 ≤ Node.deeps l ∧ (d ≤ 20 → d + Node.deeps (tidyL inn d k l).1 ≤ 20) := by
  intro n
  induction n with
  | zero => intro l h; omega
  | succ n ih =>
    intro l hn inn d k
    cases l with
    | nil => rw [tidyL]; simp [Node.cntL_nil, Node.deeps_nil]
    | cons x l =>
      obtain ⟨hx1, hx2⟩ := Node.sz_kids hn
      rw [tidyL, Node.cntL_cons, Node.deeps_cons]
      split
      · simp [Node.cntL_nil, Node.deeps_nil]
      · split
        · have := ih l hx2 inn d k; omega
        · have h1 := tidyN_ind (n := n) (P := fun inn d k l r => 0 < k → d < 20 → Node.cntL r.1 + r.2 ≤ k ∧ Node.cntL r.1 ≤ Node.cntL l ∧ Node.deeps r.1 ≤ Node.deeps l ∧ d + Node.deeps r.1 ≤ 20) x inn d k
            (fun _ hk hd => by
              have := ih x.kids hx1 inn d (k - 1)
              have c0 := Node.cntL_nil
              have d0 := Node.deeps_nil
              simp only [Node.cntL_append, Node.deeps_append, Node.cntL_cons, Node.deeps_cons]
              split
              · simp only [Node.cntL_cons, Node.deeps_cons, ownN_kids]; omega
              · omega)
            (fun _ _ _ hk hd => by
              have := ih x.kids hx1 x.kind (d + 1) (k - 1)
              have c0 := Node.cntL_nil
              have d0 := Node.deeps_nil
              simp only [Node.cntL_cons, Node.deeps_cons, Node.kids_wk]
              omega)
            (fun _ hr hk hd => by
              have := ih x.kids hx1 x.kind (d + 1) (k - 1)
              have c0 := Node.cntL_nil
              have d0 := Node.deeps_nil
              simp only [Node.cntL_cons, Node.deeps_cons]
              omega)
            (fun _ hk hd => by
              have := ih x.kids hx1 inn d (k - 1)
              have c0 := Node.cntL_nil
              have d0 := Node.deeps_nil
              simp only [Node.cntL_cons, Node.deeps_cons]
              omega)
            (fun _ hk hd => by
              have c0 := Node.cntL_nil
              have d0 := Node.deeps_nil
              simp only [Node.cntL_cons, Node.deeps_cons]
              split
              · simp only [Node.cntL_cons, Node.deeps_cons, ownN_kids]; omega
              · omega) (by omega) (by omega)
          have h2 := ih l hx2 inn d (tidyN inn d k x).2
          have c0 := Node.cntL_nil
          have d0 := Node.deeps_nil
          rw [Node.cntL_cons, Node.deeps_cons] at h1
          simp only [Node.cntL_append, Node.deeps_append]
          omega
theorem checkL_append (inn : Int) (l m : List Node) : checkL inn (l ++ m) = (checkL inn l && checkL inn m) := by rw [checkL_all, checkL_all, checkL_all, List.all_append]
theorem bareT_none : bareT noTbl = true := by decide
theorem clamp_in (m n : Int) (h : 0 ≤ m) : 0 ≤ clamp m n ∧ clamp m n ≤ m := by
  unfold clamp
  split <;> split <;> omega
theorem okN_own (inn : Int) (x : Node) (k : Int) (l : List Node) (hst : standsIn k inn = true) (hw : wholeN ((ownN x k).withKids l) = true) (hl : hasKids k = true ∨ l = []) : okN inn ((ownN x k).withKids l) = true := by
  have c1 := clamp_in 1099511627775 x.line (by omega)
  have c2 := clamp_in 200 x.n (by omega)
  have e1 : ((ownN x k).withKids l).kind = k := rfl
  have e2 : ((ownN x k).withKids l).line = clamp 1099511627775 x.line := rfl
  have e3 : ((ownN x k).withKids l).n = if hasN k = true then clamp 200 x.n else 0 := rfl
  have e4 : ((ownN x k).withKids l).text = if hasText k = true then squeeze x.text else [] := rfl
  have e5 : ((ownN x k).withKids l).rows = if k = 6 then x.rows else [] := rfl
  have e6 : ((ownN x k).withKids l).grid = if k = 7 then mendT x.grid else noTbl := rfl
  have e7 : ((ownN x k).withKids l).kids = l := rfl
  unfold okN okHas
  rw [e1, e2, e3, e4, e5, e6, e7, hst, hw]
  have n0 : 0 ≤ (if hasN k = true then clamp 200 x.n else 0) ∧ (if hasN k = true then clamp 200 x.n else 0) ≤ 200 := by split <;> omega
  have s0 : sqzd (if hasText k = true then squeeze x.text else []) = true := by
    split
    · exact sqzd_squeeze _
    · exact sqzd_nil
  have g0 : (if k = 7 then rightT (if k = 7 then mendT x.grid else noTbl) else bareT (if k = 7 then mendT x.grid else noTbl)) = true := by
    by_cases h7 : k = 7
    · rw [if_pos h7, if_pos h7]; exact mend_right _
    · rw [if_neg h7, if_neg h7]; exact bareT_none
  have t0 : (hasText k || decide (((if hasText k = true then squeeze x.text else []).length : Int) = 0)) = true := by cases hasText k <;> simp
  have k0 : (hasKids k || decide ((l.length : Int) = 0)) = true := by
    rcases hl with h | h
    · rw [h]; rfl
    · rw [h]; simp
  have r0 : (decide (k = 6) || decide (((if k = 6 then x.rows else []).length : Int) = 0)) = true := by
    by_cases h6 : k = 6
    · simp [h6]
    · simp [h6]
  have m0 : (hasN k || decide ((if hasN k = true then clamp 200 x.n else 0) = 0)) = true := by cases hasN k <;> simp
  rw [decide_eq_true c1.1, decide_eq_true c1.2, decide_eq_true n0.1, decide_eq_true n0.2, s0, g0, t0, k0, r0, m0]
  rfl
theorem withKids_nil (x : Node) (k : Int) : (ownN x k).withKids [] = ownN x k := rfl
theorem stands3 (inn : Int) : standsIn 3 inn = true := by unfold standsIn; simp
theorem stands_of {k inn : Int} (h : ¬((k = 1 ∨ k = 2) ∧ standsIn k inn = false)) (hk : hasKids k = true) : standsIn k inn = true := by
  cases hs : standsIn k inn
  · rw [hs] at h
    simp [standsIn] at hs
    simp [hasKids] at hk
    exfalso
    apply h
    refine ⟨?_, rfl⟩
    by_cases h1 : k = 1
    · exact .inl h1
    · by_cases h2 : k = 2
      · exact .inr h2
      · simp [h1, h2] at hs; omega
  · rfl
theorem tidy_check : ∀ (n : Nat) (l : List Node), SizeOf.sizeOf l < n → ∀ inn d k, checkL inn (tidyL inn d k l).1 = true := by
  intro n
  induction n with
  | zero => intro l h; omega
  | succ n ih =>
    intro l hn inn d k
    cases l with
    | nil => rw [tidyL]; rfl
    | cons x l =>
      obtain ⟨hx1, hx2⟩ := Node.sz_kids hn
      rw [tidyL]
      split
      · rfl
      · split
        · exact ih l hx2 inn d k
        · rw [checkL_append, ih l hx2, Bool.and_true]
          refine tidyN_ind (n := n) (P := fun inn d k l r => checkL inn r.1 = true) x inn d k ?_ ?_ ?_ ?_ ?_
          · intro _
            rw [checkL_append, ih x.kids hx1, Bool.and_true]
            split
            · rename_i hw
              rw [checkL_all, List.all_cons, List.all_nil, checkN_eq, ownN_kids]
              rw [← withKids_nil] at hw
              have := okN_own inn x 3 [] (stands3 inn) hw (.inr rfl)
              rw [withKids_nil] at this
              rw [this]; rfl
            · rfl
          · intro h1 hk hw
            rw [checkL_all, List.all_cons, List.all_nil, checkN_eq, okN_own inn x x.kind _ (stands_of h1 hk) hw (.inl hk), Node.kids_wk, Node.kind_wk, ownN_kind, ih x.kids hx1]
            rfl
          · intro _ _; rfl
          · intro _; exact ih x.kids hx1 inn d (k - 1)
          · intro hk
            simp only
            split
            · rename_i hw
              rw [checkL_all, List.all_cons, List.all_nil, checkN_eq, ownN_kids]
              have hst : standsIn x.kind inn = true := by
                have hkk : x.kind ≠ 1 ∧ x.kind ≠ 2 ∧ x.kind ≠ 4 ∧ x.kind ≠ 5 := by simp [hasKids] at hk; omega
                unfold wholeN at hw
                rw [ownN_kind] at hw
                unfold standsIn
                rw [if_neg hkk.1, if_neg hkk.2.1]
                by_cases h3 : x.kind = 3
                · rw [h3]; rfl
                · by_cases h6 : x.kind = 6
                  · rw [h6]; rfl
                  · by_cases h7 : x.kind = 7
                    · rw [h7]; rfl
                    · simp [hkk, h3, h6, h7] at hw
              rw [← withKids_nil] at hw
              have := okN_own inn x x.kind [] hst hw (.inr rfl)
              rw [withKids_nil] at this
              rw [this]; rfl
            · rfl
theorem okN_all {inn : Int} {x : Node} (h : okN inn x = true) : standsIn x.kind inn = true ∧ wholeN x = true ∧ 0 ≤ x.line ∧ x.line ≤ 1099511627775 ∧ 0 ≤ x.n ∧ x.n ≤ 200 ∧ squeeze x.text = x.text ∧
    (hasText x.kind = true ∨ x.text = []) ∧ (hasKids x.kind = true ∨ x.kids = []) ∧ (x.kind = 6 ∨ x.rows = []) ∧ (hasN x.kind = true ∨ x.n = 0) ∧ (x.kind = 7 → rightT x.grid = true) ∧ (x.kind ≠ 7 → bareT x.grid = true) := by
  simp only [okN, okHas, Bool.and_eq_true, decide_eq_true_eq, Bool.or_eq_true, sqzd] at h
  obtain ⟨h1, h2, h3, h4, h5, h6, h7, ⟨h8, h9, h10, h11⟩, h12⟩ := h
  refine ⟨h1, h2, h3, h4, h5, h6, h7, h8.imp_right ?_, h9.imp_right ?_, h10.imp_right ?_, h11, ?_, ?_⟩
  · intro h; exact List.eq_nil_of_length_eq_zero (by omega)
  · intro h; exact List.eq_nil_of_length_eq_zero (by omega)
  · intro h; exact List.eq_nil_of_length_eq_zero (by omega)
  · intro h; rwa [if_pos h] at h12
  · intro h; rwa [if_neg h] at h12
end Go.Proofs.YtlnnnfogbakimaaDoor.Ev
end
