/- Of what the law LowerGaps needs: part 11. -/
import Derived.Test.YtlnnnfogbakimaaDoorBLG6
import Derived.Test.YtlnnnfogbakimaaDoorBLG10
set_option linter.unusedSimpArgs false
set_option linter.unusedVariables false
section
namespace Go.Proofs.YtlnnnfogbakimaaDoor.Ev
open Go
def flowB (line inn room : Int) (tag text : List Glyph) : Block := ⟨3, line, inn, false, room, tag, text, [], noTbl⟩
mutual
def gN (inn : Int) (out : List Block) : Node → List Block
  | .mk kind line n text kids rows grid =>
    if kind = 1 then gL inn (layB out ⟨1, line, 0, false, 0, [], strong text, [], noTbl⟩) kids
    else if kind = 2 then gL inn (layB out ⟨2, line, 3, false, 0, [], strong text, [], noTbl⟩) kids
    else if kind = 3 then gL inn (layB out (flowB line inn 0 [] text)) kids
    else if kind = 4 then gT inn line n text out kids
    else if kind = 5 then gL (inn + n) out kids
    else if kind = 6 then gL inn (layB out ⟨4, line, inn, false, 0, [], [], rows, noTbl⟩) kids
    else if kind = 7 then gL inn (layB out ⟨5, line, inn, false, 0, [], [], [], mendT grid⟩) kids
    else gL inn out kids
def gT (inn line n : Int) (text : List Glyph) (out : List Block) : List Node → List Block
  | [] => layB out (flowB line inn n text [])
  | y :: rest => if y.kind = 3 then gL (inn + n) (layB out (flowB line inn n text y.text)) rest
    else gL (inn + n) (gN (inn + n) (layB out (flowB line inn n text [])) y) rest
def gL (inn : Int) (out : List Block) : List Node → List Block
  | [] => out
  | x :: l => gL inn (gN inn out x) l
end
theorem gN_eq (inn : Int) (out : List Block) (x : Node) : gN inn out x =
    if x.kind = 1 then gL inn (layB out ⟨1, x.line, 0, false, 0, [], strong x.text, [], noTbl⟩) x.kids
    else if x.kind = 2 then gL inn (layB out ⟨2, x.line, 3, false, 0, [], strong x.text, [], noTbl⟩) x.kids
    else if x.kind = 3 then gL inn (layB out (flowB x.line inn 0 [] x.text)) x.kids
    else if x.kind = 4 then gT inn x.line x.n x.text out x.kids
    else if x.kind = 5 then gL (inn + x.n) out x.kids
    else if x.kind = 6 then gL inn (layB out ⟨4, x.line, inn, false, 0, [], [], x.rows, noTbl⟩) x.kids
    else if x.kind = 7 then gL inn (layB out ⟨5, x.line, inn, false, 0, [], [], [], mendT x.grid⟩) x.kids
    else gL inn out x.kids := by cases x; rw [gN]; rfl
theorem gL_nil (inn : Int) (out : List Block) : gL inn out [] = out := by rw [gL]
theorem gL_cons (inn : Int) (out : List Block) (x : Node) (l : List Node) : gL inn out (x :: l) = gL inn (gN inn out x) l := by rw [gL]
theorem gT_para (inn line n : Int) (text : List Glyph) (out : List Block) (y : Node) (rest : List Node) (h : y.kind = 3) : gT inn line n text out (y :: rest) = gL (inn + n) (layB out (flowB line inn n text y.text)) rest := by
  rw [gT, if_pos h]
theorem gT_else (inn line n : Int) (text : List Glyph) (out : List Block) (l : List Node) (h : ∀ y rest, l = y :: rest → y.kind ≠ 3) : gT inn line n text out l = gL (inn + n) (layB out (flowB line inn n text [])) l := by
  cases l with
  | nil => rw [gT, gL]
  | cons y rest => rw [gT, if_neg (h y rest rfl), gL]
theorem gL_append (inn : Int) : ∀ (l m : List Node) (out : List Block), gL inn out (l ++ m) = gL inn (gL inn out l) m
  | [], m, out => by rw [List.nil_append, gL_nil]
  | x :: l, m, out => by rw [List.cons_append, gL_cons, gL_append inn l m, gL_cons]
theorem gL_take {inn : Int} {out : List Block} {l : List Node} {i : Nat} (h : i < l.length) : gL inn out (l.take (i + 1)) = gN inn (gL inn out (l.take i)) l[i] := by
  rw [List.take_succ_eq_append_getElem h, gL_append, gL_cons, gL_nil]
theorem gL_len : ∀ (n : Nat) (l : List Node), SizeOf.sizeOf l < n → ∀ inn out, out.length ≤ (gL inn out l).length ∧ (gL inn out l).length ≤ out.length + Node.cntL l := by
  intro n
  induction n with
  | zero => intro l h; omega
  | succ n ih =>
    intro l hn inn out
    cases l with
    | nil => rw [gL_nil]; omega
    | cons x l =>
      obtain ⟨h1, h2⟩ := Node.sz_kids hn
      rw [gL_cons, Node.cntL_cons]
      have h2 := ih l h2
      have h1 := ih x.kids h1
      have hx : out.length ≤ (gN inn out x).length ∧ (gN inn out x).length ≤ out.length + 1 + Node.cntL x.kids := by
        rw [gN_eq]
        have hb := layB_len out
        split
        · have := h1 inn (layB out ⟨1, x.line, 0, false, 0, [], strong x.text, [], noTbl⟩); rw [hb] at this; omega
        split
        · have := h1 inn (layB out ⟨2, x.line, 3, false, 0, [], strong x.text, [], noTbl⟩); rw [hb] at this; omega
        split
        · have := h1 inn (layB out (flowB x.line inn 0 [] x.text)); rw [hb] at this; omega
        split
        · cases hk : x.kids with
          | nil => rw [gT, hb]; omega
          | cons y rest =>
            have hsz : SizeOf.sizeOf rest < n := by
              have : SizeOf.sizeOf x.kids < n := (Node.sz_kids hn).1
              rw [hk] at this; simp at this; omega
            by_cases h3 : y.kind = 3
            · rw [gT_para _ _ _ _ _ _ _ h3]
              have := ih rest hsz (inn + x.n) (layB out (flowB x.line inn x.n x.text y.text))
              rw [hb] at this
              rw [Node.cntL_cons]; omega
            · rw [gT_else _ _ _ _ _ _ (fun y' r' h => by simp at h; rw [← h.1]; exact h3), ← hk]
              have := h1 (inn + x.n) (layB out (flowB x.line inn x.n x.text [])); rw [hb] at this; omega
        split
        · have := h1 (inn + x.n) out; omega
        split
        · have := h1 inn (layB out ⟨4, x.line, inn, false, 0, [], [], x.rows, noTbl⟩); rw [hb] at this; omega
        split
        · have := h1 inn (layB out ⟨5, x.line, inn, false, 0, [], [], [], mendT x.grid⟩); rw [hb] at this; omega
        · have := h1 inn out; omega
      have := h2 inn (gN inn out x)
      omega
inductive NFit : Node → Prop
  | mk {kind line n : Int} {text : List Glyph} {kids : List Node} {rows : List (List Glyph)} {grid : Tbl} (h0 : 0 ≤ n) (h1 : n ≤ 200) (hs : (Node.mk kind line n text kids rows grid).Small) (hks : ∀ x ∈ kids, NFit x) : NFit (.mk kind line n text kids rows grid)
theorem NFit.all {x : Node} (h : NFit x) : 0 ≤ x.n ∧ x.n ≤ 200 ∧ x.Small ∧ ∀ y ∈ x.kids, NFit y := by
  cases h; exact ⟨by assumption, by assumption, by assumption, by assumption⟩
theorem nfit_of : ∀ (n : Nat) (l : List Node), SizeOf.sizeOf l < n → ∀ inn, checkL inn l = true → (∀ x ∈ l, x.Small) → ∀ x ∈ l, NFit x := by
  intro n
  induction n with
  | zero => intro l h; omega
  | succ n ih =>
    intro l hn inn hc hs x hx
    have hsz := Node.kids_lt hx
    rw [checkL_all, List.all_eq_true] at hc
    have hcx := hc x hx
    rw [checkN_eq, Bool.and_eq_true] at hcx
    obtain ⟨_, _, _, _, h5, h6, _⟩ := okN_all hcx.1
    have hk := ih x.kids (by omega) x.kind hcx.2 (hs x hx).kids.2
    have hsx := hs x hx
    cases x
    exact .mk h5 h6 hsx hk
end Go.Proofs.YtlnnnfogbakimaaDoor.Ev
end
section
namespace Go.Proofs.YtlnnnfogbakimaaDoor.Ev
open Go
theorem DrawC.cut {C : Ctx} {nt : Nat} {mv vars : List Nat} {ops : Array Oper} {e : Env} {H : Heap} {Q : Ex → Env → Heap → Prop} {R : List (List Nat)} {E : Env} {H₁ : Heap} (h : DrawC C nt mv ops e H (fun e' H' => Ev.keep vars e' = E ∧ H' = H₁) R) (hK : Q .normal E H₁) : DrawC C nt mv ops e H (KEnd vars Q) R := by
  have hh : ∀ e' H', (Ev.keep vars e' = E ∧ H' = H₁) → KEnd vars Q e' H' := fun e' H' ⟨h1, h2⟩ => by
    rw [KEnd_apply, h1, h2]; exact hK
  cases R with
  | nil => exact wpOps_mono' hh h
  | cons l R =>
    obtain ⟨ρ, h⟩ := h
    exact ⟨ρ, fun r hr => wpOps_mono' hh (h r hr)⟩
set_option linter.unusedSimpArgs false in
set_option maxRecDepth 20000 in
set_option maxHeartbeats 8000000 in
theorem lowerNodeG (x : Node) (hx : NFit x) (ih : ∀ (l : List Node), (l = x.kids ∨ ∃ y, x.kids = y :: l) → ∀ (H : Heap) (b : Nat) (inn : Int) (out : List Block), H[b]? = some [.own (out.map Block.pv)] → NP H → 0 ≤ inn → inn + 200 * (Node.deeps l : Nat) ≤ 1000000 → out.length + Node.cntL l ≤ 1073741824 →
      Con C0 58 [.ptr b 0, .sc (.int .i64 inn), .sc (.sl (l.map Node.pv))] H (.tup []) (H.set b [.own ((gL inn out l).map Block.pv)]))
    (H : Heap) (b : Nat) (inn : Int) (out : List Block) (hb : H[b]? = some [.own (out.map Block.pv)]) (hp : NP H) (h0 : 0 ≤ inn) (hi : inn + 200 * (1 + (Node.deeps x.kids : Nat)) ≤ 1000000) (hc : out.length + 1 + Node.cntL x.kids ≤ 1073741824) :
    Con C0 93 [.ptr b 0, .sc (.int .i64 inn), x.pv.toFV] H (.tup []) (H.set b [.own ((gN inn out x).map Block.pv)]) := by
  have hbl : b < H.length := (List.getElem?_eq_some_iff.1 hb).1
  have hset : ∀ l : List PV, NP (H.set b [.own l]) := fun l fs hfs f hf => by
    rcases List.mem_or_eq_of_mem_set hfs with h | h
    · exact hp fs h f hf
    · subst h; simp at hf; subst hf; rfl
  refine con_trim (C := C0) (fn := Tryd.f93) Tryd.func93 rfl (by decide) mixed (mv := mv93) (vars := vars93) (c := Tryd.f93.body.getD .skip) (by kernel_rfl) rfl (hset _) ?_
  obtain ⟨hn0, hn1, hs, hks⟩ := hx.all
  have ht : x.text.length ≤ lenMax := by have := hs.text; unfold lenMax; omega
  have ho : out.length ≤ 1073741824 := by omega
  rw [gN_eq]
  have ea := Node.pv_eq x
  have w1 : IntKind.i64.wrap (inn + x.n) = inn + x.n := wrap64 (by omega) (by omega)
  by_cases k1 : x.kind = 1
  · have st := treeStrong x.text ht
    simp [k1]
    simp [Tryd.f93, mv93, ea, gl, k1]
    refine CallQ.mk (Call.pure callable34 (by simp) (by simp) st) ?_
    simp [gl, hs_at, hs_at0, hb, heap_old hbl]
    refine CallQ.mk (Call.shared callable125 (lowerLay _ b out ⟨1, x.line, 0, false, 0, [], strong x.text, [], noTbl⟩ (by rw [heap_old hbl]; exact hb) ?_ ho)) ?_
    · exact np_app hp (np_cons (by simp) (np_cons (by simp) np_nil))
    simp [heap_old_set hbl, hs_at, hs_at0]
    refine CallQ.mk (Call.shared callable58 (ih x.kids (.inl rfl) _ b inn _ (hs_b hbl) ?_ h0 (by omega) (by rw [layB_len]; omega))) ?_
    · exact np_app (hset _) (np_cons (by simp) (np_cons (by simp) np_nil))
    simp [hs_set hbl, heap_old_take_set]
  by_cases k2 : x.kind = 2
  · have st := treeStrong x.text ht
    simp [k2]
    simp [Tryd.f93, mv93, ea, gl, k2]
    refine CallQ.mk (Call.pure callable34 (by simp) (by simp) st) ?_
    simp [gl, hs_at, hs_at0, hb, heap_old hbl]
    refine CallQ.mk (Call.shared callable125 (lowerLay _ b out ⟨2, x.line, 3, false, 0, [], strong x.text, [], noTbl⟩ (by rw [heap_old hbl]; exact hb) ?_ ho)) ?_
    · exact np_app hp (np_cons (by simp) (np_cons (by simp) np_nil))
    simp [heap_old_set hbl, hs_at, hs_at0]
    refine CallQ.mk (Call.shared callable58 (ih x.kids (.inl rfl) _ b inn _ (hs_b hbl) ?_ h0 (by omega) (by rw [layB_len]; omega))) ?_
    · exact np_app (hset _) (np_cons (by simp) (np_cons (by simp) np_nil))
    simp [hs_set hbl, heap_old_take_set]
  by_cases k3 : x.kind = 3
  · have st := cloneG x.text ht
    simp [k3]
    simp [Tryd.f93, mv93, ea, gl, k3]
    refine CallQ.mk (Call.pure callable62 (by simp) (by simp) st) ?_
    simp [gl, hs_at, hs_at0, hb, heap_old hbl]
    refine CallQ.mk (Call.shared callable125 (lowerLay _ b out (flowB x.line inn 0 [] x.text) (by rw [heap_old hbl]; exact hb) ?_ ho)) ?_
    · exact np_app hp (np_cons (by simp) (np_cons (by simp) np_nil))
    simp [heap_old_set hbl, hs_at, hs_at0]
    refine CallQ.mk (Call.shared callable58 (ih x.kids (.inl rfl) _ b inn _ (hs_b hbl) ?_ h0 (by omega) (by rw [layB_len]; omega))) ?_
    · exact np_app (hset _) (np_cons (by simp) (np_cons (by simp) np_nil))
    simp [hs_set hbl, heap_old_take_set]
  by_cases k4 : x.kind = 4
  · have st := cloneG x.text ht
    simp [k4]
    simp [Tryd.f93, mv93, ea, gl, k4]
    apply DrawC.cut
    · refine DrawC.two (fun _ _ => .own (x.text.map Glyph.pv)) ?_ ?_
      · simp [heap_at]
        refine CallQ.mk (CallD.pure callable62 (by simp) (by simp) st rfl) ?_
        simp
        exact ⟨rfl, rfl⟩
      · simp [heap_at]
        refine CallQ.mk (CallD.pure callable62 (by simp) (by simp) st rfl) ?_
        simp
    rcases hkd : x.kids with _ | ⟨y, rest⟩
    · rw [gT_else _ _ _ _ _ [] (by simp)]
      rw [hkd] at ih
      simp [gl, hs_at, hs_at0, hb, heap_old hbl, w1]
      refine CallQ.mk (Call.shared callable125 (lowerLay _ b out (flowB x.line inn x.n x.text []) (by rw [heap_old hbl]; exact hb) ?_ ho)) ?_
      · exact np_app hp (np_cons (by simp) (np_cons (by simp) np_nil))
      simp [heap_old_set hbl, hs_at, hs_at0, w1]
      refine CallQ.mk (Call.shared callable58 (ih [] (.inl rfl) _ b (inn + x.n) _ (hs_b hbl) ?_ (by omega) (by rw [Node.deeps_nil]; omega) (by rw [layB_len, Node.cntL_nil]; omega))) ?_
      · exact np_app (hset _) (np_cons (by simp) (np_cons (by simp) np_nil))
      simp [hs_set hbl, heap_old_take_set]
    · have hd := hi
      have hcc := hc
      rw [hkd, Node.deeps_cons] at hd
      rw [hkd, Node.cntL_cons] at hcc
      rw [hkd] at ih
      have ey := Node.pv_eq y
      by_cases h3 : y.kind = 3
      · rw [gT_para _ _ _ _ _ _ _ h3]
        have hys : y.Small := hs.kids.2 y (by rw [hkd]; simp)
        have sy := cloneG y.text (by have := hys.text; unfold lenMax; omega)
        simp only [gl] at sy
        simp [gl, hs_at, hs_at0, hb, heap_old hbl, w1, ey, h3]
        refine CallQ.mk (CallP.pure callable62 (by simp) (by simp) sy) ?_
        have hz : sizedB 10 (PV.agg [PV.int IntKind.i64 3, PV.int IntKind.i64 y.line, PV.int IntKind.i64 y.n, PV.sl (List.map Glyph.pv y.text), PV.sl (List.map Node.pv y.kids), PV.sl (List.map gl y.rows), PV.str y.grid.cols, PV.sl (List.map TRow.pv y.grid.rows), PV.bool y.grid.box, PV.bool y.grid.all] :: List.map Node.pv rest) = true := by
          refine List.all_eq_true.2 fun p hp => ?_
          rcases List.mem_cons.1 hp with rfl | hp
          · rfl
          · rw [sizedN rest p hp]; rfl
        have h1l : (1 : Int) ≤ (rest.length : Int) + 1 := by omega
        have htk : List.take rest.length (List.map Node.pv rest) = List.map Node.pv rest := List.take_of_length_le (by simp)
        simp [hs_at, hs_at0, hb, heap_old hbl, w1, hz, h1l, htk]
        refine CallQ.mk (Call.shared callable125 (lowerLay _ b out (flowB x.line inn x.n x.text y.text) (by rw [heap_old hbl]; exact hb) ?_ ho)) ?_
        · exact np_app hp (np_cons (by simp) (np_cons (by simp) np_nil))
        simp [heap_old_set hbl, hs_at, hs_at0, w1]
        have hr := fun H b out => ih rest (.inr ⟨y, rfl⟩) H b (inn + x.n) out
        refine CallQ.mk (Call.shared callable58 (hr _ b _ (hs_b hbl) ?_ (by omega) (by omega) (by rw [layB_len]; omega))) ?_
        · exact np_app (hset _) (np_cons (by simp) (np_cons (by simp) np_nil))
        simp [hs_set hbl, heap_old_take_set]
      · rw [gT_else _ _ _ _ _ _ (fun y' r' h => by simp at h; rw [← h.1]; exact h3)]
        simp [gl, hs_at, hs_at0, hb, heap_old hbl, w1, ey, h3]
        refine CallQ.mk (Call.shared callable125 (lowerLay _ b out (flowB x.line inn x.n x.text []) (by rw [heap_old hbl]; exact hb) ?_ ho)) ?_
        · exact np_app hp (np_cons (by simp) (np_cons (by simp) np_nil))
        simp [heap_old_set hbl, hs_at, hs_at0, w1]
        have hr := ih (y :: rest) (.inl rfl)
        simp [ey, gl] at hr
        refine CallQ.mk (Call.shared callable58 (hr _ b (inn + x.n) _ (hs_b hbl) ?_ (by omega) (by rw [Node.deeps_cons]; omega) (by rw [layB_len, Node.cntL_cons]; omega))) ?_
        · exact np_app (hset _) (np_cons (by simp) (np_cons (by simp) np_nil))
        simp [hs_set hbl, heap_old_take_set]
  by_cases k5 : x.kind = 5
  · simp [k5]
    simp [Tryd.f93, mv93, ea, gl, k5, w1]
    refine CallQ.mk (Call.shared callable58 (ih x.kids (.inl rfl) _ b _ out (by rw [heap_old hbl]; exact hb) ?_ (by omega) (by omega) (by omega))) ?_
    · exact np_app hp (np_cons (by simp) (np_cons (by simp) np_nil))
    simp [heap_old_set hbl, heap_old_take_set]
  by_cases k6 : x.kind = 6
  · simp [k6]
    simp [Tryd.f93, mv93, ea, gl, k6]
    refine loopC (fun d e H' => ∃ (i : Nat) (x9 x94 : FV), d = x.rows.length - i ∧ i ≤ x.rows.length ∧
      H' = H ++ [[.sc (.int .i64 6), .sc (.int .i64 x.line), .sc (.int .i64 x.n), .sc (.sl (x.text.map Glyph.pv)), .sc (.sl (x.kids.map Node.pv)), .sc (.sl (x.rows.map gl)), .sc (.str x.grid.cols), .sc (.sl (x.grid.rows.map TRow.pv)), .sc (.bool x.grid.box), .sc (.bool x.grid.all)],
        [.sc (.int .i64 4), .sc (.int .i64 x.line), .sc (.int .i64 inn), .sc (.bool false), .sc (.int .i64 0), .own [], .own [], .own ((x.rows.take i).map gl), .sc (.str ByteArray.empty), .own [], .sc (.bool false), .sc (.bool false)]] ∧
      e = [(0, .ptr b 0), (1, .sc (.int .i64 inn)), (2, .agg [.sc (.int .i64 6), .sc (.int .i64 x.line), .sc (.int .i64 x.n), .sc (.sl (x.text.map Glyph.pv)), .sc (.sl (x.kids.map Node.pv)), .sc (.sl (x.rows.map gl)), .sc (.str x.grid.cols), .sc (.sl (x.grid.rows.map TRow.pv)), .sc (.bool x.grid.box), .sc (.bool x.grid.all)]),
        (5, .ptr H.length 0), (6, .ptr (H.length + 1) 0), (7, .sc (.sl (x.kids.map Node.pv))), (9, x9), (17, .sc (.int .i64 6)), (18, .sc (.bool false)), (20, .sc (.bool false)), (22, .sc (.bool false)), (24, .sc (.bool false)), (26, .sc (.bool false)), (28, .sc (.bool true)), (30, .undef), (66, .undef), (91, .sc (.sl (x.rows.map gl))), (92, .sc (.int .i64 x.rows.length)), (93, .sc (.int .i64 i)), (94, x94)]) (d := x.rows.length)
      ⟨0, _, _, by omega, by omega, by simp, rfl⟩ ?_
    rintro d e H' ⟨i, x9, x94, rfl, hi, rfl, rfl⟩
    have hrl := hs.rows.1
    simp
    refine CondC.mk (fun hlt => ?_) (fun hlt => ?_)
    · simp at hlt
      have hq : x.rows[i]? = some x.rows[i] := List.getElem?_eq_getElem hlt
      have st := cloneG x.rows[i] (by have := hs.rows.2 _ (List.getElem_mem hlt); unfold lenMax; omega)
      have htk : x.rows.take (i + 1) = x.rows.take i ++ [x.rows[i]] := List.take_succ_eq_append_getElem hlt
      simp only [gl] at st
      simp [hlt, hq, gl]
      refine CallQ.mk (CallP.pure callable62 (by simp) (by simp) st) ?_
      have s1 : Sized 1 ((x.rows.map gl).take i) := by
        intro p hp
        obtain ⟨y, _, rfl⟩ := List.mem_map.1 (List.mem_of_mem_take hp)
        rfl
      simp
      refine ⟨sized1l, s1, sized1l, by unfold lenMax; omega, x.rows.length - (i + 1), by omega, i + 1, rfl, by omega, ?_, by rw [wrap64 (by omega) (by omega)]; omega⟩
      rw [← List.map_take, ← List.map_take, htk, List.map_append]; rfl
    · simp at hlt
      have he : (x.rows.map gl).take i = x.rows.map gl := List.take_of_length_le (by simpa using hlt)
      simp [he]
      refine CallQ.mk (Call.shared callable125 (lowerLay _ b out ⟨4, x.line, inn, false, 0, [], [], x.rows, noTbl⟩ (by rw [heap_old hbl]; exact hb) ?_ ho)) ?_
      · exact np_app hp (np_cons (by simp) (np_cons (by simp) np_nil))
      simp [heap_old_set hbl, hs_at, hs_at0]
      refine CallQ.mk (Call.shared callable58 (ih x.kids (.inl rfl) _ b inn _ (hs_b hbl) ?_ h0 (by omega) (by rw [layB_len]; omega))) ?_
      · exact np_app (hset _) (np_cons (by simp) (np_cons (by simp) np_nil))
      simp [hs_set hbl, heap_old_take_set]
  by_cases k7 : x.kind = 7
  · have st := treeMend x.grid hs.tbl
    simp [Tbl.pv] at st
    simp [k7]
    simp [Tryd.f93, mv93, ea, gl, k7]
    refine CallQ.mk (Call.pure callable40 (by simp) (by simp) st) ?_
    simp [gl, hs_at, hs_at0, hb, heap_old hbl]
    refine CallQ.mk (Call.shared callable125 (lowerLay _ b out ⟨5, x.line, inn, false, 0, [], [], [], mendT x.grid⟩ (by rw [heap_old hbl]; exact hb) ?_ ho)) ?_
    · exact np_app hp (np_cons (by simp) (np_cons (by simp) np_nil))
    simp [heap_old_set hbl, hs_at, hs_at0]
    refine CallQ.mk (Call.shared callable58 (ih x.kids (.inl rfl) _ b inn _ (hs_b hbl) ?_ h0 (by omega) (by rw [layB_len]; omega))) ?_
    · exact np_app (hset _) (np_cons (by simp) (np_cons (by simp) np_nil))
    simp [hs_set hbl, heap_old_take_set]
  · simp [k1, k2, k3, k4, k5, k6, k7]
    simp [Tryd.f93, mv93, ea, gl, k1, k2, k3, k4, k5, k6, k7]
    refine CallQ.mk (Call.shared callable58 (ih x.kids (.inl rfl) _ b _ out (by rw [heap_old hbl]; exact hb) ?_ h0 (by omega) (by omega))) ?_
    · exact np_app hp (np_cons (by simp) (np_cons (by simp) np_nil))
    simp [heap_old_set hbl, heap_old_take_set]
end Go.Proofs.YtlnnnfogbakimaaDoor.Ev
end
section
namespace Go.Proofs.YtlnnnfogbakimaaDoor.Ev
open Go
set_option linter.unusedSimpArgs false in
set_option maxRecDepth 20000 in
set_option maxHeartbeats 4000000 in
theorem lowerNodesG : ∀ (n : Nat) (l : List Node), SizeOf.sizeOf l < n → (∀ x ∈ l, NFit x) → l.length ≤ 1073741824 → ∀ (H : Heap) (b : Nat) (inn : Int) (out : List Block), H[b]? = some [.own (out.map Block.pv)] → NP H → 0 ≤ inn → inn + 200 * (Node.deeps l : Nat) ≤ 1000000 → out.length + Node.cntL l ≤ 1073741824 →
      Con C0 58 [.ptr b 0, .sc (.int .i64 inn), .sc (.sl (l.map Node.pv))] H (.tup []) (H.set b [.own ((gL inn out l).map Block.pv)]) := by
  intro n
  induction n with
  | zero => intro l h; omega
  | succ n ih =>
    intro l hn hall hll H b inn out hb hp h0 hi hc
    have hbl : b < H.length := (List.getElem?_eq_some_iff.1 hb).1
    have hset : ∀ l : List PV, NP (H.set b [.own l]) := fun l fs hfs f hf => by
      rcases List.mem_or_eq_of_mem_set hfs with h | h
      · exact hp fs h f hf
      · subst h; simp at hf; subst hf; rfl
    refine con_trim (C := C0) (fn := Tryd.f58) Tryd.func58 rfl (by decide) mixed (mv := []) (vars := [0, 1, 2, 7, 8, 9, 10, 11]) (c := Tryd.f58.body.getD .skip) rfl rfl (hset _) ?_
    simp [Tryd.f58]
    refine loopC (fun d e H' => ∃ (i : Nat) (X : Heap) (x7 x11 : FV), d = l.length - i ∧ i ≤ l.length ∧ H' = H.set b [.own ((gL inn out (l.take i)).map Block.pv)] ++ X ∧ NP X ∧ e = [(0, .ptr b 0), (1, .sc (.int .i64 inn)), (2, .sc (.sl (l.map Node.pv))), (7, x7), (8, .sc (.sl (l.map Node.pv))), (9, .sc (.int .i64 l.length)), (10, .sc (.int .i64 (i : Nat))), (11, x11)]) (d := l.length)
      ⟨0, [], _, _, by omega, by omega, by rw [List.take_zero, gL_nil, List.append_nil, set_same hb], np_nil, rfl⟩ ?_
    rintro d e H' ⟨i, X, x7, x11, rfl, hi', rfl, hX, rfl⟩
    simp
    refine CondC.mk (fun hlt => ?_) (fun hlt => ?_)
    · simp at hlt
      have hm : l[i] ∈ l := List.getElem_mem hlt
      have ea := Node.pv_eq l[i]
      have hq : l[i]? = some l[i] := List.getElem?_eq_getElem hlt
      have hnf := hall _ hm
      have hk := hnf.all
      have hg := (gL_len _ (l.take i) (Nat.lt_succ_self _) inn out).2
      have hcs : Node.cntL (l.take i) + (1 + Node.cntL l[i].kids) ≤ Node.cntL l := by
        have h1 : Node.cntL (l.take i ++ l.drop i) = Node.cntL l := by rw [List.take_append_drop]
        rw [Node.cntL_append, List.drop_eq_getElem_cons hlt, Node.cntL_cons] at h1
        omega
      have hds : 1 + Node.deeps l[i].kids ≤ Node.deeps l := Node.deeps_le hm
      have nd := fun H b => lowerNodeG l[i] hnf (fun l' hl' H b inn out h1 h2 h3 h4 h5 => ih l' (by
          have := Node.kids_lt hm
          rcases hl' with rfl | ⟨y, hy⟩
          · omega
          · rw [hy] at this; simp at this; omega) (fun y hy => hk.2.2.2 y (by
          rcases hl' with rfl | ⟨z, hz⟩
          · exact hy
          · rw [hz]; exact List.mem_cons_of_mem _ hy)) (by
          have := hk.2.2.1.kids.1
          rcases hl' with rfl | ⟨z, hz⟩
          · exact this
          · rw [hz] at this; simp at this; omega) H b inn out h1 h2 h3 h4 h5) H b inn (gL inn out (l.take i))
      rw [ea] at nd
      simp [gl] at nd
      simp [hlt, hq, ea, gl, hs_at, hs_at0]
      refine CallQ.mk (Call.shared callable93 (nd _ b (hs_b hbl) ?_ h0 (by omega) (by omega))) ?_
      · exact np_app (hset _) (np_app hX (np_cons (by simp) np_nil))
      simp [hs_set hbl]
      refine ⟨l.length - (i + 1), by omega, i + 1, rfl, by omega, _, by rw [gL_take hlt], np_app hX (np_cons (by simp) np_nil), by rw [wrap64 (by omega) (by omega)]; omega⟩
    · simp at hlt
      simp [heap_old_take_set]
      rw [List.take_of_length_le hlt]
def nodesB (inn : Int) (l : List Node) : List Block := gL (clamp 200 inn) [] (tidyL 0 0 20000 l).1
theorem nodesB_len (inn : Int) (l : List Node) : (nodesB inn l).length ≤ 20000 := by
  have h1 := (gL_len _ (tidyL 0 0 20000 l).1 (Nat.lt_succ_self _) (clamp 200 inn) []).2
  have h2 := (tidy_count _ l (Nat.lt_succ_self _) 0 0 20000).1
  simp at h1
  unfold nodesB; omega
set_option linter.unusedSimpArgs false in
set_option maxRecDepth 20000 in
set_option maxHeartbeats 4000000 in
theorem lowerNodesGen (l : List Node) (inn : Int) (hb : sumBy Node.long l ≤ 44739242) : PCon C0 29 [.sc (.int .i64 inn), .sc (.sl (l.map Node.pv))] (.sc (.sl ((nodesB inn l).map Block.pv))) := by
  have hl : l.length ≤ 1073741824 := by have := len_le_long l; omega
  have htl := tidy_long _ l (Nat.lt_succ_self _) 0 0 20000
  obtain ⟨c1, c2, c3, c4⟩ := tidy_count _ l (Nat.lt_succ_self _) 0 0 20000
  have c4 := c4 (by omega)
  have hck := tidy_check _ l (Nat.lt_succ_self _) 0 0 20000
  have hsm : ∀ x ∈ (tidyL 0 0 20000 l).1, x.Small := small_of (by omega)
  have hsl : ∀ x ∈ l, x.Small := small_of (by omega)
  have hl2 : l.length ≤ 4611686018427387904 := by omega
  have td := treeTidy' fitS ⟨ByteArray.empty, ByteArray.empty, ByteArray.empty, ByteArray.empty, l⟩ hsl hl2
  have hcl := clamp_in 200 inn (by omega)
  have hlen : (tidyL 0 0 20000 l).1.length ≤ 1073741824 := by have := len_le_long (tidyL 0 0 20000 l).1; omega
  refine penter29 ?_
  simp [Tryd.f29]
  refine CallQ.mk (Call.pure callable18 (by simp) (by simp) td) ?_
  simp
  refine CallQ.mk (Call.shared callable58 (lowerNodesG _ (tidyL 0 0 20000 l).1 (Nat.lt_succ_self _) (nfit_of _ _ (Nat.lt_succ_self _) 0 hck hsm) hlen _ 0 (clamp 200 inn) [] rfl ?_ hcl.1 (by omega) (by simp; omega))) ?_
  · exact np_cons (by simp) np_nil
  simp
  rfl
set_option linter.unusedSimpArgs false in
set_option maxRecDepth 20000 in
set_option maxHeartbeats 4000000 in
theorem lowerBlocksGen (d : Doc) (hb : sumBy Node.long d.kids ≤ 44739242) : PCon C0 27 [d.pv.toFV] (.sc (.sl ((nodesB 7 d.kids).map Block.pv))) := by
  have nd := lowerNodesGen d.kids 7 hb
  refine penter27 ?_
  simp [Tryd.f27, Doc.pv]
  refine CallQ.mk (Call.pure callable29 (by simp) (by simp) nd) ?_
  simp
end Go.Proofs.YtlnnnfogbakimaaDoor.Ev
end
section
namespace Go.Proofs.YtlnnnfogbakimaaDoor.Ev
open Go
set_option maxRecDepth 20000 in
set_option maxHeartbeats 4000000 in
theorem law15Long (a : List Node) (hok : ∀ x ∈ a, x.Ok) (hl : a.length ≤ 4611686018427387904) : PCon C0 24 [.sc (.sl (a.map Node.pv))] (.sc (.bool (tooLong a))) := by
  have c1 := refLong _ a (Nat.lt_succ_self _) hok hl
  have c2 := refDeep _ a (Nat.lt_succ_self _) hl hok
  refine penter24 ?_
  simp [Tryd.f24]
  refine CallQ.mk (Call.pure callable47 (by simp) (by simp) c1) ?_
  by_cases h : 600 < IntKind.i64.wrap (sumBy Node.long a : Nat)
  · simp [h, tooLong]
  · simp [h]
    refine CallQ.mk (Call.pure callable32 (by simp) (by simp) c2) ?_
    simp [h, tooLong]
def headB (x : Block) : Bool := decide (x.kind = 1) || decide (x.kind = 2)
def gapsB (out : List Block) : Prop := ∀ i (h : i < out.length), out[i].gap = (decide (0 < i) && !headB (out[i - 1]'(by omega)))
def innB (x : Block) : Prop := (x.kind = 1 → x.inn = 0) ∧ (x.kind = 2 → x.inn = 3) ∧ (x.kind ≠ 1 → x.kind ≠ 2 → 7 ≤ x.inn ∧ x.inn ≤ 4007)
def laid (out : List Block) (b : Block) : Block := match out.getLast? with
  | some x => { b with gap := decide (x.kind ≠ 1) && decide (x.kind ≠ 2) }
  | none => b
theorem layB_eq (out : List Block) (b : Block) : layB out b = out ++ [laid out b] := rfl
theorem laid_fields (out : List Block) (b : Block) : (laid out b).kind = b.kind ∧ (laid out b).line = b.line ∧ (laid out b).inn = b.inn ∧ (laid out b).room = b.room ∧ (laid out b).tag = b.tag ∧ (laid out b).text = b.text ∧ (laid out b).rows = b.rows ∧ (laid out b).grid = b.grid := by
  unfold laid; split <;> exact ⟨rfl, rfl, rfl, rfl, rfl, rfl, rfl, rfl⟩
theorem laid_gap (out : List Block) (b : Block) (hb : b.gap = false) : (laid out b).gap = (match out.getLast? with | some x => !headB x | none => false) := by
  unfold laid
  split
  · simp [headB]
  · exact hb
theorem gaps_lay {out : List Block} {b : Block} (h : gapsB out) (hb : b.gap = false) : gapsB (layB out b) := by
  intro i hi
  rw [layB_len] at hi
  simp only [layB_eq]
  by_cases hlt : i < out.length
  · rw [List.getElem_append_left hlt, h i hlt]
    by_cases h0 : 0 < i
    · rw [List.getElem_append_left (by omega)]
    · simp [h0]
  · obtain rfl : i = out.length := by omega
    rw [List.getElem_append_right (by omega)]
    simp only [Nat.sub_self, List.getElem_cons_zero]
    rw [laid_gap _ _ hb]
    by_cases h0 : 0 < out.length
    · rw [List.getLast?_eq_getElem?, List.getElem?_eq_getElem (by omega)]
      rw [List.getElem_append_left (by omega)]
      simp [h0]
    · have : out = [] := List.eq_nil_of_length_eq_zero (by omega)
      subst this
      simp
theorem inn_lay {out : List Block} {b : Block} (h : ∀ x ∈ out, innB x) (hb : innB b) : ∀ x ∈ layB out b, innB x := by
  intro x hx
  rw [layB_eq] at hx
  rcases List.mem_append.1 hx with hx | hx
  · exact h x hx
  · rw [List.mem_singleton.1 hx]
    have := laid_fields out b
    unfold innB at hb ⊢
    rw [this.1, this.2.2.1]
    exact hb
theorem gL_good : ∀ (n : Nat) (l : List Node), SizeOf.sizeOf l < n → (∀ x ∈ l, NFit x) → ∀ (inn : Int) (out : List Block), 7 ≤ inn → inn + 200 * (Node.deeps l : Nat) ≤ 4007 → gapsB out → (∀ x ∈ out, innB x) → gapsB (gL inn out l) ∧ ∀ x ∈ gL inn out l, innB x := by
  intro n
  induction n with
  | zero => intro l h; omega
  | succ n ih =>
    intro l hn hall inn out h0 hi hg hin
    cases l with
    | nil => rw [gL_nil]; exact ⟨hg, hin⟩
    | cons x l =>
      obtain ⟨h1, h2⟩ := Node.sz_kids hn
      have hd := hi
      rw [Node.deeps_cons] at hd
      have hx := (hall x (by simp)).all
      have hn0 := hx.1
      have hn1 := hx.2.1
      have flow : ∀ (t u : List Glyph) (r : Int), innB (flowB x.line inn r t u) := fun t u r => ⟨fun h => by simp [flowB] at h, fun h => by simp [flowB] at h, fun _ _ => by simp only [flowB]; omega⟩
      rw [gL_cons]
      have key : gapsB (gN inn out x) ∧ ∀ y ∈ gN inn out x, innB y := by
        rw [gN_eq]
        have go1 := fun inn out a b c d => ih x.kids h1 hx.2.2.2 inn out a b c d
        split
        · refine go1 inn _ h0 (by omega) (gaps_lay hg rfl) (inn_lay hin ⟨fun _ => rfl, fun h => by simp at h, fun h => by simp at h⟩)
        split
        · refine go1 inn _ h0 (by omega) (gaps_lay hg rfl) (inn_lay hin ⟨fun h => by simp at h, fun _ => rfl, fun _ h => by simp at h⟩)
        split
        · exact go1 inn _ h0 (by omega) (gaps_lay hg rfl) (inn_lay hin (flow _ _ _))
        split
        · cases hk : x.kids with
          | nil => rw [gT]; exact ⟨gaps_lay hg rfl, inn_lay hin (flow _ _ _)⟩
          | cons y rest =>
            by_cases h3 : y.kind = 3
            · rw [gT_para _ _ _ _ _ _ _ h3]
              have hsz : SizeOf.sizeOf rest < n := by rw [hk] at h1; simp at h1; omega
              have hdk : Node.deeps rest ≤ Node.deeps x.kids := by rw [hk, Node.deeps_cons]; omega
              exact ih rest hsz (fun z hz => hx.2.2.2 z (by rw [hk]; exact List.mem_cons_of_mem _ hz)) _ _ (by omega) (by omega) (gaps_lay hg rfl) (inn_lay hin (flow _ _ _))
            · rw [gT_else _ _ _ _ _ _ (fun y' r' h => by simp at h; rw [← h.1]; exact h3), ← hk]
              exact go1 _ _ (by omega) (by omega) (gaps_lay hg rfl) (inn_lay hin (flow _ _ _))
        split
        · exact go1 _ _ (by omega) (by omega) hg hin
        split
        · refine go1 inn _ h0 (by omega) (gaps_lay hg rfl) (inn_lay hin ⟨fun h => by simp at h, fun h => by simp at h, fun _ _ => by simp only; omega⟩)
        split
        · refine go1 inn _ h0 (by omega) (gaps_lay hg rfl) (inn_lay hin ⟨fun h => by simp at h, fun h => by simp at h, fun _ _ => by simp only; omega⟩)
        · exact go1 inn _ h0 (by omega) hg hin
      exact ih l h2 (fun z hz => hall z (List.mem_cons_of_mem _ hz)) inn _ h0 (by omega) key.1 key.2
theorem nodesB_good (l : List Node) (hb : sumBy Node.long l ≤ 44739242) : gapsB (nodesB 7 l) ∧ ∀ x ∈ nodesB 7 l, innB x := by
  have htl := tidy_long _ l (Nat.lt_succ_self _) 0 0 20000
  have hck := tidy_check _ l (Nat.lt_succ_self _) 0 0 20000
  have c4 := (tidy_count _ l (Nat.lt_succ_self _) 0 0 20000).2.2.2 (by omega)
  refine gL_good _ _ (Nat.lt_succ_self _) (nfit_of _ _ (Nat.lt_succ_self _) 0 hck (small_of (by omega))) _ _ (by decide) ?_ (fun i h => by simp at h) (fun x h => by simp at h)
  rw [show clamp 200 7 = 7 from rfl]
  omega
set_option linter.unusedSimpArgs false in
set_option maxRecDepth 20000 in
set_option maxHeartbeats 4000000 in
theorem lowerGapsLaw (d : Doc) (hb : sumBy Node.long d.kids ≤ 1073741824) : PCon C0 6 [d.pv.toFV] (.sc (.bool true)) := by
  have hl : d.kids.length ≤ 1073741824 := Nat.le_trans (len_le_long _) hb
  have cl := law15Long d.kids (ok_of hb) (by omega)
  have kn := lowerKnown
  refine penter6 ?_
  simp [Tryd.f6, Doc.pv]
  refine CallQ.mk (Call.pure callable24 (by simp) (by simp) cl) ?_
  cases htl : tooLong d.kids
  · have hlong := short_of htl hb
    have bl := lowerBlocksGen d (by omega)
    obtain ⟨hg, hin⟩ := nodesB_good d.kids (by omega)
    have hlen := nodesB_len 7 d.kids
    generalize nodesB 7 d.kids = B at *
    simp [Doc.pv] at bl
    simp
    refine CallQ.mk (Call.pure callable27 (by simp) (by simp) bl) ?_
    simp
    refine loopC (fun dd e H => ∃ (i : Nat) (x5 x15 x49 x54 x68 x69 x76 x77 x84 : FV), dd = B.length - i ∧ i ≤ B.length ∧ H = [[.sc (.str d.name), .sc (.str d.part), .sc (.str d.date), .sc (.str d.source), .sc (.sl (d.kids.map Node.pv))]] ∧
      e = [(0, FV.agg [.sc (.str d.name), .sc (.str d.part), .sc (.str d.date), .sc (.str d.source), .sc (.sl (d.kids.map Node.pv))]), (1, .ptr 0 0), (2, .sc (.bool false)), (3, .sc (.sl (B.map Block.pv))), (4, .sc (.int .i64 i)), (5, x5), (8, .sc (.bool false)), (15, x15), (49, x49), (54, x54), (68, x68), (69, x69), (76, x76), (77, x77), (84, x84)]) (d := B.length)
      ⟨0, _, _, _, _, _, _, _, _, _, rfl, by omega, rfl, rfl⟩ ?_
    rintro dd e H ⟨i, x5, x15, x49, x54, x68, x69, x76, x77, x84, rfl, hi, rfl, rfl⟩
    by_cases hlt : i < B.length
    rotate_left
    · simp [hlt]
      refine CallQ.mk (Call.pure callable25 (by simp) (by simp) kn) ?_
      simp
    have hq : B[i]? = some B[i] := List.getElem?_eq_getElem hlt
    have ea := Block.pv_eq B[i]
    have hgi := hg i hlt
    obtain ⟨i1, i2, i3⟩ := hin _ (List.getElem_mem hlt)
    have fin : ∃ d' < B.length - i, ∃ i', d' = B.length - i' ∧ i' ≤ B.length ∧ IntKind.i64.wrap ((i : Int) + 1) = (i' : Nat) := ⟨B.length - (i + 1), by omega, i + 1, rfl, by omega, by rw [wrap64 (by omega) (by omega)]; omega⟩
    have wi : 0 < i → IntKind.i64.wrap ((i : Int) - 1) = ((i - 1 : Nat) : Int) := fun h => by rw [wrap64 (by omega) (by omega)]; omega
    have hgap : B[i].gap = (decide (0 < i) && !(decide (0 < i) && headB (B[i - 1]'(by omega)))) := by
      rw [hgi]; cases decide (0 < i) <;> simp
    rcases Nat.eq_zero_or_pos i with h0 | h0
    · have hz : ¬ 0 < i := by omega
      have hgf : B[i].gap = false := by rw [hgap, decide_eq_false hz]; rfl
      by_cases c1 : B[i].kind = 1
      · simp [hlt, hq, ea, hz, hgf, c1, i1 c1]
        exact fin
      by_cases c2 : B[i].kind = 2
      · simp [hlt, hq, ea, hz, hgf, c2, i2 c2]
        exact fin
      obtain ⟨j1, j2⟩ := i3 c1 c2
      have j1' : ¬ B[i].inn < 7 := by omega
      have j2' : ¬ 4007 < B[i].inn := by omega
      simp [hlt, hq, ea, hz, hgf, c1, c2, j1', j2']
      exact fin
    · have hz : 0 < i := h0
      have hpl : i - 1 < B.length := by omega
      have hp : B[i - 1]? = some B[i - 1] := List.getElem?_eq_getElem hpl
      have ep := Block.pv_eq B[i - 1]
      have w := wi h0
      rw [decide_eq_true h0, Bool.true_and, Bool.true_and] at hgap
      generalize B[i - 1] = pb at *
      by_cases p1 : pb.kind = 1
      · have hgf : B[i].gap = false := by rw [hgap]; simp [headB, p1]
        by_cases c1 : B[i].kind = 1
        · simp [hlt, hq, ea, hz, hp, ep, w, p1, hgf, c1, i1 c1]
          exact fin
        by_cases c2 : B[i].kind = 2
        · simp [hlt, hq, ea, hz, hp, ep, w, p1, hgf, c2, i2 c2]
          exact fin
        obtain ⟨j1, j2⟩ := i3 c1 c2
        have j1' : ¬ B[i].inn < 7 := by omega
        have j2' : ¬ 4007 < B[i].inn := by omega
        simp [hlt, hq, ea, hz, hp, ep, w, p1, hgf, c1, c2, j1', j2']
        exact fin
      by_cases p2 : pb.kind = 2
      · have hgf : B[i].gap = false := by rw [hgap]; simp [headB, p2]
        by_cases c1 : B[i].kind = 1
        · simp [hlt, hq, ea, hz, hp, ep, w, p2, hgf, c1, i1 c1]
          exact fin
        by_cases c2 : B[i].kind = 2
        · simp [hlt, hq, ea, hz, hp, ep, w, p2, hgf, c2, i2 c2]
          exact fin
        obtain ⟨j1, j2⟩ := i3 c1 c2
        have j1' : ¬ B[i].inn < 7 := by omega
        have j2' : ¬ 4007 < B[i].inn := by omega
        simp [hlt, hq, ea, hz, hp, ep, w, p2, hgf, c1, c2, j1', j2']
        exact fin
      · have hgf : B[i].gap = true := by rw [hgap]; simp [headB, p1, p2]
        by_cases c1 : B[i].kind = 1
        · simp [hlt, hq, ea, hz, hp, ep, w, p1, p2, hgf, c1, i1 c1]
          exact fin
        by_cases c2 : B[i].kind = 2
        · simp [hlt, hq, ea, hz, hp, ep, w, p1, p2, hgf, c2, i2 c2]
          exact fin
        obtain ⟨j1, j2⟩ := i3 c1 c2
        have j1' : ¬ B[i].inn < 7 := by omega
        have j2' : ¬ 4007 < B[i].inn := by omega
        simp [hlt, hq, ea, hz, hp, ep, w, p1, p2, hgf, c1, c2, j1', j2']
        exact fin
  · simp
    refine CallQ.mk (Call.pure callable25 (by simp) (by simp) kn) ?_
    simp
end Go.Proofs.YtlnnnfogbakimaaDoor.Ev
end
