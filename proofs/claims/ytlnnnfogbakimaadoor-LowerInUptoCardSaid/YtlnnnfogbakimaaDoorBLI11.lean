/- Of what the law LowerIn needs: part 11. -/
import Derived.Test.YtlnnnfogbakimaaDoorBLI6
import Derived.Test.YtlnnnfogbakimaaDoorBLI10
set_option linter.unusedSimpArgs false
set_option linter.unusedVariables false
section
namespace Go.Proofs.YtlnnnfogbakimaaDoor.Ev
open Go
def flowB (line inn room : Int) (tag text : List Glyph) : Block := ⟨3, line, inn, false, room, tag, text, [], noTbl⟩
mutual
def gN (inn : Int) (out : List Block) : Node → List Block
  | .mk kind line n text kids rows grid =>
    if kind = 1 then gL inn (layB out ⟨1, line, 0, false, 0, [], strong text, [], noTbl⟩) kids
    else if kind = 2 then gL inn (layB out ⟨2, line, 3, false, 0, [], strong text, [], noTbl⟩) kids
    else if kind = 3 then gL inn (layB out (flowB line inn 0 [] text)) kids
    else if kind = 4 then gT inn line n text out kids
    else if kind = 5 then gL (inn + n) out kids
    else if kind = 6 then gL inn (layB out ⟨4, line, inn, false, 0, [], [], rows, noTbl⟩) kids
    else if kind = 7 then gL inn (layB out ⟨5, line, inn, false, 0, [], [], [], mendT grid⟩) kids
    else gL inn out kids
def gT (inn line n : Int) (text : List Glyph) (out : List Block) : List Node → List Block
  | [] => layB out (flowB line inn n text [])
  | y :: rest => if y.kind = 3 then gL (inn + n) (layB out (flowB line inn n text y.text)) rest
    else gL (inn + n) (gN (inn + n) (layB out (flowB line inn n text [])) y) rest
def gL (inn : Int) (out : List Block) : List Node → List Block
  | [] => out
  | x :: l => gL inn (gN inn out x) l
end
theorem gN_eq (inn : Int) (out : List Block) (x : Node) : gN inn out x =
    if x.kind = 1 then gL inn (layB out ⟨1, x.line, 0, false, 0, [], strong x.text, [], noTbl⟩) x.kids
    else if x.kind = 2 then gL inn (layB out ⟨2, x.line, 3, false, 0, [], strong x.text, [], noTbl⟩) x.kids
    else if x.kind = 3 then gL inn (layB out (flowB x.line inn 0 [] x.text)) x.kids
    else if x.kind = 4 then gT inn x.line x.n x.text out x.kids
    else if x.kind = 5 then gL (inn + x.n) out x.kids
    else if x.kind = 6 then gL inn (layB out ⟨4, x.line, inn, false, 0, [], [], x.rows, noTbl⟩) x.kids
    else if x.kind = 7 then gL inn (layB out ⟨5, x.line, inn, false, 0, [], [], [], mendT x.grid⟩) x.kids
    else gL inn out x.kids := by cases x; rw [gN]; rfl
theorem gL_nil (inn : Int) (out : List Block) : gL inn out [] = out := by rw [gL]
theorem gL_cons (inn : Int) (out : List Block) (x : Node) (l : List Node) : gL inn out (x :: l) = gL inn (gN inn out x) l := by rw [gL]
theorem gT_para (inn line n : Int) (text : List Glyph) (out : List Block) (y : Node) (rest : List Node) (h : y.kind = 3) : gT inn line n text out (y :: rest) = gL (inn + n) (layB out (flowB line inn n text y.text)) rest := by
  rw [gT, if_pos h]
theorem gT_else (inn line n : Int) (text : List Glyph) (out : List Block) (l : List Node) (h : ∀ y rest, l = y :: rest → y.kind ≠ 3) : gT inn line n text out l = gL (inn + n) (layB out (flowB line inn n text [])) l := by
  cases l with
  | nil => rw [gT, gL]
  | cons y rest => rw [gT, if_neg (h y rest rfl), gL]
theorem gL_append (inn : Int) : ∀ (l m : List Node) (out : List Block), gL inn out (l ++ m) = gL inn (gL inn out l) m
  | [], m, out => by rw [List.nil_append, gL_nil]
  | x :: l, m, out => by rw [List.cons_append, gL_cons, gL_append inn l m, gL_cons]
theorem gL_take {inn : Int} {out : List Block} {l : List Node} {i : Nat} (h : i < l.length) : gL inn out (l.take (i + 1)) = gN inn (gL inn out (l.take i)) l[i] := by
  rw [List.take_succ_eq_append_getElem h, gL_append, gL_cons, gL_nil]
theorem gL_len : ∀ (n : Nat) (l : List Node), SizeOf.sizeOf l < n → ∀ inn out, out.length ≤ (gL inn out l).length ∧ (gL inn out l).length ≤ out.length + Node.cntL l := by
  intro n
  induction n with
  | zero => intro l h; omega
  | succ n ih =>
    intro l hn inn out
    cases l with
    | nil => rw [gL_nil]; omega
    | cons x l =>
      obtain ⟨h1, h2⟩ := Node.sz_kids hn
      rw [gL_cons, Node.cntL_cons]
      have h2 := ih l h2
      have h1 := ih x.kids h1
      have hx : out.length ≤ (gN inn out x).length ∧ (gN inn out x).length ≤ out.length + 1 + Node.cntL x.kids := by
        rw [gN_eq]
        have hb := layB_len out
        split
        · have := h1 inn (layB out ⟨1, x.line, 0, false, 0, [], strong x.text, [], noTbl⟩); rw [hb] at this; omega
        split
        · have := h1 inn (layB out ⟨2, x.line, 3, false, 0, [], strong x.text, [], noTbl⟩); rw [hb] at this; omega
        split
        · have := h1 inn (layB out (flowB x.line inn 0 [] x.text)); rw [hb] at this; omega
        split
        · cases hk : x.kids with
          | nil => rw [gT, hb]; omega
          | cons y rest =>
            have hsz : SizeOf.sizeOf rest < n := by
              have : SizeOf.sizeOf x.kids < n := (Node.sz_kids hn).1
              rw [hk] at this; simp at this; omega
            by_cases h3 : y.kind = 3
            · rw [gT_para _ _ _ _ _ _ _ h3]
              have := ih rest hsz (inn + x.n) (layB out (flowB x.line inn x.n x.text y.text))
              rw [hb] at this
              rw [Node.cntL_cons]; omega
            · rw [gT_else _ _ _ _ _ _ (fun y' r' h => by simp at h; rw [← h.1]; exact h3), ← hk]
              have := h1 (inn + x.n) (layB out (flowB x.line inn x.n x.text [])); rw [hb] at this; omega
        split
        · have := h1 (inn + x.n) out; omega
        split
        · have := h1 inn (layB out ⟨4, x.line, inn, false, 0, [], [], x.rows, noTbl⟩); rw [hb] at this; omega
        split
        · have := h1 inn (layB out ⟨5, x.line, inn, false, 0, [], [], [], mendT x.grid⟩); rw [hb] at this; omega
        · have := h1 inn out; omega
      have := h2 inn (gN inn out x)
      omega
inductive NFit : Node → Prop
  | mk {kind line n : Int} {text : List Glyph} {kids : List Node} {rows : List (List Glyph)} {grid : Tbl} (h0 : 0 ≤ n) (h1 : n ≤ 200) (hs : (Node.mk kind line n text kids rows grid).Small) (hks : ∀ x ∈ kids, NFit x) : NFit (.mk kind line n text kids rows grid)
theorem NFit.all {x : Node} (h : NFit x) : 0 ≤ x.n ∧ x.n ≤ 200 ∧ x.Small ∧ ∀ y ∈ x.kids, NFit y := by
  cases h; exact ⟨by assumption, by assumption, by assumption, by assumption⟩
theorem nfit_of : ∀ (n : Nat) (l : List Node), SizeOf.sizeOf l < n → ∀ inn, checkL inn l = true → (∀ x ∈ l, x.Small) → ∀ x ∈ l, NFit x := by
  intro n
  induction n with
  | zero => intro l h; omega
  | succ n ih =>
    intro l hn inn hc hs x hx
    have hsz := Node.kids_lt hx
    rw [checkL_all, List.all_eq_true] at hc
    have hcx := hc x hx
    rw [checkN_eq, Bool.and_eq_true] at hcx
    obtain ⟨_, _, _, _, h5, h6, _⟩ := okN_all hcx.1
    have hk := ih x.kids (by omega) x.kind hcx.2 (hs x hx).kids.2
    have hsx := hs x hx
    cases x
    exact .mk h5 h6 hsx hk
end Go.Proofs.YtlnnnfogbakimaaDoor.Ev
end
section
namespace Go.Proofs.YtlnnnfogbakimaaDoor.Ev
open Go
theorem DrawC.cut {C : Ctx} {nt : Nat} {mv vars : List Nat} {ops : Array Oper} {e : Env} {H : Heap} {Q : Ex → Env → Heap → Prop} {R : List (List Nat)} {E : Env} {H₁ : Heap} (h : DrawC C nt mv ops e H (fun e' H' => Ev.keep vars e' = E ∧ H' = H₁) R) (hK : Q .normal E H₁) : DrawC C nt mv ops e H (KEnd vars Q) R := by
  have hh : ∀ e' H', (Ev.keep vars e' = E ∧ H' = H₁) → KEnd vars Q e' H' := fun e' H' ⟨h1, h2⟩ => by
    rw [KEnd_apply, h1, h2]; exact hK
  cases R with
  | nil => exact wpOps_mono' hh h
  | cons l R =>
    obtain ⟨ρ, h⟩ := h
    exact ⟨ρ, fun r hr => wpOps_mono' hh (h r hr)⟩
set_option linter.unusedSimpArgs false in
set_option maxRecDepth 20000 in
set_option maxHeartbeats 8000000 in
theorem lowerNodeG (x : Node) (hx : NFit x) (ih : ∀ (l : List Node), (l = x.kids ∨ ∃ y, x.kids = y :: l) → ∀ (H : Heap) (b : Nat) (inn : Int) (out : List Block), H[b]? = some [.own (out.map Block.pv)] → NP H → 0 ≤ inn → inn + 200 * (Node.deeps l : Nat) ≤ 1000000 → out.length + Node.cntL l ≤ 1073741824 →
      Con C0 58 [.ptr b 0, .sc (.int .i64 inn), .sc (.sl (l.map Node.pv))] H (.tup []) (H.set b [.own ((gL inn out l).map Block.pv)]))
    (H : Heap) (b : Nat) (inn : Int) (out : List Block) (hb : H[b]? = some [.own (out.map Block.pv)]) (hp : NP H) (h0 : 0 ≤ inn) (hi : inn + 200 * (1 + (Node.deeps x.kids : Nat)) ≤ 1000000) (hc : out.length + 1 + Node.cntL x.kids ≤ 1073741824) :
    Con C0 93 [.ptr b 0, .sc (.int .i64 inn), x.pv.toFV] H (.tup []) (H.set b [.own ((gN inn out x).map Block.pv)]) := by
  have hbl : b < H.length := (List.getElem?_eq_some_iff.1 hb).1
  have hset : ∀ l : List PV, NP (H.set b [.own l]) := fun l fs hfs f hf => by
    rcases List.mem_or_eq_of_mem_set hfs with h | h
    · exact hp fs h f hf
    · subst h; simp at hf; subst hf; rfl
  refine con_trim (C := C0) (fn := Tryd.f93) Tryd.func93 rfl (by decide) mixed (mv := mv93) (vars := vars93) (c := Tryd.f93.body.getD .skip) (by kernel_rfl) rfl (hset _) ?_
  obtain ⟨hn0, hn1, hs, hks⟩ := hx.all
  have ht : x.text.length ≤ lenMax := by have := hs.text; unfold lenMax; omega
  have ho : out.length ≤ 1073741824 := by omega
  rw [gN_eq]
  have ea := Node.pv_eq x
  have w1 : IntKind.i64.wrap (inn + x.n) = inn + x.n := wrap64 (by omega) (by omega)
  by_cases k1 : x.kind = 1
  · have st := treeStrong x.text ht
    simp [k1]
    simp [Tryd.f93, mv93, ea, gl, k1]
    refine CallQ.mk (Call.pure callable34 (by simp) (by simp) st) ?_
    simp [gl, hs_at, hs_at0, hb, heap_old hbl]
    refine CallQ.mk (Call.shared callable125 (lowerLay _ b out ⟨1, x.line, 0, false, 0, [], strong x.text, [], noTbl⟩ (by rw [heap_old hbl]; exact hb) ?_ ho)) ?_
    · exact np_app hp (np_cons (by simp) (np_cons (by simp) np_nil))
    simp [heap_old_set hbl, hs_at, hs_at0]
    refine CallQ.mk (Call.shared callable58 (ih x.kids (.inl rfl) _ b inn _ (hs_b hbl) ?_ h0 (by omega) (by rw [layB_len]; omega))) ?_
    · exact np_app (hset _) (np_cons (by simp) (np_cons (by simp) np_nil))
    simp [hs_set hbl, heap_old_take_set]
  by_cases k2 : x.kind = 2
  · have st := treeStrong x.text ht
    simp [k2]
    simp [Tryd.f93, mv93, ea, gl, k2]
    refine CallQ.mk (Call.pure callable34 (by simp) (by simp) st) ?_
    simp [gl, hs_at, hs_at0, hb, heap_old hbl]
    refine CallQ.mk (Call.shared callable125 (lowerLay _ b out ⟨2, x.line, 3, false, 0, [], strong x.text, [], noTbl⟩ (by rw [heap_old hbl]; exact hb) ?_ ho)) ?_
    · exact np_app hp (np_cons (by simp) (np_cons (by simp) np_nil))
    simp [heap_old_set hbl, hs_at, hs_at0]
    refine CallQ.mk (Call.shared callable58 (ih x.kids (.inl rfl) _ b inn _ (hs_b hbl) ?_ h0 (by omega) (by rw [layB_len]; omega))) ?_
    · exact np_app (hset _) (np_cons (by simp) (np_cons (by simp) np_nil))
    simp [hs_set hbl, heap_old_take_set]
  by_cases k3 : x.kind = 3
  · have st := cloneG x.text ht
    simp [k3]
    simp [Tryd.f93, mv93, ea, gl, k3]
    refine CallQ.mk (Call.pure callable62 (by simp) (by simp) st) ?_
    simp [gl, hs_at, hs_at0, hb, heap_old hbl]
    refine CallQ.mk (Call.shared callable125 (lowerLay _ b out (flowB x.line inn 0 [] x.text) (by rw [heap_old hbl]; exact hb) ?_ ho)) ?_
    · exact np_app hp (np_cons (by simp) (np_cons (by simp) np_nil))
    simp [heap_old_set hbl, hs_at, hs_at0]
    refine CallQ.mk (Call.shared callable58 (ih x.kids (.inl rfl) _ b inn _ (hs_b hbl) ?_ h0 (by omega) (by rw [layB_len]; omega))) ?_
    · exact np_app (hset _) (np_cons (by simp) (np_cons (by simp) np_nil))
    simp [hs_set hbl, heap_old_take_set]
  by_cases k4 : x.kind = 4
  · have st := cloneG x.text ht
    simp [k4]
    simp [Tryd.f93, mv93, ea, gl, k4]
    apply DrawC.cut
    · refine DrawC.two (fun _ _ => .own (x.text.map Glyph.pv)) ?_ ?_
      · simp [heap_at]
        refine CallQ.mk (CallD.pure callable62 (by simp) (by simp) st rfl) ?_
        simp
        exact ⟨rfl, rfl⟩
      · simp [heap_at]
        refine CallQ.mk (CallD.pure callable62 (by simp) (by simp) st rfl) ?_
        simp
    rcases hkd : x.kids with _ | ⟨y, rest⟩
    · rw [gT_else _ _ _ _ _ [] (by simp)]
      rw [hkd] at ih
      simp [gl, hs_at, hs_at0, hb, heap_old hbl, w1]
      refine CallQ.mk (Call.shared callable125 (lowerLay _ b out (flowB x.line inn x.n x.text []) (by rw [heap_old hbl]; exact hb) ?_ ho)) ?_
      · exact np_app hp (np_cons (by simp) (np_cons (by simp) np_nil))
      simp [heap_old_set hbl, hs_at, hs_at0, w1]
      refine CallQ.mk (Call.shared callable58 (ih [] (.inl rfl) _ b (inn + x.n) _ (hs_b hbl) ?_ (by omega) (by rw [Node.deeps_nil]; omega) (by rw [layB_len, Node.cntL_nil]; omega))) ?_
      · exact np_app (hset _) (np_cons (by simp) (np_cons (by simp) np_nil))
      simp [hs_set hbl, heap_old_take_set]
    · have hd := hi
      have hcc := hc
      rw [hkd, Node.deeps_cons] at hd
      rw [hkd, Node.cntL_cons] at hcc
      rw [hkd] at ih
      have ey := Node.pv_eq y
      by_cases h3 : y.kind = 3
      · rw [gT_para _ _ _ _ _ _ _ h3]
        have hys : y.Small := hs.kids.2 y (by rw [hkd]; simp)
        have sy := cloneG y.text (by have := hys.text; unfold lenMax; omega)
        simp only [gl] at sy
        simp [gl, hs_at, hs_at0, hb, heap_old hbl, w1, ey, h3]
        refine CallQ.mk (CallP.pure callable62 (by simp) (by simp) sy) ?_
        have hz : sizedB 10 (PV.agg [PV.int IntKind.i64 3, PV.int IntKind.i64 y.line, PV.int IntKind.i64 y.n, PV.sl (List.map Glyph.pv y.text), PV.sl (List.map Node.pv y.kids), PV.sl (List.map gl y.rows), PV.str y.grid.cols, PV.sl (List.map TRow.pv y.grid.rows), PV.bool y.grid.box, PV.bool y.grid.all] :: List.map Node.pv rest) = true := by
          refine List.all_eq_true.2 fun p hp => ?_
          rcases List.mem_cons.1 hp with rfl | hp
          · rfl
          · rw [sizedN rest p hp]; rfl
        have h1l : (1 : Int) ≤ (rest.length : Int) + 1 := by omega
        have htk : List.take rest.length (List.map Node.pv rest) = List.map Node.pv rest := List.take_of_length_le (by simp)
        simp [hs_at, hs_at0, hb, heap_old hbl, w1, hz, h1l, htk]
        refine CallQ.mk (Call.shared callable125 (lowerLay _ b out (flowB x.line inn x.n x.text y.text) (by rw [heap_old hbl]; exact hb) ?_ ho)) ?_
        · exact np_app hp (np_cons (by simp) (np_cons (by simp) np_nil))
        simp [heap_old_set hbl, hs_at, hs_at0, w1]
        have hr := fun H b out => ih rest (.inr ⟨y, rfl⟩) H b (inn + x.n) out
        refine CallQ.mk (Call.shared callable58 (hr _ b _ (hs_b hbl) ?_ (by omega) (by omega) (by rw [layB_len]; omega))) ?_
        · exact np_app (hset _) (np_cons (by simp) (np_cons (by simp) np_nil))
        simp [hs_set hbl, heap_old_take_set]
      · rw [gT_else _ _ _ _ _ _ (fun y' r' h => by simp at h; rw [← h.1]; exact h3)]
        simp [gl, hs_at, hs_at0, hb, heap_old hbl, w1, ey, h3]
        refine CallQ.mk (Call.shared callable125 (lowerLay _ b out (flowB x.line inn x.n x.text []) (by rw [heap_old hbl]; exact hb) ?_ ho)) ?_
        · exact np_app hp (np_cons (by simp) (np_cons (by simp) np_nil))
        simp [heap_old_set hbl, hs_at, hs_at0, w1]
        have hr := ih (y :: rest) (.inl rfl)
        simp [ey, gl] at hr
        refine CallQ.mk (Call.shared callable58 (hr _ b (inn + x.n) _ (hs_b hbl) ?_ (by omega) (by rw [Node.deeps_cons]; omega) (by rw [layB_len, Node.cntL_cons]; omega))) ?_
        · exact np_app (hset _) (np_cons (by simp) (np_cons (by simp) np_nil))
        simp [hs_set hbl, heap_old_take_set]
  by_cases k5 : x.kind = 5
  · simp [k5]
    simp [Tryd.f93, mv93, ea, gl, k5, w1]
    refine CallQ.mk (Call.shared callable58 (ih x.kids (.inl rfl) _ b _ out (by rw [heap_old hbl]; exact hb) ?_ (by omega) (by omega) (by omega))) ?_
    · exact np_app hp (np_cons (by simp) (np_cons (by simp) np_nil))
    simp [heap_old_set hbl, heap_old_take_set]
  by_cases k6 : x.kind = 6
  · simp [k6]
    simp [Tryd.f93, mv93, ea, gl, k6]
    refine loopC (fun d e H' => ∃ (i : Nat) (x9 x94 : FV), d = x.rows.length - i ∧ i ≤ x.rows.length ∧
      H' = H ++ [[.sc (.int .i64 6), .sc (.int .i64 x.line), .sc (.int .i64 x.n), .sc (.sl (x.text.map Glyph.pv)), .sc (.sl (x.kids.map Node.pv)), .sc (.sl (x.rows.map gl)), .sc (.str x.grid.cols), .sc (.sl (x.grid.rows.map TRow.pv)), .sc (.bool x.grid.box), .sc (.bool x.grid.all)],
        [.sc (.int .i64 4), .sc (.int .i64 x.line), .sc (.int .i64 inn), .sc (.bool false), .sc (.int .i64 0), .own [], .own [], .own ((x.rows.take i).map gl), .sc (.str ByteArray.empty), .own [], .sc (.bool false), .sc (.bool false)]] ∧
      e = [(0, .ptr b 0), (1, .sc (.int .i64 inn)), (2, .agg [.sc (.int .i64 6), .sc (.int .i64 x.line), .sc (.int .i64 x.n), .sc (.sl (x.text.map Glyph.pv)), .sc (.sl (x.kids.map Node.pv)), .sc (.sl (x.rows.map gl)), .sc (.str x.grid.cols), .sc (.sl (x.grid.rows.map TRow.pv)), .sc (.bool x.grid.box), .sc (.bool x.grid.all)]),
        (5, .ptr H.length 0), (6, .ptr (H.length + 1) 0), (7, .sc (.sl (x.kids.map Node.pv))), (9, x9), (17, .sc (.int .i64 6)), (18, .sc (.bool false)), (20, .sc (.bool false)), (22, .sc (.bool false)), (24, .sc (.bool false)), (26, .sc (.bool false)), (28, .sc (.bool true)), (30, .undef), (66, .undef), (91, .sc (.sl (x.rows.map gl))), (92, .sc (.int .i64 x.rows.length)), (93, .sc (.int .i64 i)), (94, x94)]) (d := x.rows.length)
      ⟨0, _, _, by omega, by omega, by simp, rfl⟩ ?_
    rintro d e H' ⟨i, x9, x94, rfl, hi, rfl, rfl⟩
    have hrl := hs.rows.1
    simp
    refine CondC.mk (fun hlt => ?_) (fun hlt => ?_)
    · simp at hlt
      have hq : x.rows[i]? = some x.rows[i] := List.getElem?_eq_getElem hlt
      have st := cloneG x.rows[i] (by have := hs.rows.2 _ (List.getElem_mem hlt); unfold lenMax; omega)
      have htk : x.rows.take (i + 1) = x.rows.take i ++ [x.rows[i]] := List.take_succ_eq_append_getElem hlt
      simp only [gl] at st
      simp [hlt, hq, gl]
      refine CallQ.mk (CallP.pure callable62 (by simp) (by simp) st) ?_
      have s1 : Sized 1 ((x.rows.map gl).take i) := by
        intro p hp
        obtain ⟨y, _, rfl⟩ := List.mem_map.1 (List.mem_of_mem_take hp)
        rfl
      simp
      refine ⟨sized1l, s1, sized1l, by unfold lenMax; omega, x.rows.length - (i + 1), by omega, i + 1, rfl, by omega, ?_, by rw [wrap64 (by omega) (by omega)]; omega⟩
      rw [← List.map_take, ← List.map_take, htk, List.map_append]; rfl
    · simp at hlt
      have he : (x.rows.map gl).take i = x.rows.map gl := List.take_of_length_le (by simpa using hlt)
      simp [he]
      refine CallQ.mk (Call.shared callable125 (lowerLay _ b out ⟨4, x.line, inn, false, 0, [], [], x.rows, noTbl⟩ (by rw [heap_old hbl]; exact hb) ?_ ho)) ?_
      · exact np_app hp (np_cons (by simp) (np_cons (by simp) np_nil))
      simp [heap_old_set hbl, hs_at, hs_at0]
      refine CallQ.mk (Call.shared callable58 (ih x.kids (.inl rfl) _ b inn _ (hs_b hbl) ?_ h0 (by omega) (by rw [layB_len]; omega))) ?_
      · exact np_app (hset _) (np_cons (by simp) (np_cons (by simp) np_nil))
      simp [hs_set hbl, heap_old_take_set]
  by_cases k7 : x.kind = 7
  · have st := treeMend x.grid hs.tbl
    simp [Tbl.pv] at st
    simp [k7]
    simp [Tryd.f93, mv93, ea, gl, k7]
    refine CallQ.mk (Call.pure callable40 (by simp) (by simp) st) ?_
    simp [gl, hs_at, hs_at0, hb, heap_old hbl]
    refine CallQ.mk (Call.shared callable125 (lowerLay _ b out ⟨5, x.line, inn, false, 0, [], [], [], mendT x.grid⟩ (by rw [heap_old hbl]; exact hb) ?_ ho)) ?_
    · exact np_app hp (np_cons (by simp) (np_cons (by simp) np_nil))
    simp [heap_old_set hbl, hs_at, hs_at0]
    refine CallQ.mk (Call.shared callable58 (ih x.kids (.inl rfl) _ b inn _ (hs_b hbl) ?_ h0 (by omega) (by rw [layB_len]; omega))) ?_
    · exact np_app (hset _) (np_cons (by simp) (np_cons (by simp) np_nil))
    simp [hs_set hbl, heap_old_take_set]
  · simp [k1, k2, k3, k4, k5, k6, k7]
    simp [Tryd.f93, mv93, ea, gl, k1, k2, k3, k4, k5, k6, k7]
    refine CallQ.mk (Call.shared callable58 (ih x.kids (.inl rfl) _ b _ out (by rw [heap_old hbl]; exact hb) ?_ h0 (by omega) (by omega))) ?_
    · exact np_app hp (np_cons (by simp) (np_cons (by simp) np_nil))
    simp [heap_old_set hbl, heap_old_take_set]
end Go.Proofs.YtlnnnfogbakimaaDoor.Ev
end
section
namespace Go.Proofs.YtlnnnfogbakimaaDoor.Ev
open Go
set_option linter.unusedSimpArgs false in
set_option maxRecDepth 20000 in
set_option maxHeartbeats 4000000 in
theorem lowerNodesG : ∀ (n : Nat) (l : List Node), SizeOf.sizeOf l < n → (∀ x ∈ l, NFit x) → l.length ≤ 1073741824 → ∀ (H : Heap) (b : Nat) (inn : Int) (out : List Block), H[b]? = some [.own (out.map Block.pv)] → NP H → 0 ≤ inn → inn + 200 * (Node.deeps l : Nat) ≤ 1000000 → out.length + Node.cntL l ≤ 1073741824 →
      Con C0 58 [.ptr b 0, .sc (.int .i64 inn), .sc (.sl (l.map Node.pv))] H (.tup []) (H.set b [.own ((gL inn out l).map Block.pv)]) := by
  intro n
  induction n with
  | zero => intro l h; omega
  | succ n ih =>
    intro l hn hall hll H b inn out hb hp h0 hi hc
    have hbl : b < H.length := (List.getElem?_eq_some_iff.1 hb).1
    have hset : ∀ l : List PV, NP (H.set b [.own l]) := fun l fs hfs f hf => by
      rcases List.mem_or_eq_of_mem_set hfs with h | h
      · exact hp fs h f hf
      · subst h; simp at hf; subst hf; rfl
    refine con_trim (C := C0) (fn := Tryd.f58) Tryd.func58 rfl (by decide) mixed (mv := []) (vars := [0, 1, 2, 7, 8, 9, 10, 11]) (c := Tryd.f58.body.getD .skip) rfl rfl (hset _) ?_
    simp [Tryd.f58]
    refine loopC (fun d e H' => ∃ (i : Nat) (X : Heap) (x7 x11 : FV), d = l.length - i ∧ i ≤ l.length ∧ H' = H.set b [.own ((gL inn out (l.take i)).map Block.pv)] ++ X ∧ NP X ∧ e = [(0, .ptr b 0), (1, .sc (.int .i64 inn)), (2, .sc (.sl (l.map Node.pv))), (7, x7), (8, .sc (.sl (l.map Node.pv))), (9, .sc (.int .i64 l.length)), (10, .sc (.int .i64 (i : Nat))), (11, x11)]) (d := l.length)
      ⟨0, [], _, _, by omega, by omega, by rw [List.take_zero, gL_nil, List.append_nil, set_same hb], np_nil, rfl⟩ ?_
    rintro d e H' ⟨i, X, x7, x11, rfl, hi', rfl, hX, rfl⟩
    simp
    refine CondC.mk (fun hlt => ?_) (fun hlt => ?_)
    · simp at hlt
      have hm : l[i] ∈ l := List.getElem_mem hlt
      have ea := Node.pv_eq l[i]
      have hq : l[i]? = some l[i] := List.getElem?_eq_getElem hlt
      have hnf := hall _ hm
      have hk := hnf.all
      have hg := (gL_len _ (l.take i) (Nat.lt_succ_self _) inn out).2
      have hcs : Node.cntL (l.take i) + (1 + Node.cntL l[i].kids) ≤ Node.cntL l := by
        have h1 : Node.cntL (l.take i ++ l.drop i) = Node.cntL l := by rw [List.take_append_drop]
        rw [Node.cntL_append, List.drop_eq_getElem_cons hlt, Node.cntL_cons] at h1
        omega
      have hds : 1 + Node.deeps l[i].kids ≤ Node.deeps l := Node.deeps_le hm
      have nd := fun H b => lowerNodeG l[i] hnf (fun l' hl' H b inn out h1 h2 h3 h4 h5 => ih l' (by
          have := Node.kids_lt hm
          rcases hl' with rfl | ⟨y, hy⟩
          · omega
          · rw [hy] at this; simp at this; omega) (fun y hy => hk.2.2.2 y (by
          rcases hl' with rfl | ⟨z, hz⟩
          · exact hy
          · rw [hz]; exact List.mem_cons_of_mem _ hy)) (by
          have := hk.2.2.1.kids.1
          rcases hl' with rfl | ⟨z, hz⟩
          · exact this
          · rw [hz] at this; simp at this; omega) H b inn out h1 h2 h3 h4 h5) H b inn (gL inn out (l.take i))
      rw [ea] at nd
      simp [gl] at nd
      simp [hlt, hq, ea, gl, hs_at, hs_at0]
      refine CallQ.mk (Call.shared callable93 (nd _ b (hs_b hbl) ?_ h0 (by omega) (by omega))) ?_
      · exact np_app (hset _) (np_app hX (np_cons (by simp) np_nil))
      simp [hs_set hbl]
      refine ⟨l.length - (i + 1), by omega, i + 1, rfl, by omega, _, by rw [gL_take hlt], np_app hX (np_cons (by simp) np_nil), by rw [wrap64 (by omega) (by omega)]; omega⟩
    · simp at hlt
      simp [heap_old_take_set]
      rw [List.take_of_length_le hlt]
def nodesB (inn : Int) (l : List Node) : List Block := gL (clamp 200 inn) [] (tidyL 0 0 20000 l).1
theorem nodesB_len (inn : Int) (l : List Node) : (nodesB inn l).length ≤ 20000 := by
  have h1 := (gL_len _ (tidyL 0 0 20000 l).1 (Nat.lt_succ_self _) (clamp 200 inn) []).2
  have h2 := (tidy_count _ l (Nat.lt_succ_self _) 0 0 20000).1
  simp at h1
  unfold nodesB; omega
set_option linter.unusedSimpArgs false in
set_option maxRecDepth 20000 in
set_option maxHeartbeats 4000000 in
theorem lowerNodesGen (l : List Node) (inn : Int) (hb : sumBy Node.long l ≤ 44739242) : PCon C0 29 [.sc (.int .i64 inn), .sc (.sl (l.map Node.pv))] (.sc (.sl ((nodesB inn l).map Block.pv))) := by
  have hl : l.length ≤ 1073741824 := by have := len_le_long l; omega
  have htl := tidy_long _ l (Nat.lt_succ_self _) 0 0 20000
  obtain ⟨c1, c2, c3, c4⟩ := tidy_count _ l (Nat.lt_succ_self _) 0 0 20000
  have c4 := c4 (by omega)
  have hck := tidy_check _ l (Nat.lt_succ_self _) 0 0 20000
  have hsm : ∀ x ∈ (tidyL 0 0 20000 l).1, x.Small := small_of (by omega)
  have hsl : ∀ x ∈ l, x.Small := small_of (by omega)
  have hl2 : l.length ≤ 4611686018427387904 := by omega
  have td := treeTidy' fitS ⟨ByteArray.empty, ByteArray.empty, ByteArray.empty, ByteArray.empty, l⟩ hsl hl2
  have hcl := clamp_in 200 inn (by omega)
  have hlen : (tidyL 0 0 20000 l).1.length ≤ 1073741824 := by have := len_le_long (tidyL 0 0 20000 l).1; omega
  refine penter29 ?_
  simp [Tryd.f29]
  refine CallQ.mk (Call.pure callable18 (by simp) (by simp) td) ?_
  simp
  refine CallQ.mk (Call.shared callable58 (lowerNodesG _ (tidyL 0 0 20000 l).1 (Nat.lt_succ_self _) (nfit_of _ _ (Nat.lt_succ_self _) 0 hck hsm) hlen _ 0 (clamp 200 inn) [] rfl ?_ hcl.1 (by omega) (by simp; omega))) ?_
  · exact np_cons (by simp) np_nil
  simp
  rfl
end Go.Proofs.YtlnnnfogbakimaaDoor.Ev
end
section
namespace Go.Proofs.YtlnnnfogbakimaaDoor.Ev
open Go
set_option maxRecDepth 20000 in
set_option maxHeartbeats 4000000 in
theorem law15Long (a : List Node) (hok : ∀ x ∈ a, x.Ok) (hl : a.length ≤ 4611686018427387904) : PCon C0 24 [.sc (.sl (a.map Node.pv))] (.sc (.bool (tooLong a))) := by
  have c1 := refLong _ a (Nat.lt_succ_self _) hok hl
  have c2 := refDeep _ a (Nat.lt_succ_self _) hl hok
  refine penter24 ?_
  simp [Tryd.f24]
  refine CallQ.mk (Call.pure callable47 (by simp) (by simp) c1) ?_
  by_cases h : 600 < IntKind.i64.wrap (sumBy Node.long a : Nat)
  · simp [h, tooLong]
  · simp [h]
    refine CallQ.mk (Call.pure callable32 (by simp) (by simp) c2) ?_
    simp [h, tooLong]
def headB (x : Block) : Bool := decide (x.kind = 1) || decide (x.kind = 2)
def gapsB (out : List Block) : Prop := ∀ i (h : i < out.length), out[i].gap = (decide (0 < i) && !headB (out[i - 1]'(by omega)))
def innB (x : Block) : Prop := (x.kind = 1 → x.inn = 0) ∧ (x.kind = 2 → x.inn = 3) ∧ (x.kind ≠ 1 → x.kind ≠ 2 → 7 ≤ x.inn ∧ x.inn ≤ 4007)
def laid (out : List Block) (b : Block) : Block := match out.getLast? with
  | some x => { b with gap := decide (x.kind ≠ 1) && decide (x.kind ≠ 2) }
  | none => b
theorem layB_eq (out : List Block) (b : Block) : layB out b = out ++ [laid out b] := rfl
theorem laid_fields (out : List Block) (b : Block) : (laid out b).kind = b.kind ∧ (laid out b).line = b.line ∧ (laid out b).inn = b.inn ∧ (laid out b).room = b.room ∧ (laid out b).tag = b.tag ∧ (laid out b).text = b.text ∧ (laid out b).rows = b.rows ∧ (laid out b).grid = b.grid := by
  unfold laid; split <;> exact ⟨rfl, rfl, rfl, rfl, rfl, rfl, rfl, rfl⟩
theorem laid_gap (out : List Block) (b : Block) (hb : b.gap = false) : (laid out b).gap = (match out.getLast? with | some x => !headB x | none => false) := by
  unfold laid
  split
  · simp [headB]
  · exact hb
theorem gaps_lay {out : List Block} {b : Block} (h : gapsB out) (hb : b.gap = false) : gapsB (layB out b) := by
  intro i hi
  rw [layB_len] at hi
  simp only [layB_eq]
  by_cases hlt : i < out.length
  · rw [List.getElem_append_left hlt, h i hlt]
    by_cases h0 : 0 < i
    · rw [List.getElem_append_left (by omega)]
    · simp [h0]
  · obtain rfl : i = out.length := by omega
    rw [List.getElem_append_right (by omega)]
    simp only [Nat.sub_self, List.getElem_cons_zero]
    rw [laid_gap _ _ hb]
    by_cases h0 : 0 < out.length
    · rw [List.getLast?_eq_getElem?, List.getElem?_eq_getElem (by omega)]
      rw [List.getElem_append_left (by omega)]
      simp [h0]
    · have : out = [] := List.eq_nil_of_length_eq_zero (by omega)
      subst this
      simp
theorem inn_lay {out : List Block} {b : Block} (h : ∀ x ∈ out, innB x) (hb : innB b) : ∀ x ∈ layB out b, innB x := by
  intro x hx
  rw [layB_eq] at hx
  rcases List.mem_append.1 hx with hx | hx
  · exact h x hx
  · rw [List.mem_singleton.1 hx]
    have := laid_fields out b
    unfold innB at hb ⊢
    rw [this.1, this.2.2.1]
    exact hb
theorem gL_good : ∀ (n : Nat) (l : List Node), SizeOf.sizeOf l < n → (∀ x ∈ l, NFit x) → ∀ (inn : Int) (out : List Block), 7 ≤ inn → inn + 200 * (Node.deeps l : Nat) ≤ 4007 → gapsB out → (∀ x ∈ out, innB x) → gapsB (gL inn out l) ∧ ∀ x ∈ gL inn out l, innB x := by
  intro n
  induction n with
  | zero => intro l h; omega
  | succ n ih =>
    intro l hn hall inn out h0 hi hg hin
    cases l with
    | nil => rw [gL_nil]; exact ⟨hg, hin⟩
    | cons x l =>
      obtain ⟨h1, h2⟩ := Node.sz_kids hn
      have hd := hi
      rw [Node.deeps_cons] at hd
      have hx := (hall x (by simp)).all
      have hn0 := hx.1
      have hn1 := hx.2.1
      have flow : ∀ (t u : List Glyph) (r : Int), innB (flowB x.line inn r t u) := fun t u r => ⟨fun h => by simp [flowB] at h, fun h => by simp [flowB] at h, fun _ _ => by simp only [flowB]; omega⟩
      rw [gL_cons]
      have key : gapsB (gN inn out x) ∧ ∀ y ∈ gN inn out x, innB y := by
        rw [gN_eq]
        have go1 := fun inn out a b c d => ih x.kids h1 hx.2.2.2 inn out a b c d
        split
        · refine go1 inn _ h0 (by omega) (gaps_lay hg rfl) (inn_lay hin ⟨fun _ => rfl, fun h => by simp at h, fun h => by simp at h⟩)
        split
        · refine go1 inn _ h0 (by omega) (gaps_lay hg rfl) (inn_lay hin ⟨fun h => by simp at h, fun _ => rfl, fun _ h => by simp at h⟩)
        split
        · exact go1 inn _ h0 (by omega) (gaps_lay hg rfl) (inn_lay hin (flow _ _ _))
        split
        · cases hk : x.kids with
          | nil => rw [gT]; exact ⟨gaps_lay hg rfl, inn_lay hin (flow _ _ _)⟩
          | cons y rest =>
            by_cases h3 : y.kind = 3
            · rw [gT_para _ _ _ _ _ _ _ h3]
              have hsz : SizeOf.sizeOf rest < n := by rw [hk] at h1; simp at h1; omega
              have hdk : Node.deeps rest ≤ Node.deeps x.kids := by rw [hk, Node.deeps_cons]; omega
              exact ih rest hsz (fun z hz => hx.2.2.2 z (by rw [hk]; exact List.mem_cons_of_mem _ hz)) _ _ (by omega) (by omega) (gaps_lay hg rfl) (inn_lay hin (flow _ _ _))
            · rw [gT_else _ _ _ _ _ _ (fun y' r' h => by simp at h; rw [← h.1]; exact h3), ← hk]
              exact go1 _ _ (by omega) (by omega) (gaps_lay hg rfl) (inn_lay hin (flow _ _ _))
        split
        · exact go1 _ _ (by omega) (by omega) hg hin
        split
        · refine go1 inn _ h0 (by omega) (gaps_lay hg rfl) (inn_lay hin ⟨fun h => by simp at h, fun h => by simp at h, fun _ _ => by simp only; omega⟩)
        split
        · refine go1 inn _ h0 (by omega) (gaps_lay hg rfl) (inn_lay hin ⟨fun h => by simp at h, fun h => by simp at h, fun _ _ => by simp only; omega⟩)
        · exact go1 inn _ h0 (by omega) hg hin
      exact ih l h2 (fun z hz => hall z (List.mem_cons_of_mem _ hz)) inn _ h0 (by omega) key.1 key.2
theorem nodesB_good (l : List Node) (hb : sumBy Node.long l ≤ 44739242) : gapsB (nodesB 7 l) ∧ ∀ x ∈ nodesB 7 l, innB x := by
  have htl := tidy_long _ l (Nat.lt_succ_self _) 0 0 20000
  have hck := tidy_check _ l (Nat.lt_succ_self _) 0 0 20000
  have c4 := (tidy_count _ l (Nat.lt_succ_self _) 0 0 20000).2.2.2 (by omega)
  refine gL_good _ _ (Nat.lt_succ_self _) (nfit_of _ _ (Nat.lt_succ_self _) 0 hck (small_of (by omega))) _ _ (by decide) ?_ (fun i h => by simp at h) (fun x h => by simp at h)
  rw [show clamp 200 7 = 7 from rfl]
  omega
end Go.Proofs.YtlnnnfogbakimaaDoor.Ev
end
section
namespace Go.Proofs.YtlnnnfogbakimaaDoor.Ev
open Go
def FLe (f g : FV) : Prop := ∀ (W : Wd) (r : Option Root) (i : Nat) (v : Value), FRep W r i f v → FRep W r i g v
inductive FLes : List FV → List FV → Prop
  | nil : FLes [] []
  | cons {f g : FV} {l m : List FV} : FLe f g → FLes l m → FLes (f :: l) (g :: m)
theorem FLes.len {l m : List FV} (h : FLes l m) : l.length = m.length := by
  induction h with
  | nil => rfl
  | cons _ _ ih => simp [ih]
theorem FLes.get {l m : List FV} (h : FLes l m) : ∀ {j : Nat} {g : FV}, m[j]? = some g → ∃ f, l[j]? = some f ∧ FLe f g := by
  induction h with
  | nil => intro j g h; simp at h
  | cons h _ ih =>
    intro j g hg
    cases j with
    | zero => simp at hg; subst hg; exact ⟨_, rfl, h⟩
    | succ j => exact ih (by simpa using hg)
theorem FLe.refl (f : FV) : FLe f f := fun _ _ _ _ h => h
theorem FLe.emp : FLe .emp (.sc (.sl [])) := fun _ _ _ _ h => by
  cases h
  exact .sc rfl .nil
theorem FLe.agg {l m : List FV} (h : FLes l m) : FLe (.agg l) (.agg m) := fun W r i v hv => by
  cases hv with
  | agg hs hr =>
    refine .agg (hs.trans h.len) fun j g v hg hv => ?_
    obtain ⟨f, hf, hle⟩ := h.get hg
    exact hle _ _ _ _ (hr j f v hf hv)
theorem PCon.les {C : Ctx} {f : FuncId} {args args' : List FV} {r : FV} (h : PCon C f args' r) (hl : FLes args args') : PCon C f args r := fun vs W h1 h2 h3 h4 =>
  h vs W (h1.trans hl.len) (fun j g v hg hv => by
    obtain ⟨f, hf, hle⟩ := hl.get hg
    exact hle _ _ _ _ (h2 j f v hf hv)) h3 h4
end Go.Proofs.YtlnnnfogbakimaaDoor.Ev
end
section
namespace Go.Proofs.YtlnnnfogbakimaaDoor.Ev
open Go
def SmallB (x : Block) : Prop := x.tag.length ≤ 1073741824 ∧ x.text.length ≤ 1073741824 ∧ x.rows.length ≤ 1073741824 ∧ (∀ r ∈ x.rows, r.length ≤ 1073741824) ∧ TblS x.grid
theorem SmallB.ok {x : Block} (h : SmallB x) : x.Ok := ⟨by have := h.1; omega, by have := h.2.1; omega, by have := h.2.2.1; omega, fun r hr => by have := h.2.2.2.1 r hr; omega, h.2.2.2.2.ok⟩
theorem noTblS : TblS noTbl := ⟨by simp [noTbl], by simp [noTbl], by simp [noTbl]⟩
theorem smallB_lay {out : List Block} {b : Block} (h : ∀ x ∈ out, SmallB x) (hb : SmallB b) : ∀ x ∈ layB out b, SmallB x := by
  intro x hx
  rw [layB_eq] at hx
  rcases List.mem_append.1 hx with hx | hx
  · exact h x hx
  · rw [List.mem_singleton.1 hx]
    obtain ⟨_, _, _, _, h5, h6, h7, h8⟩ := laid_fields out b
    unfold SmallB at hb ⊢
    rw [h5, h6, h7, h8]
    exact hb
theorem strong_len (l : List Glyph) : (strong l).length = l.length := by simp [strong]
theorem gL_small : ∀ (n : Nat) (l : List Node), SizeOf.sizeOf l < n → sumBy Node.long l ≤ 44739242 → ∀ (inn : Int) (out : List Block), (∀ x ∈ out, SmallB x) → ∀ x ∈ gL inn out l, SmallB x := by
  intro n
  induction n with
  | zero => intro l h; omega
  | succ n ih =>
    intro l hn hb inn out ho
    cases l with
    | nil => rw [gL_nil]; exact ho
    | cons x l =>
      obtain ⟨h1, h2⟩ := Node.sz_kids hn
      rw [sumBy_cons] at hb
      have hxs : x.Small := by unfold Node.Small; omega
      have ht := hxs.text
      have hr := hxs.rows
      have hxk : sumBy Node.long x.kids ≤ 44739242 := by have := Node.long_own x; omega
      have hmt : TblS (mendT x.grid) := tblS_mend (by have := Node.long_eq x; omega)
      have nt := noTblS
      have flow : ∀ (l i r : Int) (t u : List Glyph), t.length ≤ 1073741824 → u.length ≤ 1073741824 → SmallB (flowB l i r t u) := fun l i r t u h h' => ⟨h, h', by simp [flowB], by simp [flowB], nt⟩
      rw [gL_cons]
      refine ih l h2 (by omega) inn _ ?_
      rw [gN_eq]
      split
      · exact ih x.kids h1 hxk _ _ (smallB_lay ho ⟨by simp, by simp only [strong_len]; omega, by simp, by simp, nt⟩)
      split
      · exact ih x.kids h1 hxk _ _ (smallB_lay ho ⟨by simp, by simp only [strong_len]; omega, by simp, by simp, nt⟩)
      split
      · exact ih x.kids h1 hxk _ _ (smallB_lay ho (flow _ _ _ _ _ (by simp) ht))
      split
      · cases hk : x.kids with
        | nil => rw [gT]; exact smallB_lay ho (flow _ _ _ _ _ ht (by simp))
        | cons y rest =>
          by_cases h3 : y.kind = 3
          · rw [gT_para _ _ _ _ _ _ _ h3]
            rw [hk] at h1 hxk
            rw [sumBy_cons] at hxk
            have hys : y.Small := by unfold Node.Small; omega
            exact ih rest (by simp at h1; omega) (by omega) _ _ (smallB_lay ho (flow _ _ _ _ _ ht hys.text))
          · rw [gT_else _ _ _ _ _ _ (fun y' r' h => by simp at h; rw [← h.1]; exact h3), ← hk]
            exact ih x.kids h1 hxk _ _ (smallB_lay ho (flow _ _ _ _ _ ht (by simp)))
      split
      · exact ih x.kids h1 hxk _ _ ho
      split
      · exact ih x.kids h1 hxk _ _ (smallB_lay ho ⟨by simp, by simp, hr.1, hr.2, nt⟩)
      split
      · exact ih x.kids h1 hxk _ _ (smallB_lay ho ⟨by simp, by simp, by simp, by simp, hmt⟩)
      · exact ih x.kids h1 hxk _ _ ho
theorem nodesB_small (inn : Int) (l : List Node) (hb : sumBy Node.long l ≤ 1000000) : ∀ x ∈ nodesB inn l, x.Ok := fun x hx => by
  have htl := tidy_long _ l (Nat.lt_succ_self _) 0 0 20000
  exact (gL_small _ (tidyL 0 0 20000 l).1 (Nat.lt_succ_self _) (by omega) _ _ (by simp) x hx).ok
end Go.Proofs.YtlnnnfogbakimaaDoor.Ev
end
section
namespace Go.Proofs.YtlnnnfogbakimaaDoor.Ev
open Go
theorem nodesB_ok {l : List Node} (h : checkL 0 l = true) (hc : Node.cntL l ≤ 20000) (hd : Node.deeps l ≤ 20) (inn : Int) : nodesB inn l = gL (clamp 200 inn) [] l := by
  unfold nodesB
  rw [tidy_same _ l (Nat.lt_succ_self _) 0 0 20000 h hc (by omega)]
def docK (l : List Node) : Doc := ⟨ByteArray.empty, ByteArray.empty, ByteArray.empty, ByteArray.empty, l⟩
theorem checkD_zero {l : List Node} (h : checkD (docK l) = 0) : checkL 0 l = true ∧ Node.cntL l ≤ 20000 ∧ Node.deeps l ≤ 20 := by
  unfold checkD docK at h
  simp only at h
  split at h
  · simp at h
  · rename_i hn
    split at h
    · rename_i hc; exact ⟨hc, by omega, by omega⟩
    · simp at h
end Go.Proofs.YtlnnnfogbakimaaDoor.Ev
end
section
namespace Go.Proofs.YtlnnnfogbakimaaDoor.Ev
open Go
structure Head where
  level : Int
  line : Int
  text : List Glyph
def Head.pv (h : Head) : PV := .agg [.int .i64 h.level, .int .i64 h.line, gl h.text]
theorem sizedHd (l : List Head) : Sized 3 (l.map Head.pv) := by
  intro p hp
  obtain ⟨x, _, rfl⟩ := List.mem_map.1 hp
  rfl
theorem sized3 {a b c : PV} : Sized 3 [PV.agg [a, b, c]] := by
  intro p hp
  rw [List.mem_singleton.1 hp]; rfl
namespace Node
def head1 (x : Node) : List Head := if x.kind = 1 ∨ x.kind = 2 then [⟨x.kind, x.line, x.text⟩] else []
mutual
def headsN : Node → List Head
  | .mk kind line n text kids rows grid => head1 (.mk kind line n text kids rows grid) ++ headsL kids
def headsL : List Node → List Head
  | [] => []
  | x :: l => headsN x ++ headsL l
end
theorem headsN_eq (x : Node) : headsN x = head1 x ++ headsL x.kids := by cases x; rw [headsN]; rfl
theorem headsL_nil : headsL [] = [] := by rw [headsL]
theorem headsL_cons (x : Node) (l : List Node) : headsL (x :: l) = head1 x ++ headsL x.kids ++ headsL l := by rw [headsL, headsN_eq]
theorem headsL_append (l m : List Node) : headsL (l ++ m) = headsL l ++ headsL m := by
  induction l with
  | nil => rw [headsL_nil]; rfl
  | cons x l ih => rw [List.cons_append, headsL_cons, headsL_cons, ih]; simp only [List.append_assoc]
theorem headsL_take {l : List Node} {i : Nat} (h : i < l.length) : headsL (l.take (i + 1)) = headsL (l.take i) ++ (head1 l[i] ++ headsL l[i].kids) := by
  rw [List.take_succ_eq_append_getElem h, headsL_append, headsL_cons, headsL_nil, List.append_nil]
theorem head1_len (x : Node) : x.head1.length ≤ 1 := by unfold head1; split <;> simp
theorem headsL_len : ∀ (n : Nat) (l : List Node), SizeOf.sizeOf l < n → (headsL l).length ≤ cntL l := by
  intro n
  induction n with
  | zero => intro l h; omega
  | succ n ih =>
    intro l hn
    cases l with
    | nil => rw [headsL_nil]; simp
    | cons x l =>
      obtain ⟨h1, h2⟩ := sz_kids hn
      rw [headsL_cons, cntL_cons, List.length_append, List.length_append]
      have := ih x.kids h1; have := ih l h2; have := head1_len x
      omega
end Node
set_option linter.unusedSimpArgs false in
set_option maxRecDepth 20000 in
set_option maxHeartbeats 4000000 in
theorem refHeads : ∀ (n : Nat) (l : List Node), SizeOf.sizeOf l < n → Node.cntL l ≤ 1073741824 → PCon C0 33 [.sc (.sl (l.map Node.pv))] (.own ((Node.headsL l).map Head.pv)) := by
  intro n
  induction n with
  | zero => intro l h; omega
  | succ n ih =>
    intro l hn hc
    have hlc := Node.cntL_eq l
    refine penter33 ?_
    simp [Tryd.f33]
    refine loopC (fun d e H => ∃ (i : Nat) (x8 x24 : FV), d = l.length - i ∧ i ≤ l.length ∧ e = [(0, .sc (.sl (l.map Node.pv))), (2, .own []), (3, .own ((Node.headsL (l.take i)).map Head.pv)), (4, .sc (.int .i64 i)), (8, x8), (24, x24)]) (d := l.length) ⟨0, _, _, rfl, by omega, by rw [List.take_zero, Node.headsL_nil]; rfl⟩ ?_
    rintro d e H ⟨i, x8, x24, rfl, hi, rfl⟩
    by_cases hlt : i < l.length
    rotate_left
    · simp [hlt]
      rw [List.take_of_length_le (by omega)]
    have hq : l[i]? = some l[i] := List.getElem?_eq_getElem hlt
    have ea := Node.pv_eq l[i]
    have hk := ih l[i].kids (by have := Node.kids_lt (List.getElem_mem hlt); omega) (by have := Node.cntL_kids (List.getElem_mem hlt); omega)
    have htk := Node.headsL_take hlt
    have h1 := Node.headsL_len _ (l.take (i + 1)) (Nat.lt_succ_self _)
    have h2 : Node.cntL (l.take (i + 1)) ≤ Node.cntL l := by
      have : Node.cntL (l.take (i + 1) ++ l.drop (i + 1)) = Node.cntL l := by rw [List.take_append_drop]
      rw [Node.cntL_append] at this; omega
    rw [htk, List.length_append, List.length_append] at h1
    have hlm : lenMax ≥ 2147483648 := by unfold lenMax; omega
    have fin : ∀ q, q = (Node.headsL (l.take (i + 1))).map Head.pv → ∃ d' < l.length - i, ∃ i', d' = l.length - i' ∧ i' ≤ l.length ∧ q = (Node.headsL (l.take i')).map Head.pv ∧ IntKind.i64.wrap ((i : Int) + 1) = (i' : Nat) := fun q hq =>
      ⟨l.length - (i + 1), by omega, i + 1, rfl, by omega, hq, by rw [wrap64 (by omega) (by omega)]; omega⟩
    by_cases k1 : l[i].kind = 1
    · have hh : l[i].head1 = [⟨1, l[i].line, l[i].text⟩] := by simp [Node.head1, k1]
      rw [hh] at htk h1
      simp at h1
      simp [hlt, hq, ea, gl, k1, sizedHd, sized3]
      refine ⟨by omega, CallQ.mk (Call.pure callable33 (by simp) (by simp) hk) ?_⟩
      simp [sizedHd, sized3, sized_app]
      refine ⟨by omega, fin _ ?_⟩
      rw [htk]; simp [Head.pv, gl]
    by_cases k2 : l[i].kind = 2
    · have hh : l[i].head1 = [⟨2, l[i].line, l[i].text⟩] := by simp [Node.head1, k2]
      rw [hh] at htk h1
      simp at h1
      simp [hlt, hq, ea, gl, k2, sizedHd, sized3]
      refine ⟨by omega, CallQ.mk (Call.pure callable33 (by simp) (by simp) hk) ?_⟩
      simp [sizedHd, sized3, sized_app]
      refine ⟨by omega, fin _ ?_⟩
      rw [htk]; simp [Head.pv, gl]
    · have hh : l[i].head1 = [] := by simp [Node.head1, k1, k2]
      rw [hh] at htk h1
      simp at h1
      simp [hlt, hq, ea, gl, k1, k2, sizedHd]
      refine CallQ.mk (Call.pure callable33 (by simp) (by simp) hk) ?_
      simp [sizedHd]
      refine ⟨by omega, fin _ ?_⟩
      rw [htk]; simp
def shiftB (m : Int) (b : Block) : Block := { b with inn := b.inn + m }
theorem lay_shift (m : Int) (out : List Block) (b : Block) : layB (out.map (shiftB m)) (shiftB m b) = (layB out b).map (shiftB m) := by
  rw [layB_eq, layB_eq, List.map_append, List.map_cons, List.map_nil]
  congr 1
  unfold laid
  rw [List.getLast?_map]
  cases out.getLast? <;> rfl
theorem gL_shift : ∀ (n : Nat) (l : List Node), SizeOf.sizeOf l < n → Node.headsL l = [] → ∀ (inn m : Int) (out : List Block), gL (inn + m) (out.map (shiftB m)) l = (gL inn out l).map (shiftB m) := by
  intro n
  induction n with
  | zero => intro l h; omega
  | succ n ih =>
    intro l hn hh inn m out
    cases l with
    | nil => rw [gL_nil, gL_nil]
    | cons x l =>
      obtain ⟨h1, h2⟩ := Node.sz_kids hn
      rw [Node.headsL_cons, List.append_eq_nil_iff, List.append_eq_nil_iff] at hh
      obtain ⟨⟨hx, hk⟩, hl⟩ := hh
      have hx12 : ¬ x.kind = 1 ∧ ¬ x.kind = 2 := by
        unfold Node.head1 at hx
        split at hx
        · simp at hx
        · rename_i h; omega
      rw [gL_cons, gL_cons]
      have key : gN (inn + m) (out.map (shiftB m)) x = (gN inn out x).map (shiftB m) := by
        rw [gN_eq, gN_eq, if_neg hx12.1, if_neg hx12.1, if_neg hx12.2, if_neg hx12.2]
        have fl : ∀ (l r : Int) (t u : List Glyph), flowB l (inn + m) r t u = shiftB m (flowB l inn r t u) := fun _ _ _ _ => rfl
        split
        · rw [fl, lay_shift, ih x.kids h1 hk]
        split
        · cases hkd : x.kids with
          | nil => rw [gT, gT, fl, lay_shift]
          | cons y rest =>
            by_cases h3 : y.kind = 3
            · rw [gT_para _ _ _ _ _ _ _ h3, gT_para _ _ _ _ _ _ _ h3, fl, lay_shift, show inn + m + x.n = inn + x.n + m by omega]
              rw [hkd, Node.headsL_cons, List.append_eq_nil_iff] at hk
              exact ih rest (by rw [hkd] at h1; simp at h1; omega) hk.2 _ _ _
            · rw [gT_else _ _ _ _ _ _ (fun y' r' h => by simp at h; rw [← h.1]; exact h3), gT_else _ _ _ _ _ _ (fun y' r' h => by simp at h; rw [← h.1]; exact h3), ← hkd, fl, lay_shift, show inn + m + x.n = inn + x.n + m by omega]
              exact ih x.kids h1 hk _ _ _
        split
        · rw [show inn + m + x.n = inn + x.n + m by omega]
          exact ih x.kids h1 hk _ _ _
        split
        · rw [← ih x.kids h1 hk, ← lay_shift]; rfl
        split
        · rw [← ih x.kids h1 hk, ← lay_shift]; rfl
        · exact ih x.kids h1 hk _ _ _
      rw [key, ih l h2 hl]
theorem check_in {l : List Node} (hh : Node.headsL l = []) (h : checkL 0 l = true) : checkL 5 l = true := by
  rw [checkL_all, List.all_eq_true] at h ⊢
  intro x hx
  have hx12 : ¬ x.kind = 1 ∧ ¬ x.kind = 2 := by
    obtain ⟨a, b, rfl⟩ := List.append_of_mem hx
    rw [Node.headsL_append, Node.headsL_cons, List.append_eq_nil_iff, List.append_eq_nil_iff, List.append_eq_nil_iff] at hh
    have := hh.2.1.1
    unfold Node.head1 at this
    split at this
    · simp at this
    · rename_i h; omega
  have := h x hx
  rw [checkN_eq, Bool.and_eq_true] at this ⊢
  refine ⟨?_, this.2⟩
  have h1 := this.1
  unfold okN at h1 ⊢
  have e : standsIn x.kind 5 = standsIn x.kind 0 := by unfold standsIn; rw [if_neg hx12.1, if_neg hx12.1, if_neg hx12.2, if_neg hx12.2]
  rw [e]; exact h1
def indentN (m : Int) (l : List Node) : Node := .mk 5 0 m [] l [] noTbl
theorem indent_check {m : Int} {l : List Node} (h0 : 0 ≤ m) (h1 : m ≤ 200) (hl : l ≠ []) (hh : Node.headsL l = []) (h : checkL 0 l = true) : checkL 0 [indentN m l] = true := by
  rw [checkL_all, List.all_cons, List.all_nil, checkN_eq, Bool.and_true, Bool.and_eq_true]
  refine ⟨?_, check_in hh h⟩
  have hb : bareT noTbl = true := bareT_none
  have hs : sqzd [] = true := sqzd_nil
  have he : l.isEmpty = false := by cases l <;> simp_all
  simp [okN, okHas, indentN, standsIn, wholeN, hasText, hasKids, hasN, h0, h1, hb, hs, he]
theorem indent_blocks {m : Int} {l : List Node} (h0 : 0 ≤ m) (h1 : m ≤ 200) (hl : l ≠ []) (hh : Node.headsL l = []) (h : checkL 0 l = true) (hc : Node.cntL l ≤ 19999) (hd : Node.deeps l ≤ 19) : nodesB 7 [indentN m l] = (nodesB 7 l).map (shiftB m) := by
  have e1 : (indentN m l).kids = l := rfl
  rw [nodesB_ok (indent_check h0 h1 hl hh h) (by rw [Node.cntL_cons, e1, Node.cntL_nil]; omega) (by rw [Node.deeps_cons, e1, Node.deeps_nil]; omega), nodesB_ok h (by omega) (by omega)]
  rw [gL_cons, gL_nil, gN_eq]
  have := gL_shift _ l (Nat.lt_succ_self _) hh (clamp 200 7) m []
  rw [List.map_nil] at this
  exact this
end Go.Proofs.YtlnnnfogbakimaaDoor.Ev
end
section
namespace Go.Proofs.YtlnnnfogbakimaaDoor.Ev
open Go
set_option linter.unusedSimpArgs false in
set_option maxRecDepth 20000 in
set_option maxHeartbeats 4000000 in
theorem lowerInLaw (l : List Node) (n : Int) (hn : (Lit.int .u8 n).wf = true) (hb : sumBy Node.long l ≤ 1073741824) : PCon C0 8 [.sc (.sl (l.map Node.pv)), .sc (.int .u8 n)] (.sc (.bool true)) := by
  have hll : l.length ≤ 1073741824 := Nat.le_trans (len_le_long _) hb
  have cl := law15Long l (ok_of hb) (by omega)
  have kn := lowerKnown
  obtain ⟨n0, n1⟩ : 0 ≤ n ∧ n ≤ 255 := by
    simp only [Lit.wf, Bool.and_eq_true, decide_eq_true_eq] at hn
    have h1 : IntKind.u8.min = 0 := by decide
    have h2 : IntKind.u8.max = 255 := by decide
    exact ⟨by rw [← h1]; exact hn.1, by rw [← h2]; exact hn.2⟩
  have wn : IntKind.i64.wrap n = n := wrap64 (by omega) (by omega)
  have hmod : n.tmod 100 = n % 100 := Int.tmod_eq_emod_of_nonneg n0
  refine penter8 ?_
  simp [Tryd.f8]
  refine CallQ.mk (Call.pure callable24 (by simp) (by simp) cl) ?_
  cases htl : tooLong l
  rotate_left
  · simp
    refine CallQ.mk (Call.pure callable25 (by simp) (by simp) kn) ?_
    simp
  have hL := short_of htl hb
  have hcl := Node.cnt_long _ l (Nat.lt_succ_self _)
  have hd := refDeep' l hb
  simp
  refine CallQ.mk (Call.pure callable32 (by simp) (by simp) hd) ?_
  by_cases h15 : 15 < Node.deeps l
  · have h15' : (15 : Int) < Node.deeps l := by omega
    simp [h15, h15']
    refine CallQ.mk (Call.pure callable25 (by simp) (by simp) kn) ?_
    simp
  have h15' : ¬ (15 : Int) < Node.deeps l := by omega
  have ka := refCheckD (docK l) (by show Node.cntL l ≤ _; omega) (by show l.length ≤ _; omega) (small_of (by show sumBy Node.long l ≤ _; omega)) hd
  simp [Doc.pv, docK] at ka
  simp [h15, h15']
  refine CallQ.mk (Call.pure callable31 (by simp) (by simp) (ka.les ?_)) ?_
  · repeat' first | exact FLes.nil | exact FLe.refl _ | exact FLe.emp | apply FLes.cons | apply FLe.agg
  by_cases h1 : checkD (docK l) = 0
  rotate_left
  · simp [docK] at h1
    simp [h1]
    refine CallQ.mk (Call.pure callable25 (by simp) (by simp) kn) ?_
    simp
  obtain ⟨a1, a2, a3⟩ := checkD_zero h1
  simp [docK] at h1
  by_cases hne : l = []
  · subst hne
    simp [h1]
    refine CallQ.mk (Call.pure callable25 (by simp) (by simp) kn) ?_
    simp
  have hne' : ¬ (l.length : Int) = 0 := by have := List.length_pos_iff.2 hne; omega
  have hh := refHeads _ l (Nat.lt_succ_self _) (by omega)
  simp [h1, hne, hne']
  refine CallQ.mk (Call.pure callable33 (by simp) (by simp) hh) ?_
  by_cases hhd : Node.headsL l = []
  rotate_left
  · have h0 : 0 < (Node.headsL l).length := List.length_pos_iff.2 hhd
    simp [h0, hhd]
    refine CallQ.mk (Call.pure callable25 (by simp) (by simp) kn) ?_
    simp
  have e := indent_blocks (m := n % 100) (by omega) (by omega) hne hhd a1 (by omega) (by omega)
  have la := lowerNodesGen l 7 (by omega)
  have hlong2 : sumBy Node.long [indentN (n % 100) l] ≤ 1000000 := by
    rw [sumBy_cons, Node.long_own]
    show (indentN (n % 100) l).own1 + sumBy Node.long l + sumBy Node.long [] ≤ _
    have : (indentN (n % 100) l).own1 = 3 := rfl
    rw [this]; simp only [sumBy]; omega
  have lb := lowerNodesGen [indentN (n % 100) l] 7 (by omega)
  rw [e] at lb
  have lenA := nodesB_len 7 l
  have okA := nodesB_small 7 l (by omega)
  have hIn : ∀ x ∈ nodesB 7 l, -1000000 ≤ x.inn ∧ x.inn ≤ 1000000 := fun x hx => by
    obtain ⟨i1, i2, i3⟩ := (nodesB_good l (by omega)).2 x hx
    by_cases c1 : x.kind = 1
    · rw [i1 c1]; omega
    · by_cases c2 : x.kind = 2
      · rw [i2 c2]; omega
      · have := i3 c1 c2; omega
  have sI : ([indentN (n % 100) l].map Node.pv) = [.agg [.int .i64 5, .int .i64 0, .int .i64 (n % 100), .sl [], .sl (l.map Node.pv), .sl [], .str ByteArray.empty, .sl [], .bool false, .bool false]] := by
    rw [List.map_cons, List.map_nil, Node.pv_eq]; rfl
  rw [sI] at lb
  generalize nodesB 7 l = A at *
  generalize hB : A.map (shiftB (n % 100)) = B at lb
  have hBl : B.length = A.length := by rw [← hB, List.length_map]
  simp [hhd, wn, hmod]
  refine CallQ.mk (Call.pure callable29 (by simp) (by simp) la) ?_
  simp [sized1]
  refine CallQ.mk (Call.pure callable29 (by simp) (by simp) lb) ?_
  simp
  have hm : 0 ≤ n % 100 ∧ n % 100 < 100 := by omega
  simp [hBl]
  refine loopC (fun d e H => ∃ (i : Nat) (X : Heap) (x9 x53 x73 : FV), d = A.length - i ∧ i ≤ A.length ∧ H = X ∧ e = [(0, .sc (.sl (l.map Node.pv))), (1, .sc (.int .u8 n)), (4, .sc (.bool false)), (5, .sc (.int .i64 (n % 100))), (6, .sc (.sl (A.map Block.pv))), (7, .sc (.sl (B.map Block.pv))), (8, .sc (.int .i64 i)), (9, x9), (33, .sc (.bool false)), (49, .sc (.bool false)), (53, x53), (73, x73)]) (d := A.length)
    ⟨0, _, _, _, _, rfl, by omega, rfl, rfl⟩ ?_
  rintro d e H ⟨i, X, x9, x53, x73, rfl, hi, rfl, rfl⟩
  by_cases hlt : i < A.length
  rotate_left
  · simp [hlt]
    refine CallQ.mk (Call.pure callable25 (by simp) (by simp) kn) ?_
    simp
  have hq : A[i]? = some A[i] := List.getElem?_eq_getElem hlt
  have hq2 : B[i]? = some (shiftB (n % 100) A[i]) := by rw [← hB, List.getElem?_map, hq]; rfl
  have eA := Block.pv_eq A[i]
  have eB := Block.pv_eq (shiftB (n % 100) A[i])
  have f1 : (shiftB (n % 100) A[i]).kind = A[i].kind ∧ (shiftB (n % 100) A[i]).line = A[i].line ∧ (shiftB (n % 100) A[i]).inn = A[i].inn + n % 100 ∧ (shiftB (n % 100) A[i]).gap = A[i].gap ∧ (shiftB (n % 100) A[i]).room = A[i].room ∧ (shiftB (n % 100) A[i]).tag = A[i].tag ∧ (shiftB (n % 100) A[i]).text = A[i].text ∧ (shiftB (n % 100) A[i]).rows = A[i].rows ∧ (shiftB (n % 100) A[i]).grid = A[i].grid := ⟨rfl, rfl, rfl, rfl, rfl, rfl, rfl, rfl, rfl⟩
  obtain ⟨q1, q2, q3, q4, q5, q6, q7, q8, q9⟩ := f1
  rw [q1, q2, q3, q4, q5, q6, q7, q8, q9] at eB
  have hinn : -1000000 ≤ A[i].inn ∧ A[i].inn ≤ 1000000 := hIn _ (List.getElem_mem hlt)
  have w : IntKind.i64.wrap A[i].inn = A[i].inn := wrap64 (by omega) (by omega)
  have sg := refBlocksSame [A[i]] [A[i]] (by simp) (fun b hb => okA b (by rw [List.mem_singleton.1 hb]; exact List.getElem_mem hlt))
  rw [List.map_cons, List.map_nil, eA] at sg
  simp [gl] at sg
  simp [hlt, hq, hq2, eA, eB, gl, heap_at, w, sized12]
  refine CallQ.mk (CallP.pure callable26 (by simp) (by simp) sg) ?_
  simp
  exact ⟨A.length - (i + 1), by omega, i + 1, rfl, by omega, by rw [wrap64 (by omega) (by omega)]; omega⟩
end Go.Proofs.YtlnnnfogbakimaaDoor.Ev
end
