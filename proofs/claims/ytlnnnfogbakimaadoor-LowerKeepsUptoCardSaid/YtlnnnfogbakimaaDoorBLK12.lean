/- Of what the law LowerKeeps needs: part 12. -/
import Derived.Test.YtlnnnfogbakimaaDoorBLK7
import Derived.Test.YtlnnnfogbakimaaDoorBLK11
set_option linter.unusedSimpArgs false
set_option linter.unusedVariables false
section
namespace Go.Proofs.YtlnnnfogbakimaaDoor.Ev
open Go
def flowB (line inn room : Int) (tag text : List Glyph) : Block := ⟨3, line, inn, false, room, tag, text, [], noTbl⟩
mutual
def gN (inn : Int) (out : List Block) : Node → List Block
  | .mk kind line n text kids rows grid =>
    if kind = 1 then gL inn (layB out ⟨1, line, 0, false, 0, [], strong text, [], noTbl⟩) kids
    else if kind = 2 then gL inn (layB out ⟨2, line, 3, false, 0, [], strong text, [], noTbl⟩) kids
    else if kind = 3 then gL inn (layB out (flowB line inn 0 [] text)) kids
    else if kind = 4 then gT inn line n text out kids
    else if kind = 5 then gL (inn + n) out kids
    else if kind = 6 then gL inn (layB out ⟨4, line, inn, false, 0, [], [], rows, noTbl⟩) kids
    else if kind = 7 then gL inn (layB out ⟨5, line, inn, false, 0, [], [], [], mendT grid⟩) kids
    else gL inn out kids
def gT (inn line n : Int) (text : List Glyph) (out : List Block) : List Node → List Block
  | [] => layB out (flowB line inn n text [])
  | y :: rest => if y.kind = 3 then gL (inn + n) (layB out (flowB line inn n text y.text)) rest
    else gL (inn + n) (gN (inn + n) (layB out (flowB line inn n text [])) y) rest
def gL (inn : Int) (out : List Block) : List Node → List Block
  | [] => out
  | x :: l => gL inn (gN inn out x) l
end
theorem gN_eq (inn : Int) (out : List Block) (x : Node) : gN inn out x =
    if x.kind = 1 then gL inn (layB out ⟨1, x.line, 0, false, 0, [], strong x.text, [], noTbl⟩) x.kids
    else if x.kind = 2 then gL inn (layB out ⟨2, x.line, 3, false, 0, [], strong x.text, [], noTbl⟩) x.kids
    else if x.kind = 3 then gL inn (layB out (flowB x.line inn 0 [] x.text)) x.kids
    else if x.kind = 4 then gT inn x.line x.n x.text out x.kids
    else if x.kind = 5 then gL (inn + x.n) out x.kids
    else if x.kind = 6 then gL inn (layB out ⟨4, x.line, inn, false, 0, [], [], x.rows, noTbl⟩) x.kids
    else if x.kind = 7 then gL inn (layB out ⟨5, x.line, inn, false, 0, [], [], [], mendT x.grid⟩) x.kids
    else gL inn out x.kids := by cases x; rw [gN]; rfl
theorem gL_nil (inn : Int) (out : List Block) : gL inn out [] = out := by rw [gL]
theorem gL_cons (inn : Int) (out : List Block) (x : Node) (l : List Node) : gL inn out (x :: l) = gL inn (gN inn out x) l := by rw [gL]
theorem gT_para (inn line n : Int) (text : List Glyph) (out : List Block) (y : Node) (rest : List Node) (h : y.kind = 3) : gT inn line n text out (y :: rest) = gL (inn + n) (layB out (flowB line inn n text y.text)) rest := by
  rw [gT, if_pos h]
theorem gT_else (inn line n : Int) (text : List Glyph) (out : List Block) (l : List Node) (h : ∀ y rest, l = y :: rest → y.kind ≠ 3) : gT inn line n text out l = gL (inn + n) (layB out (flowB line inn n text [])) l := by
  cases l with
  | nil => rw [gT, gL]
  | cons y rest => rw [gT, if_neg (h y rest rfl), gL]
theorem gL_append (inn : Int) : ∀ (l m : List Node) (out : List Block), gL inn out (l ++ m) = gL inn (gL inn out l) m
  | [], m, out => by rw [List.nil_append, gL_nil]
  | x :: l, m, out => by rw [List.cons_append, gL_cons, gL_append inn l m, gL_cons]
theorem gL_take {inn : Int} {out : List Block} {l : List Node} {i : Nat} (h : i < l.length) : gL inn out (l.take (i + 1)) = gN inn (gL inn out (l.take i)) l[i] := by
  rw [List.take_succ_eq_append_getElem h, gL_append, gL_cons, gL_nil]
theorem gL_len : ∀ (n : Nat) (l : List Node), SizeOf.sizeOf l < n → ∀ inn out, out.length ≤ (gL inn out l).length ∧ (gL inn out l).length ≤ out.length + Node.cntL l := by
  intro n
  induction n with
  | zero => intro l h; omega
  | succ n ih =>
    intro l hn inn out
    cases l with
    | nil => rw [gL_nil]; omega
    | cons x l =>
      obtain ⟨h1, h2⟩ := Node.sz_kids hn
      rw [gL_cons, Node.cntL_cons]
      have h2 := ih l h2
      have h1 := ih x.kids h1
      have hx : out.length ≤ (gN inn out x).length ∧ (gN inn out x).length ≤ out.length + 1 + Node.cntL x.kids := by
        rw [gN_eq]
        have hb := layB_len out
        split
        · have := h1 inn (layB out ⟨1, x.line, 0, false, 0, [], strong x.text, [], noTbl⟩); rw [hb] at this; omega
        split
        · have := h1 inn (layB out ⟨2, x.line, 3, false, 0, [], strong x.text, [], noTbl⟩); rw [hb] at this; omega
        split
        · have := h1 inn (layB out (flowB x.line inn 0 [] x.text)); rw [hb] at this; omega
        split
        · cases hk : x.kids with
          | nil => rw [gT, hb]; omega
          | cons y rest =>
            have hsz : SizeOf.sizeOf rest < n := by
              have : SizeOf.sizeOf x.kids < n := (Node.sz_kids hn).1
              rw [hk] at this; simp at this; omega
            by_cases h3 : y.kind = 3
            · rw [gT_para _ _ _ _ _ _ _ h3]
              have := ih rest hsz (inn + x.n) (layB out (flowB x.line inn x.n x.text y.text))
              rw [hb] at this
              rw [Node.cntL_cons]; omega
            · rw [gT_else _ _ _ _ _ _ (fun y' r' h => by simp at h; rw [← h.1]; exact h3), ← hk]
              have := h1 (inn + x.n) (layB out (flowB x.line inn x.n x.text [])); rw [hb] at this; omega
        split
        · have := h1 (inn + x.n) out; omega
        split
        · have := h1 inn (layB out ⟨4, x.line, inn, false, 0, [], [], x.rows, noTbl⟩); rw [hb] at this; omega
        split
        · have := h1 inn (layB out ⟨5, x.line, inn, false, 0, [], [], [], mendT x.grid⟩); rw [hb] at this; omega
        · have := h1 inn out; omega
      have := h2 inn (gN inn out x)
      omega
inductive NFit : Node → Prop
  | mk {kind line n : Int} {text : List Glyph} {kids : List Node} {rows : List (List Glyph)} {grid : Tbl} (h0 : 0 ≤ n) (h1 : n ≤ 200) (hs : (Node.mk kind line n text kids rows grid).Small) (hks : ∀ x ∈ kids, NFit x) : NFit (.mk kind line n text kids rows grid)
theorem NFit.all {x : Node} (h : NFit x) : 0 ≤ x.n ∧ x.n ≤ 200 ∧ x.Small ∧ ∀ y ∈ x.kids, NFit y := by
  cases h; exact ⟨by assumption, by assumption, by assumption, by assumption⟩
theorem nfit_of : ∀ (n : Nat) (l : List Node), SizeOf.sizeOf l < n → ∀ inn, checkL inn l = true → (∀ x ∈ l, x.Small) → ∀ x ∈ l, NFit x := by
  intro n
  induction n with
  | zero => intro l h; omega
  | succ n ih =>
    intro l hn inn hc hs x hx
    have hsz := Node.kids_lt hx
    rw [checkL_all, List.all_eq_true] at hc
    have hcx := hc x hx
    rw [checkN_eq, Bool.and_eq_true] at hcx
    obtain ⟨_, _, _, _, h5, h6, _⟩ := okN_all hcx.1
    have hk := ih x.kids (by omega) x.kind hcx.2 (hs x hx).kids.2
    have hsx := hs x hx
    cases x
    exact .mk h5 h6 hsx hk
end Go.Proofs.YtlnnnfogbakimaaDoor.Ev
end
section
namespace Go.Proofs.YtlnnnfogbakimaaDoor.Ev
open Go
theorem DrawC.cut {C : Ctx} {nt : Nat} {mv vars : List Nat} {ops : Array Oper} {e : Env} {H : Heap} {Q : Ex → Env → Heap → Prop} {R : List (List Nat)} {E : Env} {H₁ : Heap} (h : DrawC C nt mv ops e H (fun e' H' => Ev.keep vars e' = E ∧ H' = H₁) R) (hK : Q .normal E H₁) : DrawC C nt mv ops e H (KEnd vars Q) R := by
  have hh : ∀ e' H', (Ev.keep vars e' = E ∧ H' = H₁) → KEnd vars Q e' H' := fun e' H' ⟨h1, h2⟩ => by
    rw [KEnd_apply, h1, h2]; exact hK
  cases R with
  | nil => exact wpOps_mono' hh h
  | cons l R =>
    obtain ⟨ρ, h⟩ := h
    exact ⟨ρ, fun r hr => wpOps_mono' hh (h r hr)⟩
set_option linter.unusedSimpArgs false in
set_option maxRecDepth 20000 in
set_option maxHeartbeats 8000000 in
theorem lowerNodeG (x : Node) (hx : NFit x) (ih : ∀ (l : List Node), (l = x.kids ∨ ∃ y, x.kids = y :: l) → ∀ (H : Heap) (b : Nat) (inn : Int) (out : List Block), H[b]? = some [.own (out.map Block.pv)] → NP H → 0 ≤ inn → inn + 200 * (Node.deeps l : Nat) ≤ 1000000 → out.length + Node.cntL l ≤ 1073741824 →
      Con C0 58 [.ptr b 0, .sc (.int .i64 inn), .sc (.sl (l.map Node.pv))] H (.tup []) (H.set b [.own ((gL inn out l).map Block.pv)]))
    (H : Heap) (b : Nat) (inn : Int) (out : List Block) (hb : H[b]? = some [.own (out.map Block.pv)]) (hp : NP H) (h0 : 0 ≤ inn) (hi : inn + 200 * (1 + (Node.deeps x.kids : Nat)) ≤ 1000000) (hc : out.length + 1 + Node.cntL x.kids ≤ 1073741824) :
    Con C0 93 [.ptr b 0, .sc (.int .i64 inn), x.pv.toFV] H (.tup []) (H.set b [.own ((gN inn out x).map Block.pv)]) := by
  have hbl : b < H.length := (List.getElem?_eq_some_iff.1 hb).1
  have hset : ∀ l : List PV, NP (H.set b [.own l]) := fun l fs hfs f hf => by
    rcases List.mem_or_eq_of_mem_set hfs with h | h
    · exact hp fs h f hf
    · subst h; simp at hf; subst hf; rfl
  refine con_trim (C := C0) (fn := Tryd.f93) Tryd.func93 rfl (by decide) mixed (mv := mv93) (vars := vars93) (c := Tryd.f93.body.getD .skip) (by kernel_rfl) rfl (hset _) ?_
  obtain ⟨hn0, hn1, hs, hks⟩ := hx.all
  have ht : x.text.length ≤ lenMax := by have := hs.text; unfold lenMax; omega
  have ho : out.length ≤ 1073741824 := by omega
  rw [gN_eq]
  have ea := Node.pv_eq x
  have w1 : IntKind.i64.wrap (inn + x.n) = inn + x.n := wrap64 (by omega) (by omega)
  by_cases k1 : x.kind = 1
  · have st := treeStrong x.text ht
    simp [k1]
    simp [Tryd.f93, mv93, ea, gl, k1]
    refine CallQ.mk (Call.pure callable34 (by simp) (by simp) st) ?_
    simp [gl, hs_at, hs_at0, hb, heap_old hbl]
    refine CallQ.mk (Call.shared callable125 (lowerLay _ b out ⟨1, x.line, 0, false, 0, [], strong x.text, [], noTbl⟩ (by rw [heap_old hbl]; exact hb) ?_ ho)) ?_
    · exact np_app hp (np_cons (by simp) (np_cons (by simp) np_nil))
    simp [heap_old_set hbl, hs_at, hs_at0]
    refine CallQ.mk (Call.shared callable58 (ih x.kids (.inl rfl) _ b inn _ (hs_b hbl) ?_ h0 (by omega) (by rw [layB_len]; omega))) ?_
    · exact np_app (hset _) (np_cons (by simp) (np_cons (by simp) np_nil))
    simp [hs_set hbl, heap_old_take_set]
  by_cases k2 : x.kind = 2
  · have st := treeStrong x.text ht
    simp [k2]
    simp [Tryd.f93, mv93, ea, gl, k2]
    refine CallQ.mk (Call.pure callable34 (by simp) (by simp) st) ?_
    simp [gl, hs_at, hs_at0, hb, heap_old hbl]
    refine CallQ.mk (Call.shared callable125 (lowerLay _ b out ⟨2, x.line, 3, false, 0, [], strong x.text, [], noTbl⟩ (by rw [heap_old hbl]; exact hb) ?_ ho)) ?_
    · exact np_app hp (np_cons (by simp) (np_cons (by simp) np_nil))
    simp [heap_old_set hbl, hs_at, hs_at0]
    refine CallQ.mk (Call.shared callable58 (ih x.kids (.inl rfl) _ b inn _ (hs_b hbl) ?_ h0 (by omega) (by rw [layB_len]; omega))) ?_
    · exact np_app (hset _) (np_cons (by simp) (np_cons (by simp) np_nil))
    simp [hs_set hbl, heap_old_take_set]
  by_cases k3 : x.kind = 3
  · have st := cloneG x.text ht
    simp [k3]
    simp [Tryd.f93, mv93, ea, gl, k3]
    refine CallQ.mk (Call.pure callable62 (by simp) (by simp) st) ?_
    simp [gl, hs_at, hs_at0, hb, heap_old hbl]
    refine CallQ.mk (Call.shared callable125 (lowerLay _ b out (flowB x.line inn 0 [] x.text) (by rw [heap_old hbl]; exact hb) ?_ ho)) ?_
    · exact np_app hp (np_cons (by simp) (np_cons (by simp) np_nil))
    simp [heap_old_set hbl, hs_at, hs_at0]
    refine CallQ.mk (Call.shared callable58 (ih x.kids (.inl rfl) _ b inn _ (hs_b hbl) ?_ h0 (by omega) (by rw [layB_len]; omega))) ?_
    · exact np_app (hset _) (np_cons (by simp) (np_cons (by simp) np_nil))
    simp [hs_set hbl, heap_old_take_set]
  by_cases k4 : x.kind = 4
  · have st := cloneG x.text ht
    simp [k4]
    simp [Tryd.f93, mv93, ea, gl, k4]
    apply DrawC.cut
    · refine DrawC.two (fun _ _ => .own (x.text.map Glyph.pv)) ?_ ?_
      · simp [heap_at]
        refine CallQ.mk (CallD.pure callable62 (by simp) (by simp) st rfl) ?_
        simp
        exact ⟨rfl, rfl⟩
      · simp [heap_at]
        refine CallQ.mk (CallD.pure callable62 (by simp) (by simp) st rfl) ?_
        simp
    rcases hkd : x.kids with _ | ⟨y, rest⟩
    · rw [gT_else _ _ _ _ _ [] (by simp)]
      rw [hkd] at ih
      simp [gl, hs_at, hs_at0, hb, heap_old hbl, w1]
      refine CallQ.mk (Call.shared callable125 (lowerLay _ b out (flowB x.line inn x.n x.text []) (by rw [heap_old hbl]; exact hb) ?_ ho)) ?_
      · exact np_app hp (np_cons (by simp) (np_cons (by simp) np_nil))
      simp [heap_old_set hbl, hs_at, hs_at0, w1]
      refine CallQ.mk (Call.shared callable58 (ih [] (.inl rfl) _ b (inn + x.n) _ (hs_b hbl) ?_ (by omega) (by rw [Node.deeps_nil]; omega) (by rw [layB_len, Node.cntL_nil]; omega))) ?_
      · exact np_app (hset _) (np_cons (by simp) (np_cons (by simp) np_nil))
      simp [hs_set hbl, heap_old_take_set]
    · have hd := hi
      have hcc := hc
      rw [hkd, Node.deeps_cons] at hd
      rw [hkd, Node.cntL_cons] at hcc
      rw [hkd] at ih
      have ey := Node.pv_eq y
      by_cases h3 : y.kind = 3
      · rw [gT_para _ _ _ _ _ _ _ h3]
        have hys : y.Small := hs.kids.2 y (by rw [hkd]; simp)
        have sy := cloneG y.text (by have := hys.text; unfold lenMax; omega)
        simp only [gl] at sy
        simp [gl, hs_at, hs_at0, hb, heap_old hbl, w1, ey, h3]
        refine CallQ.mk (CallP.pure callable62 (by simp) (by simp) sy) ?_
        have hz : sizedB 10 (PV.agg [PV.int IntKind.i64 3, PV.int IntKind.i64 y.line, PV.int IntKind.i64 y.n, PV.sl (List.map Glyph.pv y.text), PV.sl (List.map Node.pv y.kids), PV.sl (List.map gl y.rows), PV.str y.grid.cols, PV.sl (List.map TRow.pv y.grid.rows), PV.bool y.grid.box, PV.bool y.grid.all] :: List.map Node.pv rest) = true := by
          refine List.all_eq_true.2 fun p hp => ?_
          rcases List.mem_cons.1 hp with rfl | hp
          · rfl
          · rw [sizedN rest p hp]; rfl
        have h1l : (1 : Int) ≤ (rest.length : Int) + 1 := by omega
        have htk : List.take rest.length (List.map Node.pv rest) = List.map Node.pv rest := List.take_of_length_le (by simp)
        simp [hs_at, hs_at0, hb, heap_old hbl, w1, hz, h1l, htk]
        refine CallQ.mk (Call.shared callable125 (lowerLay _ b out (flowB x.line inn x.n x.text y.text) (by rw [heap_old hbl]; exact hb) ?_ ho)) ?_
        · exact np_app hp (np_cons (by simp) (np_cons (by simp) np_nil))
        simp [heap_old_set hbl, hs_at, hs_at0, w1]
        have hr := fun H b out => ih rest (.inr ⟨y, rfl⟩) H b (inn + x.n) out
        refine CallQ.mk (Call.shared callable58 (hr _ b _ (hs_b hbl) ?_ (by omega) (by omega) (by rw [layB_len]; omega))) ?_
        · exact np_app (hset _) (np_cons (by simp) (np_cons (by simp) np_nil))
        simp [hs_set hbl, heap_old_take_set]
      · rw [gT_else _ _ _ _ _ _ (fun y' r' h => by simp at h; rw [← h.1]; exact h3)]
        simp [gl, hs_at, hs_at0, hb, heap_old hbl, w1, ey, h3]
        refine CallQ.mk (Call.shared callable125 (lowerLay _ b out (flowB x.line inn x.n x.text []) (by rw [heap_old hbl]; exact hb) ?_ ho)) ?_
        · exact np_app hp (np_cons (by simp) (np_cons (by simp) np_nil))
        simp [heap_old_set hbl, hs_at, hs_at0, w1]
        have hr := ih (y :: rest) (.inl rfl)
        simp [ey, gl] at hr
        refine CallQ.mk (Call.shared callable58 (hr _ b (inn + x.n) _ (hs_b hbl) ?_ (by omega) (by rw [Node.deeps_cons]; omega) (by rw [layB_len, Node.cntL_cons]; omega))) ?_
        · exact np_app (hset _) (np_cons (by simp) (np_cons (by simp) np_nil))
        simp [hs_set hbl, heap_old_take_set]
  by_cases k5 : x.kind = 5
  · simp [k5]
    simp [Tryd.f93, mv93, ea, gl, k5, w1]
    refine CallQ.mk (Call.shared callable58 (ih x.kids (.inl rfl) _ b _ out (by rw [heap_old hbl]; exact hb) ?_ (by omega) (by omega) (by omega))) ?_
    · exact np_app hp (np_cons (by simp) (np_cons (by simp) np_nil))
    simp [heap_old_set hbl, heap_old_take_set]
  by_cases k6 : x.kind = 6
  · simp [k6]
    simp [Tryd.f93, mv93, ea, gl, k6]
    refine loopC (fun d e H' => ∃ (i : Nat) (x9 x94 : FV), d = x.rows.length - i ∧ i ≤ x.rows.length ∧
      H' = H ++ [[.sc (.int .i64 6), .sc (.int .i64 x.line), .sc (.int .i64 x.n), .sc (.sl (x.text.map Glyph.pv)), .sc (.sl (x.kids.map Node.pv)), .sc (.sl (x.rows.map gl)), .sc (.str x.grid.cols), .sc (.sl (x.grid.rows.map TRow.pv)), .sc (.bool x.grid.box), .sc (.bool x.grid.all)],
        [.sc (.int .i64 4), .sc (.int .i64 x.line), .sc (.int .i64 inn), .sc (.bool false), .sc (.int .i64 0), .own [], .own [], .own ((x.rows.take i).map gl), .sc (.str ByteArray.empty), .own [], .sc (.bool false), .sc (.bool false)]] ∧
      e = [(0, .ptr b 0), (1, .sc (.int .i64 inn)), (2, .agg [.sc (.int .i64 6), .sc (.int .i64 x.line), .sc (.int .i64 x.n), .sc (.sl (x.text.map Glyph.pv)), .sc (.sl (x.kids.map Node.pv)), .sc (.sl (x.rows.map gl)), .sc (.str x.grid.cols), .sc (.sl (x.grid.rows.map TRow.pv)), .sc (.bool x.grid.box), .sc (.bool x.grid.all)]),
        (5, .ptr H.length 0), (6, .ptr (H.length + 1) 0), (7, .sc (.sl (x.kids.map Node.pv))), (9, x9), (17, .sc (.int .i64 6)), (18, .sc (.bool false)), (20, .sc (.bool false)), (22, .sc (.bool false)), (24, .sc (.bool false)), (26, .sc (.bool false)), (28, .sc (.bool true)), (30, .undef), (66, .undef), (91, .sc (.sl (x.rows.map gl))), (92, .sc (.int .i64 x.rows.length)), (93, .sc (.int .i64 i)), (94, x94)]) (d := x.rows.length)
      ⟨0, _, _, by omega, by omega, by simp, rfl⟩ ?_
    rintro d e H' ⟨i, x9, x94, rfl, hi, rfl, rfl⟩
    have hrl := hs.rows.1
    simp
    refine CondC.mk (fun hlt => ?_) (fun hlt => ?_)
    · simp at hlt
      have hq : x.rows[i]? = some x.rows[i] := List.getElem?_eq_getElem hlt
      have st := cloneG x.rows[i] (by have := hs.rows.2 _ (List.getElem_mem hlt); unfold lenMax; omega)
      have htk : x.rows.take (i + 1) = x.rows.take i ++ [x.rows[i]] := List.take_succ_eq_append_getElem hlt
      simp only [gl] at st
      simp [hlt, hq, gl]
      refine CallQ.mk (CallP.pure callable62 (by simp) (by simp) st) ?_
      have s1 : Sized 1 ((x.rows.map gl).take i) := by
        intro p hp
        obtain ⟨y, _, rfl⟩ := List.mem_map.1 (List.mem_of_mem_take hp)
        rfl
      simp
      refine ⟨sized1l, s1, sized1l, by unfold lenMax; omega, x.rows.length - (i + 1), by omega, i + 1, rfl, by omega, ?_, by rw [wrap64 (by omega) (by omega)]; omega⟩
      rw [← List.map_take, ← List.map_take, htk, List.map_append]; rfl
    · simp at hlt
      have he : (x.rows.map gl).take i = x.rows.map gl := List.take_of_length_le (by simpa using hlt)
      simp [he]
      refine CallQ.mk (Call.shared callable125 (lowerLay _ b out ⟨4, x.line, inn, false, 0, [], [], x.rows, noTbl⟩ (by rw [heap_old hbl]; exact hb) ?_ ho)) ?_
      · exact np_app hp (np_cons (by simp) (np_cons (by simp) np_nil))
      simp [heap_old_set hbl, hs_at, hs_at0]
      refine CallQ.mk (Call.shared callable58 (ih x.kids (.inl rfl) _ b inn _ (hs_b hbl) ?_ h0 (by omega) (by rw [layB_len]; omega))) ?_
      · exact np_app (hset _) (np_cons (by simp) (np_cons (by simp) np_nil))
      simp [hs_set hbl, heap_old_take_set]
  by_cases k7 : x.kind = 7
  · have st := treeMend x.grid hs.tbl
    simp [Tbl.pv] at st
    simp [k7]
    simp [Tryd.f93, mv93, ea, gl, k7]
    refine CallQ.mk (Call.pure callable40 (by simp) (by simp) st) ?_
    simp [gl, hs_at, hs_at0, hb, heap_old hbl]
    refine CallQ.mk (Call.shared callable125 (lowerLay _ b out ⟨5, x.line, inn, false, 0, [], [], [], mendT x.grid⟩ (by rw [heap_old hbl]; exact hb) ?_ ho)) ?_
    · exact np_app hp (np_cons (by simp) (np_cons (by simp) np_nil))
    simp [heap_old_set hbl, hs_at, hs_at0]
    refine CallQ.mk (Call.shared callable58 (ih x.kids (.inl rfl) _ b inn _ (hs_b hbl) ?_ h0 (by omega) (by rw [layB_len]; omega))) ?_
    · exact np_app (hset _) (np_cons (by simp) (np_cons (by simp) np_nil))
    simp [hs_set hbl, heap_old_take_set]
  · simp [k1, k2, k3, k4, k5, k6, k7]
    simp [Tryd.f93, mv93, ea, gl, k1, k2, k3, k4, k5, k6, k7]
    refine CallQ.mk (Call.shared callable58 (ih x.kids (.inl rfl) _ b _ out (by rw [heap_old hbl]; exact hb) ?_ h0 (by omega) (by omega))) ?_
    · exact np_app hp (np_cons (by simp) (np_cons (by simp) np_nil))
    simp [heap_old_set hbl, heap_old_take_set]
end Go.Proofs.YtlnnnfogbakimaaDoor.Ev
end
section
namespace Go.Proofs.YtlnnnfogbakimaaDoor.Ev
open Go
set_option linter.unusedSimpArgs false in
set_option maxRecDepth 20000 in
set_option maxHeartbeats 4000000 in
theorem lowerNodesG : ∀ (n : Nat) (l : List Node), SizeOf.sizeOf l < n → (∀ x ∈ l, NFit x) → l.length ≤ 1073741824 → ∀ (H : Heap) (b : Nat) (inn : Int) (out : List Block), H[b]? = some [.own (out.map Block.pv)] → NP H → 0 ≤ inn → inn + 200 * (Node.deeps l : Nat) ≤ 1000000 → out.length + Node.cntL l ≤ 1073741824 →
      Con C0 58 [.ptr b 0, .sc (.int .i64 inn), .sc (.sl (l.map Node.pv))] H (.tup []) (H.set b [.own ((gL inn out l).map Block.pv)]) := by
  intro n
  induction n with
  | zero => intro l h; omega
  | succ n ih =>
    intro l hn hall hll H b inn out hb hp h0 hi hc
    have hbl : b < H.length := (List.getElem?_eq_some_iff.1 hb).1
    have hset : ∀ l : List PV, NP (H.set b [.own l]) := fun l fs hfs f hf => by
      rcases List.mem_or_eq_of_mem_set hfs with h | h
      · exact hp fs h f hf
      · subst h; simp at hf; subst hf; rfl
    refine con_trim (C := C0) (fn := Tryd.f58) Tryd.func58 rfl (by decide) mixed (mv := []) (vars := [0, 1, 2, 7, 8, 9, 10, 11]) (c := Tryd.f58.body.getD .skip) rfl rfl (hset _) ?_
    simp [Tryd.f58]
    refine loopC (fun d e H' => ∃ (i : Nat) (X : Heap) (x7 x11 : FV), d = l.length - i ∧ i ≤ l.length ∧ H' = H.set b [.own ((gL inn out (l.take i)).map Block.pv)] ++ X ∧ NP X ∧ e = [(0, .ptr b 0), (1, .sc (.int .i64 inn)), (2, .sc (.sl (l.map Node.pv))), (7, x7), (8, .sc (.sl (l.map Node.pv))), (9, .sc (.int .i64 l.length)), (10, .sc (.int .i64 (i : Nat))), (11, x11)]) (d := l.length)
      ⟨0, [], _, _, by omega, by omega, by rw [List.take_zero, gL_nil, List.append_nil, set_same hb], np_nil, rfl⟩ ?_
    rintro d e H' ⟨i, X, x7, x11, rfl, hi', rfl, hX, rfl⟩
    simp
    refine CondC.mk (fun hlt => ?_) (fun hlt => ?_)
    · simp at hlt
      have hm : l[i] ∈ l := List.getElem_mem hlt
      have ea := Node.pv_eq l[i]
      have hq : l[i]? = some l[i] := List.getElem?_eq_getElem hlt
      have hnf := hall _ hm
      have hk := hnf.all
      have hg := (gL_len _ (l.take i) (Nat.lt_succ_self _) inn out).2
      have hcs : Node.cntL (l.take i) + (1 + Node.cntL l[i].kids) ≤ Node.cntL l := by
        have h1 : Node.cntL (l.take i ++ l.drop i) = Node.cntL l := by rw [List.take_append_drop]
        rw [Node.cntL_append, List.drop_eq_getElem_cons hlt, Node.cntL_cons] at h1
        omega
      have hds : 1 + Node.deeps l[i].kids ≤ Node.deeps l := Node.deeps_le hm
      have nd := fun H b => lowerNodeG l[i] hnf (fun l' hl' H b inn out h1 h2 h3 h4 h5 => ih l' (by
          have := Node.kids_lt hm
          rcases hl' with rfl | ⟨y, hy⟩
          · omega
          · rw [hy] at this; simp at this; omega) (fun y hy => hk.2.2.2 y (by
          rcases hl' with rfl | ⟨z, hz⟩
          · exact hy
          · rw [hz]; exact List.mem_cons_of_mem _ hy)) (by
          have := hk.2.2.1.kids.1
          rcases hl' with rfl | ⟨z, hz⟩
          · exact this
          · rw [hz] at this; simp at this; omega) H b inn out h1 h2 h3 h4 h5) H b inn (gL inn out (l.take i))
      rw [ea] at nd
      simp [gl] at nd
      simp [hlt, hq, ea, gl, hs_at, hs_at0]
      refine CallQ.mk (Call.shared callable93 (nd _ b (hs_b hbl) ?_ h0 (by omega) (by omega))) ?_
      · exact np_app (hset _) (np_app hX (np_cons (by simp) np_nil))
      simp [hs_set hbl]
      refine ⟨l.length - (i + 1), by omega, i + 1, rfl, by omega, _, by rw [gL_take hlt], np_app hX (np_cons (by simp) np_nil), by rw [wrap64 (by omega) (by omega)]; omega⟩
    · simp at hlt
      simp [heap_old_take_set]
      rw [List.take_of_length_le hlt]
def nodesB (inn : Int) (l : List Node) : List Block := gL (clamp 200 inn) [] (tidyL 0 0 20000 l).1
theorem nodesB_len (inn : Int) (l : List Node) : (nodesB inn l).length ≤ 20000 := by
  have h1 := (gL_len _ (tidyL 0 0 20000 l).1 (Nat.lt_succ_self _) (clamp 200 inn) []).2
  have h2 := (tidy_count _ l (Nat.lt_succ_self _) 0 0 20000).1
  simp at h1
  unfold nodesB; omega
set_option linter.unusedSimpArgs false in
set_option maxRecDepth 20000 in
set_option maxHeartbeats 4000000 in
theorem lowerNodesGen (l : List Node) (inn : Int) (hb : sumBy Node.long l ≤ 44739242) : PCon C0 29 [.sc (.int .i64 inn), .sc (.sl (l.map Node.pv))] (.sc (.sl ((nodesB inn l).map Block.pv))) := by
  have hl : l.length ≤ 1073741824 := by have := len_le_long l; omega
  have htl := tidy_long _ l (Nat.lt_succ_self _) 0 0 20000
  obtain ⟨c1, c2, c3, c4⟩ := tidy_count _ l (Nat.lt_succ_self _) 0 0 20000
  have c4 := c4 (by omega)
  have hck := tidy_check _ l (Nat.lt_succ_self _) 0 0 20000
  have hsm : ∀ x ∈ (tidyL 0 0 20000 l).1, x.Small := small_of (by omega)
  have hsl : ∀ x ∈ l, x.Small := small_of (by omega)
  have hl2 : l.length ≤ 4611686018427387904 := by omega
  have td := treeTidy' fitS ⟨ByteArray.empty, ByteArray.empty, ByteArray.empty, ByteArray.empty, l⟩ hsl hl2
  have hcl := clamp_in 200 inn (by omega)
  have hlen : (tidyL 0 0 20000 l).1.length ≤ 1073741824 := by have := len_le_long (tidyL 0 0 20000 l).1; omega
  refine penter29 ?_
  simp [Tryd.f29]
  refine CallQ.mk (Call.pure callable18 (by simp) (by simp) td) ?_
  simp
  refine CallQ.mk (Call.shared callable58 (lowerNodesG _ (tidyL 0 0 20000 l).1 (Nat.lt_succ_self _) (nfit_of _ _ (Nat.lt_succ_self _) 0 hck hsm) hlen _ 0 (clamp 200 inn) [] rfl ?_ hcl.1 (by omega) (by simp; omega))) ?_
  · exact np_cons (by simp) np_nil
  simp
  rfl
set_option linter.unusedSimpArgs false in
set_option maxRecDepth 20000 in
set_option maxHeartbeats 4000000 in
theorem lowerBlocksGen (d : Doc) (hb : sumBy Node.long d.kids ≤ 44739242) : PCon C0 27 [d.pv.toFV] (.sc (.sl ((nodesB 7 d.kids).map Block.pv))) := by
  have nd := lowerNodesGen d.kids 7 hb
  refine penter27 ?_
  simp [Tryd.f27, Doc.pv]
  refine CallQ.mk (Call.pure callable29 (by simp) (by simp) nd) ?_
  simp
end Go.Proofs.YtlnnnfogbakimaaDoor.Ev
end
section
namespace Go.Proofs.YtlnnnfogbakimaaDoor.Ev
open Go
def bNode (b : Block) : Node := .mk 0 0 0 b.tag [] (b.text :: b.rows) b.grid
def btext (b : Block) : List Glyph := (bNode b).lvs
theorem btext_len (b : Block) : (btext b).length ≤ (bNode b).long := by
  have := lvs_len _ [bNode b] (Nat.lt_succ_self _)
  rw [Node.lvsL_eq] at this
  have e : ([bNode b].flatMap Node.lvs) = btext b := by simp [btext]
  rw [e] at this
  simpa [sumBy] using this
set_option linter.unusedSimpArgs false in
set_option maxRecDepth 20000 in
set_option maxHeartbeats 8000000 in
theorem lowerText (l : List Block) (hb : sumBy (fun b => (bNode b).long) l ≤ 1073741824) : PCon C0 38 [.sc (.sl (l.map Block.pv))] (.own ((l.flatMap btext).map Glyph.pv)) := by
  have hll : l.length ≤ sumBy (fun b => (bNode b).long) l := sumLen' _ (fun b => by rw [Node.long_eq]; omega) l
  have sg : ∀ l : List Glyph, Sized 2 (l.map Glyph.pv) := sizedG
  refine penter38 ?_
  simp [Tryd.f38]
  refine loopC (fun d e H => ∃ (i : Nat) (x5 x6 x10 : FV), d = l.length - i ∧ i ≤ l.length ∧ e = [(0, .sc (.sl (l.map Block.pv))), (2, .own []), (3, .own (((l.take i).flatMap btext).map Glyph.pv)), (5, x5), (6, x6), (7, .sc (.sl (l.map Block.pv))), (8, .sc (.int .i64 l.length)), (9, .sc (.int .i64 i)), (10, x10)]) (d := l.length) ⟨0, .undef, .undef, .undef, rfl, Nat.zero_le _, by simp⟩ ?_
  rintro d e H ⟨i, x5, x6, x10, rfl, hi, rfl⟩
  simp
  refine CondC.mk (fun hlt => ?_) (fun hlt => ?_)
  · simp at hlt
    have hlt' : (i : Int) < (l.length : Int) := by omega
    have hw : IntKind.i64.wrap ((i : Int) + 1) = ((i + 1 : Nat) : Int) := by rw [wrap64 (by omega) (by omega)]; omega
    have ht := flat_take btext hlt
    have h1 := sumBy_mem (fun b => (bNode b).long) hlt
    have h2 := flat_lenG btext (fun b => (bNode b).long) (l.take i) (fun b _ => btext_len b)
    obtain ⟨b, hbe⟩ : ∃ b, l[i] = b := ⟨_, rfl⟩
    rw [hbe] at ht h1
    have h3 := btext_len b
    have h4 : (bNode b).long = 3 + b.tag.length + b.grid.cols.size + sumBy Node.long [] + rowsLong (b.text :: b.rows) + sumBy trowLong b.grid.rows := Node.long_eq _
    have h5 : b.rows.length ≤ rowsLong b.rows := sumLen' _ (fun r => by omega) _
    have h6 : rowsLong (b.text :: b.rows) = 1 + b.text.length + rowsLong b.rows := rfl
    have hcat : catR [[b.text], b.rows] = b.text :: b.rows := by simp [catR]
    have cc := (conConcat2 [[b.text], b.rows] (by rw [hcat]; simp) (by rw [hcat, List.length_cons]; omega) (by simp)).pcon
    rw [hcat] at cc
    have cl := treeLeavesA _ [bNode b] (Nat.lt_succ_self _) (by simp only [sumBy]; omega)
    have e1 : Node.lvsL [bNode b] = btext b := by rw [Node.lvsL_eq]; simp [btext]
    rw [e1] at cl
    simp [bNode, Node.pv_eq, gl] at cl
    simp [grow, gl] at cc
    generalize (l.take i).flatMap btext = S at *
    have s1 := sg S
    have s2 := sg (btext b)
    obtain ⟨k, ln, inn, gap, room, tag, text, rows, grid⟩ := b
    obtain ⟨gc, gr, gb, ga⟩ := grid
    simp only at cc cl
    have s11 : ∀ p : PV, p.leaves.length = 1 → Sized 1 [p] := fun p hp q hq => by rw [List.mem_singleton.1 hq]; exact hp
    have q1 : Sized 1 [PV.sl (text.map Glyph.pv)] := s11 _ rfl
    have q2 : Sized 1 [PV.sl [PV.sl (text.map Glyph.pv)], PV.sl (rows.map gl)] := fun p hp => by simp at hp; rcases hp with rfl | rfl <;> rfl
    simp [hlt, hlt', hbe, Block.pv, gl, q1, q2]
    refine CallQ.mk (CallP.pure callable65 (by simp) (by simp) cc) ?_
    simp
    refine ⟨fun p hp => by rw [List.mem_singleton.1 hp]; rfl, ?_⟩
    refine CallQ.mk (Call.pure callable37 (by simp) (by simp) cl) ?_
    simp [s1, s2, lenMax, hw]
    exact ⟨by omega, l.length - (i + 1), by omega, i + 1, rfl, by omega, by rw [ht]; simp, by omega⟩
  · simp at hlt
    obtain rfl : i = l.length := by omega
    simp
end Go.Proofs.YtlnnnfogbakimaaDoor.Ev
end
section
namespace Go.Proofs.YtlnnnfogbakimaaDoor.Ev
open Go
set_option maxRecDepth 20000 in
set_option maxHeartbeats 4000000 in
theorem law15Long (a : List Node) (hok : ∀ x ∈ a, x.Ok) (hl : a.length ≤ 4611686018427387904) : PCon C0 24 [.sc (.sl (a.map Node.pv))] (.sc (.bool (tooLong a))) := by
  have c1 := refLong _ a (Nat.lt_succ_self _) hok hl
  have c2 := refDeep _ a (Nat.lt_succ_self _) hl hok
  refine penter24 ?_
  simp [Tryd.f24]
  refine CallQ.mk (Call.pure callable47 (by simp) (by simp) c1) ?_
  by_cases h : 600 < IntKind.i64.wrap (sumBy Node.long a : Nat)
  · simp [h, tooLong]
  · simp [h]
    refine CallQ.mk (Call.pure callable32 (by simp) (by simp) c2) ?_
    simp [h, tooLong]
def laid (out : List Block) (b : Block) : Block := match out.getLast? with
  | some x => { b with gap := decide (x.kind ≠ 1) && decide (x.kind ≠ 2) }
  | none => b
theorem layB_eq (out : List Block) (b : Block) : layB out b = out ++ [laid out b] := rfl
theorem laid_fields (out : List Block) (b : Block) : (laid out b).kind = b.kind ∧ (laid out b).line = b.line ∧ (laid out b).inn = b.inn ∧ (laid out b).room = b.room ∧ (laid out b).tag = b.tag ∧ (laid out b).text = b.text ∧ (laid out b).rows = b.rows ∧ (laid out b).grid = b.grid := by
  unfold laid; split <;> exact ⟨rfl, rfl, rfl, rfl, rfl, rfl, rfl, rfl⟩
end Go.Proofs.YtlnnnfogbakimaaDoor.Ev
end
section
namespace Go.Proofs.YtlnnnfogbakimaaDoor.Ev
open Go
theorem strong_len (l : List Glyph) : (strong l).length = l.length := by simp [strong]
end Go.Proofs.YtlnnnfogbakimaaDoor.Ev
end
section
namespace Go.Proofs.YtlnnnfogbakimaaDoor.Ev
open Go
structure Head where
  level : Int
  line : Int
  text : List Glyph
def Head.pv (h : Head) : PV := .agg [.int .i64 h.level, .int .i64 h.line, gl h.text]
theorem sizedHd (l : List Head) : Sized 3 (l.map Head.pv) := by
  intro p hp
  obtain ⟨x, _, rfl⟩ := List.mem_map.1 hp
  rfl
theorem sized3 {a b c : PV} : Sized 3 [PV.agg [a, b, c]] := by
  intro p hp
  rw [List.mem_singleton.1 hp]; rfl
namespace Node
def head1 (x : Node) : List Head := if x.kind = 1 ∨ x.kind = 2 then [⟨x.kind, x.line, x.text⟩] else []
mutual
def headsN : Node → List Head
  | .mk kind line n text kids rows grid => head1 (.mk kind line n text kids rows grid) ++ headsL kids
def headsL : List Node → List Head
  | [] => []
  | x :: l => headsN x ++ headsL l
end
theorem headsN_eq (x : Node) : headsN x = head1 x ++ headsL x.kids := by cases x; rw [headsN]; rfl
theorem headsL_nil : headsL [] = [] := by rw [headsL]
theorem headsL_cons (x : Node) (l : List Node) : headsL (x :: l) = head1 x ++ headsL x.kids ++ headsL l := by rw [headsL, headsN_eq]
theorem headsL_append (l m : List Node) : headsL (l ++ m) = headsL l ++ headsL m := by
  induction l with
  | nil => rw [headsL_nil]; rfl
  | cons x l ih => rw [List.cons_append, headsL_cons, headsL_cons, ih]; simp only [List.append_assoc]
theorem headsL_take {l : List Node} {i : Nat} (h : i < l.length) : headsL (l.take (i + 1)) = headsL (l.take i) ++ (head1 l[i] ++ headsL l[i].kids) := by
  rw [List.take_succ_eq_append_getElem h, headsL_append, headsL_cons, headsL_nil, List.append_nil]
theorem head1_len (x : Node) : x.head1.length ≤ 1 := by unfold head1; split <;> simp
theorem headsL_len : ∀ (n : Nat) (l : List Node), SizeOf.sizeOf l < n → (headsL l).length ≤ cntL l := by
  intro n
  induction n with
  | zero => intro l h; omega
  | succ n ih =>
    intro l hn
    cases l with
    | nil => rw [headsL_nil]; simp
    | cons x l =>
      obtain ⟨h1, h2⟩ := sz_kids hn
      rw [headsL_cons, cntL_cons, List.length_append, List.length_append]
      have := ih x.kids h1; have := ih l h2; have := head1_len x
      omega
end Node
set_option linter.unusedSimpArgs false in
set_option maxRecDepth 20000 in
set_option maxHeartbeats 4000000 in
theorem refHeads : ∀ (n : Nat) (l : List Node), SizeOf.sizeOf l < n → Node.cntL l ≤ 1073741824 → PCon C0 33 [.sc (.sl (l.map Node.pv))] (.own ((Node.headsL l).map Head.pv)) := by
  intro n
  induction n with
  | zero => intro l h; omega
  | succ n ih =>
    intro l hn hc
    have hlc := Node.cntL_eq l
    refine penter33 ?_
    simp [Tryd.f33]
    refine loopC (fun d e H => ∃ (i : Nat) (x8 x24 : FV), d = l.length - i ∧ i ≤ l.length ∧ e = [(0, .sc (.sl (l.map Node.pv))), (2, .own []), (3, .own ((Node.headsL (l.take i)).map Head.pv)), (4, .sc (.int .i64 i)), (8, x8), (24, x24)]) (d := l.length) ⟨0, _, _, rfl, by omega, by rw [List.take_zero, Node.headsL_nil]; rfl⟩ ?_
    rintro d e H ⟨i, x8, x24, rfl, hi, rfl⟩
    by_cases hlt : i < l.length
    rotate_left
    · simp [hlt]
      rw [List.take_of_length_le (by omega)]
    have hq : l[i]? = some l[i] := List.getElem?_eq_getElem hlt
    have ea := Node.pv_eq l[i]
    have hk := ih l[i].kids (by have := Node.kids_lt (List.getElem_mem hlt); omega) (by have := Node.cntL_kids (List.getElem_mem hlt); omega)
    have htk := Node.headsL_take hlt
    have h1 := Node.headsL_len _ (l.take (i + 1)) (Nat.lt_succ_self _)
    have h2 : Node.cntL (l.take (i + 1)) ≤ Node.cntL l := by
      have : Node.cntL (l.take (i + 1) ++ l.drop (i + 1)) = Node.cntL l := by rw [List.take_append_drop]
      rw [Node.cntL_append] at this; omega
    rw [htk, List.length_append, List.length_append] at h1
    have hlm : lenMax ≥ 2147483648 := by unfold lenMax; omega
    have fin : ∀ q, q = (Node.headsL (l.take (i + 1))).map Head.pv → ∃ d' < l.length - i, ∃ i', d' = l.length - i' ∧ i' ≤ l.length ∧ q = (Node.headsL (l.take i')).map Head.pv ∧ IntKind.i64.wrap ((i : Int) + 1) = (i' : Nat) := fun q hq =>
      ⟨l.length - (i + 1), by omega, i + 1, rfl, by omega, hq, by rw [wrap64 (by omega) (by omega)]; omega⟩
    by_cases k1 : l[i].kind = 1
    · have hh : l[i].head1 = [⟨1, l[i].line, l[i].text⟩] := by simp [Node.head1, k1]
      rw [hh] at htk h1
      simp at h1
      simp [hlt, hq, ea, gl, k1, sizedHd, sized3]
      refine ⟨by omega, CallQ.mk (Call.pure callable33 (by simp) (by simp) hk) ?_⟩
      simp [sizedHd, sized3, sized_app]
      refine ⟨by omega, fin _ ?_⟩
      rw [htk]; simp [Head.pv, gl]
    by_cases k2 : l[i].kind = 2
    · have hh : l[i].head1 = [⟨2, l[i].line, l[i].text⟩] := by simp [Node.head1, k2]
      rw [hh] at htk h1
      simp at h1
      simp [hlt, hq, ea, gl, k2, sizedHd, sized3]
      refine ⟨by omega, CallQ.mk (Call.pure callable33 (by simp) (by simp) hk) ?_⟩
      simp [sizedHd, sized3, sized_app]
      refine ⟨by omega, fin _ ?_⟩
      rw [htk]; simp [Head.pv, gl]
    · have hh : l[i].head1 = [] := by simp [Node.head1, k1, k2]
      rw [hh] at htk h1
      simp at h1
      simp [hlt, hq, ea, gl, k1, k2, sizedHd]
      refine CallQ.mk (Call.pure callable33 (by simp) (by simp) hk) ?_
      simp [sizedHd]
      refine ⟨by omega, fin _ ?_⟩
      rw [htk]; simp
end Go.Proofs.YtlnnnfogbakimaaDoor.Ev
end
section
namespace Go.Proofs.YtlnnnfogbakimaaDoor.Ev
open Go
theorem checkL_cons (c : Int) (x : Node) (l : List Node) : checkL c (x :: l) = (checkN c x && checkL c l) := by rw [checkL]
theorem flat_lay {α : Type} (F : Block → List α) (hF : ∀ out b, F (laid out b) = F b) (out : List Block) (b : Block) : (layB out b).flatMap F = out.flatMap F ++ F b := by
  rw [layB_eq, List.flatMap_append]
  simp [hF]
theorem gL_gen {α : Type} (F : Block → List α) (G : Node → List α) (T : List Node → List α) (hT0 : T [] = []) (hT : ∀ x l, T (x :: l) = G x ++ T x.kids ++ T l) (hF : ∀ out b, F (laid out b) = F b)
    (k1 : ∀ x c, okN c x = true → x.kind = 1 → F ⟨1, x.line, 0, false, 0, [], strong x.text, [], noTbl⟩ = G x)
    (k2 : ∀ x c, okN c x = true → x.kind = 2 → F ⟨2, x.line, 3, false, 0, [], strong x.text, [], noTbl⟩ = G x)
    (k3 : ∀ x c i, okN c x = true → x.kind = 3 → F (flowB x.line i 0 [] x.text) = G x)
    (k4 : ∀ x c i, okN c x = true → x.kind = 4 → F (flowB x.line i x.n x.text []) = G x)
    (k4' : ∀ x y c c' i, okN c x = true → okN c' y = true → x.kind = 4 → y.kind = 3 → F (flowB x.line i x.n x.text y.text) = G x ++ G y)
    (k5 : ∀ x c, okN c x = true → x.kind = 5 → G x = [])
    (k6 : ∀ x c i, okN c x = true → x.kind = 6 → F ⟨4, x.line, i, false, 0, [], [], x.rows, noTbl⟩ = G x)
    (k7 : ∀ x c i, okN c x = true → x.kind = 7 → F ⟨5, x.line, i, false, 0, [], [], [], mendT x.grid⟩ = G x) :
    ∀ (n : Nat) (l : List Node), SizeOf.sizeOf l < n → ∀ c, checkL c l = true → ∀ (inn : Int) (out : List Block), (gL inn out l).flatMap F = out.flatMap F ++ T l := by
  intro n
  induction n with
  | zero => intro l h; omega
  | succ n ih =>
    intro l hn c hc inn out
    cases l with
    | nil => rw [gL_nil, hT0, List.append_nil]
    | cons x l =>
      obtain ⟨h1, h2⟩ := Node.sz_kids hn
      rw [checkL_cons, Bool.and_eq_true] at hc
      obtain ⟨hx, hl⟩ := hc
      rw [checkN_eq, Bool.and_eq_true] at hx
      obtain ⟨ho, hk⟩ := hx
      rw [gL_cons, ih l h2 c hl, hT, ← List.append_assoc]
      congr 1
      have go := fun inn out => ih x.kids h1 _ hk inn out
      have lay := flat_lay F hF
      rw [gN_eq, ← List.append_assoc]
      split
      · rename_i h; rw [go, lay, k1 x c ho h]
      split
      · rename_i h; rw [go, lay, k2 x c ho h]
      split
      · rename_i h; rw [go, lay, k3 x c _ ho h]
      split
      · rename_i h
        cases hkd : x.kids with
        | nil => rw [gT, lay, k4 x c _ ho h, hT0, List.append_nil]
        | cons y rest =>
          by_cases h3 : y.kind = 3
          · rw [gT_para _ _ _ _ _ _ _ h3]
            rw [hkd] at h1 hk
            rw [checkL_cons, Bool.and_eq_true, checkN_eq, Bool.and_eq_true] at hk
            obtain ⟨⟨hy, hyk⟩, hr⟩ := hk
            have hyk0 : y.kids = [] := by
              rcases (okN_all hy).2.2.2.2.2.2.2.2.1 with hh | hh
              · rw [h3] at hh; exact absurd hh (by decide)
              · exact hh
            rw [ih rest (by simp at h1; omega) _ hr, lay, k4' x y c _ _ ho hy h h3, hT, hyk0, hT0]
            simp
          · rw [gT_else _ _ _ _ _ _ (fun y' r' hh => by simp at hh; rw [← hh.1]; exact h3), ← hkd, go, lay, k4 x c _ ho h]
      split
      · rename_i h; rw [go, k5 x c ho h, List.append_nil]
      split
      · rename_i h; rw [go, lay, k6 x c _ ho h]
      split
      · rename_i h; rw [go, lay, k7 x c _ ho h]
      · rename_i h1' h2' h3' h4' h5' h6' h7'
        have hs := (okN_all ho).1
        unfold standsIn at hs
        rw [if_neg h1', if_neg h2'] at hs
        simp at hs
        omega
def rs (l : List Glyph) : List Int := l.map (·.r)
theorem rs_append (a b : List Glyph) : rs (a ++ b) = rs a ++ rs b := List.map_append
theorem rs_ink_strong (l : List Glyph) : rs (ink (strong l)) = rs (ink l) := by
  unfold rs ink strong
  induction l with
  | nil => rfl
  | cons g l ih =>
    have hr : (strongG g).r = g.r := by unfold strongG; split <;> rfl
    have hb : (strongG g).blank = g.blank := by unfold Glyph.blank; rw [hr]
    rw [List.map_cons, List.filter_cons, List.filter_cons, hb]
    split
    · rw [List.map_cons, List.map_cons, hr, ih]
    · exact ih
theorem btext_eq (b : Block) : btext b = ink b.tag ++ (ink b.text ++ b.rows.flatMap ink) ++ ltr b.grid.rows := by
  unfold btext bNode
  rw [Node.lvs_eq]
  have e : Node.lvsL [] = [] := by rw [Node.lvsL]
  show ink b.tag ++ (b.text :: b.rows).flatMap ink ++ ltr b.grid.rows ++ Node.lvsL [] = _
  rw [e, List.append_nil, List.flatMap_cons]
theorem btext_laid (out : List Block) (b : Block) : btext (laid out b) = btext b := by
  obtain ⟨_, _, _, _, h5, h6, h7, h8⟩ := laid_fields out b
  rw [btext_eq, btext_eq, h5, h6, h7, h8]
theorem ink_nil : ink [] = [] := rfl
theorem ltr_no : ltr noTbl.rows = [] := rfl
def ownT (x : Node) : List Glyph := ink x.text ++ x.rows.flatMap ink ++ ltr x.grid.rows
theorem ok_rows {c : Int} {x : Node} (h : okN c x = true) (hk : x.kind ≠ 6) : x.rows = [] := (okN_all h).2.2.2.2.2.2.2.2.2.1.resolve_left hk
theorem ok_grid {c : Int} {x : Node} (h : okN c x = true) (hk : x.kind ≠ 7) : x.grid = noTbl := bareT_eq ((okN_all h).2.2.2.2.2.2.2.2.2.2.2.2 hk)
theorem ok_text {c : Int} {x : Node} (h : okN c x = true) (hk : hasText x.kind = false) : x.text = [] := (okN_all h).2.2.2.2.2.2.2.1.resolve_left (by rw [hk]; simp)
theorem gL_text (l : List Node) (c : Int) (h : checkL c l = true) (inn : Int) (out : List Block) : rs ((gL inn out l).flatMap btext) = rs (out.flatMap btext) ++ rs (Node.lvsL l) := by
  have key := gL_gen (fun b => rs (btext b)) (fun x => rs (ownT x)) (fun l => rs (Node.lvsL l)) (by rw [Node.lvsL]; rfl) (fun x l => by rw [Node.lvsL, Node.lvs_eq, rs_append, rs_append]; rfl)
    (fun out b => by simp only [btext_laid])
    (fun x c h hk => by
      simp only [btext_eq, ownT, ink_nil, List.flatMap_nil, ltr_no, ok_rows h (by omega), ok_grid h (by omega), List.nil_append, List.append_nil]
      exact rs_ink_strong _)
    (fun x c h hk => by
      simp only [btext_eq, ownT, ink_nil, List.flatMap_nil, ltr_no, ok_rows h (by omega), ok_grid h (by omega), List.nil_append, List.append_nil]
      exact rs_ink_strong _)
    (fun x c i h hk => by
      simp only [btext_eq, flowB, ownT, ink_nil, List.flatMap_nil, ltr_no, ok_rows h (by omega), ok_grid h (by omega), List.nil_append, List.append_nil])
    (fun x c i h hk => by
      simp only [btext_eq, flowB, ownT, ink_nil, List.flatMap_nil, ltr_no, ok_rows h (by omega), ok_grid h (by omega), List.nil_append, List.append_nil])
    (fun x y c c' i h h' hk hk' => by
      simp only [btext_eq, flowB, ownT, ink_nil, List.flatMap_nil, ltr_no, ok_rows h (by omega), ok_grid h (by omega), ok_rows h' (by omega), ok_grid h' (by omega), List.nil_append, List.append_nil, rs_append])
    (fun x c h hk => by
      simp only [ownT, ink_nil, List.flatMap_nil, ltr_no, ok_rows h (by omega), ok_grid h (by omega), ok_text h (by rw [hk]; decide), List.nil_append, List.append_nil]
      rfl)
    (fun x c i h hk => by
      simp only [btext_eq, ownT, ink_nil, ltr_no, ok_grid h (by omega), ok_text h (by rw [hk]; decide), List.nil_append, List.append_nil])
    (fun x c i h hk => by
      have hm := mend_same ((okN_all h).2.2.2.2.2.2.2.2.2.2.2.1 hk)
      simp only [btext_eq, ownT, ink_nil, List.flatMap_nil, hm, ok_rows h (by omega), ok_text h (by rw [hk]; decide), List.nil_append, List.append_nil])
    _ l (Nat.lt_succ_self _) c h inn out
  have e : ∀ bs : List Block, rs (bs.flatMap btext) = bs.flatMap fun b => rs (btext b) := fun bs => by
    induction bs with
    | nil => rfl
    | cons b bs ih => rw [List.flatMap_cons, rs_append, ih, List.flatMap_cons]
  rw [e, e]
  exact key
def hOf (h : Head) : Int × Int × Nat := (h.level, h.line, h.text.length)
def hB (b : Block) : List (Int × Int × Nat) := if b.kind = 1 ∨ b.kind = 2 then [(b.kind, b.line, b.text.length)] else []
theorem hB_laid (out : List Block) (b : Block) : hB (laid out b) = hB b := by
  obtain ⟨h1, h2, _, _, _, h6, _, _⟩ := laid_fields out b
  unfold hB
  rw [h1, h2, h6]
theorem gL_heads (l : List Node) (c : Int) (h : checkL c l = true) (inn : Int) (out : List Block) : (gL inn out l).flatMap hB = out.flatMap hB ++ (Node.headsL l).map hOf := by
  refine gL_gen hB (fun x => (Node.head1 x).map hOf) (fun l => (Node.headsL l).map hOf) (by rw [Node.headsL_nil]; rfl) (fun x l => by rw [Node.headsL_cons, List.map_append, List.map_append]) hB_laid
    (fun x c h hk => by simp [hB, Node.head1, hk, hOf, strong_len])
    (fun x c h hk => by simp [hB, Node.head1, hk, hOf, strong_len])
    (fun x c i h hk => by simp [hB, Node.head1, hk, flowB])
    (fun x c i h hk => by simp [hB, Node.head1, hk, flowB])
    (fun x y c c' i h h' hk hk' => by simp [hB, Node.head1, hk, hk', flowB])
    (fun x c h hk => by simp [Node.head1, hk])
    (fun x c i h hk => by simp [hB, Node.head1, hk])
    (fun x c i h hk => by simp [hB, Node.head1, hk])
    _ l (Nat.lt_succ_self _) c h inn out
end Go.Proofs.YtlnnnfogbakimaaDoor.Ev
end
section
namespace Go.Proofs.YtlnnnfogbakimaaDoor.Ev
open Go
def bLong (b : Block) : Nat := (bNode b).long
theorem bLong_eq (b : Block) : bLong b = 4 + b.tag.length + b.text.length + b.grid.cols.size + rowsLong b.rows + sumBy trowLong b.grid.rows := by
  unfold bLong
  rw [Node.long_eq]
  show 3 + b.tag.length + b.grid.cols.size + sumBy Node.long [] + rowsLong (b.text :: b.rows) + sumBy trowLong b.grid.rows = _
  have h1 : rowsLong (b.text :: b.rows) = 1 + b.text.length + rowsLong b.rows := rfl
  have h2 : sumBy Node.long [] = 0 := rfl
  omega
theorem bLong_laid (out : List Block) (b : Block) : bLong (laid out b) = bLong b := by
  obtain ⟨_, _, _, _, h5, h6, h7, h8⟩ := laid_fields out b
  rw [bLong_eq, bLong_eq, h5, h6, h7, h8]
theorem bLong_lay (out : List Block) (b : Block) : sumBy bLong (layB out b) = sumBy bLong out + bLong b := by
  rw [layB_eq, sumBy_append]
  simp [sumBy, bLong_laid]
theorem no_long : noTbl.cols.size = 0 ∧ sumBy trowLong noTbl.rows = 0 := ⟨rfl, rfl⟩
theorem gL_long : ∀ (n : Nat) (l : List Node), SizeOf.sizeOf l < n → ∀ (inn : Int) (out : List Block), sumBy bLong (gL inn out l) ≤ sumBy bLong out + 24 * sumBy Node.long l := by
  intro n
  induction n with
  | zero => intro l h; omega
  | succ n ih =>
    intro l hn inn out
    cases l with
    | nil => rw [gL_nil]; omega
    | cons x l =>
      obtain ⟨h1, h2⟩ := Node.sz_kids hn
      have h3 := ih l h2 inn (gN inn out x)
      rw [gL_cons, sumBy_cons]
      have hlo := Node.long_own x
      have ho : x.own1 = 3 + x.text.length + x.grid.cols.size + rowsLong x.rows + sumBy trowLong x.grid.rows := rfl
      have hm := mendT_long x.grid
      obtain ⟨z1, z2⟩ := no_long
      have z3 : rowsLong [] = 0 := rfl
      have flow : ∀ (a b c : Int) (t u : List Glyph), bLong (flowB a b c t u) = 4 + t.length + u.length := fun a b c t u => by
        rw [bLong_eq]; simp only [flowB]; omega
      have key : sumBy bLong (gN inn out x) ≤ sumBy bLong out + 24 * x.long := by
        have go := fun inn out => ih x.kids h1 inn out
        rw [gN_eq]
        split
        · have := go inn (layB out ⟨1, x.line, 0, false, 0, [], strong x.text, [], noTbl⟩)
          rw [bLong_lay, bLong_eq] at this
          simp only [strong_len, List.length_nil] at this
          omega
        split
        · have := go inn (layB out ⟨2, x.line, 3, false, 0, [], strong x.text, [], noTbl⟩)
          rw [bLong_lay, bLong_eq] at this
          simp only [strong_len, List.length_nil] at this
          omega
        split
        · have := go inn (layB out (flowB x.line inn 0 [] x.text))
          rw [bLong_lay, flow] at this
          simp only [List.length_nil] at this
          omega
        split
        · cases hk : x.kids with
          | nil =>
            rw [gT, bLong_lay, flow]
            simp only [List.length_nil]
            omega
          | cons y rest =>
            by_cases h3 : y.kind = 3
            · rw [gT_para _ _ _ _ _ _ _ h3]
              have hsz : SizeOf.sizeOf rest < n := by rw [hk] at h1; simp at h1; omega
              have := ih rest hsz (inn + x.n) (layB out (flowB x.line inn x.n x.text y.text))
              rw [bLong_lay, flow] at this
              rw [hk, sumBy_cons] at hlo
              have hy := Node.long_own y
              have hyo : y.own1 = 3 + y.text.length + y.grid.cols.size + rowsLong y.rows + sumBy trowLong y.grid.rows := rfl
              omega
            · rw [gT_else _ _ _ _ _ _ (fun y' r' h => by simp at h; rw [← h.1]; exact h3), ← hk]
              have := go (inn + x.n) (layB out (flowB x.line inn x.n x.text []))
              rw [bLong_lay, flow] at this
              simp only [List.length_nil] at this
              omega
        split
        · have := go (inn + x.n) out; omega
        split
        · have := go inn (layB out ⟨4, x.line, inn, false, 0, [], [], x.rows, noTbl⟩)
          rw [bLong_lay, bLong_eq] at this
          simp only [List.length_nil] at this
          omega
        split
        · have := go inn (layB out ⟨5, x.line, inn, false, 0, [], [], [], mendT x.grid⟩)
          rw [bLong_lay, bLong_eq] at this
          simp only [List.length_nil] at this
          omega
        · have := go inn out; omega
      omega
def hN (B : List Block) (i : Nat) : Nat := ((B.take i).flatMap hB).length
theorem hN_le {B : List Block} {Hs : List Head} (h : B.flatMap hB = Hs.map hOf) (i : Nat) : hN B i ≤ Hs.length := by
  have h1 : (B.flatMap hB).length = Hs.length := by rw [h, List.length_map]
  have h2 : B.flatMap hB = (B.take i).flatMap hB ++ (B.drop i).flatMap hB := by rw [← List.flatMap_append, List.take_append_drop]
  rw [h2, List.length_append] at h1
  unfold hN; omega
theorem hN_all {B : List Block} {Hs : List Head} (h : B.flatMap hB = Hs.map hOf) : hN B B.length = Hs.length := by
  unfold hN
  rw [List.take_length, h, List.length_map]
theorem hN_skip {B : List Block} {i : Nat} (hi : i < B.length) (h : ¬ (B[i].kind = 1 ∨ B[i].kind = 2)) : hN B (i + 1) = hN B i := by
  unfold hN
  rw [flat_take hB hi]
  simp [hB, h]
theorem hN_head {B : List Block} {Hs : List Head} (hh : B.flatMap hB = Hs.map hOf) {i : Nat} (hi : i < B.length) (h : B[i].kind = 1 ∨ B[i].kind = 2) : hN B (i + 1) = hN B i + 1 ∧ ∃ x, Hs[hN B i]? = some x ∧ x.level = B[i].kind ∧ x.line = B[i].line ∧ x.text.length = B[i].text.length := by
  have e := flat_take hB hi
  have e2 : hB B[i] = [(B[i].kind, B[i].line, B[i].text.length)] := by unfold hB; rw [if_pos h]
  rw [e2] at e
  refine ⟨by unfold hN; rw [e, List.length_append, List.length_singleton], ?_⟩
  have h2 : B.flatMap hB = (B.take (i + 1)).flatMap hB ++ (B.drop (i + 1)).flatMap hB := by rw [← List.flatMap_append, List.take_append_drop]
  have h3 : (Hs.map hOf)[hN B i]? = some (B[i].kind, B[i].line, B[i].text.length) := by
    rw [← hh, h2, e]
    unfold hN
    simp
  rw [List.getElem?_map] at h3
  obtain ⟨x, hx, he⟩ := Option.map_eq_some_iff.1 h3
  simp only [hOf, Prod.mk.injEq] at he
  exact ⟨x, hx, he.1, he.2.1, he.2.2⟩
theorem rs_at {A V : List Glyph} (h : rs A = rs V) : A.length = V.length ∧ ∀ (i : Nat) (g g' : Glyph), A[i]? = some g → V[i]? = some g' → g.r = g'.r := by
  refine ⟨by have := congrArg List.length h; simpa [rs] using this, fun i g g' h1 h2 => ?_⟩
  have := congrArg (·[i]?) h
  simp only [rs, List.getElem?_map, h1, h2, Option.map_some, Option.some.injEq] at this
  exact this
set_option linter.unusedSimpArgs false in
set_option maxRecDepth 20000 in
set_option maxHeartbeats 8000000 in
theorem lowerKeepsLaw (d : Doc) (hb : sumBy Node.long d.kids ≤ 1073741824) : PCon C0 11 [d.pv.toFV] (.sc (.bool true)) := by
  have hl : d.kids.length ≤ 1073741824 := Nat.le_trans (len_le_long _) hb
  have cl := law15Long d.kids (ok_of hb) (by omega)
  have kn := lowerKnown
  refine penter11 ?_
  simp [Tryd.f11, Doc.pv]
  refine CallQ.mk (Call.pure callable24 (by simp) (by simp) cl) ?_
  cases htl : tooLong d.kids
  rotate_left
  · simp
    refine CallQ.mk (Call.pure callable25 (by simp) (by simp) kn) ?_
    simp
  have hL := short_of htl hb
  have ct := refTidy d (small_of (by omega)) hl
  have cb := lowerBlocksGen d (by omega)
  have htd := tidy_long _ d.kids (Nat.lt_succ_self _) 0 0 20000
  have hck := tidy_check _ d.kids (Nat.lt_succ_self _) 0 0 20000
  have hgl := gL_long _ (tidyL 0 0 20000 d.kids).1 (Nat.lt_succ_self _) (clamp 200 7) []
  have hg0 : sumBy bLong [] = 0 := rfl
  have htx := gL_text (tidyL 0 0 20000 d.kids).1 0 hck (clamp 200 7) []
  have hhd := gL_heads (tidyL 0 0 20000 d.kids).1 0 hck (clamp 200 7) []
  rw [List.flatMap_nil] at htx hhd
  rw [List.nil_append] at hhd
  change rs ((nodesB 7 d.kids).flatMap btext) = _ at htx
  change (nodesB 7 d.kids).flatMap hB = _ at hhd
  change sumBy bLong (nodesB 7 d.kids) ≤ _ at hgl
  have cx := lowerText (nodesB 7 d.kids) (by show sumBy bLong _ ≤ _; omega)
  have cv := refLeaves _ (tidyL 0 0 20000 d.kids).1 (Nat.lt_succ_self _) (by omega)
  have hcn := Node.cnt_long _ (tidyL 0 0 20000 d.kids).1 (Nat.lt_succ_self _)
  have ch := refHeads _ (tidyL 0 0 20000 d.kids).1 (Nat.lt_succ_self _) (by omega)
  have hbl := nodesB_len 7 d.kids
  have hvl := lvs_len _ (tidyL 0 0 20000 d.kids).1 (Nat.lt_succ_self _)
  have hhl : (Node.headsL (tidyL 0 0 20000 d.kids).1).length ≤ 1073741824 := by
    have := Node.headsL_len _ (tidyL 0 0 20000 d.kids).1 (Nat.lt_succ_self _)
    omega
  simp [Doc.pv, tidyD] at ct
  simp [Doc.pv] at cb
  generalize nodesB 7 d.kids = B at *
  generalize (tidyL 0 0 20000 d.kids).1 = K at *
  generalize Node.lvsL K = V at *
  generalize Node.headsL K = Hs at *
  generalize B.flatMap btext = A at *
  obtain ⟨hAV, hrs⟩ := rs_at htx
  have hAl : A.length ≤ 1073741824 := by omega
  simp
  refine CallQ.mk (Call.pure callable17 (by simp) (by simp) ct) ?_
  simp
  refine CallQ.mk (Call.pure callable27 (by simp) (by simp) cb) ?_
  simp
  refine CallQ.mk (Call.pure callable38 (by simp) (by simp) cx) ?_
  simp
  refine CallQ.mk (Call.pure callable39 (by simp) (by simp) cv) ?_
  have hAV' : (A.length : Int) = (V.length : Int) := by omega
  simp [hAV, hAV']
  refine loopC (fun dd e H' => ∃ (i : Nat) (x32 x45 : FV), dd = A.length - i ∧ i ≤ A.length ∧ H' = [[.sc (.str d.name), .sc (.str d.part), .sc (.str d.date), .sc (.str d.source), .sc (.sl (d.kids.map Node.pv))], [.sc (.str d.name), .sc (.str d.part), .sc (.str d.date), .sc (.str d.source), .sc (.sl (K.map Node.pv))]] ∧ e = [(0, .agg [.sc (.str d.name), .sc (.str d.part), .sc (.str d.date), .sc (.str d.source), .sc (.sl (d.kids.map Node.pv))]), (1, .ptr 0 0), (2, .sc (.bool false)), (3, .ptr 1 0), (4, .sc (.sl (B.map Block.pv))), (5, .own (A.map Glyph.pv)), (6, .own (V.map Glyph.pv)), (7, .sc (.int .i64 i)), (8, .undef), (9, .undef), (10, .undef), (13, .sc (.bool false)), (28, .sc (.bool false)), (32, x32), (45, x45), (52, .undef), (68, .undef), (113, .undef)]) (d := A.length) ⟨0, .undef, .undef, rfl, Nat.zero_le _, rfl, rfl⟩ ?_
  rintro dd e H' ⟨i, x32, x45, rfl, hi, rfl, rfl⟩
  simp
  refine CondC.mk (fun hlt => ?_) (fun hlt => ?_)
  · simp at hlt
    have hlt' : (i : Int) < (A.length : Int) := by omega
    have hlv : i < V.length := by omega
    have hlv' : (i : Int) < (V.length : Int) := by omega
    have hw : IntKind.i64.wrap ((i : Int) + 1) = ((i + 1 : Nat) : Int) := by rw [wrap64 (by omega) (by omega)]; omega
    have hr := hrs i _ _ (List.getElem?_eq_getElem hlt) (List.getElem?_eq_getElem hlv)
    obtain ⟨g, hg⟩ : ∃ g, A[i] = g := ⟨_, rfl⟩
    obtain ⟨g', hg'⟩ : ∃ g', V[i] = g' := ⟨_, rfl⟩
    rw [hg, hg'] at hr
    obtain ⟨gr, gs⟩ := g
    obtain ⟨gr', gs'⟩ := g'
    simp only at hr
    subst hr
    simp [hlt, hlt', hlv, hlv', hg, hg', Glyph.pv, hw]
    exact ⟨A.length - (i + 1), by omega, i + 1, rfl, by omega, by omega⟩
  · simp at hlt
    have hie : i = A.length := by omega
    subst hie
    simp
    refine CallQ.mk (Call.pure callable33 (by simp) (by simp) ch) ?_
    simp
    refine loopC (fun dd e H' => ∃ (i : Nat) (x52 x68 x113 : FV), dd = B.length - i ∧ i ≤ B.length ∧ H' = [[.sc (.str d.name), .sc (.str d.part), .sc (.str d.date), .sc (.str d.source), .sc (.sl (d.kids.map Node.pv))], [.sc (.str d.name), .sc (.str d.part), .sc (.str d.date), .sc (.str d.source), .sc (.sl (K.map Node.pv))]] ∧ e = [(0, .agg [.sc (.str d.name), .sc (.str d.part), .sc (.str d.date), .sc (.str d.source), .sc (.sl (d.kids.map Node.pv))]), (1, .ptr 0 0), (2, .sc (.bool false)), (3, .ptr 1 0), (4, .sc (.sl (B.map Block.pv))), (5, .own (A.map Glyph.pv)), (6, .own (V.map Glyph.pv)), (7, .sc (.int .i64 A.length)), (8, .own (Hs.map Head.pv)), (9, .sc (.int .i64 (hN B i))), (10, .sc (.int .i64 i)), (13, .sc (.bool false)), (28, .sc (.bool false)), (32, .sc (.bool false)), (45, x45), (52, x52), (68, x68), (113, x113)]) (d := B.length) ⟨0, .undef, .undef, .undef, rfl, Nat.zero_le _, rfl, by simp [hN]⟩ ?_
    rintro dd e H' ⟨i, x52, x68, x113, rfl, hi2, rfl, rfl⟩
    simp
    refine CondC.mk (fun hlt2 => ?_) (fun hlt2 => ?_)
    · simp at hlt2
      have hlt2' : (i : Int) < (B.length : Int) := by omega
      have hw : IntKind.i64.wrap ((i : Int) + 1) = ((i + 1 : Nat) : Int) := by rw [wrap64 (by omega) (by omega)]; omega
      have hnl := hN_le hhd i
      by_cases hk : B[i].kind = 1 ∨ B[i].kind = 2
      · obtain ⟨hs1, x, hx, hx1, hx2, hx3⟩ := hN_head hhd hlt2 hk
        have hfin : ∃ d', d' < B.length - i ∧ ∃ j : Nat, d' = B.length - j ∧ j ≤ B.length ∧ (hN B i : Int) + 1 = (hN B j : Int) ∧ (i : Int) + 1 = j := ⟨B.length - (i + 1), by omega, i + 1, rfl, by omega, by omega, by omega⟩
        obtain ⟨N, hN'⟩ : ∃ N, hN B i = N := ⟨_, rfl⟩
        rw [hN'] at hx hfin hnl hs1 ⊢
        obtain ⟨hxl, hxe⟩ := List.getElem?_eq_some_iff.1 hx
        have hxl' : (N : Int) < (Hs.length : Int) := by omega
        have hxl'' : ¬ (Hs.length : Int) ≤ (N : Int) := by omega
        have hxl3 : ¬ Hs.length ≤ N := by omega
        have hw2 : IntKind.i64.wrap ((N : Int) + 1) = (N : Int) + 1 := wrap64 (by omega) (by omega)
        obtain ⟨b, hbe⟩ : ∃ b, B[i] = b := ⟨_, rfl⟩
        rw [hbe] at hk hx1 hx2 hx3
        obtain ⟨k, ln, inn, gap, room, tag, text, rows, grid⟩ := b
        obtain ⟨hlv, hli, htx2⟩ := x
        simp only at hk hx1 hx2 hx3
        subst hx1 hx2
        have hx3' : (htx2.length : Int) = (text.length : Int) := by omega
        rcases hk with hk | hk
        · subst hk
          simp [hlt2, hlt2', hbe, Block.pv, hxl, hxl', hxl'', hxl3, hxe, Head.pv, gl, hx3, hx3', hw, hw2]
          exact hfin
        · subst hk
          simp [hlt2, hlt2', hbe, Block.pv, hxl, hxl', hxl'', hxl3, hxe, Head.pv, gl, hx3, hx3', hw, hw2]
          exact hfin
      · have hs1 := hN_skip hlt2 hk
        have hfin : ∃ d', d' < B.length - i ∧ ∃ j : Nat, d' = B.length - j ∧ j ≤ B.length ∧ (hN B i : Int) = (hN B j : Int) ∧ (i : Int) + 1 = j := ⟨B.length - (i + 1), by omega, i + 1, rfl, by omega, by rw [hs1], by omega⟩
        obtain ⟨b, hbe⟩ : ∃ b, B[i] = b := ⟨_, rfl⟩
        rw [hbe] at hk
        obtain ⟨k, ln, inn, gap, room, tag, text, rows, grid⟩ := b
        simp only [not_or] at hk
        obtain ⟨hk1, hk2⟩ := hk
        simp [hlt2, hlt2', hbe, Block.pv, hk1, hk2, hw]
        exact hfin
    · simp at hlt2
      have hie : i = B.length := by omega
      subst hie
      rw [hN_all hhd]
      simp
      refine CallQ.mk (Call.pure callable25 (by simp) (by simp) kn) ?_
      simp
end Go.Proofs.YtlnnnfogbakimaaDoor.Ev
end
