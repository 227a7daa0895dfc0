/- Of what the law BuildTexts needs: part 12. -/
import Derived.Test.YtlbjfjaleefiiaaDoorBT7
import Derived.Test.YtlbjfjaleefiiaaDoorBT11
set_option linter.unusedSimpArgs false
set_option linter.unusedVariables false
section
namespace Go.Proofs.YtlbjfjaleefiiaaDoor.Ev
open Go
structure Bd where
  name : ByteArray
  part : ByteArray
  date : ByteArray
  source : ByteArray
  kids : List Node
  opens : List Node
  text : List Glyph
  line : Int
  has : Bool
def bCells (B : Bd) (o t : FV) : List FV := [.sc (.str B.name), .sc (.str B.part), .sc (.str B.date), .sc (.str B.source), .own (B.kids.map Node.pv), o, t, .sc (.int .i64 B.line), .sc (.bool B.has)]
theorem Node.toFV_eq (x : Node) : x.pv.toFV = .agg [.sc (.int .i64 x.kind), .sc (.int .i64 x.line), .sc (.int .i64 x.n), .sc (gl x.text), .sc (.sl (x.kids.map Node.pv)), .sc (.sl (x.rows.map gl)), .sc (.str x.grid.cols), .sc (.sl (x.grid.rows.map TRow.pv)), .sc (.bool x.grid.box), .sc (.bool x.grid.all)] := by
  rw [Node.pv_eq]; rfl
def HOk (H : Heap) : Prop := ∀ fs ∈ H, ∀ f ∈ body fs, f.und0 H.length = true
theorem HOk.set {H : Heap} {b : Nat} {fs : List FV} (h : HOk H) (hf : ∀ f ∈ body fs, f.und0 H.length = true) : ∀ gs ∈ H.set b fs, ∀ f ∈ body gs, f.und0 H.length = true := fun gs hg f hf' => by
  rcases List.mem_or_eq_of_mem_set hg with h' | rfl
  · exact h gs h' f hf'
  · exact hf f hf'
theorem HOk.set' {H : Heap} {b : Nat} {fs : List FV} (h : HOk H) (hf : ∀ f ∈ body fs, f.und0 H.length = true) : HOk (H.set b fs) := by
  unfold HOk
  rw [List.length_set]
  exact h.set hf
theorem HOk.cells {H : Heap} {b : Nat} {B : Bd} {o t : FV} (h : HOk H) (hb : H[b]? = some (bCells B o t)) : o.und0 H.length = true ∧ t.und0 H.length = true :=
  have h1 := h _ (List.mem_of_getElem? hb)
  ⟨h1 o (by simp [body, bCells]), h1 t (by simp [body, bCells])⟩
theorem HOk.build {n : Nat} {B : Bd} {o t : FV} (h : o.und0 n = true ∧ t.und0 n = true) : ∀ f ∈ body (bCells B o t), f.und0 n = true := fun f hf => by
  simp only [body, bCells, List.mem_cons, List.not_mem_nil, or_false] at hf
  rcases hf with rfl | rfl | rfl | rfl | rfl | rfl | rfl | rfl | rfl <;> first | rfl | exact h.1 | exact h.2
set_option linter.unusedSimpArgs false in
set_option maxRecDepth 20000 in
set_option maxHeartbeats 16000000 in
theorem conLay0 (B : Bd) (o t : FV) (x : Node) (H : Heap) (b : Nat) (hb : H[b]? = some (bCells B o t)) (ho : o = .own [] ∨ ∃ r g, o = .gr r g 10 0) (hk : B.kids.length ≤ 1073741824) (hH : HOk H) :
    Con C0 33 [.ptr b 0, x.pv.toFV] H (.tup []) (H.set b (bCells { B with kids := B.kids ++ [x] } o t)) := by
  have hbl : b < H.length := (List.getElem?_eq_some_iff.1 hb).1
  have hu := hH.set (b := b) (HOk.build (B := { B with kids := B.kids ++ [x] }) (hH.cells hb))
  obtain ⟨nm, pt, dt, so, kids, opens, text, line, has⟩ := B
  simp only [bCells] at hb hk hu ⊢
  rw [Node.toFV_eq]
  refine con_trimU (C := C0) (fn := Tryd.f33) Tryd.func33 rfl (by decide) mixed (mv := mv33) (vars := vars33) (c := Tryd.f33.body.getD .skip) (by kernel_rfl) rfl ?_ ?_
  · exact hu
  have sk := sizedN kids
  have hkk : (kids.length : Int) < (kids.length : Int) + 1 := by omega
  rcases ho with rfl | ⟨r, g, rfl⟩
  all_goals
    simp [Tryd.f33, gl, hb, heap_old hbl]
    refine DrawC.mk (fun _ _ => .undef) ?_
    simp [gl, hb, heap_old hbl, heap_old_set hbl, hs_b hbl, hs_set hbl, sk, sized1, lenMax, hkk, hs_at, hs_at0]
    refine ⟨by omega, ?_⟩
    rw [Node.pv_eq x]
    rfl
end Go.Proofs.YtlbjfjaleefiiaaDoor.Ev
end
section
namespace Go.Proofs.YtlbjfjaleefiiaaDoor.Ev
open Go
theorem splice_one {c : List FV} {p : Nat} {w : FV} (h : p < c.length) : splice c p [w] = c.set p w := by
  unfold splice
  rw [List.set_eq_take_append_cons_drop, if_pos h]
  simp
set_option linter.unusedSimpArgs false in
set_option maxRecDepth 20000 in
set_option maxHeartbeats 16000000 in
theorem conLay1 (B : Bd) (t : FV) (x : Node) (H : Heap) (b r g n : Nat) (c : List FV) (ks : List PV) (hb : H[b]? = some (bCells B (.gr r g 10 (n + 1)) t)) (hr : H[r]? = some [.row g c]) (hrb : r ≠ b)
    (hc : c[n * 10 + 4]? = some (.own ks)) (hs : Sized 10 ks) (hk : ks.length ≤ 1073741824) (hn : n ≤ 1073741824) (hH : HOk H) :
    Con C0 33 [.ptr b 0, x.pv.toFV] H (.tup []) (H.set r [.row g (c.set (n * 10 + 4) (.own (ks ++ [x.pv])))]) := by
  have hbl : b < H.length := (List.getElem?_eq_some_iff.1 hb).1
  have hrl : r < H.length := (List.getElem?_eq_some_iff.1 hr).1
  have hcl : n * 10 + 4 < c.length := (List.getElem?_eq_some_iff.1 hc).1
  have hu : ∀ fs ∈ H.set r [.row g (c.set (n * 10 + 4) (.own (ks ++ [x.pv])))], ∀ f ∈ body fs, f.und0 H.length = true := by
    refine hH.set fun f hf => ?_
    rcases List.mem_or_eq_of_mem_set (show f ∈ c.set (n * 10 + 4) (.own (ks ++ [x.pv])) from hf) with h | rfl
    · exact hH _ (List.mem_of_getElem? hr) f h
    · rfl
  obtain ⟨nm, pt, dt, so, kids, opens, text, line, has⟩ := B
  simp only [bCells] at hb
  have w1 : IntKind.i64.wrap (((n : Int) + 1) - 1) = n := by rw [wrap64 (by omega) (by omega)]; omega
  have n0 : (0 : Int) < (n : Int) + 1 := by omega
  have n1 : (n : Int) < (n : Int) + 1 := by omega
  have k1 : (ks.length : Int) < (ks.length : Int) + 1 := by omega
  rw [Node.toFV_eq]
  refine con_trimU (C := C0) (fn := Tryd.f33) Tryd.func33 rfl (by decide) mixed (mv := mv33) (vars := vars33) (c := Tryd.f33.body.getD .skip) (by kernel_rfl) rfl hu ?_
  simp [Tryd.f33, gl, hb, heap_old hbl, n0]
  have w2 : IntKind.i64.wrap (n : Int) = n := wrap64 (by omega) (by omega)
  have ho : ∀ (v : List FV) (L : Heap), (H.set r v ++ L)[b]? = H[b]? := fun v L => by
    rw [List.getElem?_append_left (by simpa using hbl), List.getElem?_set_ne hrb]
  have hc1 : ∀ v, (c.set (n * 10 + 4) v)[n * 10 + 4]? = some v := fun v => by simp [hcl]
  have hc2 : ∀ (v w : FV), splice (c.set (n * 10 + 4) v) (n * 10 + 4) [w] = c.set (n * 10 + 4) w := fun v w => by
    rw [splice_one (by simpa using hcl), List.set_set]
  have hc3 : ∀ v : FV, n * 10 + 4 + 1 ≤ (c.set (n * 10 + 4) v).length := fun v => by simp; omega
  have hc4 : ∀ v w : FV, (c.set (n * 10 + 4) v).set (n * 10 + 4) w = c.set (n * 10 + 4) w := fun v w => List.set_set ..
  have hcl' : n * 10 + 4 + 1 ≤ c.length := by omega
  have hs0 : ∀ a b : FV, splice [a] 0 [b] = [b] := fun _ _ => rfl
  refine DrawC.mk (fun _ _ => .undef) ?_
  simp [gl, hb, hr, heap_old hbl, heap_old hrl, heap_old_set hrl, hs_b hrl, hs_set hrl, hs_at, hs_at0, ho, w2, n1, hc, hc1, hc2, hcl', hs, sized1, lenMax, k1, hs0, -splice]
  refine ⟨⟨by omega, ?_⟩, DrawC.mk (fun _ _ => .undef) ?_⟩
  · rw [Node.pv_eq x]
    rfl
  · simp [gl, hb, hr, heap_old hbl, heap_old hrl, heap_old_set hrl, hs_b hrl, hs_set hrl, hs_at, hs_at0, ho, w2, n1, hc, hc1, hc2, hc3, hcl', hs, sized1, lenMax, k1, hs0, setBody, -splice]
    exact ⟨by omega, by rw [Node.pv_eq x]; rfl⟩
end Go.Proofs.YtlbjfjaleefiiaaDoor.Ev
end
section
namespace Go.Proofs.YtlbjfjaleefiiaaDoor.Ev
open Go
def rowC (l : List Node) : List FV := l.flatMap nodeO
theorem nodeO_len (x : Node) : (nodeO x).length = 10 := rfl
theorem rowC_app (a b : List Node) : rowC (a ++ b) = rowC a ++ rowC b := by simp [rowC]
theorem rowC_one (x : Node) : rowC [x] = nodeO x := by simp [rowC]
theorem rowC_len (l : List Node) : (rowC l).length = l.length * 10 := by
  induction l with
  | nil => rfl
  | cons x l ih => rw [rowC, List.flatMap_cons, List.length_append, nodeO_len, ← rowC, ih, List.length_cons]; omega
def oF (ro : Option (Nat × Nat)) (n : Nat) : FV := match ro with
  | none => .own []
  | some (r, g) => .gr r g 10 n
def Bd.long (B : Bd) : Nat := sumBy Node.long B.kids + sumBy Node.long B.opens + B.text.length
def RowIn (H : Heap) (b : Nat) (ro : Option (Nat × Nat)) (l : List Node) : Prop := match ro with
  | none => l = []
  | some (r, g) => r ≠ b ∧ ∃ rest, (∀ f ∈ rest, f.np0 = true) ∧ H[r]? = some [.row g (rowC l ++ rest)]
structure BIn (H : Heap) (b : Nat) (ro : Option (Nat × Nat)) (t : FV) (B : Bd) : Prop where
  box : H[b]? = some (bCells B (oF ro B.opens.length) t)
  row : RowIn H b ro B.opens
  txt : t = .sc (gl B.text) ∨ (B.text = [] ∧ t = .own [])
  ok : HOk H
structure Frm (H H' : Heap) (b : Nat) (ro : Option (Nat × Nat)) : Prop where
  len : H'.length = H.length
  same : ∀ i, i ≠ b → (∀ r g, ro = some (r, g) → i ≠ r) → H'[i]? = H[i]?
theorem Frm.refl (H : Heap) (b : Nat) (ro : Option (Nat × Nat)) : Frm H H b ro := ⟨rfl, fun _ _ _ => rfl⟩
theorem Frm.trans {A B C : Heap} {b : Nat} {ro : Option (Nat × Nat)} (h : Frm A B b ro) (k : Frm B C b ro) : Frm A C b ro :=
  ⟨k.len.trans h.len, fun i h1 h2 => (k.same i h1 h2).trans (h.same i h1 h2)⟩
def layBd (B : Bd) (x : Node) : Bd := match B.opens.reverse with
  | [] => { B with kids := B.kids ++ [x] }
  | y :: l => { B with opens := l.reverse ++ [y.withKids (y.kids ++ [x])] }
theorem layBd_nil {B : Bd} {x : Node} (h : B.opens = []) : layBd B x = { B with kids := B.kids ++ [x] } := by unfold layBd; rw [h]; rfl
theorem layBd_snoc {B : Bd} {x y : Node} {l : List Node} (h : B.opens = l ++ [y]) : layBd B x = { B with opens := l ++ [y.withKids (y.kids ++ [x])] } := by unfold layBd; rw [h]; simp
theorem withKids_long (y : Node) (l : List Node) : (y.withKids l).long + sumBy Node.long y.kids = y.long + sumBy Node.long l := by
  rw [Node.long_eq, Node.long_eq y]
  simp only [Node.text_wk, Node.kids_wk, Node.rows_wk, Node.grid_wk]
  omega
theorem layBd_long (B : Bd) (x : Node) : (layBd B x).long = B.long + x.long := by
  rcases List.eq_nil_or_concat B.opens with h | ⟨l, y, h⟩
  · rw [layBd_nil h]
    simp only [Bd.long, sumBy_append, sumBy]
    omega
  · rw [List.concat_eq_append] at h
    rw [layBd_snoc h]
    simp only [Bd.long, h, sumBy_append, sumBy]
    have := withKids_long y (y.kids ++ [x])
    rw [sumBy_append] at this
    simp only [sumBy] at this
    omega
theorem conLay {H : Heap} {b : Nat} {ro : Option (Nat × Nat)} {t : FV} {B : Bd} (h : BIn H b ro t B) (x : Node) (hl : B.long + x.long ≤ 1073741824) :
    ∃ H', Con C0 33 [.ptr b 0, x.pv.toFV] H (.tup []) H' ∧ BIn H' b ro t (layBd B x) ∧ Frm H H' b ro := by
  have hbl : b < H.length := (List.getElem?_eq_some_iff.1 h.box).1
  have hlen := len_le_long B.kids
  have hlen2 := len_le_long B.opens
  unfold Bd.long at hl
  rcases List.eq_nil_or_concat B.opens with ho | ⟨l, y, ho⟩
  · have hb := h.box
    rw [ho] at hb
    have hc := conLay0 B (oF ro 0) t x H b hb (by
      cases ro with
      | none => exact .inl rfl
      | some p => obtain ⟨r, g⟩ := p; exact .inr ⟨r, g, rfl⟩) (by omega) h.ok
    refine ⟨_, hc, ?_, ⟨by simp, fun i h1 _ => List.getElem?_set_ne (fun h => h1 h.symm)⟩⟩
    rw [layBd_nil ho]
    refine ⟨by rw [List.getElem?_set_self hbl]; simp only [ho]; rfl, ?_, h.txt, h.ok.set' (HOk.build (h.ok.cells hb))⟩
    have hr := h.row
    cases ro with
    | none => exact hr
    | some p =>
      obtain ⟨r, g⟩ := p
      obtain ⟨h1, rest, hnp, h2⟩ := hr
      exact ⟨h1, rest, hnp, by rw [List.getElem?_set_ne (fun h => h1 h.symm)]; exact h2⟩
  · rw [List.concat_eq_append] at ho
    have hr := h.row
    cases ro with
    | none =>
      have hr' : B.opens = [] := hr
      rw [ho] at hr'; simp at hr'
    | some p =>
      obtain ⟨r, g⟩ := p
      obtain ⟨h1, rest, hnp, h2⟩ := hr
      have hrl : r < H.length := (List.getElem?_eq_some_iff.1 h2).1
      have hb := h.box
      rw [ho] at hb h2
      simp only [List.length_append, List.length_singleton] at hb
      rw [rowC_app, rowC_one] at h2
      have hll : l.length ≤ B.opens.length := by rw [ho]; simp
      have hyl : y.long ≤ sumBy Node.long B.opens := long_mem (by rw [ho]; simp)
      have hys := long_sizes (x := y) (by omega)
      have hrc := rowC_len l
      have hat : (rowC l ++ nodeO y ++ rest)[l.length * 10 + 4]? = some (.own (y.kids.map Node.pv)) := by
        rw [List.append_assoc, List.getElem?_append_right (by omega), hrc, show l.length * 10 + 4 - l.length * 10 = 4 by omega]
        rfl
      have hc := conLay1 B t x H b r g l.length (rowC l ++ nodeO y ++ rest) (y.kids.map Node.pv) hb h2 h1 hat (sizedN _) (by simpa using hys.2.1) (by omega) h.ok
      have hset : (rowC l ++ nodeO y ++ rest).set (l.length * 10 + 4) (.own (y.kids.map Node.pv ++ [x.pv])) = rowC l ++ nodeO (y.withKids (y.kids ++ [x])) ++ rest := by
        rw [List.append_assoc, List.set_append_right _ _ (by omega), hrc, show l.length * 10 + 4 - l.length * 10 = 4 by omega, List.append_assoc]
        congr 1
        simp [nodeO]
      rw [hset] at hc
      refine ⟨_, hc, ?_, ⟨by simp, fun i _ h4 => List.getElem?_set_ne (fun h => h4 r g rfl h.symm)⟩⟩
      rw [layBd_snoc ho]
      refine ⟨?_, ⟨h1, rest, hnp, by rw [List.getElem?_set_self hrl, rowC_app, rowC_one]⟩, h.txt, h.ok.set' fun f hf => ?_⟩
      · rw [List.getElem?_set_ne h1, hb]
        simp only [List.length_append, List.length_singleton]
        rfl
      · have hf' : f ∈ rowC l ++ nodeO (y.withKids (y.kids ++ [x])) ++ rest := hf
        rw [← hset] at hf'
        rcases List.mem_or_eq_of_mem_set hf' with h' | rfl
        · exact h.ok _ (List.mem_of_getElem? h2) f h'
        · rfl
end Go.Proofs.YtlbjfjaleefiiaaDoor.Ev
end
section
namespace Go.Proofs.YtlbjfjaleefiiaaDoor.Ev
open Go
set_option linter.unusedSimpArgs false in
set_option maxRecDepth 20000 in
set_option maxHeartbeats 4000000 in
theorem conTrimG (l : List Glyph) (hl : l.length ≤ 1073741824) : PCon C0 32 [.sc (gl l)] (.own ((trimG l).map Glyph.pv)) := by
  refine penter32 ?_
  simp [Tryd.f32, gl]
  refine loopC (fun d e H => ∃ (n : Nat) (x2 x18 : FV), d = n ∧ ends l ≤ n ∧ n ≤ l.length ∧ e = [(0, .sc (.sl (l.map Glyph.pv))), (2, .own []), (3, .sc (.int .i64 n)), (18, x18)]) (d := l.length) ⟨l.length, .undef, .undef, rfl, ends_le l, Nat.le_refl _, rfl⟩ ?_
  rintro d e H ⟨n, x2, x18, hd, hn, hnl, rfl⟩
  have hd' := hd.symm
  subst hd'
  have hsb : sizedB 2 (l.map Glyph.pv) = true := by simp [sizedB]; exact fun g _ => rfl
  by_cases h0 : n = 0
  · subst h0
    have ht : trimG l = [] := List.eq_nil_of_length_eq_zero (by unfold ends at hn; omega)
    have cg := cloneG [] (by simp [lenMax])
    simp only [gl, List.map_nil] at cg
    simp [ht, hsb]
    refine CallQ.mk (Call.pure callable54 (by simp) (by simp) cg) ?_
    simp
  · obtain ⟨k, rfl⟩ : ∃ k, n = k + 1 := ⟨n - 1, by omega⟩
    have hk : k < l.length := by omega
    have w1 : IntKind.i64.wrap (((k + 1 : Nat) : Int) - 1) = (k : Nat) := by rw [wrap64 (by omega) (by omega)]; omega
    simp at w1
    have hq : (l.map Glyph.pv)[k]? = some (l[k]).pv := by simp [hk]
    by_cases h32 : l[k].r = 32
    · have hne : ¬ ends l = k + 1 := fun he => by
        have := ends_at (l := l) (by omega)
        simp [he, Glyph.blank, h32] at this
      simp [w1, hq, Glyph.pv, h32]
      exact ⟨k, by omega, by omega, by omega, .undef, rfl⟩
    · have he : ends l = k + 1 := by
        rcases Nat.lt_or_ge k (ends l) with h | h
        · omega
        · have := ends_behind hk h
          simp [Glyph.blank, h32] at this
      have hkl : (k : Int) + 1 ≤ l.length := by omega
      have hk0 : (0 : Int) ≤ (k : Int) + 1 := by omega
      have cg := cloneG (trimG l) (by show (trimG l).length ≤ 137438953472; have := ends_le l; unfold ends at this; omega)
      rw [trimG_take, he] at cg
      simp only [gl, List.map_take] at cg
      rw [trimG_take, he]
      simp [w1, hq, Glyph.pv, h32, hsb, hkl, hk0]
      refine CallQ.mk (Call.pure callable54 (by simp) (by simp) cg) ?_
      simp
end Go.Proofs.YtlbjfjaleefiiaaDoor.Ev
end
section
namespace Go.Proofs.YtlbjfjaleefiiaaDoor.Ev
open Go
def laid (out : List Block) (b : Block) : Block := match out.getLast? with
  | some x => { b with gap := decide (x.kind ≠ 1) && decide (x.kind ≠ 2) }
  | none => b
end Go.Proofs.YtlbjfjaleefiiaaDoor.Ev
end
section
namespace Go.Proofs.YtlbjfjaleefiiaaDoor.Ev
open Go
def FLe (f g : FV) : Prop := ∀ (W : Wd) (r : Option Root) (i : Nat) (v : Value), FRep W r i f v → FRep W r i g v
inductive FLes : List FV → List FV → Prop
  | nil : FLes [] []
  | cons {f g : FV} {l m : List FV} : FLe f g → FLes l m → FLes (f :: l) (g :: m)
theorem FLes.len {l m : List FV} (h : FLes l m) : l.length = m.length := by
  induction h with
  | nil => rfl
  | cons _ _ ih => simp [ih]
theorem FLes.get {l m : List FV} (h : FLes l m) : ∀ {j : Nat} {g : FV}, m[j]? = some g → ∃ f, l[j]? = some f ∧ FLe f g := by
  induction h with
  | nil => intro j g h; simp at h
  | cons h _ ih =>
    intro j g hg
    cases j with
    | zero => simp at hg; subst hg; exact ⟨_, rfl, h⟩
    | succ j => exact ih (by simpa using hg)
theorem FLe.refl (f : FV) : FLe f f := fun _ _ _ _ h => h
theorem FLe.emp : FLe .emp (.sc (.sl [])) := fun _ _ _ _ h => by
  cases h
  exact .sc rfl .nil
theorem FLe.agg {l m : List FV} (h : FLes l m) : FLe (.agg l) (.agg m) := fun W r i v hv => by
  cases hv with
  | agg hs hr =>
    refine .agg (hs.trans h.len) fun j g v hg hv => ?_
    obtain ⟨f, hf, hle⟩ := h.get hg
    exact hle _ _ _ _ (hr j f v hf hv)
end Go.Proofs.YtlbjfjaleefiiaaDoor.Ev
end
section
namespace Go.Proofs.YtlbjfjaleefiiaaDoor.Ev
open Go
theorem Con.les {C : Ctx} {f : FuncId} {args args' : List FV} {H : Heap} {r : FV} {H' : Heap} (h : Con C f args' H r H') (hl : FLes args args') : Con C f args H r H' := fun vs W h1 h2 h3 h4 =>
  h vs W (h1.trans hl.len) (fun j g v hg hv => by
    obtain ⟨f, hf, hle⟩ := hl.get hg
    exact hle _ _ _ _ (h2 j f v hf hv)) h3 h4
theorem hsetB {H : Heap} {b : Nat} (h : b < H.length) {x : List FV} : (H.set b x)[b]? = some x := List.getElem?_set_self h
def paraB (B : Bd) : Node := .mk 3 B.line 0 B.text [] [] noTbl
def endBd (B : Bd) : Bd := if B.has = false then B else { (if trimG B.text = [] then B else layBd B (paraB B)) with text := [], has := false }
theorem paraB_long (B : Bd) : (paraB B).long = 3 + B.text.length := by rw [Node.long_eq]; simp [paraB, noTbl, rowsLong, sumBy]
theorem layBd_text (B : Bd) (x : Node) : (layBd B x).text = B.text ∧ (layBd B x).has = B.has ∧ (layBd B x).line = B.line ∧ (layBd B x).name = B.name ∧ (layBd B x).part = B.part ∧ (layBd B x).date = B.date ∧ (layBd B x).source = B.source ∧ (layBd B x).opens.length = B.opens.length := by
  rcases List.eq_nil_or_concat B.opens with h | ⟨l, y, h⟩
  · rw [layBd_nil h]; simp
  · rw [List.concat_eq_append] at h
    rw [layBd_snoc h]; simp [h]
theorem endBd_long (B : Bd) : (endBd B).long ≤ B.long + 3 := by
  unfold endBd
  split
  · omega
  · split
    · simp only [Bd.long, List.length_nil]; omega
    · have h1 := layBd_long B (paraB B)
      have h2 := paraB_long B
      have h3 := (layBd_text B (paraB B)).1
      have h4 : ({ layBd B (paraB B) with text := [], has := false } : Bd).long + (layBd B (paraB B)).text.length = (layBd B (paraB B)).long := by simp only [Bd.long, List.length_nil]; omega
      rw [h3] at h4
      omega
theorem BIn.clear {H : Heap} {b : Nat} {ro : Option (Nat × Nat)} {t : FV} {B : Bd} (h : BIn H b ro t B) : BIn (H.set b (bCells { B with text := [], has := false } (oF ro B.opens.length) (.own []))) b ro (.own []) { B with text := [], has := false } ∧ Frm H (H.set b (bCells { B with text := [], has := false } (oF ro B.opens.length) (.own []))) b ro := by
  have hbl : b < H.length := (List.getElem?_eq_some_iff.1 h.box).1
  refine ⟨⟨by rw [List.getElem?_set_self hbl], ?_, .inr ⟨rfl, rfl⟩, h.ok.set' (HOk.build ⟨(h.ok.cells h.box).1, rfl⟩)⟩, by simp, fun i h1 _ => List.getElem?_set_ne (fun h => h1 h.symm)⟩
  have hr := h.row
  cases ro with
  | none => exact hr
  | some p =>
    obtain ⟨r, g⟩ := p
    obtain ⟨h1, rest, hnp, h2⟩ := hr
    exact ⟨h1, rest, hnp, by rw [List.getElem?_set_ne (fun h => h1 h.symm)]; exact h2⟩
set_option linter.unusedSimpArgs false in
set_option maxRecDepth 20000 in
set_option maxHeartbeats 16000000 in
theorem conEnd {H : Heap} {b : Nat} {ro : Option (Nat × Nat)} {t : FV} {B : Bd} (h : BIn H b ro t B) (hl : B.long ≤ 500000000) :
    ∃ H' t', Con C0 11 [.ptr b 0] H (.tup []) H' ∧ BIn H' b ro t' (endBd B) ∧ Frm H H' b ro := by
  have hbl : b < H.length := (List.getElem?_eq_some_iff.1 h.box).1
  cases hh : B.has with
  | false =>
    refine ⟨H, t, ?_, by unfold endBd; rw [if_pos hh]; exact h, Frm.refl _ _ _⟩
    have hb := h.box
    generalize oF ro B.opens.length = o at hb
    obtain ⟨nm, pt, dt, so, kids, opens, text, line, has⟩ := B
    simp only at hh
    subst hh
    simp only [bCells] at hb
    refine enter11 ?_
    simp [Tryd.f11, hb]
  | true =>
    have htl : B.text.length ≤ 1073741824 := by unfold Bd.long at hl; omega
    have ct := conTrimG B.text htl
    by_cases htr : trimG B.text = []
    · have hc := h.clear
      refine ⟨_, _, ?_, by unfold endBd; rw [if_neg (by simp [hh]), if_pos htr]; exact hc.1, hc.2⟩
      have hb := h.box
      have htx := h.txt
      generalize oF ro B.opens.length = o at hb ⊢
      obtain ⟨nm, pt, dt, so, kids, opens, text, line, has⟩ := B
      simp only at hh htr ct htx
      subst hh
      simp only [bCells] at hb ⊢
      rw [htr] at ct
      refine enter11 ?_
      rcases htx with rfl | ⟨rfl, rfl⟩
      all_goals
        simp only [gl, List.map_nil] at ct
        simp [Tryd.f11, hb, gl]
        refine CallQ.mk (Call.pure callable32 (by simp) (by simp) ct) ?_
        simp [hb, gl, hsetB hbl]
    · obtain ⟨H1, c1, c2, c3⟩ := conLay h (paraB B) (by rw [paraB_long]; unfold Bd.long at *; omega)
      have hc := c2.clear
      refine ⟨_, _, ?_, by unfold endBd; rw [if_neg (by simp [hh]), if_neg htr]; exact hc.1, c3.trans hc.2⟩
      have hb := h.box
      have hb2 := c2.box
      have hbl2 : b < H1.length := (List.getElem?_eq_some_iff.1 hb2).1
      have htx := h.txt
      have hlt := layBd_text B (paraB B)
      have hpos : 0 < (trimG B.text).length := List.length_pos_iff.2 htr
      generalize layBd B (paraB B) = L at *
      obtain ⟨l1, l2, l3, l4, l5, l6, l7, l8⟩ := hlt
      rw [Node.toFV_eq] at c1
      simp only [paraB, Node.kind_mk, Node.line_mk, Node.n_mk, Node.text_mk, Node.kids_mk, Node.rows_mk, Node.grid_mk, noTbl, List.map_nil] at c1
      rw [l8] at hb2 ⊢
      generalize oF ro B.opens.length = o at hb hb2 ⊢
      obtain ⟨nm, pt, dt, so, kids, opens, text, line, has⟩ := B
      obtain ⟨nm', pt', dt', so', kids', opens', text', line', has'⟩ := L
      simp only at hh htr ct htx l1 l2 l3 l4 l5 l6 l7 l8 hpos c1
      subst hh l1 l2 l3 l4 l5 l6 l7
      simp only [bCells] at hb hb2 ⊢
      have c1' : Con C0 33 [.ptr b 0, .agg [.sc (.int .i64 3), .sc (.int .i64 line'), .sc (.int .i64 0), .sc (.sl (text'.map Glyph.pv)), .emp, .emp, .sc (.str ByteArray.empty), .emp, .sc (.bool false), .sc (.bool false)]] H (.tup []) H1 :=
        c1.les (by repeat' first | exact FLes.nil | exact FLe.refl _ | exact FLe.emp | apply FLes.cons | apply FLe.agg)
      refine enter11 ?_
      simp only [gl] at ct
      rcases htx with rfl | ⟨rfl, rfl⟩
      · simp [Tryd.f11, hb, gl]
        refine CallQ.mk (Call.pure callable32 (by simp) (by simp) ct) ?_
        simp [hb, gl, hpos]
        refine CallQ.mk (CallP.shared callable33 c1') ?_
        simp [hb2, hsetB hbl2]
      · exact absurd rfl htr
end Go.Proofs.YtlbjfjaleefiiaaDoor.Ev
end
section
namespace Go.Proofs.YtlbjfjaleefiiaaDoor.Ev
open Go
theorem BIn.tell {H : Heap} {b : Nat} {ro : Option (Nat × Nat)} {t t' : FV} {B B' : Bd} (h : BIn H b ro t B) (ho : B'.opens = B.opens) (ht : t' = .sc (gl B'.text) ∨ (B'.text = [] ∧ t' = .own [])) :
    BIn (H.set b (bCells B' (oF ro B.opens.length) t')) b ro t' B' ∧ Frm H (H.set b (bCells B' (oF ro B.opens.length) t')) b ro := by
  have hbl : b < H.length := (List.getElem?_eq_some_iff.1 h.box).1
  refine ⟨⟨by rw [List.getElem?_set_self hbl, ho], ?_, ht, h.ok.set' (HOk.build ⟨(h.ok.cells h.box).1, by rcases ht with rfl | ⟨_, rfl⟩ <;> rfl⟩)⟩, by simp, fun i h1 _ => List.getElem?_set_ne (fun h => h1 h.symm)⟩
  have hr := h.row
  rw [ho]
  cases ro with
  | none => exact hr
  | some p =>
    obtain ⟨r, g⟩ := p
    obtain ⟨h1, rest, hnp, h2⟩ := hr
    exact ⟨h1, rest, hnp, by rw [List.getElem?_set_ne (fun h => h1 h.symm)]; exact h2⟩
def textBd (B : Bd) (l : List Glyph) (ln : Int) : Bd := { B with text := joinS B.text l, line := if B.has = true then B.line else ln, has := true }
set_option linter.unusedSimpArgs false in
set_option maxRecDepth 20000 in
set_option maxHeartbeats 8000000 in
theorem conText {H : Heap} {b : Nat} {ro : Option (Nat × Nat)} {t : FV} {B : Bd} (h : BIn H b ro t B) (l : List Glyph) (ln : Int) (hl : B.text.length + l.length ≤ 536870912) :
    ∃ H', Con C0 10 [.ptr b 0, .sc (gl l), .sc (.int .i64 ln)] H (.tup []) H' ∧ BIn H' b ro (.sc (gl (joinS B.text l))) (textBd B l ln) ∧ Frm H H' b ro := by
  have hbl : b < H.length := (List.getElem?_eq_some_iff.1 h.box).1
  have hc := h.tell (B' := textBd B l ln) (t' := .sc (gl (joinS B.text l))) rfl (.inl rfl)
  refine ⟨_, ?_, hc⟩
  have hb := h.box
  have htx := h.txt
  have cj := conJoinS B.text l hl
  generalize oF ro B.opens.length = o at hb ⊢
  obtain ⟨nm, pt, dt, so, kids, opens, text, line, has⟩ := B
  simp only [bCells, textBd] at hb htx cj ⊢
  refine enter10 ?_
  rcases htx with rfl | ⟨rfl, rfl⟩
  all_goals
    simp only [gl, List.map_nil] at cj hb
    cases has
    all_goals
      simp [Tryd.f10, hb, hsetB hbl, gl]
      refine CallQ.mk (Call.pure callable31 (by simp) (by simp) cj) ?_
      simp [hb, hsetB hbl]
set_option linter.unusedSimpArgs false in
set_option maxRecDepth 20000 in
theorem conDepth {H : Heap} {b : Nat} {ro : Option (Nat × Nat)} {t : FV} {B : Bd} (h : BIn H b ro t B) : Con C0 18 [.ptr b 0] H (.sc (.int .i64 B.opens.length)) H := by
  have hb := h.box
  have hr := h.row
  refine enter18 ?_
  cases ro with
  | none =>
    have hr' : B.opens = [] := hr
    simp only [bCells, oF] at hb
    simp [Tryd.f18, hb, hr']
  | some p =>
    obtain ⟨r, g⟩ := p
    simp only [bCells, oF] at hb
    simp [Tryd.f18, hb]
def Bd.zero : Bd := ⟨ByteArray.empty, ByteArray.empty, ByteArray.empty, ByteArray.empty, [], [], [], 0, false⟩
set_option maxRecDepth 20000 in
theorem conNew (H : Heap) : Con C0 8 [] H (.ptr H.length 0) (H ++ [bCells Bd.zero (.own []) (.own [])]) := by
  refine enter8 ?_
  simp [Tryd.f8, bCells, Bd.zero]
end Go.Proofs.YtlbjfjaleefiiaaDoor.Ev
end
section
namespace Go.Proofs.YtlbjfjaleefiiaaDoor.Ev
open Go
theorem und0_mono {n m : Nat} (h : n ≤ m) {f : FV} (hf : f.und0 n = true) : f.und0 m = true := by
  cases f with
  | fn f a b => cases a <;> cases b <;> simp_all [FV.und0]
  | ptr b o => simp only [FV.und0, decide_eq_true_eq] at hf ⊢; omega
  | bs b o k => simp only [FV.und0, decide_eq_true_eq] at hf ⊢; omega
  | gr b g z k => simp only [FV.und0, decide_eq_true_eq] at hf ⊢; omega
  | gp b g o => simp only [FV.und0, decide_eq_true_eq] at hf ⊢; omega
  | _ => simp_all [FV.und0]
theorem HOk.more {H : Heap} (h : HOk H) {fs : List FV} (hf : ∀ f ∈ body fs, f.und0 (H.length + 1) = true) : HOk (H ++ [fs]) := fun gs hg f hf' => by
  rw [List.length_append, List.length_singleton]
  rcases List.mem_append.1 hg with h' | h'
  · exact und0_mono (Nat.le_succ _) (h gs h' f hf')
  · rw [List.mem_singleton.1 h'] at hf'; exact hf f hf'
theorem BIn.more {H : Heap} {b : Nat} {ro : Option (Nat × Nat)} {t : FV} {B : Bd} (h : BIn H b ro t B) {fs : List FV} (hf : ∀ f ∈ body fs, f.und0 (H.length + 1) = true) : BIn (H ++ [fs]) b ro t B := by
  have hbl : b < H.length := (List.getElem?_eq_some_iff.1 h.box).1
  refine ⟨by rw [heap_old hbl]; exact h.box, ?_, h.txt, h.ok.more hf⟩
  have hr := h.row
  cases ro with
  | none => exact hr
  | some p =>
    obtain ⟨r, g⟩ := p
    obtain ⟨h1, rest, hnp, h2⟩ := hr
    have hrl : r < H.length := (List.getElem?_eq_some_iff.1 h2).1
    exact ⟨h1, rest, hnp, by rw [heap_old hrl]; exact h2⟩
theorem nodeO_und (x : Node) (n : Nat) : ∀ f ∈ nodeO x, f.und0 n = true := fun f hf => by
  simp only [nodeO, List.mem_cons, List.not_mem_nil, or_false] at hf
  rcases hf with rfl | rfl | rfl | rfl | rfl | rfl | rfl | rfl | rfl | rfl <;> rfl
theorem rowC_und (l : List Node) (n : Nat) : ∀ f ∈ rowC l, f.und0 n = true := fun f hf => by
  simp only [rowC, List.mem_flatMap] at hf
  obtain ⟨x, _, hx⟩ := hf
  exact nodeO_und x n f hx
theorem BIn.take {H L H1 : Heap} {b : Nat} {ro : Option (Nat × Nat)} {t0 t : FV} {B0 B : Bd} (h0 : BIn H b ro t0 B0) (h : BIn H1 b ro t B) (hf : Frm (H ++ L) H1 b ro) : BIn (H1.take H.length) b ro t B ∧ Frm H (H1.take H.length) b ro := by
  have hbl : b < H.length := (List.getElem?_eq_some_iff.1 h0.box).1
  have hlen : (H1.take H.length).length = H.length := by rw [List.length_take, hf.len, List.length_append]; omega
  have hget : ∀ i, i < H.length → (H1.take H.length)[i]? = H1[i]? := fun i hi => List.getElem?_take_of_lt hi
  have hold : ∀ i, i < H.length → i ≠ b → (∀ r g, ro = some (r, g) → i ≠ r) → H1[i]? = H[i]? := fun i hi h1 h2 => by rw [hf.same i h1 h2, heap_old hi]
  have hrl : ∀ r g, ro = some (r, g) → r < H.length := fun r g hrg => by
    have hr := h0.row
    subst hrg
    obtain ⟨_, rest, _, h2⟩ := hr
    exact (List.getElem?_eq_some_iff.1 h2).1
  have hone : (oF ro B.opens.length).und0 H.length = true := by
    cases ro with
    | none => rfl
    | some p => obtain ⟨r, g⟩ := p; simp only [oF, FV.und0, decide_eq_true_eq]; exact hrl r g rfl
  refine ⟨⟨by rw [hget b hbl]; exact h.box, ?_, h.txt, fun gs hg f hf' => ?_⟩, hlen, fun i h1 h2 => ?_⟩
  · have hr := h.row
    cases ro with
    | none => exact hr
    | some p =>
      obtain ⟨r, g⟩ := p
      obtain ⟨h1, rest, hnp, h2⟩ := hr
      exact ⟨h1, rest, hnp, by rw [hget r (hrl r g rfl)]; exact h2⟩
  · rw [hlen]
    obtain ⟨i, hi⟩ := List.getElem?_of_mem hg
    have hil : i < H.length := by rw [← hlen]; exact (List.getElem?_eq_some_iff.1 hi).1
    rw [hget i hil] at hi
    by_cases hib : i = b
    · subst hib
      rw [h.box] at hi
      obtain rfl := Option.some.inj hi
      exact HOk.build ⟨hone, by rcases h.txt with rfl | ⟨_, rfl⟩ <;> rfl⟩ f hf'
    · by_cases hir : ∃ g, ro = some (i, g)
      · obtain ⟨g, rfl⟩ := hir
        obtain ⟨h1, rest, hnp, h2⟩ := h.row
        rw [h2] at hi
        obtain rfl := Option.some.inj hi
        rcases List.mem_append.1 (show f ∈ rowC B.opens ++ rest from hf') with h' | h'
        · exact rowC_und _ _ f h'
        · exact FV.und_np (hnp f h')
      · rw [hold i hil hib (fun r g hrg hh => hir ⟨g, by rw [hrg, hh]⟩)] at hi
        exact h0.ok gs (List.mem_of_getElem? hi) f hf'
  · by_cases hil : i < H.length
    · rw [hget i hil]; exact hold i hil h1 h2
    · rw [List.getElem?_eq_none (by omega), List.getElem?_eq_none (by omega)]
end Go.Proofs.YtlbjfjaleefiiaaDoor.Ev
end
section
namespace Go.Proofs.YtlbjfjaleefiiaaDoor.Ev
open Go
def nodeD (x : Node) : List FV := [.sc (.int .i64 x.kind), .sc (.int .i64 x.line), .sc (.int .i64 x.n), .sc (.sl (x.text.map Glyph.pv)), .sc (.sl (x.kids.map Node.pv)), .sc (.sl (x.rows.map gl)), .sc (.str x.grid.cols), .sc (.sl (x.grid.rows.map TRow.pv)), .sc (.bool x.grid.box), .sc (.bool x.grid.all)]
theorem row_at {l : List Node} {rest : List FV} {i : Nat} (h : i < l.length) : List.take 10 (List.drop (i * 10) (List.map demote1 (rowC l ++ rest))) = nodeD l[i] ∧ i * 10 + 10 ≤ (rowC l ++ rest).length := by
  have hs : l = l.take i ++ l[i] :: l.drop (i + 1) := by
    rw [← List.drop_eq_getElem_cons h, List.take_append_drop]
  have hc : rowC l = rowC (l.take i) ++ (nodeO l[i] ++ rowC (l.drop (i + 1))) := by
    conv => lhs; rw [hs]
    rw [rowC_app]
    congr 1
  have hl : (rowC (l.take i)).length = i * 10 := by rw [rowC_len, List.length_take]; congr 1; omega
  constructor
  · rw [← List.map_drop, ← List.map_take, hc, List.append_assoc, List.drop_left' hl, List.append_assoc, List.take_left' (nodeO_len _)]
    rfl
  · rw [List.length_append, rowC_len]; omega
theorem BIn.cut {H : Heap} {b r g : Nat} {t : FV} {B : Bd} {l : List Node} {x : Node} (h : BIn H b (some (r, g)) t B) (ho : B.opens = l ++ [x]) :
    BIn (H.set b (bCells { B with opens := l } (.gr r g 10 l.length) t)) b (some (r, g)) t { B with opens := l } ∧ Frm H (H.set b (bCells { B with opens := l } (.gr r g 10 l.length) t)) b (some (r, g)) := by
  have hbl : b < H.length := (List.getElem?_eq_some_iff.1 h.box).1
  obtain ⟨h1, rest, hnp, h2⟩ := h.row
  have hrl : r < H.length := (List.getElem?_eq_some_iff.1 h2).1
  refine ⟨⟨by rw [List.getElem?_set_self hbl]; rfl, ?_, h.txt, h.ok.set' (HOk.build ⟨by simp only [FV.und0, decide_eq_true_eq]; exact hrl, (h.ok.cells h.box).2⟩)⟩, by simp, fun i h1 _ => List.getElem?_set_ne (fun h => h1 h.symm)⟩
  refine ⟨h1, nodeO x ++ rest, fun f hf => ?_, ?_⟩
  · rcases List.mem_append.1 hf with hf | hf
    · simp only [nodeO, List.mem_cons, List.not_mem_nil, or_false] at hf
      rcases hf with rfl | rfl | rfl | rfl | rfl | rfl | rfl | rfl | rfl | rfl <;> rfl
    · exact hnp f hf
  · rw [List.getElem?_set_ne (fun h => h1 h.symm), h2, ho, rowC_app, rowC_one, List.append_assoc]
set_option linter.unusedSimpArgs false in
set_option maxRecDepth 20000 in
set_option maxHeartbeats 8000000 in
theorem conPop {H : Heap} {b : Nat} {ro : Option (Nat × Nat)} {t : FV} {B : Bd} (h : BIn H b ro t B) {l : List Node} {x : Node} (ho : B.opens = l ++ [x]) (hl : B.long ≤ 400000000) :
    ∃ H', Con C0 35 [.ptr b 0] H (.tup []) H' ∧ BIn H' b ro t (layBd { B with opens := l } x) ∧ Frm H H' b ro := by
  have hbl : b < H.length := (List.getElem?_eq_some_iff.1 h.box).1
  cases ro with
  | none =>
    have hr : B.opens = [] := h.row
    rw [ho] at hr; simp at hr
  | some p =>
    obtain ⟨r, g⟩ := p
    have hlong : ({ B with opens := l } : Bd).long + x.long = B.long := by simp only [Bd.long, ho, sumBy_append, sumBy]; omega
    obtain ⟨k1, k2⟩ := h.cut ho
    have k3 := k1.more (fs := nodeD x) (fun f hf => by
      simp only [body, nodeD, List.mem_cons, List.not_mem_nil, or_false] at hf
      rcases hf with rfl | rfl | rfl | rfl | rfl | rfl | rfl | rfl | rfl | rfl <;> rfl)
    obtain ⟨H1, c1, c2, c3⟩ := conLay k3 x (by omega)
    have hk := k1.take c2 c3
    have hlen : (H.set b (bCells { B with opens := l } (.gr r g 10 l.length) t)).length = H.length := by simp
    rw [hlen] at hk
    refine ⟨H1.take H.length, ?_, hk.1, k2.trans hk.2⟩
    obtain ⟨h1, rest, hnp, h2⟩ := h.row
    have hrl : r < H.length := (List.getElem?_eq_some_iff.1 h2).1
    have hol : l.length ≤ B.opens.length := by rw [ho]; simp
    have hob := len_le_long B.opens
    obtain ⟨ra, rb⟩ := row_at (l := B.opens) (rest := rest) (i := l.length) (by rw [ho]; simp)
    have hxo : B.opens[l.length]'(by rw [ho]; simp) = x := by simp [ho]
    rw [hxo] at ra
    have hb := h.box
    have hn : B.opens.length = l.length + 1 := by rw [ho]; simp
    simp only [oF, hn] at hb
    unfold Bd.long at hl
    have w1 : IntKind.i64.wrap (((l.length : Int) + 1) - 1) = l.length := by rw [wrap64 (by omega) (by omega)]; omega
    have w2 : IntKind.i64.wrap (l.length : Int) = l.length := wrap64 (by omega) (by omega)
    have n1 : (l.length : Int) < (l.length : Int) + 1 := by omega
    have n2 : (l.length : Int) ≤ (l.length : Int) + 1 := by omega
    generalize rowC B.opens ++ rest = c at h2 ra rb
    rw [Node.toFV_eq] at c1
    simp only [gl] at c1
    simp only [bCells, nodeD] at hb c1 ra
    refine con_trimU (C := C0) (fn := Tryd.f35) Tryd.func35 rfl (by decide) mixed (mv := mv35) (vars := vars35) (c := Tryd.f35.body.getD .skip) (by kernel_rfl) rfl (fun fs hfs f hf => by have := hk.1.ok fs hfs f hf; rw [hk.2.len, hlen] at this; exact this) ?_
    simp [Tryd.f35, hb, h2, heap_old hbl, heap_old hrl, heap_old_set hbl, hs_b hbl, hs_at, hs_at0, w1, w2, n1, n2, ra, rb]
    refine CallQ.mk (Call.shared callable33 c1) ?_
    simp
end Go.Proofs.YtlbjfjaleefiiaaDoor.Ev
end
section
namespace Go.Proofs.YtlbjfjaleefiiaaDoor.Ev
open Go
structure FrG (H H' : Heap) (b : Nat) (ro ro' : Option (Nat × Nat)) : Prop where
  le : H.length ≤ H'.length
  same : ∀ i, i < H.length → i ≠ b → (∀ r g, ro = some (r, g) → i ≠ r) → H'[i]? = H[i]?
  row : (∀ r g, ro = some (r, g) → ∃ g', ro' = some (r, g')) ∧ (ro = none → ∀ r g, ro' = some (r, g) → H.length ≤ r)
theorem Frm.toG {H H' : Heap} {b : Nat} {ro : Option (Nat × Nat)} (h : Frm H H' b ro) : FrG H H' b ro ro :=
  ⟨by rw [h.len]; exact Nat.le_refl _, fun i _ h1 h2 => h.same i h1 h2, fun r g hr => ⟨g, hr⟩, fun h0 r g hr => by rw [h0] at hr; simp at hr⟩
theorem FrG.trans {A B C : Heap} {b : Nat} {r1 r2 r3 : Option (Nat × Nat)} (h : FrG A B b r1 r2) (k : FrG B C b r2 r3) : FrG A C b r1 r3 where
  le := Nat.le_trans h.le k.le
  same i hi h1 h2 := by
    have hi' : i < B.length := Nat.lt_of_lt_of_le hi h.le
    refine (k.same i hi' h1 fun r g hr => ?_).trans (h.same i hi h1 h2)
    cases r1 with
    | none => have := h.row.2 rfl r g hr; omega
    | some p =>
      obtain ⟨r', g'⟩ := p
      obtain ⟨g2, hg2⟩ := h.row.1 r' g' rfl
      rw [hg2] at hr
      simp only [Option.some.injEq, Prod.mk.injEq] at hr
      have := h2 r' g' rfl
      omega
  row := ⟨fun r g hr => by
    obtain ⟨g', h1⟩ := h.row.1 r g hr
    exact k.row.1 r g' h1, fun h0 r g hr => by
    cases r2 with
    | none => exact Nat.le_trans h.le (k.row.2 rfl r g hr)
    | some p =>
      obtain ⟨r', g'⟩ := p
      have h3 := h.row.2 h0 r' g' rfl
      obtain ⟨g2, hg2⟩ := k.row.1 r' g' rfl
      rw [hg2] at hr
      simp only [Option.some.injEq, Prod.mk.injEq] at hr
      omega⟩
theorem hcm2 {H : Heap} {b r : Nat} (h : r ≠ b) {v w : List FV} : (H.set b v).set r w = (H.set r w).set b v := List.set_comm v w (fun h' => h h'.symm)
theorem splice_end {c : List FV} {n : Nat} {z v : List FV} (hz : z.length = v.length) (hn : c.length = n) : splice (c ++ z) n v = c ++ v := by
  unfold splice
  rw [List.take_left' hn, List.drop_of_length_le (by rw [List.length_append]; omega), List.append_nil]
set_option linter.unusedSimpArgs false in
set_option maxRecDepth 20000 in
set_option maxHeartbeats 16000000 in
theorem conOpen {H : Heap} {b : Nat} {ro : Option (Nat × Nat)} {t : FV} {B : Bd} (h : BIn H b ro t B) (x : Node) (hl : B.long + x.long ≤ 400000000) :
    ∃ H' t' ro', Con C0 29 [.ptr b 0, x.pv.toFV] H (.tup []) H' ∧ BIn H' b ro' t' { endBd B with opens := (endBd B).opens ++ [x] } ∧ FrG H H' b ro ro' := by
  have hbl : b < H.length := (List.getElem?_eq_some_iff.1 h.box).1
  have hel := endBd_long B
  have cc := conCopied (SizeOf.sizeOf x + 1) x (Nat.lt_succ_self _) (by omega)
  have h1 := h.more (fs := nodeD x) (fun f hf => by
    simp only [body, nodeD, List.mem_cons, List.not_mem_nil, or_false] at hf
    rcases hf with rfl | rfl | rfl | rfl | rfl | rfl | rfl | rfl | rfl | rfl <;> rfl)
  obtain ⟨H1, t1, c1, c2, c3⟩ := conEnd h1 (by omega)
  have hx1 : H1[H.length]? = some (nodeD x) := by
    rw [c3.same H.length (by omega) (fun r g hrg => by
      have hr := h.row
      subst hrg
      obtain ⟨_, rest, _, h2⟩ := hr
      have := (List.getElem?_eq_some_iff.1 h2).1
      omega), heap_at0]
    rfl
  have hlen1 : H1.length = H.length + 1 := by rw [c3.len]; simp
  have hbl1 : b < H1.length := by omega
  have hxb : H.length ≠ b := by omega
  rw [Node.toFV_eq] at cc ⊢
  have hob := len_le_long (endBd B).opens
  have hlo : (endBd B).opens.length ≤ 400000003 := by unfold Bd.long at hel; unfold Bd.long at hl; omega
  simp only [gl] at cc ⊢
  have fr0 : FrG H (H ++ [nodeD x]) b ro ro := ⟨by simp, fun i hi _ _ => heap_old hi, fun r g hr => ⟨g, hr⟩, fun h0 r g hr => by rw [h0] at hr; simp at hr⟩
  have fr1 := fr0.trans c3.toG
  have hb := c2.box
  have htx := c2.txt
  have hok := c2.ok
  have hrow := c2.row
  generalize endBd B = E at *
  have wz : IntKind.i64.wrap 0 = 0 := by decide
  cases ro with
  | none =>
    have hr' : E.opens = [] := hrow
    have hlen2 : (H1.set b (bCells { E with opens := [x] } (.gr H1.length 0 10 1) t1)).length = H1.length := by simp
    refine ⟨H1.set b (bCells { E with opens := [x] } (.gr H1.length 0 10 1) t1) ++ [[.row 0 (nodeO x)]], t1, some (H1.length, 0), ?_, ⟨?_, ⟨by omega, [], by simp, ?_⟩, htx, ?_⟩, fr1.trans ⟨by simp, fun i hi h2 _ => ?_, fun r g hr => by simp at hr, fun _ r g hr => ?_⟩⟩
    · simp only [bCells, oF] at hb
      simp only [bCells, nodeD] at c1 hx1 ⊢
      refine enter29 ?_
      simp [Tryd.f29]
      refine CallQ.mk (Call.shared callable11 c1) ?_
      simp
      refine DrawC.mk (fun _ _ => .oagg (nodeO x)) ?_
      have hsx : ∀ v : List FV, (H1.set b v)[H.length]? = H1[H.length]? := fun v => List.getElem?_set_ne (fun h => hxb h.symm)
      have s1 : ∀ (v w : List FV) (L : Heap), (H1.set b v ++ L).set b w = H1.set b w ++ L := fun v w L => hs_set hbl1
      simp [hb, hx1, hsx, hsetB hbl1, heap_old hbl1]
      refine ⟨?_, ?_, ?_⟩
      all_goals
        refine CallQ.mk (CallD.pure callable34 (by simp) (by simp [nodeO]) cc rfl) ?_
        simp [hb, hsetB hbl1, nodeO, sized1, lenMax, hs_at, hs_at0, hs_b hbl1, s1]
    · rw [heap_old (by rw [hlen2]; exact hbl1), List.getElem?_set_self hbl1]
      simp [hr', oF]
    · have := heap_at0 (H := H1.set b (bCells { E with opens := [x] } (.gr H1.length 0 10 1) t1)) (L := [[.row 0 (nodeO x)]])
      rw [hlen2] at this
      rw [this, hr', List.nil_append, rowC_one, List.append_nil]
      rfl
    · have hcell : ∀ f ∈ body (bCells { E with opens := [x] } (.gr H1.length 0 10 1) t1), f.und0 (H1.length + 1) = true := HOk.build ⟨by simp [FV.und0], und0_mono (Nat.le_succ _) (hok.cells hb).2⟩
      intro gs hg f hf
      rw [List.length_append, hlen2, List.length_singleton]
      rcases List.mem_append.1 hg with h' | h'
      · rcases List.mem_or_eq_of_mem_set h' with h' | rfl
        · exact und0_mono (Nat.le_succ _) (hok gs h' f hf)
        · exact hcell f hf
      · rw [List.mem_singleton.1 h'] at hf
        exact nodeO_und x _ f hf
    · rw [heap_old (by rw [hlen2]; exact hi), List.getElem?_set_ne (fun h => h2 h.symm)]
    · simp only [Option.some.injEq, Prod.mk.injEq] at hr
      omega
  | some p =>
    obtain ⟨r, g⟩ := p
    obtain ⟨k1, rest, hnp, k2⟩ := hrow
    have hrl : r < H1.length := (List.getElem?_eq_some_iff.1 k2).1
    have hxr : H.length ≠ r := fun hh => by
      have hr := h.row
      obtain ⟨_, _, _, h2⟩ := hr
      have := (List.getElem?_eq_some_iff.1 h2).1
      omega
    have hcl := rowC_len E.opens
    have hlen2 : ((H1.set r [.row (g + 1) (rowC E.opens ++ nodeO x)]).set b (bCells { E with opens := E.opens ++ [x] } (.gr r (g + 1) 10 (E.opens.length + 1)) t1)).length = H1.length := by simp
    refine ⟨(H1.set r [.row (g + 1) (rowC E.opens ++ nodeO x)]).set b (bCells { E with opens := E.opens ++ [x] } (.gr r (g + 1) 10 (E.opens.length + 1)) t1), t1, some (r, g + 1), ?_, ⟨?_, ⟨k1, [], by simp, ?_⟩, htx, ?_⟩, fr1.trans ⟨by simp, fun i hi h2 h3 => ?_, fun r' g' hr => ?_, fun h0 => by simp at h0⟩⟩
    · simp only [bCells, oF] at hb
      simp only [bCells, nodeD] at c1 hx1 ⊢
      have hk0 : E.opens.length * 10 ≤ (rowC E.opens ++ rest).length := by rw [List.length_append]; omega
      have tk : List.take (E.opens.length * 10) (rowC E.opens ++ rest) = rowC E.opens := List.take_left' hcl
      have hsp : ∀ z v : List FV, z.length = v.length → splice (rowC E.opens ++ z) (E.opens.length * 10) v = rowC E.opens ++ v := fun z v hz => splice_end hz hcl
      have n1 : (E.opens.length : Int) < (E.opens.length : Int) + 1 := by omega
      have hs9 : ∀ a0 a1 a2 a3 a4 a5 a6 a7 a8 v : FV, splice [a0, a1, a2, a3, a4, a5, a6, a7, a8] 5 [v] = [a0, a1, a2, a3, a4, v, a6, a7, a8] := fun _ _ _ _ _ _ _ _ _ _ => rfl
      have hsb : ∀ v : List FV, (H1.set r v)[b]? = H1[b]? := fun v => List.getElem?_set_ne k1
      have hsr : ∀ v : List FV, (H1.set b v)[r]? = H1[r]? := fun v => List.getElem?_set_ne (fun h => k1 h.symm)
      have hsx : ∀ v : List FV, (H1.set b v)[H.length]? = H1[H.length]? := fun v => List.getElem?_set_ne (fun h => hxb h.symm)
      have hcm : ∀ v w : List FV, (H1.set b v).set r w = (H1.set r w).set b v := fun v w => List.set_comm v w (fun h => k1 h.symm)
      have hbb : ∀ v : List FV, (H1.set b v)[b]? = some v := fun v => hsetB hbl1
      have hrr : ∀ v : List FV, (H1.set r v)[r]? = some v := fun v => hsetB hrl
      have hbr : ∀ v w : List FV, ((H1.set r v).set b w)[r]? = some v := fun v w => by rw [List.getElem?_set_ne (fun h => k1 h.symm)]; exact hrr v
      have hbw : ∀ v w : List FV, ((H1.set r v).set b w)[b]? = some w := fun v w => hsetB (by simpa using hbl1)
      have hcw : ∀ v w u : List FV, ((H1.set r v).set b w).set r u = (H1.set r u).set b w := fun v w u => by rw [hcm2 k1, List.set_set]
      refine enter29 ?_
      simp [Tryd.f29]
      refine CallQ.mk (Call.shared callable11 c1) ?_
      simp
      refine DrawC.mk (fun _ _ => .oagg (nodeO x)) ?_
      simp [hb, hx1, hsx, hbb, -splice]
      refine ⟨?_, ?_, ?_⟩
      all_goals
        refine CallQ.mk (CallD.pure callable34 (by simp) (by simp [nodeO]) cc rfl) ?_
        simp [hb, k2, hbb, hsr, hcm, hbr, hbw, hcw, hs9, hsp, tk, hk0, hcl, n1, nodeO, sized1, lenMax, -splice]
        omega
    · rw [List.getElem?_set_self (by simpa using hbl1)]
      simp [oF]
    · rw [List.getElem?_set_ne (fun h => k1 h.symm), List.getElem?_set_self hrl, rowC_app, rowC_one, List.append_nil]
    · have hcell : ∀ f ∈ body (bCells { E with opens := E.opens ++ [x] } (.gr r (g + 1) 10 (E.opens.length + 1)) t1), f.und0 H1.length = true := HOk.build ⟨by simpa [FV.und0] using hrl, (hok.cells hb).2⟩
      have h5 := hok.set' (b := r) (fs := [.row (g + 1) (rowC E.opens ++ nodeO x)]) (fun f hf => by
        rcases List.mem_append.1 (show f ∈ rowC E.opens ++ nodeO x from hf) with h' | h'
        · exact rowC_und _ _ f h'
        · exact nodeO_und x _ f h')
      exact h5.set' (by simpa using hcell)
    · rw [List.getElem?_set_ne (fun h => h2 h.symm), List.getElem?_set_ne (fun h => h3 r g rfl h.symm)]
    · simp only [Option.some.injEq, Prod.mk.injEq] at hr
      obtain ⟨rfl, rfl⟩ := hr
      exact ⟨_, rfl⟩
end Go.Proofs.YtlbjfjaleefiiaaDoor.Ev
end
section
namespace Go.Proofs.YtlbjfjaleefiiaaDoor.Ev
open Go
def popBd (B : Bd) : Bd := match B.opens.reverse with
  | [] => B
  | x :: l => layBd { B with opens := l.reverse } x
theorem popBd_snoc {B : Bd} {l : List Node} {x : Node} (h : B.opens = l ++ [x]) : popBd B = layBd { B with opens := l } x := by unfold popBd; rw [h]; simp
def kinds (l : List Node) : List Int := l.map Node.kind
theorem layBd_kinds (B : Bd) (x : Node) : kinds (layBd B x).opens = kinds B.opens := by
  rcases List.eq_nil_or_concat B.opens with h | ⟨l, y, h⟩
  · rw [layBd_nil h]
  · rw [List.concat_eq_append] at h
    rw [layBd_snoc h]; simp [h, kinds]
theorem popBd_kinds {B : Bd} {l : List Node} {x : Node} (h : B.opens = l ++ [x]) : kinds (popBd B).opens = kinds l := by rw [popBd_snoc h, layBd_kinds]
theorem popBd_len {B : Bd} {l : List Node} {x : Node} (h : B.opens = l ++ [x]) : (popBd B).opens.length = l.length := by
  have := congrArg List.length (popBd_kinds h)
  simpa [kinds] using this
theorem popBd_long (B : Bd) : (popBd B).long = B.long := by
  rcases List.eq_nil_or_concat B.opens with h | ⟨l, y, h⟩
  · unfold popBd; rw [h]; rfl
  · rw [List.concat_eq_append] at h
    rw [popBd_snoc h, layBd_long]
    simp only [Bd.long, h, sumBy_append, sumBy]; omega
end Go.Proofs.YtlbjfjaleefiiaaDoor.Ev
end
section
namespace Go.Proofs.YtlbjfjaleefiiaaDoor.Ev
open Go
def emptyN : Nat → Bd → Bd
  | 0, B => B
  | n + 1, B => emptyN n (popBd B)
inductive Emptying (b : Nat) (ro : Option (Nat × Nat)) (t : FV) : Heap → Bd → Heap → Prop
  | none {H : Heap} {B : Bd} : BIn H b ro t B → B.opens = [] → Emptying b ro t H B H
  | step {H H1 H2 : Heap} {B : Bd} {l : List Node} {x : Node} : BIn H b ro t B → B.opens = l ++ [x] → Con C0 35 [.ptr b 0] H (.tup []) H1 → Emptying b ro t H1 (popBd B) H2 → Emptying b ro t H B H2
theorem emptying {b : Nat} {ro : Option (Nat × Nat)} {t : FV} : ∀ (n : Nat) {H : Heap} {B : Bd}, B.opens.length = n → BIn H b ro t B → B.long ≤ 400000000 →
    ∃ H', Emptying b ro t H B H' ∧ BIn H' b ro t (emptyN n B) ∧ Frm H H' b ro := by
  intro n
  induction n with
  | zero => intro H B hn h hl; exact ⟨H, .none h (List.length_eq_zero_iff.1 hn), h, .refl _ _ _⟩
  | succ n ih =>
    intro H B hn h hl
    rcases List.eq_nil_or_concat B.opens with ho | ⟨l, x, ho⟩
    · rw [ho] at hn; simp at hn
    rw [List.concat_eq_append] at ho
    obtain ⟨H1, c1, c2, c3⟩ := conPop h ho hl
    rw [← popBd_snoc ho] at c2
    obtain ⟨H2, d1, d2, d3⟩ := ih (H := H1) (B := popBd B) (by rw [popBd_len ho]; rw [ho] at hn; simpa using hn) c2 (by rw [popBd_long]; exact hl)
    exact ⟨H2, .step h ho c1 d1, d2, c3.trans d3⟩
def docBd (B : Bd) : Bd := emptyN (endBd B).opens.length (endBd B)
theorem emptyN_long (n : Nat) : ∀ B : Bd, (emptyN n B).long = B.long := by
  induction n with
  | zero => intro B; rfl
  | succ n ih => intro B; rw [emptyN, ih, popBd_long]
def docD (B : Bd) : Doc := tidyD ⟨(docBd B).name, (docBd B).part, (docBd B).date, (docBd B).source, (docBd B).kids⟩
def docZ : List FV := [.sc (.str ByteArray.empty), .sc (.str ByteArray.empty), .sc (.str ByteArray.empty), .sc (.str ByteArray.empty), .own []]
structure CIn (H H' : Heap) (ro : Option (Nat × Nat)) (t : FV) (B : Bd) : Prop where
  bin : BIn H' (H.length + 1) ro t B
  fr : FrG (H ++ [docZ]) H' (H.length + 1) none ro
theorem CIn.lt {H H' : Heap} {ro : Option (Nat × Nat)} {t : FV} {B : Bd} (h : CIn H H' ro t B) : H.length + 1 < H'.length := (List.getElem?_eq_some_iff.1 h.bin.box).1
theorem CIn.old {H H' : Heap} {ro : Option (Nat × Nat)} {t : FV} {B : Bd} (h : CIn H H' ro t B) {i : Nat} (hi : i < H.length) : H'[i]? = H[i]? := by
  rw [h.fr.same i (by simp; omega) (by omega) (fun r g hr => by simp at hr), heap_old hi]
theorem CIn.doc {H H' : Heap} {ro : Option (Nat × Nat)} {t : FV} {B : Bd} (h : CIn H H' ro t B) : H'[H.length]? = some docZ := by
  rw [h.fr.same _ (by simp) (by omega) (fun r g hr => by simp at hr), heap_at0]; rfl
theorem CIn.first {H : Heap} {t : FV} {B : Bd} (hok : HOk H) (ht : t = .sc (gl B.text)) (ho : B.opens = []) : CIn H (H ++ [docZ, bCells B (.own []) t]) none t B where
  bin := ⟨by
      simp [oF], ho, .inl ht, by
      have h1 := hok.more (fs := docZ) (fun f hf => by
        simp only [body, docZ, List.mem_cons, List.not_mem_nil, or_false] at hf
        rcases hf with rfl | rfl | rfl | rfl | rfl <;> rfl)
      have h2 := h1.more (fs := bCells B (.own []) t) (HOk.build ⟨rfl, by rw [ht]; rfl⟩)
      simpa using h2⟩
  fr := ⟨by simp, fun i hi _ _ => by
      have := heap_old (H := H ++ [docZ]) (L := [bCells B (.own []) t]) hi
      simpa using this, fun r g hr => by simp at hr, fun _ r g hr => by simp at hr⟩
theorem nodeD_und (x : Node) (n : Nat) : ∀ f ∈ body (nodeD x), f.und0 n = true := fun f hf => by
  simp only [body, nodeD, List.mem_cons, List.not_mem_nil, or_false] at hf
  rcases hf with rfl | rfl | rfl | rfl | rfl | rfl | rfl | rfl | rfl | rfl <;> rfl
theorem FrG.more {A H : Heap} {b : Nat} {r1 r2 : Option (Nat × Nat)} (h : FrG A H b r1 r2) (L : Heap) : FrG A (H ++ L) b r1 r2 :=
  ⟨by have := h.le; simp; omega, fun i hi h1 h2 => by rw [heap_old (Nat.lt_of_lt_of_le hi h.le)]; exact h.same i hi h1 h2, h.row⟩
theorem FrG.put {A H : Heap} {b : Nat} {r1 r2 : Option (Nat × Nat)} (h : FrG A H b r1 r2) (w : List FV) : FrG A (H.set b w) b r1 r2 :=
  ⟨by rw [List.length_set]; exact h.le, fun i hi h1 h2 => by rw [List.getElem?_set_ne (fun hh => h1 hh.symm)]; exact h.same i hi h1 h2, h.row⟩
theorem CIn.kid {H H' : Heap} {t : FV} {B : Bd} (h : CIn H H' none t B) (y : Node) :
    CIn H (H'.set (H.length + 1) (bCells { B with kids := B.kids ++ [y] } (.own []) t) ++ [nodeD y]) none t { B with kids := B.kids ++ [y] } where
  bin := by
    have hb : BIn (H'.set (H.length + 1) (bCells { B with kids := B.kids ++ [y] } (.own []) t)) (H.length + 1) none t { B with kids := B.kids ++ [y] } :=
      ⟨by rw [List.getElem?_set_self h.lt]; rfl, h.bin.row, h.bin.txt, h.bin.ok.set' (HOk.build ⟨rfl, (h.bin.ok.cells h.bin.box).2⟩)⟩
    exact hb.more (nodeD_und y _)
  fr := (h.fr.put _).more _
theorem CIn.row0 {H H' : Heap} {t : FV} {B : Bd} (h : CIn H H' none t B) (y : Node) :
    CIn H (H'.set (H.length + 1) (bCells { B with opens := [y] } (.gr (H'.length + 1) 0 10 1) t) ++ [nodeD y, [.row 0 (nodeO y)]]) (some (H'.length + 1, 0)) t { B with opens := [y] } where
  bin := by
    have hlt := h.lt
    have hl : (H'.set (H.length + 1) (bCells { B with opens := [y] } (.gr (H'.length + 1) 0 10 1) t)).length = H'.length := by simp
    refine ⟨?_, ⟨by omega, [], by simp, ?_⟩, h.bin.txt, ?_⟩
    · rw [heap_old (by rw [hl]; exact hlt), List.getElem?_set_self hlt]; rfl
    · rw [List.getElem?_append_right (by omega), hl, rowC_one, List.append_nil, Nat.add_sub_cancel_left]; rfl
    · intro gs hg f hf
      have hu := fun (m : Nat) (hm : H'.length + 1 < m) => HOk.build (n := m) (B := { B with opens := [y] }) (o := .gr (H'.length + 1) 0 10 1) (t := t) ⟨by simpa [FV.und0] using hm, und0_mono (by omega) (h.bin.ok.cells h.bin.box).2⟩
      rw [List.length_append, hl]
      simp only [List.length_cons, List.length_nil]
      rcases List.mem_append.1 hg with h' | h'
      · rcases List.mem_or_eq_of_mem_set h' with h' | rfl
        · exact und0_mono (by omega) (h.bin.ok gs h' f hf)
        · exact hu _ (by omega) f hf
      · simp only [List.mem_cons, List.not_mem_nil, or_false] at h'
        rcases h' with rfl | rfl
        · exact nodeD_und y _ f hf
        · exact nodeO_und y _ f hf
  fr := by
    have h1 := (h.fr.put (bCells { B with opens := [y] } (.gr (H'.length + 1) 0 10 1) t)).more [nodeD y, [.row 0 (nodeO y)]]
    have hlt := h.lt
    exact ⟨h1.le, h1.same, fun r g hr => by simp at hr, fun _ r g hr => by
      simp only [Option.some.injEq, Prod.mk.injEq] at hr
      rw [List.length_append]; simp; omega⟩
theorem CIn.rowS {H H' : Heap} {t : FV} {B : Bd} {r g : Nat} (h : CIn H H' (some (r, g)) t B) (y : Node) :
    CIn H ((H'.set r [.row (g + 1) (rowC B.opens ++ nodeO y)]).set (H.length + 1) (bCells { B with opens := B.opens ++ [y] } (.gr r (g + 1) 10 (B.opens.length + 1)) t) ++ [nodeD y]) (some (r, g + 1)) t { B with opens := B.opens ++ [y] } where
  bin := by
    have hlt := h.lt
    obtain ⟨k1, rest, hnp, k2⟩ := h.bin.row
    have hrl : r < H'.length := (List.getElem?_eq_some_iff.1 k2).1
    have hb : BIn ((H'.set r [.row (g + 1) (rowC B.opens ++ nodeO y)]).set (H.length + 1) (bCells { B with opens := B.opens ++ [y] } (.gr r (g + 1) 10 (B.opens.length + 1)) t)) (H.length + 1) (some (r, g + 1)) t { B with opens := B.opens ++ [y] } := by
      refine ⟨?_, ⟨k1, [], by simp, ?_⟩, h.bin.txt, ?_⟩
      · rw [List.getElem?_set_self (by simpa using hlt)]; simp [oF]
      · rw [List.getElem?_set_ne (fun h => k1 h.symm), List.getElem?_set_self hrl, rowC_app, rowC_one, List.append_nil]
      · have hcell : ∀ f ∈ body (bCells { B with opens := B.opens ++ [y] } (.gr r (g + 1) 10 (B.opens.length + 1)) t), f.und0 H'.length = true := HOk.build ⟨by simpa [FV.und0] using hrl, (h.bin.ok.cells h.bin.box).2⟩
        have h5 := h.bin.ok.set' (b := r) (fs := [.row (g + 1) (rowC B.opens ++ nodeO y)]) (fun f hf => by
          rcases List.mem_append.1 (show f ∈ rowC B.opens ++ nodeO y from hf) with h' | h'
          · exact rowC_und _ _ f h'
          · exact nodeO_und y _ f h')
        exact h5.set' (by simpa using hcell)
    exact hb.more (nodeD_und y _)
  fr := by
    have hr := h.fr.row.2 rfl r g rfl
    have h0 : FrG (H ++ [docZ]) (H'.set r [.row (g + 1) (rowC B.opens ++ nodeO y)]) (H.length + 1) none (some (r, g)) :=
      ⟨by rw [List.length_set]; exact h.fr.le, fun i hi h1 h2 => by rw [List.getElem?_set_ne (by omega)]; exact h.fr.same i hi h1 h2, h.fr.row⟩
    have h1 := (h0.put (bCells { B with opens := B.opens ++ [y] } (.gr r (g + 1) 10 (B.opens.length + 1)) t)).more [nodeD y]
    exact ⟨h1.le, h1.same, fun r g hr => by simp at hr, fun _ r' g' hr' => by
      simp only [Option.some.injEq, Prod.mk.injEq] at hr'
      omega⟩
def oL (ro : Option (Nat × Nat)) (n : Nat) : FV := match ro with
  | none => .sc (.sl [])
  | some (r, g) => .gr r g 10 n
theorem CIn.cut {H H' : Heap} {ro : Option (Nat × Nat)} {t : FV} {B : Bd} (h : CIn H H' ro t B) (w : List FV) : (H'.set H.length w).take H.length = H := by
  have hlt := h.lt
  apply List.ext_getElem?
  intro i
  by_cases hi : i < H.length
  · rw [List.getElem?_take_of_lt hi, List.getElem?_set_ne (by omega), h.old hi]
  · rw [List.getElem?_eq_none (by rw [List.length_take]; omega), List.getElem?_eq_none (by omega)]
set_option linter.unusedSimpArgs false in
set_option maxRecDepth 20000 in
set_option maxHeartbeats 16000000 in
theorem conDoc {H : Heap} {b : Nat} {ro : Option (Nat × Nat)} {t : FV} {B : Bd} (h : BIn H b ro t B) (hl : B.long ≤ 300000000) :
    Con C0 12 [.ptr b 0] H (docD B).pv.toFV H := by
  have hbl : b < H.length := (List.getElem?_eq_some_iff.1 h.box).1
  generalize hR : (docD B).pv.toFV = R
  refine con_trimU (C := C0) (fn := Tryd.f12) Tryd.func12 rfl (by decide) mixed (mv := mv12) (vars := vars12) (c := Tryd.f12.body.getD .skip) (by kernel_rfl) (by subst hR; rfl) h.ok ?_
  have hb := h.box
  have hr := h.row
  simp only [bCells] at hb
  generalize hoF : oF ro B.opens.length = o at hb
  have c0 : ∀ p : FV, p = .sc (gl B.text) → CIn H (H ++ [docZ, bCells { B with kids := [], opens := [] } (.own []) p]) none (.sc (gl B.text)) { B with kids := [], opens := [] } := fun p hp => by subst hp; exact .first h.ok rfl rfl
  have hkl := len_le_long B.kids
  have hol := len_le_long B.opens
  unfold Bd.long at hl
  rcases h.txt with rfl | ⟨htn, rfl⟩
  all_goals
    simp [Tryd.f12, hb, heap_old hbl, gl]
    refine loopC (fun d e H' => ∃ (i : Nat) (x5 x40 : FV), CIn H H' none (.sc (gl B.text)) { B with kids := B.kids.take i, opens := [] } ∧ d = B.kids.length - i ∧ i ≤ B.kids.length ∧ e = [(0, .ptr b 0), (2, .ptr H.length 0), (3, .ptr (H.length + 1) 0), (5, x5), (7, .undef), (9, .sc (.bool false)), (37, .sc (.sl (B.kids.map Node.pv))), (38, .sc (.int .i64 B.kids.length)), (39, .sc (.int .i64 i)), (40, x40), (61, .undef), (62, .undef), (63, .undef), (64, .undef), (87, .undef)]) (d := B.kids.length) ⟨0, .undef, .undef, c0 _ (by first | rfl | (rw [htn]; rfl)), rfl, Nat.zero_le _, rfl⟩ ?_
    rintro d e H' ⟨i, x5, x40, hC, rfl, hi, rfl⟩
    simp
    refine CondC.mk (fun hlt => ?_) (fun hlt => ?_)
    · simp at hlt
      have hq : (B.kids.map Node.pv)[i]? = some (B.kids[i]).pv := by simp [hlt]
      have ht := takeMap hq
      have hK := hC.kid B.kids[i]
      have hkk : B.kids.take i ++ [B.kids[i]] = B.kids.take (i + 1) := by rw [List.take_add_one, List.getElem?_eq_getElem hlt]; rfl
      rw [hkk] at hK
      have hyl := sumBy_mem' Node.long (List.getElem_mem hlt)
      have sr := sizedTake (sizedN B.kids) i
      have hw : IntKind.i64.wrap ((i : Int) + 1) = ((i + 1 : Nat) : Int) := by rw [wrap64 (by omega) (by omega)]; omega
      generalize B.kids[i] = y at hq hyl hK ht
      have cc := conCopied (SizeOf.sizeOf y + 1) y (Nat.lt_succ_self _) (by omega)
      rw [Node.toFV_eq] at cc
      rw [Node.pv_eq] at hq ht
      simp only [gl] at cc hq ht
      have hbx := hC.bin.box
      have hcl := hC.lt
      simp only [bCells, oF] at hbx
      simp only [bCells, nodeD] at hK
      have s1 : ∀ (v w : List FV) (L : Heap), (H'.set (H.length + 1) v ++ L).set (H.length + 1) w = H'.set (H.length + 1) w ++ L := fun v w L => hs_set hcl
      have hlen : min i B.kids.length = i := Nat.min_eq_left hi
      have n1 : (i : Int) < (i : Int) + 1 := by omega
      simp [hq]
      refine DrawC.mk (fun _ _ => .oagg (nodeO y)) ?_
      simp [hbx, heap_old hcl, heap_old_set hcl, hs_at, hs_at0, hs_b hcl, s1]
      refine ⟨?_, ?_, ?_⟩
      all_goals
        refine CallQ.mk (CallD.pure callable34 (by simp) (by simp [nodeO]) cc rfl) ?_
        simp [hbx, heap_old hcl, heap_old_set hcl, hs_at, hs_at0, hs_b hcl, s1, hsetB hcl, nodeO, sized1, lenMax, sr, hw, ht, hlen, n1]
        rw [List.map_take] at hK
        exact ⟨by omega, B.kids.length - (i + 1), by omega, i + 1, hK, rfl, by omega, by omega⟩
    · simp at hlt
      obtain rfl : i = B.kids.length := by omega
      rw [List.take_length] at hC
      have hbo := (hC.old hbl).trans hb
      obtain ⟨o61, ho61⟩ : ∃ o61, o61 = oL ro B.opens.length := ⟨_, rfl⟩
      rcases ro with _ | ⟨r, g⟩
      all_goals
        subst hoF
        simp only [oF] at hbo
        first
          | (have hr' : B.opens = [] := hr
             simp [hbo, hr'])
          | simp [hbo]
        refine loopC (fun d e H'' => ∃ (j : Nat) (ro' : Option (Nat × Nat)) (x7 x64 : FV), CIn H H'' ro' (.sc (gl B.text)) { B with opens := B.opens.take j } ∧ d = B.opens.length - j ∧ j ≤ B.opens.length ∧ e = [(0, .ptr b 0), (2, .ptr H.length 0), (3, .ptr (H.length + 1) 0), (5, x5), (7, x7), (9, .sc (.bool false)), (37, .sc (.sl (B.kids.map Node.pv))), (38, .sc (.int .i64 B.kids.length)), (39, .sc (.int .i64 B.kids.length)), (40, .sc (.bool false)), (61, o61), (62, .sc (.int .i64 B.opens.length)), (63, .sc (.int .i64 j)), (64, x64), (87, .undef)]) (d := B.opens.length) ⟨0, none, .undef, .undef, hC, rfl, Nat.zero_le _, by first | simp [ho61, oL, hr'] | simp [ho61, oL]⟩ ?_
        rintro d e H2 ⟨j, ro', x7, x64, hD, rfl, hj, rfl⟩
        simp
        refine CondC.mk (fun hlt2 => ?_) (fun hlt2 => ?_)
        · simp at hlt2
          first
            | (rw [hr'] at hlt2; exact absurd hlt2 (by simp))
            | (obtain ⟨h1, rest, hnp, k2⟩ := hr
               have hrl : r < H.length := (List.getElem?_eq_some_iff.1 k2).1
               have k3 := (hD.old hrl).trans k2
               obtain ⟨ra, rb⟩ := row_at (l := B.opens) (rest := rest) hlt2
               have hyl := sumBy_mem' Node.long (List.getElem_mem hlt2)
               have hw : IntKind.i64.wrap ((j : Int) + 1) = ((j + 1 : Nat) : Int) := by rw [wrap64 (by omega) (by omega)]; omega
               have hkk : B.opens.take j ++ [B.opens[j]] = B.opens.take (j + 1) := by rw [List.take_add_one, List.getElem?_eq_getElem hlt2]; rfl
               have hlt3 : (j : Int) < (B.opens.length : Int) := by omega
               generalize B.opens[j] = y at ra hyl hkk
               have cc := conCopied (SizeOf.sizeOf y + 1) y (Nat.lt_succ_self _) (by omega)
               rw [Node.toFV_eq] at cc
               simp only [gl] at cc
               generalize rowC B.opens ++ rest = cs at k3 ra rb
               simp only [nodeD] at ra
               have hcl := hD.lt
               have hcl2 : H2.length ≠ H.length + 1 := by omega
               simp only [oL] at ho61
               have hbx := hD.bin.box
               rcases ro' with _ | ⟨r', g'⟩
               · have hj0 : B.opens.take j = [] := hD.bin.row
                 obtain rfl : j = 0 := by
                   rcases List.take_eq_nil_iff.1 hj0 with h | h
                   · exact h
                   · rw [h] at hlt2; exact absurd hlt2 (by simp)
                 simp only [Nat.zero_mul, List.drop_zero, Nat.zero_add] at ra rb
                 have hK := hD.row0 y
                 rw [hj0, List.nil_append] at hkk
                 rw [hkk] at hK
                 simp only [bCells, oF] at hbx
                 simp only [bCells, nodeD] at hK
                 have s1 : ∀ (v w : List FV) (L : Heap), (H2.set (H.length + 1) v ++ L).set (H.length + 1) w = H2.set (H.length + 1) w ++ L := fun v w L => hs_set hcl
                 simp [hlt2, k3, ra, rb, ho61]
                 refine DrawC.mk (fun _ _ => .oagg (nodeO y)) ?_
                 simp [hbx, heap_old hcl, heap_old_set hcl, hs_at, hs_at0, hs_b hcl, s1]
                 refine ⟨?_, ?_, ?_⟩
                 all_goals
                   refine CallQ.mk (CallD.pure callable34 (by simp) (by simp [nodeO]) cc rfl) ?_
                   simp [hbx, heap_old hcl, heap_old_set hcl, hs_at, hs_at0, hs_b hcl, s1, hsetB hcl, nodeO, sized1, lenMax]
                   exact ⟨B.opens.length - 1, by omega, 1, ⟨_, hK⟩, rfl, by omega, by decide⟩
               · have hK := hD.rowS y
                 obtain ⟨k1, rest', hnp', kr⟩ := hD.bin.row
                 have hrl' : r' < H2.length := (List.getElem?_eq_some_iff.1 kr).1
                 have k1s : H.length + 1 ≠ r' := fun h => k1 h.symm
                 have hjl : (B.opens.take j).length = j := by rw [List.length_take]; omega
                 simp only [hkk, hjl] at hK hbx kr
                 simp only [bCells, oF] at hbx
                 simp only [bCells, nodeD] at hK
                 have hcl3 : (rowC (B.opens.take j)).length = j * 10 := by rw [rowC_len, hjl]
                 generalize rowC (B.opens.take j) = rc at kr hK hcl3
                 have hk0 : j * 10 ≤ (rc ++ rest').length := by rw [List.length_append]; omega
                 have kr2 : H2[r'] = [.row g' (rc ++ rest')] := (List.getElem?_eq_some_iff.1 kr).2
                 have tk : List.take (j * 10) (rc ++ rest') = rc := List.take_left' hcl3
                 have hsp : ∀ z v : List FV, z.length = v.length → splice (rc ++ z) (j * 10) v = rc ++ v := fun z v hz => splice_end hz hcl3
                 have n1 : (j : Int) < (j : Int) + 1 := by omega
                 have hs9 : ∀ a0 a1 a2 a3 a4 a5 a6 a7 a8 v : FV, splice [a0, a1, a2, a3, a4, a5, a6, a7, a8] 5 [v] = [a0, a1, a2, a3, a4, v, a6, a7, a8] := fun _ _ _ _ _ _ _ _ _ _ => rfl
                 have hsb : ∀ v : List FV, (H2.set r' v)[H.length + 1]? = H2[H.length + 1]? := fun v => List.getElem?_set_ne k1
                 have hsr : ∀ v : List FV, (H2.set (H.length + 1) v)[r']? = H2[r']? := fun v => List.getElem?_set_ne (fun h => k1 h.symm)
                 have hcm : ∀ v w : List FV, (H2.set (H.length + 1) v).set r' w = (H2.set r' w).set (H.length + 1) v := fun v w => List.set_comm v w (fun h => k1 h.symm)
                 have hbb : ∀ v : List FV, (H2.set (H.length + 1) v)[H.length + 1]? = some v := fun v => hsetB hcl
                 have hrr : ∀ v : List FV, (H2.set r' v)[r']? = some v := fun v => hsetB hrl'
                 have hbr : ∀ v w : List FV, ((H2.set r' v).set (H.length + 1) w)[r']? = some v := fun v w => by rw [List.getElem?_set_ne (fun h => k1 h.symm)]; exact hrr v
                 have hbw : ∀ v w : List FV, ((H2.set r' v).set (H.length + 1) w)[H.length + 1]? = some w := fun v w => hsetB (by simpa using hcl)
                 have hcw : ∀ v w u : List FV, ((H2.set r' v).set (H.length + 1) w).set r' u = (H2.set r' u).set (H.length + 1) w := fun v w u => by rw [hcm2 k1, List.set_set]
                 simp [hlt2, k3, ra, rb, ho61]
                 refine DrawC.mk (fun _ _ => .oagg (nodeO y)) ?_
                 simp [hbx, heap_old hcl, heap_old_set hcl, hs_at, hs_at0, hs_b hcl, -splice]
                 refine ⟨?_, ?_, ?_⟩
                 all_goals
                   refine CallQ.mk (CallD.pure callable34 (by simp) (by simp [nodeO]) cc rfl) ?_
                   simp [hbx, kr, List.set_append_left, List.getElem?_append_left, hcl, hrl', kr2, List.getElem_set_ne k1, List.getElem_set_ne k1s, hbb, hsr, hcm, hbr, hbw, hcw, hs9, hsp, tk, hk0, hcl3, n1, nodeO, sized1, lenMax, hw, -splice]
                   exact ⟨by omega, B.opens.length - (j + 1), by omega, j + 1, ⟨_, hK⟩, rfl, by omega, by omega⟩)
        · simp at hlt2
          obtain rfl : j = B.opens.length := by omega
          rw [List.take_length] at hD
          obtain ⟨H3, t3, e1, e2, e3⟩ := conEnd hD.bin (by show Bd.long B ≤ _; unfold Bd.long; omega)
          obtain ⟨H4, f1, f2, f3⟩ := emptying (endBd B).opens.length rfl e2 (by have := endBd_long B; unfold Bd.long at this ⊢; omega)
          have hE : CIn H H4 ro' t3 (docBd B) := ⟨f2, (hD.fr.trans e3.toG).trans f3.toG⟩
          have hlg : (docBd B).long ≤ 400000000 := by
            show Bd.long (emptyN _ _) ≤ _
            rw [emptyN_long]; have := endBd_long B; unfold Bd.long at this ⊢; omega
          have hsk : sumBy Node.long (docBd B).kids ≤ 1073741824 := by unfold Bd.long at hlg; omega
          have hkl := len_le_long (docBd B).kids
          have ct := treeTidy' fitS ⟨(docBd B).name, (docBd B).part, (docBd B).date, (docBd B).source, (docBd B).kids⟩ (small_of hsk) (by show (docBd B).kids.length ≤ _; omega)
          have hEb := hE.bin.box
          have hEd := hE.doc
          have hEl := hE.lt
          have hcut := fun w => hE.cut w
          have hlen0 : (endBd B).opens.length ≤ 400000000 := by
            have h1 := endBd_long B
            have h2 := len_le_long (endBd B).opens
            unfold Bd.long at h1; omega
          have hR' : R = .agg [.sc (.str (docBd B).name), .sc (.str (docBd B).part), .sc (.str (docBd B).date), .sc (.str (docBd B).source), .sc (.sl ((tidyL 0 0 20000 (docBd B).kids).1.map Node.pv))] := by rw [← hR]; simp [docD, tidyD, Doc.pv]
          simp only [docZ] at hEd
          simp only [bCells] at hEb
          generalize docBd B = F at *
          simp
          refine CallQ.mk (Call.shared callable11 e1) ?_
          simp
          refine loopC (fun d e H'' => ∃ (E : Bd) (x87 : FV), Emptying (H.length + 1) ro' t3 H'' E H4 ∧ d = E.opens.length ∧ E.opens.length ≤ 400000000 ∧ e = [(0, .ptr b 0), (2, .ptr H.length 0), (3, .ptr (H.length + 1) 0), (5, x5), (7, x7), (9, .sc (.bool false)), (37, .sc (.sl (B.kids.map Node.pv))), (38, .sc (.int .i64 B.kids.length)), (39, .sc (.int .i64 B.kids.length)), (40, .sc (.bool false)), (61, o61), (62, .sc (.int .i64 B.opens.length)), (63, .sc (.int .i64 B.opens.length)), (64, .sc (.bool false)), (87, x87)]) (d := (endBd B).opens.length) ⟨endBd B, .undef, f1, rfl, hlen0, by first | rfl | simp⟩ ?_
          rintro d e H5 ⟨E, x87, hF, rfl, hel, rfl⟩
          cases hF with
          | none hb5 ho =>
            have hq : oF ro' F.opens.length = oF ro' 0 := by
              have h1 := hEb.symm.trans hb5.box
              rw [ho] at h1
              have h2 := congrArg (fun o => (o.getD [])[5]?) h1
              simpa [bCells] using h2
            rw [hq] at hEb
            rcases ro' with _ | ⟨r', g'⟩
            all_goals
              simp only [oF] at hEb
              simp [hEb]
              refine CallQ.mk (Call.pure callable36 (by simp) (by simp) ct) ?_
              simp [hEd, hcut, hR', hsetB (Nat.lt_trans (Nat.lt_succ_self _) hEl)]
          | @step _ H6 _ _ l x hb5 ho hp hr2 =>
            have hpl := popBd_len ho
            have hn : E.opens.length = l.length + 1 := by rw [ho]; simp
            have hbx := hb5.box
            have n1 : (0 : Int) < (l.length : Int) + 1 := by omega
            rcases ro' with _ | ⟨r', g'⟩
            · have h9 : E.opens = [] := hb5.row
              rw [h9] at hn; simp at hn
            · simp only [bCells, oF, hn] at hbx
              simp [hbx, n1, hn]
              refine CallQ.mk (Call.shared callable35 hp) ?_
              simp
              exact ⟨l.length, by omega, popBd E, hr2, hpl.symm, by omega⟩
end Go.Proofs.YtlbjfjaleefiiaaDoor.Ev
end
section
namespace Go.Proofs.YtlbjfjaleefiiaaDoor.Ev
open Go
set_option linter.unusedSimpArgs false in
set_option maxRecDepth 20000 in
set_option maxHeartbeats 8000000 in
theorem depthNil (H : Heap) : Con C0 18 [.nilp] H (.sc (.int .i64 0)) H := by
  refine enter18 ?_
  simp [Tryd.f18]
end Go.Proofs.YtlbjfjaleefiiaaDoor.Ev
end
section
namespace Go.Proofs.YtlbjfjaleefiiaaDoor.Ev
open Go
def gx (r : Int) : Glyph := ⟨r, 0⟩
def xKnown : Node := .mk 1 0 0 [gx 120] [] [] noTbl
def wKnown : Node := .mk 1 0 0 [gx 120] [.mk 3 4 0 [gx 97, gx 32, gx 98] [] [] noTbl] [] noTbl
def bKnown : Bd := textBd (textBd { endBd Bd.zero with opens := (endBd Bd.zero).opens ++ [xKnown] } [gx 97] 4) [gx 98] 5
theorem known_doc : (docD bKnown).kids = [wKnown] := by kernel_rfl
theorem known_opens : bKnown.opens.length = 1 := by kernel_rfl
theorem BIn.zero {H : Heap} (h : HOk H) : BIn (H ++ [bCells Bd.zero (.own []) (.own [])]) H.length none (.own []) Bd.zero :=
  ⟨by rw [heap_at0]; rfl, rfl, .inr ⟨rfl, rfl⟩, h.more (HOk.build ⟨rfl, rfl⟩)⟩
set_option linter.unusedSimpArgs false in
set_option maxRecDepth 20000 in
set_option maxHeartbeats 8000000 in
theorem known8 : PCon C0 9 [] (.sc (.bool true)) := by
  have c0 := conNew []
  have h0 := BIn.zero (H := []) (fun _ h => by simp at h)
  simp only [List.nil_append, List.length_nil] at c0 h0
  obtain ⟨H1, t1, r1, c1, h1, _⟩ := conOpen h0 xKnown (by decide +kernel)
  obtain ⟨H2, c2, h2, _⟩ := conText h1 [gx 97] 4 (by decide +kernel)
  obtain ⟨H3, c3, h3, _⟩ := conText h2 [gx 98] 5 (by decide +kernel)
  have cd : Con C0 12 [.ptr 0 0] H3 (docD bKnown).pv.toFV H3 := conDoc h3 (by decide +kernel)
  have cs := refNodesSame _ [wKnown] (Nat.lt_succ_self _) (by simp) (ok_of (by decide +kernel)) [wKnown]
  have hk : (docD bKnown).pv.toFV = .agg [.sc (.str (docD bKnown).name), .sc (.str (docD bKnown).part), .sc (.str (docD bKnown).date), .sc (.str (docD bKnown).source), .sc (.sl [wKnown.pv])] := by
    simp [Doc.pv, known_doc]
  rw [hk] at cd
  generalize docD bKnown = D at cd
  have c1' := c1.les (args := [.ptr 0 0, .agg [.sc (.int .i64 1), .sc (.int .i64 0), .sc (.int .i64 0), .sc (.sl [.agg [.int .i32 120, .int .u8 0]]), .emp, .emp, .sc (.str ByteArray.empty), .emp, .sc (.bool false), .sc (.bool false)]]) (by
    rw [Node.toFV_eq]
    simp only [xKnown, Node.kind_mk, Node.line_mk, Node.n_mk, Node.text_mk, Node.kids_mk, Node.rows_mk, Node.grid_mk, noTbl, List.map_nil, gl, List.map_cons, gx, Glyph.pv]
    repeat' first | exact FLes.nil | exact FLe.refl _ | exact FLe.emp | apply FLes.cons | apply FLe.agg)
  have h4 := h3.more (fs := [.sc (.str D.name), .sc (.str D.part), .sc (.str D.date), .sc (.str D.source), .sc (.sl [wKnown.pv])]) (fun f hf => by
    simp only [body, List.mem_cons, List.not_mem_nil, or_false] at hf
    rcases hf with rfl | rfl | rfl | rfl | rfl <;> rfl)
  have cp := conDepth h4
  have ho : (textBd (textBd { endBd Bd.zero with opens := (endBd Bd.zero).opens ++ [xKnown] } [gx 97] 4) [gx 98] 5).opens.length = 1 := known_opens
  rw [ho] at cp
  have cz := depthNil (H3 ++ [[.sc (.str D.name), .sc (.str D.part), .sc (.str D.date), .sc (.str D.source), .sc (.sl [wKnown.pv])]])
  simp only [gl, List.map_cons, List.map_nil, gx, Glyph.pv] at c2 c3
  simp only [List.map_cons, List.map_nil, Node.pv_eq, wKnown, Node.kind_mk, Node.line_mk, Node.n_mk, Node.text_mk, Node.kids_mk, Node.rows_mk, Node.grid_mk, noTbl, gl, gx, Glyph.pv] at cs cd cp cz
  have z1 : ∀ r : Int, Sized 2 [PV.agg [PV.int .i32 r, PV.int .u8 0]] := fun r p hp => by rw [List.mem_singleton.1 hp]; rfl
  refine penter9 ?_
  simp [Tryd.f9]
  refine CallQ.mk (Call.shared callable8 c0) ?_
  simp
  refine ⟨z1 _, ?_⟩
  refine CallQ.mk (Call.shared callable29 c1') ?_
  simp
  refine ⟨z1 _, ?_⟩
  refine CallQ.mk (Call.shared callable10 c2) ?_
  simp
  refine ⟨z1 _, ?_⟩
  refine CallQ.mk (Call.shared callable10 c3) ?_
  simp
  refine CallQ.mk (Call.shared callable12 cd) ?_
  simp
  refine ⟨z1 _, fun p hp => ?_, fun p hp => ?_, fun p hp => ?_, ?_⟩
  · simp only [List.mem_cons, List.not_mem_nil, or_false] at hp; rcases hp with rfl | rfl | rfl <;> rfl
  · simp only [List.mem_cons, List.not_mem_nil, or_false] at hp; rcases hp with rfl; rfl
  · simp only [List.mem_cons, List.not_mem_nil, or_false] at hp; rcases hp with rfl; rfl
  refine CallQ.mk (Call.pure callable30 (by simp) (by simp) cs) ?_
  simp
  refine CallQ.mk (Call.shared callable18 cp) ?_
  simp
  refine CallQ.mk (Call.shared callable18 cz) ?_
  simp
end Go.Proofs.YtlbjfjaleefiiaaDoor.Ev
end
section
namespace Go.Proofs.YtlbjfjaleefiiaaDoor.Ev
open Go
def zl (B : Bd) : Bd := { B with line := 0 }
end Go.Proofs.YtlbjfjaleefiiaaDoor.Ev
end
section
namespace Go.Proofs.YtlbjfjaleefiiaaDoor.Ev
open Go
def Inky (x : Node) : Prop := x.kind = 3 ∧ x.kids = [] ∧ x.rows = [] ∧ x.grid.rows = [] ∧ ink x.text ≠ []
theorem Inky.whole {x : Node} (h : Inky x) : wholeN (ownN x 3) = true := by
  rw [whole_own3]
  cases hs : squeeze x.text with
  | nil => exact absurd (squeeze_nil hs) h.2.2.2.2
  | cons g l => rfl
theorem tidyN_inky {x : Node} (h : Inky x) {n : Nat} : tidyN 0 0 n x = ([ownN x 3], n - 1) := by
  rw [tidyN_eq]
  have hk := h.1
  have hh : hasKids 3 = false := by decide
  rw [hk]
  simp [hh, h.whole]
theorem tidyL_inky : ∀ (l : List Node) (n : Nat), l.length ≤ n → (∀ x ∈ l, Inky x) → (tidyL 0 0 n l).1 = l.map fun x => ownN x 3
  | [], n, _, _ => by rw [tidyL]; rfl
  | x :: l, n, hn, h => by
    rw [List.length_cons] at hn
    rw [tidyL, if_neg (by omega), if_neg (by decide), tidyN_inky (h x List.mem_cons_self)]
    simp only
    rw [tidyL_inky l (n - 1) (by omega) (fun y hy => h y (List.mem_cons_of_mem _ hy))]
    rfl
end Go.Proofs.YtlbjfjaleefiiaaDoor.Ev
end
section
namespace Go.Proofs.YtlbjfjaleefiiaaDoor.Ev
open Go
theorem ink_join (a b : List Glyph) : ink (joinS a b) = ink a ++ ink b := by
  unfold joinS
  split
  · subst_vars; rfl
  · split
    · subst_vars; simp [ink]
    · rw [ink_append]; rfl
theorem trimG_ink (l : List Glyph) : trimG l = [] ↔ ink l = [] := by
  obtain ⟨b, hb, hbl⟩ := trimG_append l
  constructor
  · intro h
    rw [h, List.nil_append] at hb
    unfold ink
    rw [List.filter_eq_nil_iff]
    intro g hg
    rw [hb] at hg
    simp [hbl g hg]
  · intro h
    unfold ink at h
    rw [List.filter_eq_nil_iff] at h
    unfold trimG
    rw [List.reverse_eq_nil_iff]
    have : ∀ m : List Glyph, (∀ g ∈ m, g.blank = true) → m.dropWhile Glyph.blank = [] := by
      intro m
      induction m with
      | nil => intro _; rfl
      | cons g m ih => intro hm; rw [List.dropWhile_cons, if_pos (hm g (by simp))]; exact ih fun x hx => hm x (by simp [hx])
    exact this _ fun g hg => by have := h g (by simpa using hg); simpa using this
theorem lvs_own3 (x : Node) : (ownN x 3).lvs = ink x.text := by
  rw [Node.lvs_eq]
  show ink (if hasText 3 = true then squeeze x.text else []) ++ (if (3 : Int) = 6 then x.rows else []).flatMap ink ++ ltr (if (3 : Int) = 7 then mendT x.grid else noTbl).rows ++ Node.lvsL [] = _
  rw [if_pos (by decide), if_neg (by decide), if_neg (by decide), ink_squeeze, Node.lvsL]
  simp [ltr, noTbl]
structure TS (B : Bd) (paras : Nat) (want : List Glyph) (isInk : Bool) : Prop where
  opens : B.opens = []
  kids : ∀ x ∈ B.kids, Inky x
  cnt : B.kids.length = paras
  all : (B.kids.flatMap fun x => ink x.text) ++ ink B.text = want
  some : isInk = !(ink B.text).isEmpty
  fine : B.has = false → B.text = []
theorem TS.told {B : Bd} {p : Nat} {w : List Glyph} {k : Bool} (h : TS B p w k) (l : List Glyph) (ln : Int) : TS (textBd B l ln) p (w ++ ink l) (k || !(ink l).isEmpty) := by
  refine ⟨h.opens, h.kids, h.cnt, ?_, ?_, fun hh => by simp [textBd] at hh⟩
  · show _ ++ ink (joinS B.text l) = _
    rw [ink_join, ← h.all, List.append_assoc]; rfl
  · show _ = !(ink (joinS B.text l)).isEmpty
    rw [ink_join, h.some]
    cases ink B.text <;> cases ink l <;> rfl
theorem TS.ended {B : Bd} {p : Nat} {w : List Glyph} {k : Bool} (h : TS B p w k) : TS (endBd B) (if k = true then p + 1 else p) w false ∧ (endBd B).has = false := by
  unfold endBd
  by_cases hh : B.has = false
  · have ht := h.fine hh
    have hk : k = false := by rw [h.some, ht]; rfl
    rw [if_pos hh]
    subst hk
    exact ⟨h, hh⟩
  · rw [if_neg hh]
    refine ⟨?_, rfl⟩
    by_cases ht : trimG B.text = []
    · have hi := (trimG_ink _).1 ht
      have hk : k = false := by rw [h.some, hi]; rfl
      have ha := h.all
      rw [hi] at ha
      subst hk
      simp only [ht, if_true]
      exact ⟨h.opens, h.kids, h.cnt, ha, rfl, fun _ => rfl⟩
    · have hi : ink B.text ≠ [] := fun e => ht ((trimG_ink _).2 e)
      have hk : k = true := by rw [h.some]; cases hx : ink B.text <;> simp_all
      subst hk
      rw [if_neg ht, layBd_nil h.opens]
      refine ⟨h.opens, fun x hx => ?_, ?_, ?_, rfl, fun _ => rfl⟩
      · rcases List.mem_append.1 hx with hx | hx
        · exact h.kids x hx
        · rw [List.mem_singleton.1 hx]
          exact ⟨rfl, rfl, rfl, rfl, hi⟩
      · show (B.kids ++ [paraB B]).length = _
        rw [List.length_append, h.cnt]; rfl
      · show ((B.kids ++ [paraB B]).flatMap fun x => ink x.text) ++ ink [] = w
        rw [List.flatMap_append, ← h.all]
        simp [ink, paraB]
theorem TS.doc {B : Bd} {p : Nat} {w : List Glyph} {k : Bool} (h : TS B p w k) (hh : B.has = false) (hl : B.kids.length ≤ 20000) : (docD B).kids.length = p ∧ Node.lvsL (docD B).kids = w := by
  have he : docBd B = B := by
    unfold docBd
    have : endBd B = B := by unfold endBd; rw [if_pos hh]
    rw [this, h.opens]; rfl
  have hd : (docD B).kids = B.kids.map fun x => ownN x 3 := by
    unfold docD
    rw [he]
    exact tidyL_inky _ _ hl h.kids
  have ht := h.fine hh
  have ha := h.all
  rw [ht] at ha
  rw [hd, List.length_map, h.cnt, Node.lvsL_eq, List.flatMap_map]
  refine ⟨rfl, ?_⟩
  rw [← ha]
  simp [lvs_own3, ink]
def TSF (B : Bd) (paras : Nat) (want : List Glyph) (f : FV) : Prop := ∃ k, f = .sc (.bool k) ∧ TS B paras want k
theorem textBd_long (B : Bd) (l : List Glyph) (ln : Int) : (textBd B l ln).long ≤ B.long + l.length + 1 := by
  have := joinS_len B.text l
  simp only [Bd.long, textBd]; omega
set_option linter.unusedSimpArgs false in
set_option maxRecDepth 20000 in
set_option maxHeartbeats 16000000 in
theorem buildTextsLaw (l : List (List Glyph)) (ends : List Bool) (hb : sumBy (fun r : List Glyph => 1 + r.length) l ≤ 1073741824) (he : ends.length ≤ 1073741824) : PCon C0 3 [.sc (.sl (l.map gl)), .sc (.sl (ends.map .bool))] (.sc (.bool true)) := by
  have kn := known8
  have c0 := conNew []
  have h0 := BIn.zero (H := []) (fun _ h => by simp at h)
  have hll : l.length ≤ sumBy (fun r : List Glyph => 1 + r.length) l := sumLen' _ (fun r => by omega) l
  simp only [List.nil_append, List.length_nil] at c0 h0
  refine penter3 ?_
  simp [Tryd.f3]
  refine CallQ.mk (Call.shared callable8 c0) ?_
  simp
  refine loopC (fun d e H' => ∃ (i : Nat) (t : FV) (B : Bd) (paras : Nat) (want : List Glyph) (x8 x11 x12 x17 x29 x44 x55 x82 x85 : FV), BIn H' 0 none t B ∧ H'.length = 1 ∧ TSF B paras want x8 ∧ (i = l.length → B.has = false) ∧ B.long ≤ 4 * sumBy (fun r : List Glyph => 1 + r.length) (l.take i) ∧ want.length ≤ sumBy (fun r : List Glyph => 1 + r.length) (l.take i) ∧ sumBy (fun r : List Glyph => 1 + r.length) (l.take i) ≤ 400 ∧ d = l.length - i ∧ i ≤ l.length ∧
    e = [(0, .sc (.sl (l.map gl))), (1, .sc (.sl (ends.map .bool))), (4, .sc (.bool false)), (5, .ptr 0 0), (6, .sc (.int .i64 (sumBy (fun r : List Glyph => 1 + r.length) (l.take i) : Nat))), (7, .sc (.int .i64 paras)), (8, x8), (9, .own (want.map Glyph.pv)), (10, .sc (.int .i64 i)), (11, x11), (12, x12), (17, x17), (29, x29), (44, x44), (55, x55), (82, x82), (85, x85)]) (d := l.length) ⟨0, .own [], Bd.zero, 0, [], .sc (.bool false), .undef, .undef, .undef, .undef, .undef, .undef, .undef, .undef, h0, rfl, ⟨false, rfl, rfl, by simp [Bd.zero], rfl, rfl, rfl, fun _ => rfl⟩, fun _ => rfl, by have h9 : Bd.zero.long = 0 := (by decide +kernel); omega, Nat.zero_le _, by simp [sumBy], rfl, Nat.zero_le _, rfl⟩ ?_
  rintro d e H' ⟨i, t, B, paras, want, x8, x11, x12, x17, x29, x44, x55, x82, x85, hB, hH1, ⟨isInk, rfl, hT⟩, hlast, hBl, hwl, hn4, rfl, hi, rfl⟩
  simp
  refine CondC.mk (fun hlt => ?_) (fun hlt => ?_)
  · simp at hlt
    have hlt' : (i : Int) < (l.length : Int) := by omega
    have hst := sumBy_take (fun r : List Glyph => 1 + r.length) hlt
    have hsm := sumBy_mem (fun r : List Glyph => 1 + r.length) hlt
    have hq : (l.map gl)[i]? = some (gl l[i]) := by simp [hlt]
    have hilast : i = l.length - 1 ↔ i + 1 = l.length := by omega
    generalize hN : sumBy (fun r : List Glyph => 1 + r.length) (l.take i) = N at *
    have wn1 : IntKind.i64.wrap ((N : Int) + 1) = (N : Int) + 1 := wrap64 (by omega) (by omega)
    have hw : IntKind.i64.wrap ((i : Int) + 1) = ((i + 1 : Nat) : Int) := by rw [wrap64 (by omega) (by omega)]; omega
    have hwp : IntKind.i64.wrap ((paras : Int) + 1) = ((paras + 1 : Nat) : Int) := by
      have h1 := len_le_long B.kids
      have h2 := hT.cnt
      have h3 : sumBy Node.long B.kids ≤ B.long := by unfold Bd.long; omega
      rw [wrap64 (by omega) (by omega)]; omega
    have wsub : IntKind.i64.wrap ((l.length : Int) - 1) = (l.length : Int) - 1 := wrap64 (by omega) (by omega)
    obtain ⟨r, hr⟩ : ∃ r, l[i] = r := ⟨_, rfl⟩
    rw [hr] at hq hst hsm
    have wn2 : IntKind.i64.wrap ((N : Int) + 1 + r.length) = ((N + (1 + r.length) : Nat) : Int) := by rw [wrap64 (by omega) (by omega)]; omega
    simp [hlt, hlt', hr, gl, wn1, wn2]
    by_cases h4 : 400 < N + (1 + r.length)
    · have h4' : (400 : Int) < (N : Int) + (1 + r.length) := by omega
      simp [h4']
      refine CallQ.mk (Call.pure callable9 (by simp) (by simp) kn) ?_
      simp
    have h4' : ¬ (400 : Int) < (N : Int) + (1 + r.length) := by omega
    obtain ⟨H1, c1, hB1, fr1⟩ := conText hB r i (by unfold Bd.long at hBl; omega)
    have hT1 := hT.told r i
    have hl1 := textBd_long B r i
    have hrow : ∀ (k : Nat) (p q : FV), True := fun _ _ _ => trivial
    simp only [gl] at c1
    simp [h4', hlt, hlt', hr, gl]
    refine CallQ.mk (Call.shared callable10 c1) ?_
    simp
    have hH2 : H1.length = 1 := by rw [fr1.len, hH1]
    refine loopC (fun d e H' => ∃ (k : Nat) (x44 x55 : FV), H' = H1 ∧ d = r.length - k ∧ k ≤ r.length ∧
      e = [(0, .sc (.sl (l.map gl))), (1, .sc (.sl (ends.map .bool))), (4, .sc (.bool false)), (5, .ptr 0 0), (6, .sc (.int .i64 (N + (1 + r.length) : Nat))), (7, .sc (.int .i64 paras)), (8, .sc (.bool (isInk || !(ink (r.take k)).isEmpty))), (9, .own ((want ++ ink (r.take k)).map Glyph.pv)), (10, .sc (.int .i64 i)), (11, .sc (.int .i64 k)), (12, x12), (17, .sc (.bool true)), (29, .sc (.bool false)), (44, x44), (55, x55), (82, x82), (85, x85)]) (d := r.length)
      ⟨0, x44, x55, rfl, rfl, Nat.zero_le _, by simp [ink]⟩ ?_
    rintro d e H' ⟨k, x44, x55, rfl, rfl, hk, rfl⟩
    simp [hlt, hlt', hr, gl]
    refine CondC.mk (fun hlk => ?_) (fun hlk => ?_)
    · simp at hlk
      have hlk' : (k : Int) < (r.length : Int) := by omega
      have ht : ink (r.take (k + 1)) = ink (r.take k) ++ (if r[k].blank = true then [] else [r[k]]) := by
        rw [List.take_succ_eq_append_getElem hlk, ink_append]
        congr 1
        by_cases hb : r[k].blank = true
        · simp [ink, hb]
        · simp [ink, hb]
      have hil : (ink (r.take k)).length ≤ k := by
        have := List.length_filter_le (fun g : Glyph => !g.blank) (r.take k)
        rw [List.length_take] at this
        unfold ink; omega
      have hwk : IntKind.i64.wrap ((k : Int) + 1) = ((k + 1 : Nat) : Int) := by rw [wrap64 (by omega) (by omega)]; omega
      have so := sizedG (want ++ ink (r.take k))
      have s1 := sizedG [r[k]]
      simp only [List.map_cons, List.map_nil] at s1
      have hgp : (r[k]).pv = .agg [.int .i32 r[k].r, .int .u8 r[k].s] := rfl
      have hgq : (r.map Glyph.pv)[k]? = some (.agg [.int .i32 r[k].r, .int .u8 r[k].s]) := by simp [hlk, hgp]
      rw [hgp] at s1
      simp only [List.map_append] at so
      generalize ink (r.take k) = S at *
      by_cases hb : r[k].r = 32
      · have hbb : r[k].blank = true := by simp [Glyph.blank, hb]
        rw [if_pos hbb, List.append_nil] at ht
        simp [hlt, hlt', hr, gl, hlk, hlk', hgp, hb, hwk]
        exact ⟨r.length - (k + 1), by omega, k + 1, rfl, by omega, by rw [ht], by rw [ht], by omega⟩
      · have hbb : ¬ r[k].blank = true := by simp [Glyph.blank, hb]
        rw [if_neg hbb] at ht
        simp [hlt, hlt', hr, gl, hlk, hlk', hgp, hb, hwk, so, s1, lenMax]
        exact ⟨by omega, r.length - (k + 1), by omega, k + 1, rfl, by omega, by rw [ht]; simp, by rw [ht]; simp [hgp], by omega⟩
    · simp at hlk
      obtain rfl : k = r.length := by omega
      rw [List.take_length]
      generalize hI : (isInk || !(ink r).isEmpty) = I at *
      obtain ⟨H2, t2, c2, hB2, fr2⟩ := conEnd hB1 (by omega)
      obtain ⟨hT2, hhas2⟩ := hT1.ended
      have hl2 := endBd_long (textBd B r i)
      have hH3 : H2.length = 1 := by rw [fr2.len, hH2]
      have hwlen : (want ++ ink r).length ≤ N + (1 + r.length) := by have := ink_len r; rw [List.length_append]; omega
      have noEnd : i + 1 ≠ l.length → ¬ (i : Int) = (l.length : Int) - 1 := fun h h' => h (by omega)
      have isEnd : i + 1 = l.length → (i : Int) = (l.length : Int) - 1 := fun h => by omega
      have hTF1 : TSF (textBd B r i) paras (want ++ ink r) (.sc (.bool I)) := ⟨I, rfl, hT1⟩
      have hTF2 : TSF (endBd (textBd B r i)) (if I = true then paras + 1 else paras) (want ++ ink r) (.sc (.bool false)) := ⟨false, rfl, hT2⟩
      by_cases e : (∃ h : i < ends.length, ends[i] = true) ∨ i + 1 = l.length
      · obtain ⟨Z, hZ⟩ : ∃ Z : Nat, Z = if I = true then paras + 1 else paras := ⟨_, rfl⟩
        rw [← hZ] at hTF2
        have fin : ∃ d', d' < l.length - i ∧ ∃ i_1 t B, BIn H2 0 none t B ∧ H2.length = 1 ∧ ∃ (x : Nat) (x_1 : List Glyph) (x_2 : FV), TSF B x x_1 x_2 ∧ (i_1 = l.length → B.has = false) ∧ B.long ≤ 4 * sumBy (fun r : List Glyph => 1 + r.length) (l.take i_1) ∧ x_1.length ≤ sumBy (fun r : List Glyph => 1 + r.length) (l.take i_1) ∧ sumBy (fun r : List Glyph => 1 + r.length) (l.take i_1) ≤ 400 ∧ d' = l.length - i_1 ∧ i_1 ≤ l.length ∧
            (N : Int) + (1 + (r.length : Int)) = (sumBy (fun r : List Glyph => 1 + r.length) (l.take i_1) : Nat) ∧ (Z : Int) = (x : Nat) ∧ FV.sc (.bool false) = x_2 ∧ want.map Glyph.pv ++ (ink r).map Glyph.pv = x_1.map Glyph.pv ∧ (i : Int) + 1 = (i_1 : Nat) :=
          ⟨l.length - (i + 1), by omega, i + 1, _, _, hB2, hH3, Z, want ++ ink r, _, hTF2, fun _ => hhas2, by omega, by omega, by omega, rfl, by omega, by omega, rfl, rfl, by simp, by omega⟩
        have hgo : ∀ (b : Bool), True := fun _ => trivial
        by_cases e1 : i < ends.length
        · have e1' : (i : Int) < (ends.length : Int) := by omega
          cases e2 : ends[i]
          · have e3 : i + 1 = l.length := by
              rcases e with ⟨_, h⟩ | h
              · rw [e2] at h; simp at h
              · exact h
            have hEq := eq_true (isEnd e3)
            simp [e1, e1', e2, wsub, hEq]
            refine CallQ.mk (Call.shared callable11 c2) ?_
            cases I
            all_goals
              simp at hZ
              simp [hw, hwp]
              rw [hZ] at fin
              exact fin
          · simp [e1, e1', e2, wsub]
            refine CallQ.mk (Call.shared callable11 c2) ?_
            cases I
            all_goals
              simp at hZ
              simp [hw, hwp]
              rw [hZ] at fin
              exact fin
        · have e1' : ¬ (i : Int) < (ends.length : Int) := by omega
          have e3 : i + 1 = l.length := by
            rcases e with ⟨h, _⟩ | h
            · exact absurd h e1
            · exact h
          have hEq := eq_true (isEnd e3)
          simp [e1, e1', wsub, hEq]
          refine CallQ.mk (Call.shared callable11 c2) ?_
          cases I
          all_goals
            simp at hZ
            simp [hw, hwp]
            rw [hZ] at fin
            exact fin
      · have e3 : i + 1 ≠ l.length := fun h => e (.inr h)
        by_cases e1 : i < ends.length
        · have e1' : (i : Int) < (ends.length : Int) := by omega
          have e2 : ends[i] = false := by cases hx : ends[i] with
            | false => rfl
            | true => exact absurd (.inl ⟨e1, hx⟩) e
          simp [e1, e1', e2, wsub, noEnd e3, hw]
          exact ⟨l.length - (i + 1), by omega, i + 1, _, _, hB1, hH2, paras, want ++ ink r, _, hTF1, fun h => absurd h e3, by omega, by omega, by omega, rfl, by omega, by omega, rfl, rfl, by simp, by omega⟩
        · have e1' : ¬ (i : Int) < (ends.length : Int) := by omega
          simp [e1, e1', wsub, noEnd e3, hw]
          exact ⟨l.length - (i + 1), by omega, i + 1, _, _, hB1, hH2, paras, want ++ ink r, _, hTF1, fun h => absurd h e3, by omega, by omega, by omega, rfl, by omega, by omega, rfl, rfl, by simp, by omega⟩
  · simp at hlt
    obtain rfl : i = l.length := by omega
    have hh := hlast rfl
    have hkl := len_le_long B.kids
    have hkb : sumBy Node.long B.kids ≤ B.long := by unfold Bd.long; omega
    obtain ⟨hd1, hd2⟩ := hT.doc hh (by omega)
    have cd := conDoc hB (by omega)
    have hcd : sumBy Node.long (docD B).kids ≤ 1073741824 := by
      have h1 := tidy_long _ (docBd B).kids (Nat.lt_succ_self _) 0 0 20000
      have h2 : (docBd B).long = (endBd B).long := emptyN_long _ _
      have h3 := endBd_long B
      show sumBy Node.long (tidyL 0 0 20000 (docBd B).kids).1 ≤ _
      unfold Bd.long at h2 h3 hBl
      omega
    have cl := refLeaves _ (docD B).kids (Nat.lt_succ_self _) hcd
    rw [hd2] at cl
    have sm := refSame want want (by omega)
    rw [decide_eq_true rfl] at sm
    generalize docD B = D at *
    simp only [Doc.pv, PV.toFV, List.map_cons, List.map_nil, gl] at cd cl sm
    simp
    refine CallQ.mk (Call.shared callable12 cd) ?_
    simp [hd1]
    refine CallQ.mk (Call.pure callable14 (by simp) (by simp) cl) ?_
    simp
    refine CallQ.mk (Call.pure callable13 (by simp) (by simp) sm) ?_
    simp
    refine CallQ.mk (Call.pure callable9 (by simp) (by simp) kn) ?_
    simp
end Go.Proofs.YtlbjfjaleefiiaaDoor.Ev
end
