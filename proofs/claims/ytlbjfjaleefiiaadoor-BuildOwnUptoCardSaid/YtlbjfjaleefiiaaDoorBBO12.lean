/- Of what the law BuildOwn needs: part 12. -/
import Derived.Test.YtlbjfjaleefiiaaDoorBBO7
import Derived.Test.YtlbjfjaleefiiaaDoorBBO11
set_option linter.unusedSimpArgs false
set_option linter.unusedVariables false
section
namespace Go.Proofs.YtlbjfjaleefiiaaDoor.Ev
open Go
structure Bd where
  name : ByteArray
  part : ByteArray
  date : ByteArray
  source : ByteArray
  kids : List Node
  opens : List Node
  text : List Glyph
  line : Int
  has : Bool
def bCells (B : Bd) (o t : FV) : List FV := [.sc (.str B.name), .sc (.str B.part), .sc (.str B.date), .sc (.str B.source), .own (B.kids.map Node.pv), o, t, .sc (.int .i64 B.line), .sc (.bool B.has)]
theorem Node.toFV_eq (x : Node) : x.pv.toFV = .agg [.sc (.int .i64 x.kind), .sc (.int .i64 x.line), .sc (.int .i64 x.n), .sc (gl x.text), .sc (.sl (x.kids.map Node.pv)), .sc (.sl (x.rows.map gl)), .sc (.str x.grid.cols), .sc (.sl (x.grid.rows.map TRow.pv)), .sc (.bool x.grid.box), .sc (.bool x.grid.all)] := by
  rw [Node.pv_eq]; rfl
def HOk (H : Heap) : Prop := ∀ fs ∈ H, ∀ f ∈ body fs, f.und0 H.length = true
theorem HOk.set {H : Heap} {b : Nat} {fs : List FV} (h : HOk H) (hf : ∀ f ∈ body fs, f.und0 H.length = true) : ∀ gs ∈ H.set b fs, ∀ f ∈ body gs, f.und0 H.length = true := fun gs hg f hf' => by
  rcases List.mem_or_eq_of_mem_set hg with h' | rfl
  · exact h gs h' f hf'
  · exact hf f hf'
theorem HOk.set' {H : Heap} {b : Nat} {fs : List FV} (h : HOk H) (hf : ∀ f ∈ body fs, f.und0 H.length = true) : HOk (H.set b fs) := by
  unfold HOk
  rw [List.length_set]
  exact h.set hf
theorem HOk.cells {H : Heap} {b : Nat} {B : Bd} {o t : FV} (h : HOk H) (hb : H[b]? = some (bCells B o t)) : o.und0 H.length = true ∧ t.und0 H.length = true :=
  have h1 := h _ (List.mem_of_getElem? hb)
  ⟨h1 o (by simp [body, bCells]), h1 t (by simp [body, bCells])⟩
theorem HOk.build {n : Nat} {B : Bd} {o t : FV} (h : o.und0 n = true ∧ t.und0 n = true) : ∀ f ∈ body (bCells B o t), f.und0 n = true := fun f hf => by
  simp only [body, bCells, List.mem_cons, List.not_mem_nil, or_false] at hf
  rcases hf with rfl | rfl | rfl | rfl | rfl | rfl | rfl | rfl | rfl <;> first | rfl | exact h.1 | exact h.2
set_option linter.unusedSimpArgs false in
set_option maxRecDepth 20000 in
set_option maxHeartbeats 16000000 in
theorem conLay0 (B : Bd) (o t : FV) (x : Node) (H : Heap) (b : Nat) (hb : H[b]? = some (bCells B o t)) (ho : o = .own [] ∨ ∃ r g, o = .gr r g 10 0) (hk : B.kids.length ≤ 1073741824) (hH : HOk H) :
    Con C0 33 [.ptr b 0, x.pv.toFV] H (.tup []) (H.set b (bCells { B with kids := B.kids ++ [x] } o t)) := by
  have hbl : b < H.length := (List.getElem?_eq_some_iff.1 hb).1
  have hu := hH.set (b := b) (HOk.build (B := { B with kids := B.kids ++ [x] }) (hH.cells hb))
  obtain ⟨nm, pt, dt, so, kids, opens, text, line, has⟩ := B
  simp only [bCells] at hb hk hu ⊢
  rw [Node.toFV_eq]
  refine con_trimU (C := C0) (fn := Tryd.f33) Tryd.func33 rfl (by decide) mixed (mv := mv33) (vars := vars33) (c := Tryd.f33.body.getD .skip) (by kernel_rfl) rfl ?_ ?_
  · exact hu
  have sk := sizedN kids
  have hkk : (kids.length : Int) < (kids.length : Int) + 1 := by omega
  rcases ho with rfl | ⟨r, g, rfl⟩
  all_goals
    simp [Tryd.f33, gl, hb, heap_old hbl]
    refine DrawC.mk (fun _ _ => .undef) ?_
    simp [gl, hb, heap_old hbl, heap_old_set hbl, hs_b hbl, hs_set hbl, sk, sized1, lenMax, hkk, hs_at, hs_at0]
    refine ⟨by omega, ?_⟩
    rw [Node.pv_eq x]
    rfl
end Go.Proofs.YtlbjfjaleefiiaaDoor.Ev
end
section
namespace Go.Proofs.YtlbjfjaleefiiaaDoor.Ev
open Go
theorem splice_one {c : List FV} {p : Nat} {w : FV} (h : p < c.length) : splice c p [w] = c.set p w := by
  unfold splice
  rw [List.set_eq_take_append_cons_drop, if_pos h]
  simp
set_option linter.unusedSimpArgs false in
set_option maxRecDepth 20000 in
set_option maxHeartbeats 16000000 in
theorem conLay1 (B : Bd) (t : FV) (x : Node) (H : Heap) (b r g n : Nat) (c : List FV) (ks : List PV) (hb : H[b]? = some (bCells B (.gr r g 10 (n + 1)) t)) (hr : H[r]? = some [.row g c]) (hrb : r ≠ b)
    (hc : c[n * 10 + 4]? = some (.own ks)) (hs : Sized 10 ks) (hk : ks.length ≤ 1073741824) (hn : n ≤ 1073741824) (hH : HOk H) :
    Con C0 33 [.ptr b 0, x.pv.toFV] H (.tup []) (H.set r [.row g (c.set (n * 10 + 4) (.own (ks ++ [x.pv])))]) := by
  have hbl : b < H.length := (List.getElem?_eq_some_iff.1 hb).1
  have hrl : r < H.length := (List.getElem?_eq_some_iff.1 hr).1
  have hcl : n * 10 + 4 < c.length := (List.getElem?_eq_some_iff.1 hc).1
  have hu : ∀ fs ∈ H.set r [.row g (c.set (n * 10 + 4) (.own (ks ++ [x.pv])))], ∀ f ∈ body fs, f.und0 H.length = true := by
    refine hH.set fun f hf => ?_
    rcases List.mem_or_eq_of_mem_set (show f ∈ c.set (n * 10 + 4) (.own (ks ++ [x.pv])) from hf) with h | rfl
    · exact hH _ (List.mem_of_getElem? hr) f h
    · rfl
  obtain ⟨nm, pt, dt, so, kids, opens, text, line, has⟩ := B
  simp only [bCells] at hb
  have w1 : IntKind.i64.wrap (((n : Int) + 1) - 1) = n := by rw [wrap64 (by omega) (by omega)]; omega
  have n0 : (0 : Int) < (n : Int) + 1 := by omega
  have n1 : (n : Int) < (n : Int) + 1 := by omega
  have k1 : (ks.length : Int) < (ks.length : Int) + 1 := by omega
  rw [Node.toFV_eq]
  refine con_trimU (C := C0) (fn := Tryd.f33) Tryd.func33 rfl (by decide) mixed (mv := mv33) (vars := vars33) (c := Tryd.f33.body.getD .skip) (by kernel_rfl) rfl hu ?_
  simp [Tryd.f33, gl, hb, heap_old hbl, n0]
  have w2 : IntKind.i64.wrap (n : Int) = n := wrap64 (by omega) (by omega)
  have ho : ∀ (v : List FV) (L : Heap), (H.set r v ++ L)[b]? = H[b]? := fun v L => by
    rw [List.getElem?_append_left (by simpa using hbl), List.getElem?_set_ne hrb]
  have hc1 : ∀ v, (c.set (n * 10 + 4) v)[n * 10 + 4]? = some v := fun v => by simp [hcl]
  have hc2 : ∀ (v w : FV), splice (c.set (n * 10 + 4) v) (n * 10 + 4) [w] = c.set (n * 10 + 4) w := fun v w => by
    rw [splice_one (by simpa using hcl), List.set_set]
  have hc3 : ∀ v : FV, n * 10 + 4 + 1 ≤ (c.set (n * 10 + 4) v).length := fun v => by simp; omega
  have hc4 : ∀ v w : FV, (c.set (n * 10 + 4) v).set (n * 10 + 4) w = c.set (n * 10 + 4) w := fun v w => List.set_set ..
  have hcl' : n * 10 + 4 + 1 ≤ c.length := by omega
  have hs0 : ∀ a b : FV, splice [a] 0 [b] = [b] := fun _ _ => rfl
  refine DrawC.mk (fun _ _ => .undef) ?_
  simp [gl, hb, hr, heap_old hbl, heap_old hrl, heap_old_set hrl, hs_b hrl, hs_set hrl, hs_at, hs_at0, ho, w2, n1, hc, hc1, hc2, hcl', hs, sized1, lenMax, k1, hs0, -splice]
  refine ⟨⟨by omega, ?_⟩, DrawC.mk (fun _ _ => .undef) ?_⟩
  · rw [Node.pv_eq x]
    rfl
  · simp [gl, hb, hr, heap_old hbl, heap_old hrl, heap_old_set hrl, hs_b hrl, hs_set hrl, hs_at, hs_at0, ho, w2, n1, hc, hc1, hc2, hc3, hcl', hs, sized1, lenMax, k1, hs0, setBody, -splice]
    exact ⟨by omega, by rw [Node.pv_eq x]; rfl⟩
end Go.Proofs.YtlbjfjaleefiiaaDoor.Ev
end
section
namespace Go.Proofs.YtlbjfjaleefiiaaDoor.Ev
open Go
def rowC (l : List Node) : List FV := l.flatMap nodeO
theorem nodeO_len (x : Node) : (nodeO x).length = 10 := rfl
theorem rowC_app (a b : List Node) : rowC (a ++ b) = rowC a ++ rowC b := by simp [rowC]
theorem rowC_one (x : Node) : rowC [x] = nodeO x := by simp [rowC]
theorem rowC_len (l : List Node) : (rowC l).length = l.length * 10 := by
  induction l with
  | nil => rfl
  | cons x l ih => rw [rowC, List.flatMap_cons, List.length_append, nodeO_len, ← rowC, ih, List.length_cons]; omega
def oF (ro : Option (Nat × Nat)) (n : Nat) : FV := match ro with
  | none => .own []
  | some (r, g) => .gr r g 10 n
def Bd.long (B : Bd) : Nat := sumBy Node.long B.kids + sumBy Node.long B.opens + B.text.length
def RowIn (H : Heap) (b : Nat) (ro : Option (Nat × Nat)) (l : List Node) : Prop := match ro with
  | none => l = []
  | some (r, g) => r ≠ b ∧ ∃ rest, (∀ f ∈ rest, f.np0 = true) ∧ H[r]? = some [.row g (rowC l ++ rest)]
structure BIn (H : Heap) (b : Nat) (ro : Option (Nat × Nat)) (t : FV) (B : Bd) : Prop where
  box : H[b]? = some (bCells B (oF ro B.opens.length) t)
  row : RowIn H b ro B.opens
  txt : t = .sc (gl B.text) ∨ (B.text = [] ∧ t = .own [])
  ok : HOk H
structure Frm (H H' : Heap) (b : Nat) (ro : Option (Nat × Nat)) : Prop where
  len : H'.length = H.length
  same : ∀ i, i ≠ b → (∀ r g, ro = some (r, g) → i ≠ r) → H'[i]? = H[i]?
theorem Frm.refl (H : Heap) (b : Nat) (ro : Option (Nat × Nat)) : Frm H H b ro := ⟨rfl, fun _ _ _ => rfl⟩
theorem Frm.trans {A B C : Heap} {b : Nat} {ro : Option (Nat × Nat)} (h : Frm A B b ro) (k : Frm B C b ro) : Frm A C b ro :=
  ⟨k.len.trans h.len, fun i h1 h2 => (k.same i h1 h2).trans (h.same i h1 h2)⟩
def layBd (B : Bd) (x : Node) : Bd := match B.opens.reverse with
  | [] => { B with kids := B.kids ++ [x] }
  | y :: l => { B with opens := l.reverse ++ [y.withKids (y.kids ++ [x])] }
theorem layBd_nil {B : Bd} {x : Node} (h : B.opens = []) : layBd B x = { B with kids := B.kids ++ [x] } := by unfold layBd; rw [h]; rfl
theorem layBd_snoc {B : Bd} {x y : Node} {l : List Node} (h : B.opens = l ++ [y]) : layBd B x = { B with opens := l ++ [y.withKids (y.kids ++ [x])] } := by unfold layBd; rw [h]; simp
theorem withKids_long (y : Node) (l : List Node) : (y.withKids l).long + sumBy Node.long y.kids = y.long + sumBy Node.long l := by
  rw [Node.long_eq, Node.long_eq y]
  simp only [Node.text_wk, Node.kids_wk, Node.rows_wk, Node.grid_wk]
  omega
theorem layBd_long (B : Bd) (x : Node) : (layBd B x).long = B.long + x.long := by
  rcases List.eq_nil_or_concat B.opens with h | ⟨l, y, h⟩
  · rw [layBd_nil h]
    simp only [Bd.long, sumBy_append, sumBy]
    omega
  · rw [List.concat_eq_append] at h
    rw [layBd_snoc h]
    simp only [Bd.long, h, sumBy_append, sumBy]
    have := withKids_long y (y.kids ++ [x])
    rw [sumBy_append] at this
    simp only [sumBy] at this
    omega
theorem conLay {H : Heap} {b : Nat} {ro : Option (Nat × Nat)} {t : FV} {B : Bd} (h : BIn H b ro t B) (x : Node) (hl : B.long + x.long ≤ 1073741824) :
    ∃ H', Con C0 33 [.ptr b 0, x.pv.toFV] H (.tup []) H' ∧ BIn H' b ro t (layBd B x) ∧ Frm H H' b ro := by
  have hbl : b < H.length := (List.getElem?_eq_some_iff.1 h.box).1
  have hlen := len_le_long B.kids
  have hlen2 := len_le_long B.opens
  unfold Bd.long at hl
  rcases List.eq_nil_or_concat B.opens with ho | ⟨l, y, ho⟩
  · have hb := h.box
    rw [ho] at hb
    have hc := conLay0 B (oF ro 0) t x H b hb (by
      cases ro with
      | none => exact .inl rfl
      | some p => obtain ⟨r, g⟩ := p; exact .inr ⟨r, g, rfl⟩) (by omega) h.ok
    refine ⟨_, hc, ?_, ⟨by simp, fun i h1 _ => List.getElem?_set_ne (fun h => h1 h.symm)⟩⟩
    rw [layBd_nil ho]
    refine ⟨by rw [List.getElem?_set_self hbl]; simp only [ho]; rfl, ?_, h.txt, h.ok.set' (HOk.build (h.ok.cells hb))⟩
    have hr := h.row
    cases ro with
    | none => exact hr
    | some p =>
      obtain ⟨r, g⟩ := p
      obtain ⟨h1, rest, hnp, h2⟩ := hr
      exact ⟨h1, rest, hnp, by rw [List.getElem?_set_ne (fun h => h1 h.symm)]; exact h2⟩
  · rw [List.concat_eq_append] at ho
    have hr := h.row
    cases ro with
    | none =>
      have hr' : B.opens = [] := hr
      rw [ho] at hr'; simp at hr'
    | some p =>
      obtain ⟨r, g⟩ := p
      obtain ⟨h1, rest, hnp, h2⟩ := hr
      have hrl : r < H.length := (List.getElem?_eq_some_iff.1 h2).1
      have hb := h.box
      rw [ho] at hb h2
      simp only [List.length_append, List.length_singleton] at hb
      rw [rowC_app, rowC_one] at h2
      have hll : l.length ≤ B.opens.length := by rw [ho]; simp
      have hyl : y.long ≤ sumBy Node.long B.opens := long_mem (by rw [ho]; simp)
      have hys := long_sizes (x := y) (by omega)
      have hrc := rowC_len l
      have hat : (rowC l ++ nodeO y ++ rest)[l.length * 10 + 4]? = some (.own (y.kids.map Node.pv)) := by
        rw [List.append_assoc, List.getElem?_append_right (by omega), hrc, show l.length * 10 + 4 - l.length * 10 = 4 by omega]
        rfl
      have hc := conLay1 B t x H b r g l.length (rowC l ++ nodeO y ++ rest) (y.kids.map Node.pv) hb h2 h1 hat (sizedN _) (by simpa using hys.2.1) (by omega) h.ok
      have hset : (rowC l ++ nodeO y ++ rest).set (l.length * 10 + 4) (.own (y.kids.map Node.pv ++ [x.pv])) = rowC l ++ nodeO (y.withKids (y.kids ++ [x])) ++ rest := by
        rw [List.append_assoc, List.set_append_right _ _ (by omega), hrc, show l.length * 10 + 4 - l.length * 10 = 4 by omega, List.append_assoc]
        congr 1
        simp [nodeO]
      rw [hset] at hc
      refine ⟨_, hc, ?_, ⟨by simp, fun i _ h4 => List.getElem?_set_ne (fun h => h4 r g rfl h.symm)⟩⟩
      rw [layBd_snoc ho]
      refine ⟨?_, ⟨h1, rest, hnp, by rw [List.getElem?_set_self hrl, rowC_app, rowC_one]⟩, h.txt, h.ok.set' fun f hf => ?_⟩
      · rw [List.getElem?_set_ne h1, hb]
        simp only [List.length_append, List.length_singleton]
        rfl
      · have hf' : f ∈ rowC l ++ nodeO (y.withKids (y.kids ++ [x])) ++ rest := hf
        rw [← hset] at hf'
        rcases List.mem_or_eq_of_mem_set hf' with h' | rfl
        · exact h.ok _ (List.mem_of_getElem? h2) f h'
        · rfl
end Go.Proofs.YtlbjfjaleefiiaaDoor.Ev
end
section
namespace Go.Proofs.YtlbjfjaleefiiaaDoor.Ev
open Go
set_option linter.unusedSimpArgs false in
set_option maxRecDepth 20000 in
set_option maxHeartbeats 4000000 in
theorem conTrimG (l : List Glyph) (hl : l.length ≤ 1073741824) : PCon C0 32 [.sc (gl l)] (.own ((trimG l).map Glyph.pv)) := by
  refine penter32 ?_
  simp [Tryd.f32, gl]
  refine loopC (fun d e H => ∃ (n : Nat) (x2 x18 : FV), d = n ∧ ends l ≤ n ∧ n ≤ l.length ∧ e = [(0, .sc (.sl (l.map Glyph.pv))), (2, .own []), (3, .sc (.int .i64 n)), (18, x18)]) (d := l.length) ⟨l.length, .undef, .undef, rfl, ends_le l, Nat.le_refl _, rfl⟩ ?_
  rintro d e H ⟨n, x2, x18, hd, hn, hnl, rfl⟩
  have hd' := hd.symm
  subst hd'
  have hsb : sizedB 2 (l.map Glyph.pv) = true := by simp [sizedB]; exact fun g _ => rfl
  by_cases h0 : n = 0
  · subst h0
    have ht : trimG l = [] := List.eq_nil_of_length_eq_zero (by unfold ends at hn; omega)
    have cg := cloneG [] (by simp [lenMax])
    simp only [gl, List.map_nil] at cg
    simp [ht, hsb]
    refine CallQ.mk (Call.pure callable54 (by simp) (by simp) cg) ?_
    simp
  · obtain ⟨k, rfl⟩ : ∃ k, n = k + 1 := ⟨n - 1, by omega⟩
    have hk : k < l.length := by omega
    have w1 : IntKind.i64.wrap (((k + 1 : Nat) : Int) - 1) = (k : Nat) := by rw [wrap64 (by omega) (by omega)]; omega
    simp at w1
    have hq : (l.map Glyph.pv)[k]? = some (l[k]).pv := by simp [hk]
    by_cases h32 : l[k].r = 32
    · have hne : ¬ ends l = k + 1 := fun he => by
        have := ends_at (l := l) (by omega)
        simp [he, Glyph.blank, h32] at this
      simp [w1, hq, Glyph.pv, h32]
      exact ⟨k, by omega, by omega, by omega, .undef, rfl⟩
    · have he : ends l = k + 1 := by
        rcases Nat.lt_or_ge k (ends l) with h | h
        · omega
        · have := ends_behind hk h
          simp [Glyph.blank, h32] at this
      have hkl : (k : Int) + 1 ≤ l.length := by omega
      have hk0 : (0 : Int) ≤ (k : Int) + 1 := by omega
      have cg := cloneG (trimG l) (by show (trimG l).length ≤ 137438953472; have := ends_le l; unfold ends at this; omega)
      rw [trimG_take, he] at cg
      simp only [gl, List.map_take] at cg
      rw [trimG_take, he]
      simp [w1, hq, Glyph.pv, h32, hsb, hkl, hk0]
      refine CallQ.mk (Call.pure callable54 (by simp) (by simp) cg) ?_
      simp
end Go.Proofs.YtlbjfjaleefiiaaDoor.Ev
end
section
namespace Go.Proofs.YtlbjfjaleefiiaaDoor.Ev
open Go
def laid (out : List Block) (b : Block) : Block := match out.getLast? with
  | some x => { b with gap := decide (x.kind ≠ 1) && decide (x.kind ≠ 2) }
  | none => b
end Go.Proofs.YtlbjfjaleefiiaaDoor.Ev
end
section
namespace Go.Proofs.YtlbjfjaleefiiaaDoor.Ev
open Go
def FLe (f g : FV) : Prop := ∀ (W : Wd) (r : Option Root) (i : Nat) (v : Value), FRep W r i f v → FRep W r i g v
inductive FLes : List FV → List FV → Prop
  | nil : FLes [] []
  | cons {f g : FV} {l m : List FV} : FLe f g → FLes l m → FLes (f :: l) (g :: m)
theorem FLes.len {l m : List FV} (h : FLes l m) : l.length = m.length := by
  induction h with
  | nil => rfl
  | cons _ _ ih => simp [ih]
theorem FLes.get {l m : List FV} (h : FLes l m) : ∀ {j : Nat} {g : FV}, m[j]? = some g → ∃ f, l[j]? = some f ∧ FLe f g := by
  induction h with
  | nil => intro j g h; simp at h
  | cons h _ ih =>
    intro j g hg
    cases j with
    | zero => simp at hg; subst hg; exact ⟨_, rfl, h⟩
    | succ j => exact ih (by simpa using hg)
theorem FLe.refl (f : FV) : FLe f f := fun _ _ _ _ h => h
theorem FLe.emp : FLe .emp (.sc (.sl [])) := fun _ _ _ _ h => by
  cases h
  exact .sc rfl .nil
theorem FLe.agg {l m : List FV} (h : FLes l m) : FLe (.agg l) (.agg m) := fun W r i v hv => by
  cases hv with
  | agg hs hr =>
    refine .agg (hs.trans h.len) fun j g v hg hv => ?_
    obtain ⟨f, hf, hle⟩ := h.get hg
    exact hle _ _ _ _ (hr j f v hf hv)
end Go.Proofs.YtlbjfjaleefiiaaDoor.Ev
end
section
namespace Go.Proofs.YtlbjfjaleefiiaaDoor.Ev
open Go
theorem Con.les {C : Ctx} {f : FuncId} {args args' : List FV} {H : Heap} {r : FV} {H' : Heap} (h : Con C f args' H r H') (hl : FLes args args') : Con C f args H r H' := fun vs W h1 h2 h3 h4 =>
  h vs W (h1.trans hl.len) (fun j g v hg hv => by
    obtain ⟨f, hf, hle⟩ := hl.get hg
    exact hle _ _ _ _ (h2 j f v hf hv)) h3 h4
theorem hsetB {H : Heap} {b : Nat} (h : b < H.length) {x : List FV} : (H.set b x)[b]? = some x := List.getElem?_set_self h
def paraB (B : Bd) : Node := .mk 3 B.line 0 B.text [] [] noTbl
def endBd (B : Bd) : Bd := if B.has = false then B else { (if trimG B.text = [] then B else layBd B (paraB B)) with text := [], has := false }
theorem paraB_long (B : Bd) : (paraB B).long = 3 + B.text.length := by rw [Node.long_eq]; simp [paraB, noTbl, rowsLong, sumBy]
theorem layBd_text (B : Bd) (x : Node) : (layBd B x).text = B.text ∧ (layBd B x).has = B.has ∧ (layBd B x).line = B.line ∧ (layBd B x).name = B.name ∧ (layBd B x).part = B.part ∧ (layBd B x).date = B.date ∧ (layBd B x).source = B.source ∧ (layBd B x).opens.length = B.opens.length := by
  rcases List.eq_nil_or_concat B.opens with h | ⟨l, y, h⟩
  · rw [layBd_nil h]; simp
  · rw [List.concat_eq_append] at h
    rw [layBd_snoc h]; simp [h]
theorem endBd_long (B : Bd) : (endBd B).long ≤ B.long + 3 := by
  unfold endBd
  split
  · omega
  · split
    · simp only [Bd.long, List.length_nil]; omega
    · have h1 := layBd_long B (paraB B)
      have h2 := paraB_long B
      have h3 := (layBd_text B (paraB B)).1
      have h4 : ({ layBd B (paraB B) with text := [], has := false } : Bd).long + (layBd B (paraB B)).text.length = (layBd B (paraB B)).long := by simp only [Bd.long, List.length_nil]; omega
      rw [h3] at h4
      omega
theorem BIn.clear {H : Heap} {b : Nat} {ro : Option (Nat × Nat)} {t : FV} {B : Bd} (h : BIn H b ro t B) : BIn (H.set b (bCells { B with text := [], has := false } (oF ro B.opens.length) (.own []))) b ro (.own []) { B with text := [], has := false } ∧ Frm H (H.set b (bCells { B with text := [], has := false } (oF ro B.opens.length) (.own []))) b ro := by
  have hbl : b < H.length := (List.getElem?_eq_some_iff.1 h.box).1
  refine ⟨⟨by rw [List.getElem?_set_self hbl], ?_, .inr ⟨rfl, rfl⟩, h.ok.set' (HOk.build ⟨(h.ok.cells h.box).1, rfl⟩)⟩, by simp, fun i h1 _ => List.getElem?_set_ne (fun h => h1 h.symm)⟩
  have hr := h.row
  cases ro with
  | none => exact hr
  | some p =>
    obtain ⟨r, g⟩ := p
    obtain ⟨h1, rest, hnp, h2⟩ := hr
    exact ⟨h1, rest, hnp, by rw [List.getElem?_set_ne (fun h => h1 h.symm)]; exact h2⟩
set_option linter.unusedSimpArgs false in
set_option maxRecDepth 20000 in
set_option maxHeartbeats 16000000 in
theorem conEnd {H : Heap} {b : Nat} {ro : Option (Nat × Nat)} {t : FV} {B : Bd} (h : BIn H b ro t B) (hl : B.long ≤ 500000000) :
    ∃ H' t', Con C0 11 [.ptr b 0] H (.tup []) H' ∧ BIn H' b ro t' (endBd B) ∧ Frm H H' b ro := by
  have hbl : b < H.length := (List.getElem?_eq_some_iff.1 h.box).1
  cases hh : B.has with
  | false =>
    refine ⟨H, t, ?_, by unfold endBd; rw [if_pos hh]; exact h, Frm.refl _ _ _⟩
    have hb := h.box
    generalize oF ro B.opens.length = o at hb
    obtain ⟨nm, pt, dt, so, kids, opens, text, line, has⟩ := B
    simp only at hh
    subst hh
    simp only [bCells] at hb
    refine enter11 ?_
    simp [Tryd.f11, hb]
  | true =>
    have htl : B.text.length ≤ 1073741824 := by unfold Bd.long at hl; omega
    have ct := conTrimG B.text htl
    by_cases htr : trimG B.text = []
    · have hc := h.clear
      refine ⟨_, _, ?_, by unfold endBd; rw [if_neg (by simp [hh]), if_pos htr]; exact hc.1, hc.2⟩
      have hb := h.box
      have htx := h.txt
      generalize oF ro B.opens.length = o at hb ⊢
      obtain ⟨nm, pt, dt, so, kids, opens, text, line, has⟩ := B
      simp only at hh htr ct htx
      subst hh
      simp only [bCells] at hb ⊢
      rw [htr] at ct
      refine enter11 ?_
      rcases htx with rfl | ⟨rfl, rfl⟩
      all_goals
        simp only [gl, List.map_nil] at ct
        simp [Tryd.f11, hb, gl]
        refine CallQ.mk (Call.pure callable32 (by simp) (by simp) ct) ?_
        simp [hb, gl, hsetB hbl]
    · obtain ⟨H1, c1, c2, c3⟩ := conLay h (paraB B) (by rw [paraB_long]; unfold Bd.long at *; omega)
      have hc := c2.clear
      refine ⟨_, _, ?_, by unfold endBd; rw [if_neg (by simp [hh]), if_neg htr]; exact hc.1, c3.trans hc.2⟩
      have hb := h.box
      have hb2 := c2.box
      have hbl2 : b < H1.length := (List.getElem?_eq_some_iff.1 hb2).1
      have htx := h.txt
      have hlt := layBd_text B (paraB B)
      have hpos : 0 < (trimG B.text).length := List.length_pos_iff.2 htr
      generalize layBd B (paraB B) = L at *
      obtain ⟨l1, l2, l3, l4, l5, l6, l7, l8⟩ := hlt
      rw [Node.toFV_eq] at c1
      simp only [paraB, Node.kind_mk, Node.line_mk, Node.n_mk, Node.text_mk, Node.kids_mk, Node.rows_mk, Node.grid_mk, noTbl, List.map_nil] at c1
      rw [l8] at hb2 ⊢
      generalize oF ro B.opens.length = o at hb hb2 ⊢
      obtain ⟨nm, pt, dt, so, kids, opens, text, line, has⟩ := B
      obtain ⟨nm', pt', dt', so', kids', opens', text', line', has'⟩ := L
      simp only at hh htr ct htx l1 l2 l3 l4 l5 l6 l7 l8 hpos c1
      subst hh l1 l2 l3 l4 l5 l6 l7
      simp only [bCells] at hb hb2 ⊢
      have c1' : Con C0 33 [.ptr b 0, .agg [.sc (.int .i64 3), .sc (.int .i64 line'), .sc (.int .i64 0), .sc (.sl (text'.map Glyph.pv)), .emp, .emp, .sc (.str ByteArray.empty), .emp, .sc (.bool false), .sc (.bool false)]] H (.tup []) H1 :=
        c1.les (by repeat' first | exact FLes.nil | exact FLe.refl _ | exact FLe.emp | apply FLes.cons | apply FLe.agg)
      refine enter11 ?_
      simp only [gl] at ct
      rcases htx with rfl | ⟨rfl, rfl⟩
      · simp [Tryd.f11, hb, gl]
        refine CallQ.mk (Call.pure callable32 (by simp) (by simp) ct) ?_
        simp [hb, gl, hpos]
        refine CallQ.mk (CallP.shared callable33 c1') ?_
        simp [hb2, hsetB hbl2]
      · exact absurd rfl htr
end Go.Proofs.YtlbjfjaleefiiaaDoor.Ev
end
section
namespace Go.Proofs.YtlbjfjaleefiiaaDoor.Ev
open Go
theorem BIn.tell {H : Heap} {b : Nat} {ro : Option (Nat × Nat)} {t t' : FV} {B B' : Bd} (h : BIn H b ro t B) (ho : B'.opens = B.opens) (ht : t' = .sc (gl B'.text) ∨ (B'.text = [] ∧ t' = .own [])) :
    BIn (H.set b (bCells B' (oF ro B.opens.length) t')) b ro t' B' ∧ Frm H (H.set b (bCells B' (oF ro B.opens.length) t')) b ro := by
  have hbl : b < H.length := (List.getElem?_eq_some_iff.1 h.box).1
  refine ⟨⟨by rw [List.getElem?_set_self hbl, ho], ?_, ht, h.ok.set' (HOk.build ⟨(h.ok.cells h.box).1, by rcases ht with rfl | ⟨_, rfl⟩ <;> rfl⟩)⟩, by simp, fun i h1 _ => List.getElem?_set_ne (fun h => h1 h.symm)⟩
  have hr := h.row
  rw [ho]
  cases ro with
  | none => exact hr
  | some p =>
    obtain ⟨r, g⟩ := p
    obtain ⟨h1, rest, hnp, h2⟩ := hr
    exact ⟨h1, rest, hnp, by rw [List.getElem?_set_ne (fun h => h1 h.symm)]; exact h2⟩
set_option linter.unusedSimpArgs false in
set_option maxRecDepth 20000 in
set_option maxHeartbeats 4000000 in
theorem conTitle {H : Heap} {b : Nat} {ro : Option (Nat × Nat)} {t : FV} {B : Bd} (h : BIn H b ro t B) (n p d s : ByteArray) :
    ∃ H', Con C0 28 [.ptr b 0, .sc (.str n), .sc (.str p), .sc (.str d), .sc (.str s)] H (.tup []) H' ∧ BIn H' b ro t { B with name := n, part := p, date := d, source := s } ∧ Frm H H' b ro := by
  have hbl : b < H.length := (List.getElem?_eq_some_iff.1 h.box).1
  have hc := h.tell (B' := { B with name := n, part := p, date := d, source := s }) (t' := t) rfl h.txt
  refine ⟨_, ?_, hc⟩
  have hb := h.box
  generalize oF ro B.opens.length = o at hb ⊢
  obtain ⟨nm, pt, dt, so, kids, opens, text, line, has⟩ := B
  simp only [bCells] at hb ⊢
  refine enter28 ?_
  simp [Tryd.f28, hb, hsetB hbl]
def textBd (B : Bd) (l : List Glyph) (ln : Int) : Bd := { B with text := joinS B.text l, line := if B.has = true then B.line else ln, has := true }
set_option linter.unusedSimpArgs false in
set_option maxRecDepth 20000 in
set_option maxHeartbeats 8000000 in
theorem conText {H : Heap} {b : Nat} {ro : Option (Nat × Nat)} {t : FV} {B : Bd} (h : BIn H b ro t B) (l : List Glyph) (ln : Int) (hl : B.text.length + l.length ≤ 536870912) :
    ∃ H', Con C0 10 [.ptr b 0, .sc (gl l), .sc (.int .i64 ln)] H (.tup []) H' ∧ BIn H' b ro (.sc (gl (joinS B.text l))) (textBd B l ln) ∧ Frm H H' b ro := by
  have hbl : b < H.length := (List.getElem?_eq_some_iff.1 h.box).1
  have hc := h.tell (B' := textBd B l ln) (t' := .sc (gl (joinS B.text l))) rfl (.inl rfl)
  refine ⟨_, ?_, hc⟩
  have hb := h.box
  have htx := h.txt
  have cj := conJoinS B.text l hl
  generalize oF ro B.opens.length = o at hb ⊢
  obtain ⟨nm, pt, dt, so, kids, opens, text, line, has⟩ := B
  simp only [bCells, textBd] at hb htx cj ⊢
  refine enter10 ?_
  rcases htx with rfl | ⟨rfl, rfl⟩
  all_goals
    simp only [gl, List.map_nil] at cj hb
    cases has
    all_goals
      simp [Tryd.f10, hb, hsetB hbl, gl]
      refine CallQ.mk (Call.pure callable31 (by simp) (by simp) cj) ?_
      simp [hb, hsetB hbl]
set_option linter.unusedSimpArgs false in
set_option maxRecDepth 20000 in
theorem conDepth {H : Heap} {b : Nat} {ro : Option (Nat × Nat)} {t : FV} {B : Bd} (h : BIn H b ro t B) : Con C0 18 [.ptr b 0] H (.sc (.int .i64 B.opens.length)) H := by
  have hb := h.box
  have hr := h.row
  refine enter18 ?_
  cases ro with
  | none =>
    have hr' : B.opens = [] := hr
    simp only [bCells, oF] at hb
    simp [Tryd.f18, hb, hr']
  | some p =>
    obtain ⟨r, g⟩ := p
    simp only [bCells, oF] at hb
    simp [Tryd.f18, hb]
def Bd.zero : Bd := ⟨ByteArray.empty, ByteArray.empty, ByteArray.empty, ByteArray.empty, [], [], [], 0, false⟩
set_option maxRecDepth 20000 in
theorem conNew (H : Heap) : Con C0 8 [] H (.ptr H.length 0) (H ++ [bCells Bd.zero (.own []) (.own [])]) := by
  refine enter8 ?_
  simp [Tryd.f8, bCells, Bd.zero]
end Go.Proofs.YtlbjfjaleefiiaaDoor.Ev
end
section
namespace Go.Proofs.YtlbjfjaleefiiaaDoor.Ev
open Go
theorem und0_mono {n m : Nat} (h : n ≤ m) {f : FV} (hf : f.und0 n = true) : f.und0 m = true := by
  cases f with
  | fn f a b => cases a <;> cases b <;> simp_all [FV.und0]
  | ptr b o => simp only [FV.und0, decide_eq_true_eq] at hf ⊢; omega
  | bs b o k => simp only [FV.und0, decide_eq_true_eq] at hf ⊢; omega
  | gr b g z k => simp only [FV.und0, decide_eq_true_eq] at hf ⊢; omega
  | gp b g o => simp only [FV.und0, decide_eq_true_eq] at hf ⊢; omega
  | _ => simp_all [FV.und0]
theorem HOk.more {H : Heap} (h : HOk H) {fs : List FV} (hf : ∀ f ∈ body fs, f.und0 (H.length + 1) = true) : HOk (H ++ [fs]) := fun gs hg f hf' => by
  rw [List.length_append, List.length_singleton]
  rcases List.mem_append.1 hg with h' | h'
  · exact und0_mono (Nat.le_succ _) (h gs h' f hf')
  · rw [List.mem_singleton.1 h'] at hf'; exact hf f hf'
theorem BIn.more {H : Heap} {b : Nat} {ro : Option (Nat × Nat)} {t : FV} {B : Bd} (h : BIn H b ro t B) {fs : List FV} (hf : ∀ f ∈ body fs, f.und0 (H.length + 1) = true) : BIn (H ++ [fs]) b ro t B := by
  have hbl : b < H.length := (List.getElem?_eq_some_iff.1 h.box).1
  refine ⟨by rw [heap_old hbl]; exact h.box, ?_, h.txt, h.ok.more hf⟩
  have hr := h.row
  cases ro with
  | none => exact hr
  | some p =>
    obtain ⟨r, g⟩ := p
    obtain ⟨h1, rest, hnp, h2⟩ := hr
    have hrl : r < H.length := (List.getElem?_eq_some_iff.1 h2).1
    exact ⟨h1, rest, hnp, by rw [heap_old hrl]; exact h2⟩
theorem nodeO_und (x : Node) (n : Nat) : ∀ f ∈ nodeO x, f.und0 n = true := fun f hf => by
  simp only [nodeO, List.mem_cons, List.not_mem_nil, or_false] at hf
  rcases hf with rfl | rfl | rfl | rfl | rfl | rfl | rfl | rfl | rfl | rfl <;> rfl
theorem rowC_und (l : List Node) (n : Nat) : ∀ f ∈ rowC l, f.und0 n = true := fun f hf => by
  simp only [rowC, List.mem_flatMap] at hf
  obtain ⟨x, _, hx⟩ := hf
  exact nodeO_und x n f hx
theorem BIn.take {H L H1 : Heap} {b : Nat} {ro : Option (Nat × Nat)} {t0 t : FV} {B0 B : Bd} (h0 : BIn H b ro t0 B0) (h : BIn H1 b ro t B) (hf : Frm (H ++ L) H1 b ro) : BIn (H1.take H.length) b ro t B ∧ Frm H (H1.take H.length) b ro := by
  have hbl : b < H.length := (List.getElem?_eq_some_iff.1 h0.box).1
  have hlen : (H1.take H.length).length = H.length := by rw [List.length_take, hf.len, List.length_append]; omega
  have hget : ∀ i, i < H.length → (H1.take H.length)[i]? = H1[i]? := fun i hi => List.getElem?_take_of_lt hi
  have hold : ∀ i, i < H.length → i ≠ b → (∀ r g, ro = some (r, g) → i ≠ r) → H1[i]? = H[i]? := fun i hi h1 h2 => by rw [hf.same i h1 h2, heap_old hi]
  have hrl : ∀ r g, ro = some (r, g) → r < H.length := fun r g hrg => by
    have hr := h0.row
    subst hrg
    obtain ⟨_, rest, _, h2⟩ := hr
    exact (List.getElem?_eq_some_iff.1 h2).1
  have hone : (oF ro B.opens.length).und0 H.length = true := by
    cases ro with
    | none => rfl
    | some p => obtain ⟨r, g⟩ := p; simp only [oF, FV.und0, decide_eq_true_eq]; exact hrl r g rfl
  refine ⟨⟨by rw [hget b hbl]; exact h.box, ?_, h.txt, fun gs hg f hf' => ?_⟩, hlen, fun i h1 h2 => ?_⟩
  · have hr := h.row
    cases ro with
    | none => exact hr
    | some p =>
      obtain ⟨r, g⟩ := p
      obtain ⟨h1, rest, hnp, h2⟩ := hr
      exact ⟨h1, rest, hnp, by rw [hget r (hrl r g rfl)]; exact h2⟩
  · rw [hlen]
    obtain ⟨i, hi⟩ := List.getElem?_of_mem hg
    have hil : i < H.length := by rw [← hlen]; exact (List.getElem?_eq_some_iff.1 hi).1
    rw [hget i hil] at hi
    by_cases hib : i = b
    · subst hib
      rw [h.box] at hi
      obtain rfl := Option.some.inj hi
      exact HOk.build ⟨hone, by rcases h.txt with rfl | ⟨_, rfl⟩ <;> rfl⟩ f hf'
    · by_cases hir : ∃ g, ro = some (i, g)
      · obtain ⟨g, rfl⟩ := hir
        obtain ⟨h1, rest, hnp, h2⟩ := h.row
        rw [h2] at hi
        obtain rfl := Option.some.inj hi
        rcases List.mem_append.1 (show f ∈ rowC B.opens ++ rest from hf') with h' | h'
        · exact rowC_und _ _ f h'
        · exact FV.und_np (hnp f h')
      · rw [hold i hil hib (fun r g hrg hh => hir ⟨g, by rw [hrg, hh]⟩)] at hi
        exact h0.ok gs (List.mem_of_getElem? hi) f hf'
  · by_cases hil : i < H.length
    · rw [hget i hil]; exact hold i hil h1 h2
    · rw [List.getElem?_eq_none (by omega), List.getElem?_eq_none (by omega)]
set_option linter.unusedSimpArgs false in
set_option maxRecDepth 20000 in
set_option maxHeartbeats 8000000 in
theorem conAdd {H : Heap} {b : Nat} {ro : Option (Nat × Nat)} {t : FV} {B : Bd} (h : BIn H b ro t B) (x : Node) (hl : B.long + x.long ≤ 400000000) :
    ∃ H' t', Con C0 24 [.ptr b 0, x.pv.toFV] H (.tup []) H' ∧ BIn H' b ro t' (layBd (endBd B) x) ∧ Frm H H' b ro := by
  have hbl : b < H.length := (List.getElem?_eq_some_iff.1 h.box).1
  have hel := endBd_long B
  have cc := conCopied (SizeOf.sizeOf x + 1) x (Nat.lt_succ_self _) (by omega)
  have hx : x.pv.toFV = .agg [.sc (.int .i64 x.kind), .sc (.int .i64 x.line), .sc (.int .i64 x.n), .sc (gl x.text), .sc (.sl (x.kids.map Node.pv)), .sc (.sl (x.rows.map gl)), .sc (.str x.grid.cols), .sc (.sl (x.grid.rows.map TRow.pv)), .sc (.bool x.grid.box), .sc (.bool x.grid.all)] := Node.toFV_eq x
  have h1 := h.more (fs := [.sc (.int .i64 x.kind), .sc (.int .i64 x.line), .sc (.int .i64 x.n), .sc (gl x.text), .sc (.sl (x.kids.map Node.pv)), .sc (.sl (x.rows.map gl)), .sc (.str x.grid.cols), .sc (.sl (x.grid.rows.map TRow.pv)), .sc (.bool x.grid.box), .sc (.bool x.grid.all)]) (fun f hf => by
    simp only [body, List.mem_cons, List.not_mem_nil, or_false] at hf
    rcases hf with rfl | rfl | rfl | rfl | rfl | rfl | rfl | rfl | rfl | rfl <;> rfl)
  obtain ⟨H1, t1, c1, c2, c3⟩ := conEnd h1 (by omega)
  obtain ⟨H2, d1, d2, d3⟩ := conLay c2 x (by omega)
  have hk := h.take d2 (c3.trans d3)
  have hx1 : H1[H.length]? = some [.sc (.int .i64 x.kind), .sc (.int .i64 x.line), .sc (.int .i64 x.n), .sc (gl x.text), .sc (.sl (x.kids.map Node.pv)), .sc (.sl (x.rows.map gl)), .sc (.str x.grid.cols), .sc (.sl (x.grid.rows.map TRow.pv)), .sc (.bool x.grid.box), .sc (.bool x.grid.all)] := by
    rw [c3.same H.length (by omega) (fun r g hrg => by
      have hr := h.row
      subst hrg
      obtain ⟨_, rest, _, h2⟩ := hr
      have := (List.getElem?_eq_some_iff.1 h2).1
      omega), heap_at0]
    rfl
  refine ⟨H2.take H.length, t1, ?_, hk⟩
  rw [hx] at cc d1 ⊢
  refine con_trimU (C := C0) (fn := Tryd.f24) Tryd.func24 rfl (by decide) mixed (mv := mv24) (vars := vars24) (c := Tryd.f24.body.getD .skip) (by kernel_rfl) rfl (fun fs hfs f hf => by have := hk.1.ok fs hfs f hf; rw [hk.2.len] at this; exact this) ?_
  simp only [gl] at *
  simp [Tryd.f24]
  refine CallQ.mk (Call.shared callable11 c1) ?_
  simp [hx1]
  refine CallQ.mk (Call.pure callable34 (by simp) (by simp [nodeO]) cc) ?_
  simp [nodeO]
  refine CallQ.mk (Call.shared callable33 d1) ?_
  simp
end Go.Proofs.YtlbjfjaleefiiaaDoor.Ev
end
section
namespace Go.Proofs.YtlbjfjaleefiiaaDoor.Ev
open Go
def nodeD (x : Node) : List FV := [.sc (.int .i64 x.kind), .sc (.int .i64 x.line), .sc (.int .i64 x.n), .sc (.sl (x.text.map Glyph.pv)), .sc (.sl (x.kids.map Node.pv)), .sc (.sl (x.rows.map gl)), .sc (.str x.grid.cols), .sc (.sl (x.grid.rows.map TRow.pv)), .sc (.bool x.grid.box), .sc (.bool x.grid.all)]
theorem row_at {l : List Node} {rest : List FV} {i : Nat} (h : i < l.length) : List.take 10 (List.drop (i * 10) (List.map demote1 (rowC l ++ rest))) = nodeD l[i] ∧ i * 10 + 10 ≤ (rowC l ++ rest).length := by
  have hs : l = l.take i ++ l[i] :: l.drop (i + 1) := by
    rw [← List.drop_eq_getElem_cons h, List.take_append_drop]
  have hc : rowC l = rowC (l.take i) ++ (nodeO l[i] ++ rowC (l.drop (i + 1))) := by
    conv => lhs; rw [hs]
    rw [rowC_app]
    congr 1
  have hl : (rowC (l.take i)).length = i * 10 := by rw [rowC_len, List.length_take]; congr 1; omega
  constructor
  · rw [← List.map_drop, ← List.map_take, hc, List.append_assoc, List.drop_left' hl, List.append_assoc, List.take_left' (nodeO_len _)]
    rfl
  · rw [List.length_append, rowC_len]; omega
theorem BIn.cut {H : Heap} {b r g : Nat} {t : FV} {B : Bd} {l : List Node} {x : Node} (h : BIn H b (some (r, g)) t B) (ho : B.opens = l ++ [x]) :
    BIn (H.set b (bCells { B with opens := l } (.gr r g 10 l.length) t)) b (some (r, g)) t { B with opens := l } ∧ Frm H (H.set b (bCells { B with opens := l } (.gr r g 10 l.length) t)) b (some (r, g)) := by
  have hbl : b < H.length := (List.getElem?_eq_some_iff.1 h.box).1
  obtain ⟨h1, rest, hnp, h2⟩ := h.row
  have hrl : r < H.length := (List.getElem?_eq_some_iff.1 h2).1
  refine ⟨⟨by rw [List.getElem?_set_self hbl]; rfl, ?_, h.txt, h.ok.set' (HOk.build ⟨by simp only [FV.und0, decide_eq_true_eq]; exact hrl, (h.ok.cells h.box).2⟩)⟩, by simp, fun i h1 _ => List.getElem?_set_ne (fun h => h1 h.symm)⟩
  refine ⟨h1, nodeO x ++ rest, fun f hf => ?_, ?_⟩
  · rcases List.mem_append.1 hf with hf | hf
    · simp only [nodeO, List.mem_cons, List.not_mem_nil, or_false] at hf
      rcases hf with rfl | rfl | rfl | rfl | rfl | rfl | rfl | rfl | rfl | rfl <;> rfl
    · exact hnp f hf
  · rw [List.getElem?_set_ne (fun h => h1 h.symm), h2, ho, rowC_app, rowC_one, List.append_assoc]
set_option linter.unusedSimpArgs false in
set_option maxRecDepth 20000 in
set_option maxHeartbeats 8000000 in
theorem conPop {H : Heap} {b : Nat} {ro : Option (Nat × Nat)} {t : FV} {B : Bd} (h : BIn H b ro t B) {l : List Node} {x : Node} (ho : B.opens = l ++ [x]) (hl : B.long ≤ 400000000) :
    ∃ H', Con C0 35 [.ptr b 0] H (.tup []) H' ∧ BIn H' b ro t (layBd { B with opens := l } x) ∧ Frm H H' b ro := by
  have hbl : b < H.length := (List.getElem?_eq_some_iff.1 h.box).1
  cases ro with
  | none =>
    have hr : B.opens = [] := h.row
    rw [ho] at hr; simp at hr
  | some p =>
    obtain ⟨r, g⟩ := p
    have hlong : ({ B with opens := l } : Bd).long + x.long = B.long := by simp only [Bd.long, ho, sumBy_append, sumBy]; omega
    obtain ⟨k1, k2⟩ := h.cut ho
    have k3 := k1.more (fs := nodeD x) (fun f hf => by
      simp only [body, nodeD, List.mem_cons, List.not_mem_nil, or_false] at hf
      rcases hf with rfl | rfl | rfl | rfl | rfl | rfl | rfl | rfl | rfl | rfl <;> rfl)
    obtain ⟨H1, c1, c2, c3⟩ := conLay k3 x (by omega)
    have hk := k1.take c2 c3
    have hlen : (H.set b (bCells { B with opens := l } (.gr r g 10 l.length) t)).length = H.length := by simp
    rw [hlen] at hk
    refine ⟨H1.take H.length, ?_, hk.1, k2.trans hk.2⟩
    obtain ⟨h1, rest, hnp, h2⟩ := h.row
    have hrl : r < H.length := (List.getElem?_eq_some_iff.1 h2).1
    have hol : l.length ≤ B.opens.length := by rw [ho]; simp
    have hob := len_le_long B.opens
    obtain ⟨ra, rb⟩ := row_at (l := B.opens) (rest := rest) (i := l.length) (by rw [ho]; simp)
    have hxo : B.opens[l.length]'(by rw [ho]; simp) = x := by simp [ho]
    rw [hxo] at ra
    have hb := h.box
    have hn : B.opens.length = l.length + 1 := by rw [ho]; simp
    simp only [oF, hn] at hb
    unfold Bd.long at hl
    have w1 : IntKind.i64.wrap (((l.length : Int) + 1) - 1) = l.length := by rw [wrap64 (by omega) (by omega)]; omega
    have w2 : IntKind.i64.wrap (l.length : Int) = l.length := wrap64 (by omega) (by omega)
    have n1 : (l.length : Int) < (l.length : Int) + 1 := by omega
    have n2 : (l.length : Int) ≤ (l.length : Int) + 1 := by omega
    generalize rowC B.opens ++ rest = c at h2 ra rb
    rw [Node.toFV_eq] at c1
    simp only [gl] at c1
    simp only [bCells, nodeD] at hb c1 ra
    refine con_trimU (C := C0) (fn := Tryd.f35) Tryd.func35 rfl (by decide) mixed (mv := mv35) (vars := vars35) (c := Tryd.f35.body.getD .skip) (by kernel_rfl) rfl (fun fs hfs f hf => by have := hk.1.ok fs hfs f hf; rw [hk.2.len, hlen] at this; exact this) ?_
    simp [Tryd.f35, hb, h2, heap_old hbl, heap_old hrl, heap_old_set hbl, hs_b hbl, hs_at, hs_at0, w1, w2, n1, n2, ra, rb]
    refine CallQ.mk (Call.shared callable33 c1) ?_
    simp
end Go.Proofs.YtlbjfjaleefiiaaDoor.Ev
end
section
namespace Go.Proofs.YtlbjfjaleefiiaaDoor.Ev
open Go
def insideB (l : List Node) (k : Int) : Bool := l.any fun x => decide (x.kind = k)
theorem inside_take {l : List Node} {k : Int} {i : Nat} (h : i < l.length) (hn : insideB (l.take i) k = false) (hk : l[i].kind ≠ k) : insideB (l.take (i + 1)) k = false := by
  rw [List.take_succ_eq_append_getElem h, insideB, List.any_append, ← insideB, hn]; simp [hk]
theorem inside_at {l : List Node} {k : Int} {i : Nat} (h : i < l.length) (hk : l[i].kind = k) : insideB l k = true := by
  rw [insideB, List.any_eq_true]; exact ⟨l[i], List.getElem_mem h, by simp [hk]⟩
set_option linter.unusedSimpArgs false in
set_option maxRecDepth 20000 in
set_option maxHeartbeats 8000000 in
theorem conInside {H : Heap} {b : Nat} {ro : Option (Nat × Nat)} {t : FV} {B : Bd} (h : BIn H b ro t B) (k : Int) (hl : B.long ≤ 400000000) :
    Con C0 19 [.ptr b 0, .sc (.int .i64 k)] H (.sc (.bool (insideB B.opens k))) H := by
  have hbl : b < H.length := (List.getElem?_eq_some_iff.1 h.box).1
  have hob := len_le_long B.opens
  unfold Bd.long at hl
  refine con_trimU (C := C0) (fn := Tryd.f19) Tryd.func19 rfl (by decide) mixed (mv := mv19) (vars := vars19) (c := Tryd.f19.body.getD .skip) (by kernel_rfl) rfl h.ok ?_
  have hb := h.box
  have hr := h.row
  cases ro with
  | none =>
    have hr' : B.opens = [] := hr
    simp only [bCells, oF] at hb
    simp [Tryd.f19, hb, hr']
    refine loopC (fun d e H' => ∃ (x15 : FV), H' = H ∧ d = 0 ∧ e = [(0, .ptr b 0), (1, .sc (.int .i64 k)), (4, .sc (.bool false)), (6, .undef), (8, .sc (.bool false)), (12, .sc (.sl [])), (13, .sc (.int .i64 0)), (14, .sc (.int .i64 0)), (15, x15), (21, .undef)]) (d := 0) ⟨.undef, rfl, rfl, rfl⟩ ?_
    rintro d e H' ⟨x15, rfl, rfl, rfl⟩
    simp [insideB]
  | some p =>
    obtain ⟨r, g⟩ := p
    obtain ⟨h1, rest, hnp, h2⟩ := hr
    have hrl : r < H.length := (List.getElem?_eq_some_iff.1 h2).1
    simp only [bCells, oF] at hb
    simp [Tryd.f19, hb]
    refine loopC (fun d e H' => ∃ (i : Nat) (x6 x15 x21 : FV) (J : Heap), H' = H ++ J ∧ d = B.opens.length - i ∧ i ≤ B.opens.length ∧ insideB (B.opens.take i) k = false ∧ e = [(0, .ptr b 0), (1, .sc (.int .i64 k)), (4, .sc (.bool false)), (6, x6), (8, .sc (.bool false)), (12, .gr r g 10 B.opens.length), (13, .sc (.int .i64 B.opens.length)), (14, .sc (.int .i64 i)), (15, x15), (21, x21)]) (d := B.opens.length) ⟨0, .undef, .undef, .undef, [], by simp, rfl, Nat.zero_le _, rfl, rfl⟩ ?_
    rintro d e H' ⟨i, x6, x15, x21, J, rfl, rfl, hi, hno, rfl⟩
    simp
    refine CondC.mk (fun hlt => ?_) (fun hlt => ?_)
    · simp at hlt
      have hlt' : (i : Int) < (B.opens.length : Int) := by omega
      obtain ⟨ra, rb⟩ := row_at (l := B.opens) (rest := rest) hlt
      have hw : IntKind.i64.wrap ((i : Int) + 1) = ((i + 1 : Nat) : Int) := by rw [wrap64 (by omega) (by omega)]; omega
      have f1 := fun hk => inside_take hlt hno (k := k) hk
      have f2 := fun hk => inside_at hlt (k := k) hk
      generalize B.opens[i] = x at ra f1 f2
      generalize rowC B.opens ++ rest = c at h2 ra rb
      simp only [nodeD] at ra
      by_cases hk : x.kind = k
      · simp [h2, heap_old hrl, ra, rb, hlt, hlt', hk]
        exact f2 hk
      · simp [h2, heap_old hrl, ra, rb, hlt, hlt', hk, hw]
        exact ⟨B.opens.length - (i + 1), by omega, i + 1, rfl, by omega, f1 hk, by omega⟩
    · simp at hlt
      obtain rfl : i = B.opens.length := by omega
      rw [List.take_length] at hno
      simp [hno]
end Go.Proofs.YtlbjfjaleefiiaaDoor.Ev
end
section
namespace Go.Proofs.YtlbjfjaleefiiaaDoor.Ev
open Go
structure FrG (H H' : Heap) (b : Nat) (ro ro' : Option (Nat × Nat)) : Prop where
  le : H.length ≤ H'.length
  same : ∀ i, i < H.length → i ≠ b → (∀ r g, ro = some (r, g) → i ≠ r) → H'[i]? = H[i]?
  row : (∀ r g, ro = some (r, g) → ∃ g', ro' = some (r, g')) ∧ (ro = none → ∀ r g, ro' = some (r, g) → H.length ≤ r)
theorem Frm.toG {H H' : Heap} {b : Nat} {ro : Option (Nat × Nat)} (h : Frm H H' b ro) : FrG H H' b ro ro :=
  ⟨by rw [h.len]; exact Nat.le_refl _, fun i _ h1 h2 => h.same i h1 h2, fun r g hr => ⟨g, hr⟩, fun h0 r g hr => by rw [h0] at hr; simp at hr⟩
theorem FrG.trans {A B C : Heap} {b : Nat} {r1 r2 r3 : Option (Nat × Nat)} (h : FrG A B b r1 r2) (k : FrG B C b r2 r3) : FrG A C b r1 r3 where
  le := Nat.le_trans h.le k.le
  same i hi h1 h2 := by
    have hi' : i < B.length := Nat.lt_of_lt_of_le hi h.le
    refine (k.same i hi' h1 fun r g hr => ?_).trans (h.same i hi h1 h2)
    cases r1 with
    | none => have := h.row.2 rfl r g hr; omega
    | some p =>
      obtain ⟨r', g'⟩ := p
      obtain ⟨g2, hg2⟩ := h.row.1 r' g' rfl
      rw [hg2] at hr
      simp only [Option.some.injEq, Prod.mk.injEq] at hr
      have := h2 r' g' rfl
      omega
  row := ⟨fun r g hr => by
    obtain ⟨g', h1⟩ := h.row.1 r g hr
    exact k.row.1 r g' h1, fun h0 r g hr => by
    cases r2 with
    | none => exact Nat.le_trans h.le (k.row.2 rfl r g hr)
    | some p =>
      obtain ⟨r', g'⟩ := p
      have h3 := h.row.2 h0 r' g' rfl
      obtain ⟨g2, hg2⟩ := k.row.1 r' g' rfl
      rw [hg2] at hr
      simp only [Option.some.injEq, Prod.mk.injEq] at hr
      omega⟩
theorem hcm2 {H : Heap} {b r : Nat} (h : r ≠ b) {v w : List FV} : (H.set b v).set r w = (H.set r w).set b v := List.set_comm v w (fun h' => h h'.symm)
theorem splice_end {c : List FV} {n : Nat} {z v : List FV} (hz : z.length = v.length) (hn : c.length = n) : splice (c ++ z) n v = c ++ v := by
  unfold splice
  rw [List.take_left' hn, List.drop_of_length_le (by rw [List.length_append]; omega), List.append_nil]
set_option linter.unusedSimpArgs false in
set_option maxRecDepth 20000 in
set_option maxHeartbeats 16000000 in
theorem conOpen {H : Heap} {b : Nat} {ro : Option (Nat × Nat)} {t : FV} {B : Bd} (h : BIn H b ro t B) (x : Node) (hl : B.long + x.long ≤ 400000000) :
    ∃ H' t' ro', Con C0 29 [.ptr b 0, x.pv.toFV] H (.tup []) H' ∧ BIn H' b ro' t' { endBd B with opens := (endBd B).opens ++ [x] } ∧ FrG H H' b ro ro' := by
  have hbl : b < H.length := (List.getElem?_eq_some_iff.1 h.box).1
  have hel := endBd_long B
  have cc := conCopied (SizeOf.sizeOf x + 1) x (Nat.lt_succ_self _) (by omega)
  have h1 := h.more (fs := nodeD x) (fun f hf => by
    simp only [body, nodeD, List.mem_cons, List.not_mem_nil, or_false] at hf
    rcases hf with rfl | rfl | rfl | rfl | rfl | rfl | rfl | rfl | rfl | rfl <;> rfl)
  obtain ⟨H1, t1, c1, c2, c3⟩ := conEnd h1 (by omega)
  have hx1 : H1[H.length]? = some (nodeD x) := by
    rw [c3.same H.length (by omega) (fun r g hrg => by
      have hr := h.row
      subst hrg
      obtain ⟨_, rest, _, h2⟩ := hr
      have := (List.getElem?_eq_some_iff.1 h2).1
      omega), heap_at0]
    rfl
  have hlen1 : H1.length = H.length + 1 := by rw [c3.len]; simp
  have hbl1 : b < H1.length := by omega
  have hxb : H.length ≠ b := by omega
  rw [Node.toFV_eq] at cc ⊢
  have hob := len_le_long (endBd B).opens
  have hlo : (endBd B).opens.length ≤ 400000003 := by unfold Bd.long at hel; unfold Bd.long at hl; omega
  simp only [gl] at cc ⊢
  have fr0 : FrG H (H ++ [nodeD x]) b ro ro := ⟨by simp, fun i hi _ _ => heap_old hi, fun r g hr => ⟨g, hr⟩, fun h0 r g hr => by rw [h0] at hr; simp at hr⟩
  have fr1 := fr0.trans c3.toG
  have hb := c2.box
  have htx := c2.txt
  have hok := c2.ok
  have hrow := c2.row
  generalize endBd B = E at *
  have wz : IntKind.i64.wrap 0 = 0 := by decide
  cases ro with
  | none =>
    have hr' : E.opens = [] := hrow
    have hlen2 : (H1.set b (bCells { E with opens := [x] } (.gr H1.length 0 10 1) t1)).length = H1.length := by simp
    refine ⟨H1.set b (bCells { E with opens := [x] } (.gr H1.length 0 10 1) t1) ++ [[.row 0 (nodeO x)]], t1, some (H1.length, 0), ?_, ⟨?_, ⟨by omega, [], by simp, ?_⟩, htx, ?_⟩, fr1.trans ⟨by simp, fun i hi h2 _ => ?_, fun r g hr => by simp at hr, fun _ r g hr => ?_⟩⟩
    · simp only [bCells, oF] at hb
      simp only [bCells, nodeD] at c1 hx1 ⊢
      refine enter29 ?_
      simp [Tryd.f29]
      refine CallQ.mk (Call.shared callable11 c1) ?_
      simp
      refine DrawC.mk (fun _ _ => .oagg (nodeO x)) ?_
      have hsx : ∀ v : List FV, (H1.set b v)[H.length]? = H1[H.length]? := fun v => List.getElem?_set_ne (fun h => hxb h.symm)
      have s1 : ∀ (v w : List FV) (L : Heap), (H1.set b v ++ L).set b w = H1.set b w ++ L := fun v w L => hs_set hbl1
      simp [hb, hx1, hsx, hsetB hbl1, heap_old hbl1]
      refine ⟨?_, ?_, ?_⟩
      all_goals
        refine CallQ.mk (CallD.pure callable34 (by simp) (by simp [nodeO]) cc rfl) ?_
        simp [hb, hsetB hbl1, nodeO, sized1, lenMax, hs_at, hs_at0, hs_b hbl1, s1]
    · rw [heap_old (by rw [hlen2]; exact hbl1), List.getElem?_set_self hbl1]
      simp [hr', oF]
    · have := heap_at0 (H := H1.set b (bCells { E with opens := [x] } (.gr H1.length 0 10 1) t1)) (L := [[.row 0 (nodeO x)]])
      rw [hlen2] at this
      rw [this, hr', List.nil_append, rowC_one, List.append_nil]
      rfl
    · have hcell : ∀ f ∈ body (bCells { E with opens := [x] } (.gr H1.length 0 10 1) t1), f.und0 (H1.length + 1) = true := HOk.build ⟨by simp [FV.und0], und0_mono (Nat.le_succ _) (hok.cells hb).2⟩
      intro gs hg f hf
      rw [List.length_append, hlen2, List.length_singleton]
      rcases List.mem_append.1 hg with h' | h'
      · rcases List.mem_or_eq_of_mem_set h' with h' | rfl
        · exact und0_mono (Nat.le_succ _) (hok gs h' f hf)
        · exact hcell f hf
      · rw [List.mem_singleton.1 h'] at hf
        exact nodeO_und x _ f hf
    · rw [heap_old (by rw [hlen2]; exact hi), List.getElem?_set_ne (fun h => h2 h.symm)]
    · simp only [Option.some.injEq, Prod.mk.injEq] at hr
      omega
  | some p =>
    obtain ⟨r, g⟩ := p
    obtain ⟨k1, rest, hnp, k2⟩ := hrow
    have hrl : r < H1.length := (List.getElem?_eq_some_iff.1 k2).1
    have hxr : H.length ≠ r := fun hh => by
      have hr := h.row
      obtain ⟨_, _, _, h2⟩ := hr
      have := (List.getElem?_eq_some_iff.1 h2).1
      omega
    have hcl := rowC_len E.opens
    have hlen2 : ((H1.set r [.row (g + 1) (rowC E.opens ++ nodeO x)]).set b (bCells { E with opens := E.opens ++ [x] } (.gr r (g + 1) 10 (E.opens.length + 1)) t1)).length = H1.length := by simp
    refine ⟨(H1.set r [.row (g + 1) (rowC E.opens ++ nodeO x)]).set b (bCells { E with opens := E.opens ++ [x] } (.gr r (g + 1) 10 (E.opens.length + 1)) t1), t1, some (r, g + 1), ?_, ⟨?_, ⟨k1, [], by simp, ?_⟩, htx, ?_⟩, fr1.trans ⟨by simp, fun i hi h2 h3 => ?_, fun r' g' hr => ?_, fun h0 => by simp at h0⟩⟩
    · simp only [bCells, oF] at hb
      simp only [bCells, nodeD] at c1 hx1 ⊢
      have hk0 : E.opens.length * 10 ≤ (rowC E.opens ++ rest).length := by rw [List.length_append]; omega
      have tk : List.take (E.opens.length * 10) (rowC E.opens ++ rest) = rowC E.opens := List.take_left' hcl
      have hsp : ∀ z v : List FV, z.length = v.length → splice (rowC E.opens ++ z) (E.opens.length * 10) v = rowC E.opens ++ v := fun z v hz => splice_end hz hcl
      have n1 : (E.opens.length : Int) < (E.opens.length : Int) + 1 := by omega
      have hs9 : ∀ a0 a1 a2 a3 a4 a5 a6 a7 a8 v : FV, splice [a0, a1, a2, a3, a4, a5, a6, a7, a8] 5 [v] = [a0, a1, a2, a3, a4, v, a6, a7, a8] := fun _ _ _ _ _ _ _ _ _ _ => rfl
      have hsb : ∀ v : List FV, (H1.set r v)[b]? = H1[b]? := fun v => List.getElem?_set_ne k1
      have hsr : ∀ v : List FV, (H1.set b v)[r]? = H1[r]? := fun v => List.getElem?_set_ne (fun h => k1 h.symm)
      have hsx : ∀ v : List FV, (H1.set b v)[H.length]? = H1[H.length]? := fun v => List.getElem?_set_ne (fun h => hxb h.symm)
      have hcm : ∀ v w : List FV, (H1.set b v).set r w = (H1.set r w).set b v := fun v w => List.set_comm v w (fun h => k1 h.symm)
      have hbb : ∀ v : List FV, (H1.set b v)[b]? = some v := fun v => hsetB hbl1
      have hrr : ∀ v : List FV, (H1.set r v)[r]? = some v := fun v => hsetB hrl
      have hbr : ∀ v w : List FV, ((H1.set r v).set b w)[r]? = some v := fun v w => by rw [List.getElem?_set_ne (fun h => k1 h.symm)]; exact hrr v
      have hbw : ∀ v w : List FV, ((H1.set r v).set b w)[b]? = some w := fun v w => hsetB (by simpa using hbl1)
      have hcw : ∀ v w u : List FV, ((H1.set r v).set b w).set r u = (H1.set r u).set b w := fun v w u => by rw [hcm2 k1, List.set_set]
      refine enter29 ?_
      simp [Tryd.f29]
      refine CallQ.mk (Call.shared callable11 c1) ?_
      simp
      refine DrawC.mk (fun _ _ => .oagg (nodeO x)) ?_
      simp [hb, hx1, hsx, hbb, -splice]
      refine ⟨?_, ?_, ?_⟩
      all_goals
        refine CallQ.mk (CallD.pure callable34 (by simp) (by simp [nodeO]) cc rfl) ?_
        simp [hb, k2, hbb, hsr, hcm, hbr, hbw, hcw, hs9, hsp, tk, hk0, hcl, n1, nodeO, sized1, lenMax, -splice]
        omega
    · rw [List.getElem?_set_self (by simpa using hbl1)]
      simp [oF]
    · rw [List.getElem?_set_ne (fun h => k1 h.symm), List.getElem?_set_self hrl, rowC_app, rowC_one, List.append_nil]
    · have hcell : ∀ f ∈ body (bCells { E with opens := E.opens ++ [x] } (.gr r (g + 1) 10 (E.opens.length + 1)) t1), f.und0 H1.length = true := HOk.build ⟨by simpa [FV.und0] using hrl, (hok.cells hb).2⟩
      have h5 := hok.set' (b := r) (fs := [.row (g + 1) (rowC E.opens ++ nodeO x)]) (fun f hf => by
        rcases List.mem_append.1 (show f ∈ rowC E.opens ++ nodeO x from hf) with h' | h'
        · exact rowC_und _ _ f h'
        · exact nodeO_und x _ f h')
      exact h5.set' (by simpa using hcell)
    · rw [List.getElem?_set_ne (fun h => h2 h.symm), List.getElem?_set_ne (fun h => h3 r g rfl h.symm)]
    · simp only [Option.some.injEq, Prod.mk.injEq] at hr
      obtain ⟨rfl, rfl⟩ := hr
      exact ⟨_, rfl⟩
end Go.Proofs.YtlbjfjaleefiiaaDoor.Ev
end
section
namespace Go.Proofs.YtlbjfjaleefiiaaDoor.Ev
open Go
def popBd (B : Bd) : Bd := match B.opens.reverse with
  | [] => B
  | x :: l => layBd { B with opens := l.reverse } x
theorem popBd_snoc {B : Bd} {l : List Node} {x : Node} (h : B.opens = l ++ [x]) : popBd B = layBd { B with opens := l } x := by unfold popBd; rw [h]; simp
def kinds (l : List Node) : List Int := l.map Node.kind
theorem layBd_kinds (B : Bd) (x : Node) : kinds (layBd B x).opens = kinds B.opens := by
  rcases List.eq_nil_or_concat B.opens with h | ⟨l, y, h⟩
  · rw [layBd_nil h]
  · rw [List.concat_eq_append] at h
    rw [layBd_snoc h]; simp [h, kinds]
theorem inside_kinds (l : List Node) (k : Int) : insideB l k = (kinds l).any fun i => decide (i = k) := by
  unfold insideB kinds; rw [List.any_map]; rfl
theorem popBd_kinds {B : Bd} {l : List Node} {x : Node} (h : B.opens = l ++ [x]) : kinds (popBd B).opens = kinds l := by rw [popBd_snoc h, layBd_kinds]
theorem popBd_len {B : Bd} {l : List Node} {x : Node} (h : B.opens = l ++ [x]) : (popBd B).opens.length = l.length := by
  have := congrArg List.length (popBd_kinds h)
  simpa [kinds] using this
theorem popBd_long (B : Bd) : (popBd B).long = B.long := by
  rcases List.eq_nil_or_concat B.opens with h | ⟨l, y, h⟩
  · unfold popBd; rw [h]; rfl
  · rw [List.concat_eq_append] at h
    rw [popBd_snoc h, layBd_long]
    simp only [Bd.long, h, sumBy_append, sumBy]; omega
def closeN : Nat → Bd → Int → Bd
  | 0, B, _ => B
  | n + 1, B, k => match B.opens.reverse with
    | [] => B
    | x :: _ => if x.kind = k then popBd B else closeN n (popBd B) k
theorem closeN_snoc {n : Nat} {B : Bd} {k : Int} {l : List Node} {x : Node} (h : B.opens = l ++ [x]) : closeN (n + 1) B k = if x.kind = k then popBd B else closeN n (popBd B) k := by
  rw [closeN, h]; simp
inductive Closing (b : Nat) (ro : Option (Nat × Nat)) (t : FV) (k : Int) : Heap → Bd → Heap → Prop
  | last {H H1 : Heap} {B : Bd} {l : List Node} {x : Node} : BIn H b ro t B → B.opens = l ++ [x] → x.kind = k → Con C0 35 [.ptr b 0] H (.tup []) H1 → Closing b ro t k H B H1
  | step {H H1 H2 : Heap} {B : Bd} {l : List Node} {x : Node} : BIn H b ro t B → B.opens = l ++ [x] → x.kind ≠ k → Con C0 35 [.ptr b 0] H (.tup []) H1 → Closing b ro t k H1 (popBd B) H2 → Closing b ro t k H B H2
theorem closing {b : Nat} {ro : Option (Nat × Nat)} {t : FV} {k : Int} : ∀ (n : Nat) {H : Heap} {B : Bd}, B.opens.length = n → BIn H b ro t B → insideB B.opens k = true → B.long ≤ 400000000 →
    ∃ H', Closing b ro t k H B H' ∧ BIn H' b ro t (closeN n B k) ∧ Frm H H' b ro := by
  intro n
  induction n with
  | zero =>
    intro H B hn h hk hl
    rw [List.length_eq_zero_iff.1 hn] at hk
    simp [insideB] at hk
  | succ n ih =>
    intro H B hn h hk hl
    rcases List.eq_nil_or_concat B.opens with ho | ⟨l, x, ho⟩
    · rw [ho] at hn; simp at hn
    rw [List.concat_eq_append] at ho
    obtain ⟨H1, c1, c2, c3⟩ := conPop h ho hl
    rw [← popBd_snoc ho] at c2
    rw [closeN_snoc ho]
    by_cases hx : x.kind = k
    · rw [if_pos hx]
      exact ⟨H1, .last h ho hx c1, c2, c3⟩
    · rw [if_neg hx]
      have hlen := popBd_len ho
      have hin : insideB (popBd B).opens k = true := by
        rw [inside_kinds, popBd_kinds ho, ← inside_kinds]
        rw [ho, insideB, List.any_append, Bool.or_eq_true] at hk
        rcases hk with hk | hk
        · exact hk
        · simp [hx] at hk
      obtain ⟨H2, d1, d2, d3⟩ := ih (H := H1) (B := popBd B) (by rw [hlen]; rw [ho] at hn; simpa using hn) c2 hin (by rw [popBd_long]; exact hl)
      exact ⟨H2, .step h ho hx c1 d1, d2, c3.trans d3⟩
def closeBd (B : Bd) (k : Int) : Bd := if insideB (endBd B).opens k = true then closeN (endBd B).opens.length (endBd B) k else endBd B
set_option linter.unusedSimpArgs false in
set_option maxRecDepth 20000 in
set_option maxHeartbeats 8000000 in
theorem conClose {H : Heap} {b : Nat} {ro : Option (Nat × Nat)} {t : FV} {B : Bd} (h : BIn H b ro t B) (k : Int) (hl : B.long ≤ 300000000) :
    ∃ H' t', Con C0 27 [.ptr b 0, .sc (.int .i64 k)] H (.sc (.bool (insideB (endBd B).opens k))) H' ∧ BIn H' b ro t' (closeBd B k) ∧ Frm H H' b ro := by
  obtain ⟨H1, t1, c1, c2, c3⟩ := conEnd h (by omega)
  have hel := endBd_long B
  have ci := conInside c2 k (by omega)
  cases hk : insideB (endBd B).opens k with
  | false =>
    refine ⟨H1, t1, ?_, by unfold closeBd; rw [hk]; exact c2, c3⟩
    rw [hk] at ci
    refine enter27 ?_
    simp [Tryd.f27]
    refine CallQ.mk (Call.shared callable11 c1) ?_
    simp
    refine CallQ.mk (Call.shared callable19 ci) ?_
    simp
  | true =>
    obtain ⟨H2, d1, d2, d3⟩ := closing (endBd B).opens.length rfl c2 hk (by omega)
    refine ⟨H2, t1, ?_, by unfold closeBd; rw [hk, if_pos rfl]; exact d2, c3.trans d3⟩
    rw [hk] at ci
    have hlen : (endBd B).opens.length ≤ 400000000 := by have := len_le_long (endBd B).opens; unfold Bd.long at hel hl; omega
    refine enter27 ?_
    simp [Tryd.f27]
    refine CallQ.mk (Call.shared callable11 c1) ?_
    simp
    refine CallQ.mk (Call.shared callable19 ci) ?_
    simp
    refine loopC (fun d e H' => ∃ (E : Bd) (x5 x29 : FV), Closing b ro t1 k H' E H2 ∧ d = E.opens.length ∧ E.opens.length ≤ 400000000 ∧ e = [(0, .ptr b 0), (1, .sc (.int .i64 k)), (4, .sc (.bool false)), (5, x5), (11, .sc (.bool false)), (29, x29)]) (d := (endBd B).opens.length) ⟨endBd B, .undef, .undef, d1, rfl, hlen, rfl⟩ ?_
    rintro d e H' ⟨E, x5, x29, hC, rfl, hle, rfl⟩
    cases hC with
    | @last _ _ _ l x hb ho hx hp =>
      have hr := hb.row
      cases ro with
      | none => have hr' : E.opens = [] := hr; rw [ho] at hr'; simp at hr'
      | some p =>
        obtain ⟨r, g⟩ := p
        obtain ⟨h1, rest, hnp, h2⟩ := hr
        have hbx := hb.box
        have hn : E.opens.length = l.length + 1 := by rw [ho]; simp
        simp only [bCells, oF, hn] at hbx
        have hat : (rowC E.opens ++ rest)[l.length * 10]? = some (.sc (.int .i64 k)) := by
          rw [ho, rowC_app, List.append_assoc, List.getElem?_append_right (by rw [rowC_len]; omega), rowC_len, Nat.sub_self, rowC_one, ← hx]; rfl
        generalize rowC E.opens ++ rest = c at h2 hat
        have w1 : IntKind.i64.wrap (l.length : Int) = l.length := wrap64 (by omega) (by omega)
        have n1 : (l.length : Int) < (l.length : Int) + 1 := by omega
        simp [hbx, h2, hat, w1, n1]
        refine CallQ.mk (Call.shared callable35 hp) ?_
        simp
    | @step _ _ _ _ l x hb ho hx hp hr2 =>
      have hr := hb.row
      have hpl := popBd_len ho
      cases ro with
      | none => have hr' : E.opens = [] := hr; rw [ho] at hr'; simp at hr'
      | some p =>
        obtain ⟨r, g⟩ := p
        obtain ⟨h1, rest, hnp, h2⟩ := hr
        have hbx := hb.box
        have hn : E.opens.length = l.length + 1 := by rw [ho]; simp
        simp only [bCells, oF, hn] at hbx
        have hat : (rowC E.opens ++ rest)[l.length * 10]? = some (.sc (.int .i64 x.kind)) := by
          rw [ho, rowC_app, List.append_assoc, List.getElem?_append_right (by rw [rowC_len]; omega), rowC_len, Nat.sub_self, rowC_one]; rfl
        generalize rowC E.opens ++ rest = c at h2 hat
        have w1 : IntKind.i64.wrap (l.length : Int) = l.length := wrap64 (by omega) (by omega)
        have n1 : (l.length : Int) < (l.length : Int) + 1 := by omega
        simp [hbx, h2, hat, w1, n1, hx]
        refine CallQ.mk (Call.shared callable35 hp) ?_
        simp [hx]
        exact ⟨l.length, by omega, popBd E, hr2, hpl.symm, by omega⟩
end Go.Proofs.YtlbjfjaleefiiaaDoor.Ev
end
section
namespace Go.Proofs.YtlbjfjaleefiiaaDoor.Ev
open Go
def isOf (ks : List Int) (i : Int) : Bool := ks.any fun k => decide (i = k)
def shutN : Nat → Bd → List Int → Bd
  | 0, B, _ => B
  | n + 1, B, ks => match B.opens.reverse with
    | [] => B
    | x :: _ => if isOf ks x.kind = true then shutN n (popBd B) ks else B
theorem shutN_snoc {n : Nat} {B : Bd} {ks : List Int} {l : List Node} {x : Node} (h : B.opens = l ++ [x]) : shutN (n + 1) B ks = if isOf ks x.kind = true then shutN n (popBd B) ks else B := by
  rw [shutN, h]; simp
inductive Shutting (b : Nat) (ro : Option (Nat × Nat)) (t : FV) (ks : List Int) : Heap → Bd → Heap → Prop
  | none {H : Heap} {B : Bd} : BIn H b ro t B → B.opens = [] → Shutting b ro t ks H B H
  | last {H : Heap} {B : Bd} {l : List Node} {x : Node} : BIn H b ro t B → B.opens = l ++ [x] → isOf ks x.kind = false → Shutting b ro t ks H B H
  | step {H H1 H2 : Heap} {B : Bd} {l : List Node} {x : Node} : BIn H b ro t B → B.opens = l ++ [x] → isOf ks x.kind = true → Con C0 35 [.ptr b 0] H (.tup []) H1 → Shutting b ro t ks H1 (popBd B) H2 → Shutting b ro t ks H B H2
theorem shutting {b : Nat} {ro : Option (Nat × Nat)} {t : FV} {ks : List Int} : ∀ (n : Nat) {H : Heap} {B : Bd}, B.opens.length = n → BIn H b ro t B → B.long ≤ 400000000 →
    ∃ H', Shutting b ro t ks H B H' ∧ BIn H' b ro t (shutN n B ks) ∧ Frm H H' b ro := by
  intro n
  induction n with
  | zero => intro H B hn h hl; exact ⟨H, .none h (List.length_eq_zero_iff.1 hn), h, .refl _ _ _⟩
  | succ n ih =>
    intro H B hn h hl
    rcases List.eq_nil_or_concat B.opens with ho | ⟨l, x, ho⟩
    · rw [ho] at hn; simp at hn
    rw [List.concat_eq_append] at ho
    rw [shutN_snoc ho]
    cases hx : isOf ks x.kind with
    | false =>
      rw [if_neg (by simp)]
      exact ⟨H, .last h ho hx, h, .refl _ _ _⟩
    | true =>
      rw [if_pos rfl]
      obtain ⟨H1, c1, c2, c3⟩ := conPop h ho hl
      rw [← popBd_snoc ho] at c2
      obtain ⟨H2, d1, d2, d3⟩ := ih (H := H1) (B := popBd B) (by rw [popBd_len ho]; rw [ho] at hn; simpa using hn) c2 (by rw [popBd_long]; exact hl)
      exact ⟨H2, .step h ho hx c1 d1, d2, c3.trans d3⟩
def shutBd (B : Bd) (ks : List Int) : Bd := shutN (endBd B).opens.length (endBd B) ks
theorem isOf_take {ks : List Int} {i : Int} {j : Nat} (h : j < ks.length) : isOf (ks.take (j + 1)) i = (isOf (ks.take j) i || decide (i = ks[j])) := by
  unfold isOf; rw [List.take_add_one, List.getElem?_eq_getElem h, List.any_append]; simp
set_option linter.unusedSimpArgs false in
set_option maxRecDepth 20000 in
set_option maxHeartbeats 8000000 in
theorem conShut {H : Heap} {b : Nat} {ro : Option (Nat × Nat)} {t : FV} {B : Bd} (h : BIn H b ro t B) (ks : List Int) (hl : B.long ≤ 300000000) (hks : ks.length ≤ 300000000) :
    ∃ H' t', Con C0 26 [.ptr b 0, .sc (.sl (ks.map (.int .i64)))] H (.tup []) H' ∧ BIn H' b ro t' (shutBd B ks) ∧ Frm H H' b ro := by
  obtain ⟨H1, t1, c1, c2, c3⟩ := conEnd h (by omega)
  have hel := endBd_long B
  obtain ⟨H2, d1, d2, d3⟩ := shutting (ks := ks) (endBd B).opens.length rfl c2 (by omega)
  refine ⟨H2, t1, ?_, d2, c3.trans d3⟩
  have hlen : (endBd B).opens.length ≤ 400000000 := by have := len_le_long (endBd B).opens; unfold Bd.long at hel hl; omega
  have hb1 := c2.box
  have hr1 := c2.row
  refine enter26 ?_
  simp [Tryd.f26]
  refine CallQ.mk (Call.shared callable11 c1) ?_
  cases ro with
  | none =>
    have hr' : (endBd B).opens = [] := hr1
    simp only [bCells, oF] at hb1
    have hH : H2 = H1 := by
      cases d1 with
      | none _ _ => rfl
      | last _ _ _ => rfl
      | step _ ho _ _ _ => rw [hr'] at ho; simp at ho
    subst hH
    simp [hb1, hr']
    refine loopC (fun d e H' => H' = H2 ∧ d = 0 ∧ e = [(0, .ptr b 0), (1, .sc (.sl (ks.map (.int .i64)))), (4, .sc (.int .i64 0)), (5, .undef), (7, .undef), (9, .sc (.bool false)), (18, .undef), (21, .undef), (22, .undef), (23, .undef), (24, .undef), (43, .undef)]) (d := 0) ⟨rfl, rfl, rfl⟩ ?_
    rintro d e H' ⟨rfl, rfl, rfl⟩
    simp
  | some p =>
    obtain ⟨r, g⟩ := p
    simp only [bCells, oF] at hb1
    simp [hb1]
    refine loopC (fun d e H' => ∃ (E : Bd) (x5 x7 x18 x21 x22 x23 x24 x43 : FV), Shutting b (some (r, g)) t1 ks H' E H2 ∧ d = E.opens.length ∧ E.opens.length ≤ 400000000 ∧ e = [(0, .ptr b 0), (1, .sc (.sl (ks.map (.int .i64)))), (4, .sc (.int .i64 E.opens.length)), (5, x5), (7, x7), (9, .sc (.bool false)), (18, x18), (21, x21), (22, x22), (23, x23), (24, x24), (43, x43)]) (d := (endBd B).opens.length) ⟨endBd B, .undef, .undef, .undef, .undef, .undef, .undef, .undef, .undef, d1, rfl, hlen, rfl⟩ ?_
    rintro d e H' ⟨E, x5, x7, x18, x21, x22, x23, x24, x43, hC, rfl, hle, rfl⟩
    rcases List.eq_nil_or_concat E.opens with ho | ⟨l, x, ho⟩
    · have hH : H' = H2 := by
        cases hC with
        | none _ _ => rfl
        | last _ _ _ => rfl
        | step _ ho' _ _ _ => rw [ho] at ho'; simp at ho'
      subst hH
      simp [ho]
    · rw [List.concat_eq_append] at ho
      have hb : BIn H' b (some (r, g)) t1 E := by cases hC <;> assumption
      obtain ⟨h1, rest, hnp, h2⟩ := hb.row
      have hbx := hb.box
      have hn : E.opens.length = l.length + 1 := by rw [ho]; simp
      simp only [bCells, oF, hn] at hbx
      have hat : (rowC E.opens ++ rest)[l.length * 10]? = some (.sc (.int .i64 x.kind)) := by
        rw [ho, rowC_app, List.append_assoc, List.getElem?_append_right (by rw [rowC_len]; omega), rowC_len, Nat.sub_self, rowC_one]; rfl
      generalize rowC E.opens ++ rest = c at h2 hat
      have w1 : IntKind.i64.wrap (l.length : Int) = l.length := wrap64 (by omega) (by omega)
      have n1 : (0 : Int) < (l.length : Int) + 1 := by omega
      have n2 : (l.length : Int) < (l.length : Int) + 1 := by omega
      simp [hn, n1]
      refine loopC (fun d e H'' => ∃ (j : Nat) (y7 y24 : FV), H'' = H' ∧ d = ks.length - j ∧ j ≤ ks.length ∧ e = [(0, .ptr b 0), (1, .sc (.sl (ks.map (.int .i64)))), (4, .sc (.int .i64 ((l.length : Int) + 1))), (5, .sc (.bool (isOf (ks.take j) x.kind))), (7, y7), (9, .sc (.bool false)), (18, .sc (.bool true)), (21, .sc (.sl (ks.map (.int .i64)))), (22, .sc (.int .i64 ks.length)), (23, .sc (.int .i64 j)), (24, y24), (43, x43)]) (d := ks.length) ⟨0, x7, x24, rfl, rfl, Nat.zero_le _, rfl⟩ ?_
      rintro d e H'' ⟨j, y7, y24, rfl, rfl, hj, rfl⟩
      simp
      refine CondC.mk (fun hlt => ?_) (fun hlt => ?_)
      · simp at hlt
        have hlt' : (j : Int) < (ks.length : Int) := by omega
        have hw : IntKind.i64.wrap ((j : Int) + 1) = ((j + 1 : Nat) : Int) := by rw [wrap64 (by omega) (by omega)]; omega
        have hst := isOf_take (ks := ks) (i := x.kind) hlt
        cases hi : isOf (ks.take j) x.kind with
        | true =>
          rw [hi, Bool.true_or] at hst
          simp [hlt, hlt', hw, hi]
          exact ⟨ks.length - (j + 1), by omega, j + 1, rfl, by omega, by simp [hst]⟩
        | false =>
          rw [hi, Bool.false_or] at hst
          simp [hlt, hlt', hw, hi, hbx, h2, hat, w1, n2]
          exact ⟨ks.length - (j + 1), by omega, j + 1, rfl, by omega, by simp [hst]⟩
      · simp at hlt
        obtain rfl : j = ks.length := by omega
        rw [List.take_length]
        cases hC with
        | none _ ho' => rw [ho] at ho'; simp at ho'
        | @last _ _ l' x' _ ho' hx =>
          obtain ⟨rfl, h⟩ := List.append_inj' (ho.symm.trans ho') rfl
          cases h
          simp [hx]
        | @step _ _ _ _ l' x' _ ho' hx hp hr2 =>
          obtain ⟨rfl, h⟩ := List.append_inj' (ho.symm.trans ho') rfl
          cases h
          have hpl := popBd_len ho
          simp [hx]
          refine CallQ.mk (Call.shared callable35 hp) ?_
          simp [w1]
          exact ⟨l.length, by omega, popBd E, hr2, hpl.symm, by omega, by simp [hpl]⟩
end Go.Proofs.YtlbjfjaleefiiaaDoor.Ev
end
section
namespace Go.Proofs.YtlbjfjaleefiiaaDoor.Ev
open Go
def emptyN : Nat → Bd → Bd
  | 0, B => B
  | n + 1, B => emptyN n (popBd B)
inductive Emptying (b : Nat) (ro : Option (Nat × Nat)) (t : FV) : Heap → Bd → Heap → Prop
  | none {H : Heap} {B : Bd} : BIn H b ro t B → B.opens = [] → Emptying b ro t H B H
  | step {H H1 H2 : Heap} {B : Bd} {l : List Node} {x : Node} : BIn H b ro t B → B.opens = l ++ [x] → Con C0 35 [.ptr b 0] H (.tup []) H1 → Emptying b ro t H1 (popBd B) H2 → Emptying b ro t H B H2
theorem emptying {b : Nat} {ro : Option (Nat × Nat)} {t : FV} : ∀ (n : Nat) {H : Heap} {B : Bd}, B.opens.length = n → BIn H b ro t B → B.long ≤ 400000000 →
    ∃ H', Emptying b ro t H B H' ∧ BIn H' b ro t (emptyN n B) ∧ Frm H H' b ro := by
  intro n
  induction n with
  | zero => intro H B hn h hl; exact ⟨H, .none h (List.length_eq_zero_iff.1 hn), h, .refl _ _ _⟩
  | succ n ih =>
    intro H B hn h hl
    rcases List.eq_nil_or_concat B.opens with ho | ⟨l, x, ho⟩
    · rw [ho] at hn; simp at hn
    rw [List.concat_eq_append] at ho
    obtain ⟨H1, c1, c2, c3⟩ := conPop h ho hl
    rw [← popBd_snoc ho] at c2
    obtain ⟨H2, d1, d2, d3⟩ := ih (H := H1) (B := popBd B) (by rw [popBd_len ho]; rw [ho] at hn; simpa using hn) c2 (by rw [popBd_long]; exact hl)
    exact ⟨H2, .step h ho c1 d1, d2, c3.trans d3⟩
def docBd (B : Bd) : Bd := emptyN (endBd B).opens.length (endBd B)
theorem emptyN_long (n : Nat) : ∀ B : Bd, (emptyN n B).long = B.long := by
  induction n with
  | zero => intro B; rfl
  | succ n ih => intro B; rw [emptyN, ih, popBd_long]
def docD (B : Bd) : Doc := tidyD ⟨(docBd B).name, (docBd B).part, (docBd B).date, (docBd B).source, (docBd B).kids⟩
def docZ : List FV := [.sc (.str ByteArray.empty), .sc (.str ByteArray.empty), .sc (.str ByteArray.empty), .sc (.str ByteArray.empty), .own []]
structure CIn (H H' : Heap) (ro : Option (Nat × Nat)) (t : FV) (B : Bd) : Prop where
  bin : BIn H' (H.length + 1) ro t B
  fr : FrG (H ++ [docZ]) H' (H.length + 1) none ro
theorem CIn.lt {H H' : Heap} {ro : Option (Nat × Nat)} {t : FV} {B : Bd} (h : CIn H H' ro t B) : H.length + 1 < H'.length := (List.getElem?_eq_some_iff.1 h.bin.box).1
theorem CIn.old {H H' : Heap} {ro : Option (Nat × Nat)} {t : FV} {B : Bd} (h : CIn H H' ro t B) {i : Nat} (hi : i < H.length) : H'[i]? = H[i]? := by
  rw [h.fr.same i (by simp; omega) (by omega) (fun r g hr => by simp at hr), heap_old hi]
theorem CIn.doc {H H' : Heap} {ro : Option (Nat × Nat)} {t : FV} {B : Bd} (h : CIn H H' ro t B) : H'[H.length]? = some docZ := by
  rw [h.fr.same _ (by simp) (by omega) (fun r g hr => by simp at hr), heap_at0]; rfl
theorem CIn.first {H : Heap} {t : FV} {B : Bd} (hok : HOk H) (ht : t = .sc (gl B.text)) (ho : B.opens = []) : CIn H (H ++ [docZ, bCells B (.own []) t]) none t B where
  bin := ⟨by
      simp [oF], ho, .inl ht, by
      have h1 := hok.more (fs := docZ) (fun f hf => by
        simp only [body, docZ, List.mem_cons, List.not_mem_nil, or_false] at hf
        rcases hf with rfl | rfl | rfl | rfl | rfl <;> rfl)
      have h2 := h1.more (fs := bCells B (.own []) t) (HOk.build ⟨rfl, by rw [ht]; rfl⟩)
      simpa using h2⟩
  fr := ⟨by simp, fun i hi _ _ => by
      have := heap_old (H := H ++ [docZ]) (L := [bCells B (.own []) t]) hi
      simpa using this, fun r g hr => by simp at hr, fun _ r g hr => by simp at hr⟩
theorem nodeD_und (x : Node) (n : Nat) : ∀ f ∈ body (nodeD x), f.und0 n = true := fun f hf => by
  simp only [body, nodeD, List.mem_cons, List.not_mem_nil, or_false] at hf
  rcases hf with rfl | rfl | rfl | rfl | rfl | rfl | rfl | rfl | rfl | rfl <;> rfl
theorem FrG.more {A H : Heap} {b : Nat} {r1 r2 : Option (Nat × Nat)} (h : FrG A H b r1 r2) (L : Heap) : FrG A (H ++ L) b r1 r2 :=
  ⟨by have := h.le; simp; omega, fun i hi h1 h2 => by rw [heap_old (Nat.lt_of_lt_of_le hi h.le)]; exact h.same i hi h1 h2, h.row⟩
theorem FrG.put {A H : Heap} {b : Nat} {r1 r2 : Option (Nat × Nat)} (h : FrG A H b r1 r2) (w : List FV) : FrG A (H.set b w) b r1 r2 :=
  ⟨by rw [List.length_set]; exact h.le, fun i hi h1 h2 => by rw [List.getElem?_set_ne (fun hh => h1 hh.symm)]; exact h.same i hi h1 h2, h.row⟩
theorem CIn.kid {H H' : Heap} {t : FV} {B : Bd} (h : CIn H H' none t B) (y : Node) :
    CIn H (H'.set (H.length + 1) (bCells { B with kids := B.kids ++ [y] } (.own []) t) ++ [nodeD y]) none t { B with kids := B.kids ++ [y] } where
  bin := by
    have hb : BIn (H'.set (H.length + 1) (bCells { B with kids := B.kids ++ [y] } (.own []) t)) (H.length + 1) none t { B with kids := B.kids ++ [y] } :=
      ⟨by rw [List.getElem?_set_self h.lt]; rfl, h.bin.row, h.bin.txt, h.bin.ok.set' (HOk.build ⟨rfl, (h.bin.ok.cells h.bin.box).2⟩)⟩
    exact hb.more (nodeD_und y _)
  fr := (h.fr.put _).more _
theorem CIn.row0 {H H' : Heap} {t : FV} {B : Bd} (h : CIn H H' none t B) (y : Node) :
    CIn H (H'.set (H.length + 1) (bCells { B with opens := [y] } (.gr (H'.length + 1) 0 10 1) t) ++ [nodeD y, [.row 0 (nodeO y)]]) (some (H'.length + 1, 0)) t { B with opens := [y] } where
  bin := by
    have hlt := h.lt
    have hl : (H'.set (H.length + 1) (bCells { B with opens := [y] } (.gr (H'.length + 1) 0 10 1) t)).length = H'.length := by simp
    refine ⟨?_, ⟨by omega, [], by simp, ?_⟩, h.bin.txt, ?_⟩
    · rw [heap_old (by rw [hl]; exact hlt), List.getElem?_set_self hlt]; rfl
    · rw [List.getElem?_append_right (by omega), hl, rowC_one, List.append_nil, Nat.add_sub_cancel_left]; rfl
    · intro gs hg f hf
      have hu := fun (m : Nat) (hm : H'.length + 1 < m) => HOk.build (n := m) (B := { B with opens := [y] }) (o := .gr (H'.length + 1) 0 10 1) (t := t) ⟨by simpa [FV.und0] using hm, und0_mono (by omega) (h.bin.ok.cells h.bin.box).2⟩
      rw [List.length_append, hl]
      simp only [List.length_cons, List.length_nil]
      rcases List.mem_append.1 hg with h' | h'
      · rcases List.mem_or_eq_of_mem_set h' with h' | rfl
        · exact und0_mono (by omega) (h.bin.ok gs h' f hf)
        · exact hu _ (by omega) f hf
      · simp only [List.mem_cons, List.not_mem_nil, or_false] at h'
        rcases h' with rfl | rfl
        · exact nodeD_und y _ f hf
        · exact nodeO_und y _ f hf
  fr := by
    have h1 := (h.fr.put (bCells { B with opens := [y] } (.gr (H'.length + 1) 0 10 1) t)).more [nodeD y, [.row 0 (nodeO y)]]
    have hlt := h.lt
    exact ⟨h1.le, h1.same, fun r g hr => by simp at hr, fun _ r g hr => by
      simp only [Option.some.injEq, Prod.mk.injEq] at hr
      rw [List.length_append]; simp; omega⟩
theorem CIn.rowS {H H' : Heap} {t : FV} {B : Bd} {r g : Nat} (h : CIn H H' (some (r, g)) t B) (y : Node) :
    CIn H ((H'.set r [.row (g + 1) (rowC B.opens ++ nodeO y)]).set (H.length + 1) (bCells { B with opens := B.opens ++ [y] } (.gr r (g + 1) 10 (B.opens.length + 1)) t) ++ [nodeD y]) (some (r, g + 1)) t { B with opens := B.opens ++ [y] } where
  bin := by
    have hlt := h.lt
    obtain ⟨k1, rest, hnp, k2⟩ := h.bin.row
    have hrl : r < H'.length := (List.getElem?_eq_some_iff.1 k2).1
    have hb : BIn ((H'.set r [.row (g + 1) (rowC B.opens ++ nodeO y)]).set (H.length + 1) (bCells { B with opens := B.opens ++ [y] } (.gr r (g + 1) 10 (B.opens.length + 1)) t)) (H.length + 1) (some (r, g + 1)) t { B with opens := B.opens ++ [y] } := by
      refine ⟨?_, ⟨k1, [], by simp, ?_⟩, h.bin.txt, ?_⟩
      · rw [List.getElem?_set_self (by simpa using hlt)]; simp [oF]
      · rw [List.getElem?_set_ne (fun h => k1 h.symm), List.getElem?_set_self hrl, rowC_app, rowC_one, List.append_nil]
      · have hcell : ∀ f ∈ body (bCells { B with opens := B.opens ++ [y] } (.gr r (g + 1) 10 (B.opens.length + 1)) t), f.und0 H'.length = true := HOk.build ⟨by simpa [FV.und0] using hrl, (h.bin.ok.cells h.bin.box).2⟩
        have h5 := h.bin.ok.set' (b := r) (fs := [.row (g + 1) (rowC B.opens ++ nodeO y)]) (fun f hf => by
          rcases List.mem_append.1 (show f ∈ rowC B.opens ++ nodeO y from hf) with h' | h'
          · exact rowC_und _ _ f h'
          · exact nodeO_und y _ f h')
        exact h5.set' (by simpa using hcell)
    exact hb.more (nodeD_und y _)
  fr := by
    have hr := h.fr.row.2 rfl r g rfl
    have h0 : FrG (H ++ [docZ]) (H'.set r [.row (g + 1) (rowC B.opens ++ nodeO y)]) (H.length + 1) none (some (r, g)) :=
      ⟨by rw [List.length_set]; exact h.fr.le, fun i hi h1 h2 => by rw [List.getElem?_set_ne (by omega)]; exact h.fr.same i hi h1 h2, h.fr.row⟩
    have h1 := (h0.put (bCells { B with opens := B.opens ++ [y] } (.gr r (g + 1) 10 (B.opens.length + 1)) t)).more [nodeD y]
    exact ⟨h1.le, h1.same, fun r g hr => by simp at hr, fun _ r' g' hr' => by
      simp only [Option.some.injEq, Prod.mk.injEq] at hr'
      omega⟩
def oL (ro : Option (Nat × Nat)) (n : Nat) : FV := match ro with
  | none => .sc (.sl [])
  | some (r, g) => .gr r g 10 n
theorem CIn.cut {H H' : Heap} {ro : Option (Nat × Nat)} {t : FV} {B : Bd} (h : CIn H H' ro t B) (w : List FV) : (H'.set H.length w).take H.length = H := by
  have hlt := h.lt
  apply List.ext_getElem?
  intro i
  by_cases hi : i < H.length
  · rw [List.getElem?_take_of_lt hi, List.getElem?_set_ne (by omega), h.old hi]
  · rw [List.getElem?_eq_none (by rw [List.length_take]; omega), List.getElem?_eq_none (by omega)]
set_option linter.unusedSimpArgs false in
set_option maxRecDepth 20000 in
set_option maxHeartbeats 16000000 in
theorem conDoc {H : Heap} {b : Nat} {ro : Option (Nat × Nat)} {t : FV} {B : Bd} (h : BIn H b ro t B) (hl : B.long ≤ 300000000) :
    Con C0 12 [.ptr b 0] H (docD B).pv.toFV H := by
  have hbl : b < H.length := (List.getElem?_eq_some_iff.1 h.box).1
  generalize hR : (docD B).pv.toFV = R
  refine con_trimU (C := C0) (fn := Tryd.f12) Tryd.func12 rfl (by decide) mixed (mv := mv12) (vars := vars12) (c := Tryd.f12.body.getD .skip) (by kernel_rfl) (by subst hR; rfl) h.ok ?_
  have hb := h.box
  have hr := h.row
  simp only [bCells] at hb
  generalize hoF : oF ro B.opens.length = o at hb
  have c0 : ∀ p : FV, p = .sc (gl B.text) → CIn H (H ++ [docZ, bCells { B with kids := [], opens := [] } (.own []) p]) none (.sc (gl B.text)) { B with kids := [], opens := [] } := fun p hp => by subst hp; exact .first h.ok rfl rfl
  have hkl := len_le_long B.kids
  have hol := len_le_long B.opens
  unfold Bd.long at hl
  rcases h.txt with rfl | ⟨htn, rfl⟩
  all_goals
    simp [Tryd.f12, hb, heap_old hbl, gl]
    refine loopC (fun d e H' => ∃ (i : Nat) (x5 x40 : FV), CIn H H' none (.sc (gl B.text)) { B with kids := B.kids.take i, opens := [] } ∧ d = B.kids.length - i ∧ i ≤ B.kids.length ∧ e = [(0, .ptr b 0), (2, .ptr H.length 0), (3, .ptr (H.length + 1) 0), (5, x5), (7, .undef), (9, .sc (.bool false)), (37, .sc (.sl (B.kids.map Node.pv))), (38, .sc (.int .i64 B.kids.length)), (39, .sc (.int .i64 i)), (40, x40), (61, .undef), (62, .undef), (63, .undef), (64, .undef), (87, .undef)]) (d := B.kids.length) ⟨0, .undef, .undef, c0 _ (by first | rfl | (rw [htn]; rfl)), rfl, Nat.zero_le _, rfl⟩ ?_
    rintro d e H' ⟨i, x5, x40, hC, rfl, hi, rfl⟩
    simp
    refine CondC.mk (fun hlt => ?_) (fun hlt => ?_)
    · simp at hlt
      have hq : (B.kids.map Node.pv)[i]? = some (B.kids[i]).pv := by simp [hlt]
      have ht := takeMap hq
      have hK := hC.kid B.kids[i]
      have hkk : B.kids.take i ++ [B.kids[i]] = B.kids.take (i + 1) := by rw [List.take_add_one, List.getElem?_eq_getElem hlt]; rfl
      rw [hkk] at hK
      have hyl := sumBy_mem' Node.long (List.getElem_mem hlt)
      have sr := sizedTake (sizedN B.kids) i
      have hw : IntKind.i64.wrap ((i : Int) + 1) = ((i + 1 : Nat) : Int) := by rw [wrap64 (by omega) (by omega)]; omega
      generalize B.kids[i] = y at hq hyl hK ht
      have cc := conCopied (SizeOf.sizeOf y + 1) y (Nat.lt_succ_self _) (by omega)
      rw [Node.toFV_eq] at cc
      rw [Node.pv_eq] at hq ht
      simp only [gl] at cc hq ht
      have hbx := hC.bin.box
      have hcl := hC.lt
      simp only [bCells, oF] at hbx
      simp only [bCells, nodeD] at hK
      have s1 : ∀ (v w : List FV) (L : Heap), (H'.set (H.length + 1) v ++ L).set (H.length + 1) w = H'.set (H.length + 1) w ++ L := fun v w L => hs_set hcl
      have hlen : min i B.kids.length = i := Nat.min_eq_left hi
      have n1 : (i : Int) < (i : Int) + 1 := by omega
      simp [hq]
      refine DrawC.mk (fun _ _ => .oagg (nodeO y)) ?_
      simp [hbx, heap_old hcl, heap_old_set hcl, hs_at, hs_at0, hs_b hcl, s1]
      refine ⟨?_, ?_, ?_⟩
      all_goals
        refine CallQ.mk (CallD.pure callable34 (by simp) (by simp [nodeO]) cc rfl) ?_
        simp [hbx, heap_old hcl, heap_old_set hcl, hs_at, hs_at0, hs_b hcl, s1, hsetB hcl, nodeO, sized1, lenMax, sr, hw, ht, hlen, n1]
        rw [List.map_take] at hK
        exact ⟨by omega, B.kids.length - (i + 1), by omega, i + 1, hK, rfl, by omega, by omega⟩
    · simp at hlt
      obtain rfl : i = B.kids.length := by omega
      rw [List.take_length] at hC
      have hbo := (hC.old hbl).trans hb
      obtain ⟨o61, ho61⟩ : ∃ o61, o61 = oL ro B.opens.length := ⟨_, rfl⟩
      rcases ro with _ | ⟨r, g⟩
      all_goals
        subst hoF
        simp only [oF] at hbo
        first
          | (have hr' : B.opens = [] := hr
             simp [hbo, hr'])
          | simp [hbo]
        refine loopC (fun d e H'' => ∃ (j : Nat) (ro' : Option (Nat × Nat)) (x7 x64 : FV), CIn H H'' ro' (.sc (gl B.text)) { B with opens := B.opens.take j } ∧ d = B.opens.length - j ∧ j ≤ B.opens.length ∧ e = [(0, .ptr b 0), (2, .ptr H.length 0), (3, .ptr (H.length + 1) 0), (5, x5), (7, x7), (9, .sc (.bool false)), (37, .sc (.sl (B.kids.map Node.pv))), (38, .sc (.int .i64 B.kids.length)), (39, .sc (.int .i64 B.kids.length)), (40, .sc (.bool false)), (61, o61), (62, .sc (.int .i64 B.opens.length)), (63, .sc (.int .i64 j)), (64, x64), (87, .undef)]) (d := B.opens.length) ⟨0, none, .undef, .undef, hC, rfl, Nat.zero_le _, by first | simp [ho61, oL, hr'] | simp [ho61, oL]⟩ ?_
        rintro d e H2 ⟨j, ro', x7, x64, hD, rfl, hj, rfl⟩
        simp
        refine CondC.mk (fun hlt2 => ?_) (fun hlt2 => ?_)
        · simp at hlt2
          first
            | (rw [hr'] at hlt2; exact absurd hlt2 (by simp))
            | (obtain ⟨h1, rest, hnp, k2⟩ := hr
               have hrl : r < H.length := (List.getElem?_eq_some_iff.1 k2).1
               have k3 := (hD.old hrl).trans k2
               obtain ⟨ra, rb⟩ := row_at (l := B.opens) (rest := rest) hlt2
               have hyl := sumBy_mem' Node.long (List.getElem_mem hlt2)
               have hw : IntKind.i64.wrap ((j : Int) + 1) = ((j + 1 : Nat) : Int) := by rw [wrap64 (by omega) (by omega)]; omega
               have hkk : B.opens.take j ++ [B.opens[j]] = B.opens.take (j + 1) := by rw [List.take_add_one, List.getElem?_eq_getElem hlt2]; rfl
               have hlt3 : (j : Int) < (B.opens.length : Int) := by omega
               generalize B.opens[j] = y at ra hyl hkk
               have cc := conCopied (SizeOf.sizeOf y + 1) y (Nat.lt_succ_self _) (by omega)
               rw [Node.toFV_eq] at cc
               simp only [gl] at cc
               generalize rowC B.opens ++ rest = cs at k3 ra rb
               simp only [nodeD] at ra
               have hcl := hD.lt
               have hcl2 : H2.length ≠ H.length + 1 := by omega
               simp only [oL] at ho61
               have hbx := hD.bin.box
               rcases ro' with _ | ⟨r', g'⟩
               · have hj0 : B.opens.take j = [] := hD.bin.row
                 obtain rfl : j = 0 := by
                   rcases List.take_eq_nil_iff.1 hj0 with h | h
                   · exact h
                   · rw [h] at hlt2; exact absurd hlt2 (by simp)
                 simp only [Nat.zero_mul, List.drop_zero, Nat.zero_add] at ra rb
                 have hK := hD.row0 y
                 rw [hj0, List.nil_append] at hkk
                 rw [hkk] at hK
                 simp only [bCells, oF] at hbx
                 simp only [bCells, nodeD] at hK
                 have s1 : ∀ (v w : List FV) (L : Heap), (H2.set (H.length + 1) v ++ L).set (H.length + 1) w = H2.set (H.length + 1) w ++ L := fun v w L => hs_set hcl
                 simp [hlt2, k3, ra, rb, ho61]
                 refine DrawC.mk (fun _ _ => .oagg (nodeO y)) ?_
                 simp [hbx, heap_old hcl, heap_old_set hcl, hs_at, hs_at0, hs_b hcl, s1]
                 refine ⟨?_, ?_, ?_⟩
                 all_goals
                   refine CallQ.mk (CallD.pure callable34 (by simp) (by simp [nodeO]) cc rfl) ?_
                   simp [hbx, heap_old hcl, heap_old_set hcl, hs_at, hs_at0, hs_b hcl, s1, hsetB hcl, nodeO, sized1, lenMax]
                   exact ⟨B.opens.length - 1, by omega, 1, ⟨_, hK⟩, rfl, by omega, by decide⟩
               · have hK := hD.rowS y
                 obtain ⟨k1, rest', hnp', kr⟩ := hD.bin.row
                 have hrl' : r' < H2.length := (List.getElem?_eq_some_iff.1 kr).1
                 have k1s : H.length + 1 ≠ r' := fun h => k1 h.symm
                 have hjl : (B.opens.take j).length = j := by rw [List.length_take]; omega
                 simp only [hkk, hjl] at hK hbx kr
                 simp only [bCells, oF] at hbx
                 simp only [bCells, nodeD] at hK
                 have hcl3 : (rowC (B.opens.take j)).length = j * 10 := by rw [rowC_len, hjl]
                 generalize rowC (B.opens.take j) = rc at kr hK hcl3
                 have hk0 : j * 10 ≤ (rc ++ rest').length := by rw [List.length_append]; omega
                 have kr2 : H2[r'] = [.row g' (rc ++ rest')] := (List.getElem?_eq_some_iff.1 kr).2
                 have tk : List.take (j * 10) (rc ++ rest') = rc := List.take_left' hcl3
                 have hsp : ∀ z v : List FV, z.length = v.length → splice (rc ++ z) (j * 10) v = rc ++ v := fun z v hz => splice_end hz hcl3
                 have n1 : (j : Int) < (j : Int) + 1 := by omega
                 have hs9 : ∀ a0 a1 a2 a3 a4 a5 a6 a7 a8 v : FV, splice [a0, a1, a2, a3, a4, a5, a6, a7, a8] 5 [v] = [a0, a1, a2, a3, a4, v, a6, a7, a8] := fun _ _ _ _ _ _ _ _ _ _ => rfl
                 have hsb : ∀ v : List FV, (H2.set r' v)[H.length + 1]? = H2[H.length + 1]? := fun v => List.getElem?_set_ne k1
                 have hsr : ∀ v : List FV, (H2.set (H.length + 1) v)[r']? = H2[r']? := fun v => List.getElem?_set_ne (fun h => k1 h.symm)
                 have hcm : ∀ v w : List FV, (H2.set (H.length + 1) v).set r' w = (H2.set r' w).set (H.length + 1) v := fun v w => List.set_comm v w (fun h => k1 h.symm)
                 have hbb : ∀ v : List FV, (H2.set (H.length + 1) v)[H.length + 1]? = some v := fun v => hsetB hcl
                 have hrr : ∀ v : List FV, (H2.set r' v)[r']? = some v := fun v => hsetB hrl'
                 have hbr : ∀ v w : List FV, ((H2.set r' v).set (H.length + 1) w)[r']? = some v := fun v w => by rw [List.getElem?_set_ne (fun h => k1 h.symm)]; exact hrr v
                 have hbw : ∀ v w : List FV, ((H2.set r' v).set (H.length + 1) w)[H.length + 1]? = some w := fun v w => hsetB (by simpa using hcl)
                 have hcw : ∀ v w u : List FV, ((H2.set r' v).set (H.length + 1) w).set r' u = (H2.set r' u).set (H.length + 1) w := fun v w u => by rw [hcm2 k1, List.set_set]
                 simp [hlt2, k3, ra, rb, ho61]
                 refine DrawC.mk (fun _ _ => .oagg (nodeO y)) ?_
                 simp [hbx, heap_old hcl, heap_old_set hcl, hs_at, hs_at0, hs_b hcl, -splice]
                 refine ⟨?_, ?_, ?_⟩
                 all_goals
                   refine CallQ.mk (CallD.pure callable34 (by simp) (by simp [nodeO]) cc rfl) ?_
                   simp [hbx, kr, List.set_append_left, List.getElem?_append_left, hcl, hrl', kr2, List.getElem_set_ne k1, List.getElem_set_ne k1s, hbb, hsr, hcm, hbr, hbw, hcw, hs9, hsp, tk, hk0, hcl3, n1, nodeO, sized1, lenMax, hw, -splice]
                   exact ⟨by omega, B.opens.length - (j + 1), by omega, j + 1, ⟨_, hK⟩, rfl, by omega, by omega⟩)
        · simp at hlt2
          obtain rfl : j = B.opens.length := by omega
          rw [List.take_length] at hD
          obtain ⟨H3, t3, e1, e2, e3⟩ := conEnd hD.bin (by show Bd.long B ≤ _; unfold Bd.long; omega)
          obtain ⟨H4, f1, f2, f3⟩ := emptying (endBd B).opens.length rfl e2 (by have := endBd_long B; unfold Bd.long at this ⊢; omega)
          have hE : CIn H H4 ro' t3 (docBd B) := ⟨f2, (hD.fr.trans e3.toG).trans f3.toG⟩
          have hlg : (docBd B).long ≤ 400000000 := by
            show Bd.long (emptyN _ _) ≤ _
            rw [emptyN_long]; have := endBd_long B; unfold Bd.long at this ⊢; omega
          have hsk : sumBy Node.long (docBd B).kids ≤ 1073741824 := by unfold Bd.long at hlg; omega
          have hkl := len_le_long (docBd B).kids
          have ct := treeTidy' fitS ⟨(docBd B).name, (docBd B).part, (docBd B).date, (docBd B).source, (docBd B).kids⟩ (small_of hsk) (by show (docBd B).kids.length ≤ _; omega)
          have hEb := hE.bin.box
          have hEd := hE.doc
          have hEl := hE.lt
          have hcut := fun w => hE.cut w
          have hlen0 : (endBd B).opens.length ≤ 400000000 := by
            have h1 := endBd_long B
            have h2 := len_le_long (endBd B).opens
            unfold Bd.long at h1; omega
          have hR' : R = .agg [.sc (.str (docBd B).name), .sc (.str (docBd B).part), .sc (.str (docBd B).date), .sc (.str (docBd B).source), .sc (.sl ((tidyL 0 0 20000 (docBd B).kids).1.map Node.pv))] := by rw [← hR]; simp [docD, tidyD, Doc.pv]
          simp only [docZ] at hEd
          simp only [bCells] at hEb
          generalize docBd B = F at *
          simp
          refine CallQ.mk (Call.shared callable11 e1) ?_
          simp
          refine loopC (fun d e H'' => ∃ (E : Bd) (x87 : FV), Emptying (H.length + 1) ro' t3 H'' E H4 ∧ d = E.opens.length ∧ E.opens.length ≤ 400000000 ∧ e = [(0, .ptr b 0), (2, .ptr H.length 0), (3, .ptr (H.length + 1) 0), (5, x5), (7, x7), (9, .sc (.bool false)), (37, .sc (.sl (B.kids.map Node.pv))), (38, .sc (.int .i64 B.kids.length)), (39, .sc (.int .i64 B.kids.length)), (40, .sc (.bool false)), (61, o61), (62, .sc (.int .i64 B.opens.length)), (63, .sc (.int .i64 B.opens.length)), (64, .sc (.bool false)), (87, x87)]) (d := (endBd B).opens.length) ⟨endBd B, .undef, f1, rfl, hlen0, by first | rfl | simp⟩ ?_
          rintro d e H5 ⟨E, x87, hF, rfl, hel, rfl⟩
          cases hF with
          | none hb5 ho =>
            have hq : oF ro' F.opens.length = oF ro' 0 := by
              have h1 := hEb.symm.trans hb5.box
              rw [ho] at h1
              have h2 := congrArg (fun o => (o.getD [])[5]?) h1
              simpa [bCells] using h2
            rw [hq] at hEb
            rcases ro' with _ | ⟨r', g'⟩
            all_goals
              simp only [oF] at hEb
              simp [hEb]
              refine CallQ.mk (Call.pure callable36 (by simp) (by simp) ct) ?_
              simp [hEd, hcut, hR', hsetB (Nat.lt_trans (Nat.lt_succ_self _) hEl)]
          | @step _ H6 _ _ l x hb5 ho hp hr2 =>
            have hpl := popBd_len ho
            have hn : E.opens.length = l.length + 1 := by rw [ho]; simp
            have hbx := hb5.box
            have n1 : (0 : Int) < (l.length : Int) + 1 := by omega
            rcases ro' with _ | ⟨r', g'⟩
            · have h9 : E.opens = [] := hb5.row
              rw [h9] at hn; simp at hn
            · simp only [bCells, oF, hn] at hbx
              simp [hbx, n1, hn]
              refine CallQ.mk (Call.shared callable35 hp) ?_
              simp
              exact ⟨l.length, by omega, popBd E, hr2, hpl.symm, by omega⟩
end Go.Proofs.YtlbjfjaleefiiaaDoor.Ev
end
section
namespace Go.Proofs.YtlbjfjaleefiiaaDoor.Ev
open Go
def rEnd (B : Bd) : Bd := { (if trimG B.text = [] then B else layBd B (paraB B)) with text := [], has := false, line := 0 }
def rText (B : Bd) (l : List Glyph) (line : Int) : Bd := { B with line := if B.has = false then line else B.line, has := true, text := joinS B.text l }
end Go.Proofs.YtlbjfjaleefiiaaDoor.Ev
end
section
namespace Go.Proofs.YtlbjfjaleefiiaaDoor.Ev
open Go
structure Do8 where
  kind : Int
  s : List ByteArray
  x : Node
  n : Int
  l : List Int
  g : List Glyph
def Do8.cells (d : Do8) : List PV := [.int .i64 d.kind, .sl (d.s.map .str), .int .i64 d.x.kind, .int .i64 d.x.line, .int .i64 d.x.n, gl d.x.text, .sl (d.x.kids.map Node.pv), .sl (d.x.rows.map gl), .str d.x.grid.cols, .sl (d.x.grid.rows.map TRow.pv), .bool d.x.grid.box, .bool d.x.grid.all, .int .i64 d.n, .sl (d.l.map (.int .i64)), gl d.g]
def Do8.pv (d : Do8) : PV := .agg d.cells
def Do8.long (d : Do8) : Nat := 2 + d.g.length + d.l.length + d.x.long
def nameS (l : List ByteArray) (k : Nat) : ByteArray := (l[k]?).getD ByteArray.empty
set_option linter.unusedSimpArgs false in
set_option maxRecDepth 20000 in
theorem law8Name (l : List ByteArray) (k : Nat) (hk : k < 1000) (hl : l.length ≤ 1073741824) : PCon C0 39 [.sc (.sl (l.map .str)), .sc (.int .i64 k)] (.sc (.str (nameS l k))) := by
  refine penter39 ?_
  by_cases h : k < l.length
  · have h1 : ¬ (l.length : Int) ≤ (k : Int) := by omega
    have h2 : (k : Int) < (l.length : Int) := by omega
    simp [Tryd.f39, h, h1, h2, nameS]
  · have h1 : (l.length : Int) ≤ (k : Int) := by omega
    have h2 : l.length ≤ k := by omega
    simp [Tryd.f39, h, h1, h2, nameS]
    rfl
def rStep (B : Bd) (d : Do8) : Bd × Bool :=
  if d.kind = 1 then ({ B with name := nameS d.s 0, part := nameS d.s 1, date := nameS d.s 2, source := nameS d.s 3 }, false)
  else if d.kind = 2 then ({ rEnd B with opens := (rEnd B).opens ++ [d.x] }, false)
  else if d.kind = 3 then (if insideB (rEnd B).opens d.n = true then closeN (rEnd B).opens.length (rEnd B) d.n else rEnd B, insideB (rEnd B).opens d.n)
  else if d.kind = 4 then (shutN (rEnd B).opens.length (rEnd B) d.l, false)
  else if d.kind = 5 then (rText B d.g d.n, false)
  else if d.kind = 6 then (rEnd B, false)
  else (layBd (rEnd B) d.x, false)
end Go.Proofs.YtlbjfjaleefiiaaDoor.Ev
end
section
namespace Go.Proofs.YtlbjfjaleefiiaaDoor.Ev
open Go
section
variable {H X : Heap} {b : Nat}
theorem okT (h : HOk H) (k : Int) : ∀ fs ∈ H.set b [FV.sc (.int .i64 k)], ∀ f ∈ body fs, f.und0 H.length = true := h.set (fun f hf => by
  simp only [body, List.mem_singleton] at hf
  subst hf; rfl)
theorem okSet (hb : b < H.length) (h : HOk (H ++ X)) (k : Int) : HOk (H.set b [FV.sc (.int .i64 k)] ++ X) := by
  have := h.set' (b := b) (fs := [FV.sc (.int .i64 k)]) (fun f hf => by
    simp only [body, List.mem_singleton] at hf
    subst hf; rfl)
  rwa [List.set_append_left _ _ hb] at this
theorem ok1 (h : HOk (H ++ X)) {u : List FV} (hu : ∀ f ∈ body u, f.np0 = true) : HOk (H ++ (X ++ [u])) := by
  rw [← List.append_assoc]
  exact h.more fun f hf => FV.und_np (hu f hf)
theorem ok2 (h : HOk (H ++ X)) {u v : List FV} (hu : ∀ f ∈ body u, f.np0 = true) (hv : ∀ f ∈ body v, f.np0 = true) : HOk (H ++ (X ++ [u, v])) := by
  have := ok1 (ok1 h hu) hv
  rwa [List.append_assoc] at this
end
set_option linter.unusedSimpArgs false in
set_option maxRecDepth 20000 in
set_option maxHeartbeats 16000000 in
theorem treeNodesU {P : Node → Prop} (hP : Fit P) : ∀ (n : Nat) (a : List Node), SizeOf.sizeOf a < n → (∀ x ∈ a, P x) → a.length ≤ 4611686018427387904 → ∀ (H : Heap) (b : Nat) (inn d : Int) (left : Nat), 0 ≤ d → d ≤ 20 → left ≤ 1073741824 →
    H[b]? = some [.sc (.int .i64 left)] → HOk H →
    Con C0 56 [.ptr b 0, .sc (.sl (a.map Node.pv)), .sc (.int .i64 inn), .sc (.int .i64 d)] H (.own ((tidyL inn d left a).1.map Node.pv)) (H.set b [.sc (.int .i64 (tidyL inn d left a).2)]) := by
  intro n
  induction n with
  | zero => intro a h; omega
  | succ n ih =>
    intro a hn hall hla H b inn d left hd0 hd1 hleft hb hp
    have hbl : b < H.length := (List.getElem?_eq_some_iff.1 hb).1
    refine con_trimU (C := C0) (fn := Tryd.f56) Tryd.func56 rfl (by decide) mixed (mv := [60, 64, 80, 81, 82, 83, 84, 109, 113, 118]) (vars := [0, 1, 2, 3, 8, 9, 11, 12, 13, 14, 16, 20, 21, 22, 23, 30, 32, 55, 59, 85, 90, 108]) (c := Tryd.f56.body.getD .skip) rfl rfl (okT hp _) ?_
    simp [Tryd.f56]
    refine loopC (fun dd e H' => ∃ (i : Nat) (out : List Node) (k : Nat) (X : Heap) (x11 x12 x13 x14 x16 x23 x30 x32 x55 x59 x85 x90 x108 : FV), dd = a.length - i ∧ i ≤ a.length ∧ H' = H.set b [.sc (.int .i64 k)] ++ X ∧ HOk (H ++ X) ∧ k ≤ left ∧ out.length + k ≤ left ∧
        ((tidyL inn d left a).1 = out ++ (tidyL inn d k (a.drop i)).1 ∧ (tidyL inn d left a).2 = (tidyL inn d k (a.drop i)).2) ∧
        e = [(0, FV.ptr b 0), (1, .sc (.sl (a.map Node.pv))), (2, .sc (.int .i64 inn)), (3, .sc (.int .i64 d)), (8, FV.own []), (9, FV.own (out.map Node.pv)), (11, x11), (12, x12), (13, x13), (14, x14), (16, x16), (20, .sc (.sl (a.map Node.pv))), (21, .sc (.int .i64 a.length)), (22, .sc (.int .i64 i)), (23, x23), (30, x30), (32, x32), (55, x55), (59, x59), (85, x85), (90, x90), (108, x108)]) (d := a.length)
        ⟨0, [], left, [], .undef, .undef, .undef, .undef, .undef, .undef, .undef, .undef, .undef, .undef, .undef, .undef, .undef, by omega, by omega, ?_, by rw [List.append_nil]; exact hp, by omega, by simp, by simp, by simp⟩ ?_
    · rw [List.append_nil, set_same hb]
    · rintro dd e H' ⟨i, out, k, X, x11, x12, x13, x14, x16, x23, x30, x32, x55, x59, x85, x90, x108, rfl, hi, rfl, hX, hk, hout, ⟨ho1, ho2⟩, rfl⟩
      have hbs : b < (H.set b [FV.sc (.int .i64 k)]).length := by simpa using hbl
      have hbg : (H.set b [FV.sc (.int .i64 k)])[b]? = some [FV.sc (.int .i64 k)] := by simp [hbl]
      simp
      refine CondC.mk (fun hlt => ?_) (fun hlt => ?_)
      · simp at hlt
        have ea := Node.pv_eq a[i]
        simp [hlt, ea, gl, hs_b hbl, hs_at, hs_at0]
        refine CondC.mk (fun h0 => ?_) (fun h0 => ?_)
        · simp at h0
          simp
          have hdrop : a.drop i = a[i] :: a.drop (i + 1) := List.drop_eq_getElem_cons hlt
          rw [hdrop, tidyL, if_pos h0] at ho1 ho2
          simp at ho1 ho2
          exact ⟨by rw [ho1], by rw [ho2, h0]⟩
        · simp at h0
          simp
          refine CondC.mk (fun h20 => ?_) (fun h20 => ?_)
          · simp at h20
            simp
            have hdrop : a.drop i = a[i] :: a.drop (i + 1) := List.drop_eq_getElem_cons hlt
            rw [hdrop, tidyL, if_neg (by omega), if_pos h20] at ho1 ho2
            exact ⟨a.length - (i + 1), by omega, i + 1, rfl, by omega, out, k, _, rfl, ok1 hX (by simp [body]), hk, hout, ⟨ho1, ho2⟩, rfl, by rw [wrap64 (by omega) (by omega)]; omega⟩
          · simp at h20
            have hm : a[i] ∈ a := List.getElem_mem hlt
            have hPx := hall _ hm
            have own := hP.own _ hPx
            have para := hP.para _ hPx
            have st := treeStands a[i].kind inn
            have fl := treeFull a[i].kind
            have w1 : IntKind.i64.wrap ((k : Int) - 1) = ((k - 1 : Nat) : Int) := by rw [wrap64 (by omega) (by omega)]; omega
            have hrec := fun (G : Heap) (inn d : Int) (hd0 : 0 ≤ d) (hd1 : d ≤ 20) (hG : G[b]? = some [.sc (.int .i64 (k - 1 : Nat))]) hp => ih a[i].kids (by have := Node.kids_lt hm; omega) (hP.kids _ hPx) (hP.len _ hPx) G b inn d (k - 1) hd0 hd1 (by omega) hG hp
            rw [ea] at own para
            generalize hy : ownN a[i] a[i].kind = y at own
            generalize hy3 : ownN a[i] 3 = y3 at para
            rw [Node.pv_eq] at own para
            simp [gl] at own para
            have wh3 := treeWhole y3
            rw [Node.pv_eq] at wh3
            simp [gl] at wh3
            have hdrop : a.drop i = a[i] :: a.drop (i + 1) := List.drop_eq_getElem_cons hlt
            rw [hdrop, tidyL, if_neg (by omega), if_neg (by omega)] at ho1 ho2
            have fin : ∀ (o : List Node) (k' : Nat) (X' : Heap), tidyN inn d k a[i] = (o, k') → HOk (H ++ X') → ∀ q, q = (out ++ o).map Node.pv → ∃ d', d' < a.length - i ∧ ∃ i', d' = a.length - i' ∧ i' ≤ a.length ∧ ∃ x x_1 x_2,
                H.set b [FV.sc (PV.int IntKind.i64 (k' : Nat))] ++ X' = H.set b [FV.sc (PV.int IntKind.i64 (x_1 : Nat))] ++ x_2 ∧ HOk (H ++ x_2) ∧ x_1 ≤ left ∧ x.length + x_1 ≤ left ∧
                ((tidyL inn d left a).1 = x ++ (tidyL inn d x_1 (a.drop i')).1 ∧ (tidyL inn d left a).2 = (tidyL inn d x_1 (a.drop i')).2) ∧ q = x.map Node.pv ∧ IntKind.i64.wrap (i + 1) = (i' : Nat) := by
              intro o k' X' he hX' q hq
              have hc := tidyL_count (SizeOf.sizeOf [a[i]] + 1) [a[i]] (by omega) inn d k
              rw [tidyL, if_neg (by omega), if_neg (by omega), tidyL] at hc
              simp [he] at hc ho1 ho2
              exact ⟨a.length - (i + 1), by omega, i + 1, rfl, by omega, out ++ o, k', X', rfl, hX', by omega, by simp; omega, ⟨by simp [ho1], ho2⟩, hq, by rw [wrap64 (by omega) (by omega)]; omega⟩
            have hn' := tidyN_eq inn d k a[i]
            rw [hy, hy3] at hn'
            obtain ⟨t1, hk1⟩ : ∃ t : Bool, (a[i].kind = 1) = (t = true) := ⟨decide (a[i].kind = 1), by simp⟩
            obtain ⟨t2, hk2⟩ : ∃ t : Bool, (a[i].kind = 2) = (t = true) := ⟨decide (a[i].kind = 2), by simp⟩
            have hlm : lenMax ≥ 2147483648 := by unfold lenMax; omega
            have hcr := tidyL_count _ a[i].kids (Nat.lt_succ_self _) inn d (k - 1)
            have hcr2 := tidyL_count _ a[i].kids (Nat.lt_succ_self _) a[i].kind (d + 1) (k - 1)
            by_cases hA : (a[i].kind = 1 ∨ a[i].kind = 2) ∧ standsIn a[i].kind inn = false
            · have hs := hA.2
              rw [if_pos hA] at hn'
              replace hA := hA.1
              rw [hk1, hk2] at hA
              cases t1 <;> cases t2
              · simp at hA
              rotate_right
              · simp at hk1 hk2; omega
              all_goals
                simp [hs_b hbl, hs_set hbl, hs_at, hs_at0, hk1, hk2, w1]
                refine CallQ.mk (Call.pure callable69 (by simp) (by simp) st) ?_
                simp [hs]
                refine CallQ.mk (Call.pure callable70 (by simp) (by simp) para) ?_
                simp [hs_at, hs_at0]
                refine CallQ.mk (Call.pure callable71 (by simp) (by simp) wh3) ?_
                simp
                cases hw : wholeN y3
                · simp [hs_at, hs_at0]
                  refine CallQ.mk (Call.shared callable56 (hrec _ inn d hd0 hd1 (hs_b hbl) ?_)) ?_
                  · exact okSet hbl (ok2 hX (by simp [body]) (by simp [body])) _
                  simp [hs_set hbl, sizedN]
                  exact ⟨by omega, fin _ _ _ (by rw [hn', hw]) (ok2 hX (by simp [body]) (by simp [body])) _ (by simp)⟩
                · simp [hs_at, hs_at0, sizedN, sized1, -List.cons_append]
                  refine ⟨by omega, CallQ.mk (Call.shared callable56 (hrec _ inn d hd0 hd1 (hs_b hbl) ?_)) ?_⟩
                  · exact okSet hbl (ok2 hX (by simp [body]) (by simp [body])) _
                  simp [hs_set hbl, sizedN, sized1, sized_app]
                  exact ⟨by omega, fin _ _ _ (by rw [hn', hw]) (ok2 hX (by simp [body]) (by simp [body])) _ (by simp [Node.pv_eq y3, gl])⟩
            · rw [if_neg hA] at hn'
              have hA' : t1 = true ∨ t2 = true → standsIn a[i].kind inn = true := by
                rw [hk1, hk2] at hA
                intro h
                cases hs : standsIn a[i].kind inn
                · exact absurd ⟨h, hs⟩ hA
                · rfl
              have hyk : y.kids = [] := by rw [← hy]; rfl
              have wh := treeWhole y
              rw [Node.pv_eq] at wh
              simp [gl] at wh
              have wh0 := treeWhole (y.withKids [Node.zero])
              rw [Node.pv_eq] at wh0
              simp [gl, Node.zero_pv] at wh0
              have wd1 : IntKind.i64.wrap (d + 1) = d + 1 := wrap64 (by omega) (by omega)
              cases t1 <;> cases t2
              all_goals
                simp at hA'
                simp [hs_b hbl, hs_set hbl, hs_at, hs_at0, hk1, hk2, w1, wd1]
                try
                  refine CallQ.mk (Call.pure callable69 (by simp) (by simp) st) ?_
                  simp [hA', hs_at, hs_at0]
                refine CallQ.mk (Call.pure callable70 (by simp) (by simp) own) ?_
                simp [hs_at, hs_at0]
                refine CallQ.mk (Call.pure callable72 (by simp) (by simp) fl) ?_
                simp
                cases hkd : hasKids a[i].kind
                · simp [hs_at, hs_at0]
                  refine CallQ.mk (Call.pure callable71 (by simp) (by simp) wh) ?_
                  simp
                  cases hw : wholeN y
                  · simp [hs_at, hs_at0, sizedN]
                    exact ⟨by rw [hyk, List.length_nil]; omega, fin _ _ _ (by rw [hn', hkd, hw]; rfl) (ok2 hX (by simp [body]) (by simp [body])) _ (by simp [hyk])⟩
                  · simp [hs_at, hs_at0, sizedN, sized1, sized_app]
                    exact ⟨by omega, fin _ _ _ (by rw [hn', hkd, hw]; rfl) (ok2 hX (by simp [body]) (by simp [body])) _ (by simp [Node.pv_eq y, gl])⟩
                · simp [hs_at, hs_at0, sized1]
                  refine CallQ.mk (Call.pure callable71 (by simp) (by simp) wh0) ?_
                  simp
                  cases hw : wholeN (y.withKids [Node.zero])
                  · simp [hs_at, hs_at0]
                    refine CallQ.mk (Call.shared callable56 (hrec _ inn d hd0 hd1 (hs_b hbl) ?_)) ?_
                    · exact okSet hbl (ok2 hX (by simp [body]) (by simp [body])) _
                    generalize hr : tidyL inn d (k - 1) a[i].kids = r at *
                    obtain ⟨rl, rk⟩ := r
                    have wh1 := treeWhole (y.withKids rl)
                    rw [Node.pv_eq] at wh1
                    simp [gl] at wh1
                    simp at hcr
                    simp [hs_set hbl, hs_at, hs_at0, hs_put, hs_put0, sizedN]
                    refine CallQ.mk (Call.pure callable71 (by simp) (by simp) wh1) ?_
                    simp
                    cases hw1 : wholeN (y.withKids rl)
                    · simp [hs_at, hs_at0, sizedN]
                      exact ⟨by omega, fin rl rk _ (by rw [hn', hkd, if_pos rfl, hw]; simp [hw1]) (ok2 hX (by simp [body]) (by simp [body])) _ (by simp)⟩
                    · simp [hs_at, hs_at0, sizedN, sized1, sized_app]
                      exact ⟨by omega, fin [y.withKids rl] rk _ (by rw [hn', hkd, if_pos rfl, hw]; simp [hw1]) (ok2 hX (by simp [body]) (by simp [body])) _ (by simp [Node.pv_eq (y.withKids rl), gl])⟩
                  · simp [hs_at, hs_at0, wd1]
                    refine CallQ.mk (Call.shared callable56 (hrec _ a[i].kind (d + 1) (by omega) (by omega) (hs_b hbl) ?_)) ?_
                    · exact okSet hbl (ok2 hX (by simp [body]) (by simp [body])) _
                    generalize hr : tidyL a[i].kind (d + 1) (k - 1) a[i].kids = r at *
                    obtain ⟨rl, rk⟩ := r
                    have wh1 := treeWhole (y.withKids rl)
                    rw [Node.pv_eq] at wh1
                    simp [gl] at wh1
                    simp at hcr2
                    simp [hs_set hbl, hs_at, hs_at0, hs_put, hs_put0, sizedN]
                    refine CallQ.mk (Call.pure callable71 (by simp) (by simp) wh1) ?_
                    simp
                    cases hw1 : wholeN (y.withKids rl)
                    · simp [hs_at, hs_at0, sizedN]
                      exact ⟨by omega, fin rl rk _ (by rw [hn', hkd, if_pos rfl, hw]; simp [hw1]) (ok2 hX (by simp [body]) (by simp [body])) _ (by simp)⟩
                    · simp [hs_at, hs_at0, sizedN, sized1, sized_app]
                      exact ⟨by omega, fin [y.withKids rl] rk _ (by rw [hn', hkd, if_pos rfl, hw]; simp [hw1]) (ok2 hX (by simp [body]) (by simp [body])) _ (by simp [Node.pv_eq (y.withKids rl), gl])⟩
      · simp at hlt
        simp
        rw [List.drop_eq_nil_of_le hlt, tidyL] at ho1 ho2
        simp at ho1 ho2
        exact ⟨by rw [ho1], by rw [ho2]⟩
end Go.Proofs.YtlbjfjaleefiiaaDoor.Ev
end
section
namespace Go.Proofs.YtlbjfjaleefiiaaDoor.Ev
open Go
def rowDs (l : List Node) : List FV := l.flatMap nodeD
theorem rowDs_app (a b : List Node) : rowDs (a ++ b) = rowDs a ++ rowDs b := by simp [rowDs]
theorem rowDs_len (l : List Node) : (rowDs l).length = l.length * 10 := by
  induction l with
  | nil => rfl
  | cons x l ih => rw [show rowDs (x :: l) = nodeD x ++ rowDs l from rfl, List.length_append, ih]; simp [nodeD]; omega
theorem rowDs_np (l : List Node) : ∀ f ∈ rowDs l, f.np0 = true := fun f hf => by
  unfold rowDs at hf
  obtain ⟨x, _, hx⟩ := List.mem_flatMap.1 hf
  simp only [nodeD, List.mem_cons, List.not_mem_nil, or_false] at hx
  rcases hx with rfl | rfl | rfl | rfl | rfl | rfl | rfl | rfl | rfl | rfl <;> rfl
theorem rowDs_pv (l : List Node) : ((l.map Node.pv).flatMap PV.leaves).map FV.sc = rowDs l := by
  induction l with
  | nil => rfl
  | cons x l ih =>
    rw [List.map_cons, List.flatMap_cons, List.map_append, ih, Node.pv_eq]
    rfl
inductive OutF (n : Nat) (X : Heap) : List Node → FV → Prop
  | nil : OutF n X [] (.own [])
  | row {j g : Nat} {out : List Node} : X[j]? = some [.row g (rowDs out)] → OutF n X out (.gr (n + j) g 10 out.length)
theorem okRow {H X : Heap} (h : HOk (H ++ X)) {u v cells : List FV} {g : Nat} {o' : List Node} (hu : ∀ f ∈ body u, f.np0 = true) (hv : ∀ f ∈ body v, f.np0 = true) (hc : cells = rowDs o') : HOk (H ++ (X ++ [u, v, [.row g cells]])) := by
  have := ok1 (ok2 h hu hv) (u := [.row g cells]) (fun f hf => rowDs_np o' f (by rw [← hc]; exact hf))
  rwa [List.append_assoc] at this
theorem okPut {H X : Heap} (h : HOk (H ++ X)) {u v cells : List FV} {j g : Nat} {o' : List Node} (hu : ∀ f ∈ body u, f.np0 = true) (hv : ∀ f ∈ body v, f.np0 = true) (hc : cells = rowDs o') : HOk (H ++ (X.set j [.row g cells] ++ [u, v])) := by
  have h1 := h.set' (b := H.length + j) (fs := [.row g cells]) (fun f hf => FV.und_np (rowDs_np o' f (by rw [← hc]; exact hf)))
  rw [heap_set] at h1
  exact ok2 h1 hu hv
theorem outRow {n j g k : Nat} {X : Heap} {o : List Node} {cells : List FV} (hX : X[j]? = some [.row g cells]) (hc : cells = rowDs o) (hk : k = o.length) : OutF n X o (.gr (n + j) g 10 k) := by
  subst hc; subst hk; exact .row hX
set_option linter.unusedSimpArgs false in
set_option maxRecDepth 20000 in
set_option maxHeartbeats 16000000 in
theorem treeNodesR {P : Node → Prop} (hP : Fit P) (a : List Node) (hall : ∀ x ∈ a, P x) (hla : a.length ≤ 4611686018427387904) (H : Heap) (b : Nat) (inn d : Int) (left : Nat) (hd0 : 0 ≤ d) (hd1 : d ≤ 20) (hleft : left ≤ 1073741824)
    (hb : H[b]? = some [.sc (.int .i64 left)]) (hp : HOk H) (hne : (tidyL inn d left a).1 ≠ []) :
    Con C0 56 [.ptr b 0, .sc (.sl (a.map Node.pv)), .sc (.int .i64 inn), .sc (.int .i64 d)] H (.gr H.length 0 10 (tidyL inn d left a).1.length) (H.set b [.sc (.int .i64 (tidyL inn d left a).2)] ++ [[.row 0 (rowDs (tidyL inn d left a).1)]]) := by
  have hbl : b < H.length := (List.getElem?_eq_some_iff.1 hb).1
  refine con_hand (C := C0) (fn := Tryd.f56) Tryd.func56 rfl (by decide) mixed (mv := [60, 64, 80, 81, 82, 83, 84, 109, 113, 118, 2000063, 2000071, 2000112, 2000116]) (vars := [0, 1, 2, 3, 8, 9, 11, 12, 13, 14, 16, 20, 21, 22, 23, 30, 32, 55, 59, 85, 90, 108]) (c := Tryd.f56.body.getD .skip) rfl (okT hp _) (fun f hf => FV.und_np (rowDs_np _ f hf)) ?_
  simp [Tryd.f56]
  refine loopC (fun dd e H' => ∃ (i : Nat) (out : List Node) (k : Nat) (X : Heap) (o : FV) (x11 x12 x13 x14 x16 x23 x30 x32 x55 x59 x85 x90 x108 : FV), dd = a.length - i ∧ i ≤ a.length ∧ H' = H.set b [.sc (.int .i64 k)] ++ X ∧ HOk (H ++ X) ∧ OutF H.length X out o ∧ k ≤ left ∧ out.length + k ≤ left ∧
      ((tidyL inn d left a).1 = out ++ (tidyL inn d k (a.drop i)).1 ∧ (tidyL inn d left a).2 = (tidyL inn d k (a.drop i)).2) ∧
      e = [(0, FV.ptr b 0), (1, .sc (.sl (a.map Node.pv))), (2, .sc (.int .i64 inn)), (3, .sc (.int .i64 d)), (8, FV.own []), (9, o), (11, x11), (12, x12), (13, x13), (14, x14), (16, x16), (20, .sc (.sl (a.map Node.pv))), (21, .sc (.int .i64 a.length)), (22, .sc (.int .i64 i)), (23, x23), (30, x30), (32, x32), (55, x55), (59, x59), (85, x85), (90, x90), (108, x108)]) (d := a.length)
      ⟨0, [], left, [], .own [], .undef, .undef, .undef, .undef, .undef, .undef, .undef, .undef, .undef, .undef, .undef, .undef, .undef, by omega, by omega, ?_, by rw [List.append_nil]; exact hp, .nil, by omega, by simp, by simp, by simp⟩ ?_
  · rw [List.append_nil, set_same hb]
  · rintro dd e H' ⟨i, out, k, X, o, x11, x12, x13, x14, x16, x23, x30, x32, x55, x59, x85, x90, x108, rfl, hi, rfl, hX, hO, hk, hout, ⟨ho1, ho2⟩, rfl⟩
    rcases hO with _ | @⟨j, g, _, hXj⟩
    · skip
      have hbs : b < (H.set b [FV.sc (.int .i64 k)]).length := by simpa using hbl
      have hbg : (H.set b [FV.sc (.int .i64 k)])[b]? = some [FV.sc (.int .i64 k)] := by simp [hbl]
      simp
      refine CondC.mk (fun hlt => ?_) (fun hlt => ?_)
      · simp at hlt
        have ea := Node.pv_eq a[i]
        simp [hlt, ea, gl, hs_b hbl, hs_at, hs_at0]
        refine CondC.mk (fun h0 => ?_) (fun h0 => ?_)
        · simp at h0
          simp
          have hdrop : a.drop i = a[i] :: a.drop (i + 1) := List.drop_eq_getElem_cons hlt
          rw [hdrop, tidyL, if_pos h0] at ho1 ho2
          simp at ho1 ho2
          exact absurd ho1 hne
        · simp at h0
          simp
          refine CondC.mk (fun h20 => ?_) (fun h20 => ?_)
          · simp at h20
            simp
            have hdrop : a.drop i = a[i] :: a.drop (i + 1) := List.drop_eq_getElem_cons hlt
            rw [hdrop, tidyL, if_neg (by omega), if_pos h20] at ho1 ho2
            exact ⟨a.length - (i + 1), by omega, i + 1, rfl, by omega, [], k, _, rfl, ok1 hX (by simp [body]), _, .nil, hk, hout, ⟨ho1, ho2⟩, rfl, by rw [wrap64 (by omega) (by omega)]; omega⟩
          · simp at h20
            have hm : a[i] ∈ a := List.getElem_mem hlt
            have hPx := hall _ hm
            have own := hP.own _ hPx
            have para := hP.para _ hPx
            have st := treeStands a[i].kind inn
            have fl := treeFull a[i].kind
            have w1 : IntKind.i64.wrap ((k : Int) - 1) = ((k - 1 : Nat) : Int) := by rw [wrap64 (by omega) (by omega)]; omega
            have hrec := fun (G : Heap) (inn d : Int) (hd0 : 0 ≤ d) (hd1 : d ≤ 20) (hG : G[b]? = some [.sc (.int .i64 (k - 1 : Nat))]) hp => treeNodesU hP _ a[i].kids (Nat.lt_succ_self _) (hP.kids _ hPx) (hP.len _ hPx) G b inn d (k - 1) hd0 hd1 (by omega) hG hp
            rw [ea] at own para
            generalize hy : ownN a[i] a[i].kind = y at own
            generalize hy3 : ownN a[i] 3 = y3 at para
            rw [Node.pv_eq] at own para
            simp [gl] at own para
            have wh3 := treeWhole y3
            rw [Node.pv_eq] at wh3
            simp [gl] at wh3
            have hdrop : a.drop i = a[i] :: a.drop (i + 1) := List.drop_eq_getElem_cons hlt
            rw [hdrop, tidyL, if_neg (by omega), if_neg (by omega)] at ho1 ho2
            have fin : ∀ (o : List Node) (k' : Nat) (L : Heap) (f : FV), tidyN inn d k a[i] = (o, k') → HOk (H ++ L) → OutF H.length L (o) f → ∃ d', d' < a.length - i ∧ ∃ i_1, d' = a.length - i_1 ∧ i_1 ≤ a.length ∧ ∃ x x_1 x_2, H.set b [FV.sc (PV.int IntKind.i64 (k' : Nat))] ++ L = H.set b [FV.sc (PV.int IntKind.i64 (x_1 : Nat))] ++ x_2 ∧ HOk (H ++ x_2) ∧ ∃ x_3, OutF H.length x_2 x x_3 ∧ x_1 ≤ left ∧ x.length + x_1 ≤ left ∧ ((tidyL inn d left a).1 = x ++ (tidyL inn d x_1 (a.drop i_1)).1 ∧ (tidyL inn d left a).2 = (tidyL inn d x_1 (a.drop i_1)).2) ∧ f = x_3 ∧ IntKind.i64.wrap (i + 1) = (i_1 : Nat) := by
              intro o k' L f he hL hf
              have hc := tidyL_count (SizeOf.sizeOf [a[i]] + 1) [a[i]] (by omega) inn d k
              rw [tidyL, if_neg (by omega), if_neg (by omega), tidyL] at hc
              simp [he] at hc ho1 ho2
              exact ⟨a.length - (i + 1), by omega, i + 1, rfl, by omega, o, k', L, rfl, hL, f, hf, by omega, by simp at hout; omega, ⟨by simp [ho1], ho2⟩, rfl, by rw [wrap64 (by omega) (by omega)]; omega⟩
            have finN : ∀ (o : List Node) (k' : Nat) (u v : List FV) (g k2 : Nat) (cells : List FV), tidyN inn d k a[i] = (o, k') → (∀ f ∈ body u, f.np0 = true) → (∀ f ∈ body v, f.np0 = true) → cells = rowDs o → k2 = o.length → ∃ d', d' < a.length - i ∧ ∃ i_1, d' = a.length - i_1 ∧ i_1 ≤ a.length ∧ ∃ x x_1 x_2, H.set b [FV.sc (PV.int IntKind.i64 (k' : Nat))] ++ (X ++ [u, v, [.row g cells]]) = H.set b [FV.sc (PV.int IntKind.i64 (x_1 : Nat))] ++ x_2 ∧ HOk (H ++ x_2) ∧ ∃ x_3, OutF H.length x_2 x x_3 ∧ x_1 ≤ left ∧ x.length + x_1 ≤ left ∧ ((tidyL inn d left a).1 = x ++ (tidyL inn d x_1 (a.drop i_1)).1 ∧ (tidyL inn d left a).2 = (tidyL inn d x_1 (a.drop i_1)).2) ∧ FV.gr (H.length + (X.length + 2)) g 10 k2 = x_3 ∧ IntKind.i64.wrap (i + 1) = (i_1 : Nat) := fun o k' u v g k2 cells he hu hv hcl hk2 =>
              fin o k' _ _ he (okRow hX hu hv hcl) (outRow (j := X.length + 2) (by rw [List.getElem?_append_right (by omega)]; simp) hcl hk2)
            have hn' := tidyN_eq inn d k a[i]
            rw [hy, hy3] at hn'
            obtain ⟨t1, hk1⟩ : ∃ t : Bool, (a[i].kind = 1) = (t = true) := ⟨decide (a[i].kind = 1), by simp⟩
            obtain ⟨t2, hk2⟩ : ∃ t : Bool, (a[i].kind = 2) = (t = true) := ⟨decide (a[i].kind = 2), by simp⟩
            have hlm : lenMax ≥ 2147483648 := by unfold lenMax; omega
            have hcr := tidyL_count _ a[i].kids (Nat.lt_succ_self _) inn d (k - 1)
            have hcr2 := tidyL_count _ a[i].kids (Nat.lt_succ_self _) a[i].kind (d + 1) (k - 1)
            by_cases hA : (a[i].kind = 1 ∨ a[i].kind = 2) ∧ standsIn a[i].kind inn = false
            · have hs := hA.2
              rw [if_pos hA] at hn'
              replace hA := hA.1
              rw [hk1, hk2] at hA
              cases t1 <;> cases t2
              · simp at hA
              rotate_right
              · simp at hk1 hk2; omega
              all_goals
                simp [hs_b hbl, hs_set hbl, hs_at, hs_at0, hk1, hk2, w1]
                refine CallQ.mk (Call.pure callable69 (by simp) (by simp) st) ?_
                simp [hs]
                refine CallQ.mk (Call.pure callable70 (by simp) (by simp) para) ?_
                simp [hs_at, hs_at0]
                refine CallQ.mk (Call.pure callable71 (by simp) (by simp) wh3) ?_
                simp
                cases hw : wholeN y3
                · simp [hs_at, hs_at0]
                  refine CallQ.mk (Call.shared callable56 (hrec _ inn d hd0 hd1 (hs_b hbl) ?_)) ?_
                  · exact okSet hbl (ok2 hX (by simp [body]) (by simp [body])) _
                  simp [hs_set hbl, sizedN]
                  split
                  · rename_i hz
                    exact fin (tidyL inn d (k - 1) a[i].kids).1 (tidyL inn d (k - 1) a[i].kids).2 _ _ (by rw [hn', hw]; rfl) (ok2 hX (by simp [body]) (by simp [body])) (by rw [hz]; exact .nil)
                  · exact ⟨by omega, finN (tidyL inn d (k - 1) a[i].kids).1 (tidyL inn d (k - 1) a[i].kids).2 _ _ _ _ _ (by rw [hn', hw]; rfl) (by simp [body]) (by simp [body]) (rowDs_pv _) rfl⟩
                · simp [hs_at, hs_at0, sizedN, sized1, -List.cons_append]
                  refine ⟨by omega, CallQ.mk (Call.shared callable56 (hrec _ inn d hd0 hd1 (hs_b hbl) ?_)) ?_⟩
                  · exact okSet hbl (okRow (o' := [y3]) hX (by simp [body]) (by simp [body]) rfl) _
                  simp [hs_set hbl, sizedN, sized1, sized_app]
                  exact ⟨by omega, finN (y3 :: (tidyL inn d (k - 1) a[i].kids).1) (tidyL inn d (k - 1) a[i].kids).2 _ _ _ _ _ (by rw [hn', hw]; rfl) (by simp [body]) (by simp [body]) (by rw [rowDs_pv]; rfl) (by simp; omega)⟩
            · rw [if_neg hA] at hn'
              have hA' : t1 = true ∨ t2 = true → standsIn a[i].kind inn = true := by
                rw [hk1, hk2] at hA
                intro h
                cases hs : standsIn a[i].kind inn
                · exact absurd ⟨h, hs⟩ hA
                · rfl
              have hyk : y.kids = [] := by rw [← hy]; rfl
              have wh := treeWhole y
              rw [Node.pv_eq] at wh
              simp [gl] at wh
              have wh0 := treeWhole (y.withKids [Node.zero])
              rw [Node.pv_eq] at wh0
              simp [gl, Node.zero_pv] at wh0
              have wd1 : IntKind.i64.wrap (d + 1) = d + 1 := wrap64 (by omega) (by omega)
              cases t1 <;> cases t2
              all_goals
                simp at hA'
                simp [hs_b hbl, hs_set hbl, hs_at, hs_at0, hk1, hk2, w1, wd1]
                try
                  refine CallQ.mk (Call.pure callable69 (by simp) (by simp) st) ?_
                  simp [hA', hs_at, hs_at0]
                refine CallQ.mk (Call.pure callable70 (by simp) (by simp) own) ?_
                simp [hs_at, hs_at0]
                refine CallQ.mk (Call.pure callable72 (by simp) (by simp) fl) ?_
                simp
                cases hkd : hasKids a[i].kind
                · simp [hs_at, hs_at0]
                  refine CallQ.mk (Call.pure callable71 (by simp) (by simp) wh) ?_
                  simp
                  cases hw : wholeN y
                  · simp [hs_at, hs_at0, sizedN]
                    split
                    · exact fin [] (k - 1) _ _ (by rw [hn', hkd, hw]; first | rfl | (simp [hyk])) (ok2 hX (by simp [body]) (by simp [body])) .nil
                    · rename_i hz; exact absurd hyk hz
                  · simp [hs_at, hs_at0, sizedN, sized1, sized_app]
                    exact ⟨by omega, finN [y] (k - 1) _ _ _ _ _ (by rw [hn', hkd, hw]; rfl) (by simp [body]) (by simp [body]) rfl rfl⟩
                · simp [hs_at, hs_at0, sized1]
                  refine CallQ.mk (Call.pure callable71 (by simp) (by simp) wh0) ?_
                  simp
                  cases hw : wholeN (y.withKids [Node.zero])
                  · simp [hs_at, hs_at0]
                    refine CallQ.mk (Call.shared callable56 (hrec _ inn d hd0 hd1 (hs_b hbl) ?_)) ?_
                    · exact okSet hbl (ok2 hX (by simp [body]) (by simp [body])) _
                    generalize hr : tidyL inn d (k - 1) a[i].kids = r at *
                    obtain ⟨rl, rk⟩ := r
                    have wh1 := treeWhole (y.withKids rl)
                    rw [Node.pv_eq] at wh1
                    simp [gl] at wh1
                    simp at hcr
                    simp [hs_set hbl, hs_at, hs_at0, hs_put, hs_put0, sizedN]
                    refine CallQ.mk (Call.pure callable71 (by simp) (by simp) wh1) ?_
                    simp
                    cases hw1 : wholeN (y.withKids rl)
                    · simp [hs_at, hs_at0, sizedN]
                      split
                      · rename_i hz
                        exact fin rl rk _ _ (by rw [hn', hkd, if_pos rfl, hw]; simp [hw1]) (ok2 hX (by simp [body]) (by simp [body])) (by rw [hz]; exact .nil)
                      · exact ⟨by omega, finN rl rk _ _ _ _ _ (by rw [hn', hkd, if_pos rfl, hw]; simp [hw1]) (by simp [body]) (by simp [body]) (rowDs_pv _) rfl⟩
                    · simp [hs_at, hs_at0, sizedN, sized1, sized_app]
                      exact ⟨by omega, finN [y.withKids rl] rk _ _ _ _ _ (by rw [hn', hkd, if_pos rfl, hw]; simp [hw1]) (by simp [body]) (by simp [body]) rfl rfl⟩
                  · simp [hs_at, hs_at0, wd1]
                    refine CallQ.mk (Call.shared callable56 (hrec _ a[i].kind (d + 1) (by omega) (by omega) (hs_b hbl) ?_)) ?_
                    · exact okSet hbl (ok2 hX (by simp [body]) (by simp [body])) _
                    generalize hr : tidyL a[i].kind (d + 1) (k - 1) a[i].kids = r at *
                    obtain ⟨rl, rk⟩ := r
                    have wh1 := treeWhole (y.withKids rl)
                    rw [Node.pv_eq] at wh1
                    simp [gl] at wh1
                    simp at hcr2
                    simp [hs_set hbl, hs_at, hs_at0, hs_put, hs_put0, sizedN]
                    refine CallQ.mk (Call.pure callable71 (by simp) (by simp) wh1) ?_
                    simp
                    cases hw1 : wholeN (y.withKids rl)
                    · simp [hs_at, hs_at0, sizedN]
                      split
                      · rename_i hz
                        exact fin rl rk _ _ (by rw [hn', hkd, if_pos rfl, hw]; simp [hw1]) (ok2 hX (by simp [body]) (by simp [body])) (by rw [hz]; exact .nil)
                      · exact ⟨by omega, finN rl rk _ _ _ _ _ (by rw [hn', hkd, if_pos rfl, hw]; simp [hw1]) (by simp [body]) (by simp [body]) (rowDs_pv _) rfl⟩
                    · simp [hs_at, hs_at0, sizedN, sized1, sized_app]
                      exact ⟨by omega, finN [y.withKids rl] rk _ _ _ _ _ (by rw [hn', hkd, if_pos rfl, hw]; simp [hw1]) (by simp [body]) (by simp [body]) rfl rfl⟩
      · simp at hlt
        simp
        rw [List.drop_eq_nil_of_le hlt, tidyL] at ho1 ho2
        simp at ho1 ho2
        exact absurd ho1 hne
    · have hjl : j < X.length := (List.getElem?_eq_some_iff.1 hXj).1
      have hR1 : ∀ (v : List FV) (L : Heap), (H.set b v ++ (X ++ L))[H.length + j]? = some [.row g (rowDs out)] := fun v L => by rw [hs_at, heap_old hjl]; exact hXj
      have hR2 : ∀ (v : List FV), (H.set b v ++ X)[H.length + j]? = some [.row g (rowDs out)] := fun v => by rw [hs_at]; exact hXj
      have hR3 : ∀ (v r : List FV) (L : Heap), (H.set b v ++ (X.set j r ++ L))[H.length + j]? = some r := fun v r L => by rw [hs_at, hs_b hjl]
      have hS1 : ∀ (v w : List FV) (L : Heap), (H.set b v ++ (X ++ L)).set (H.length + j) w = H.set b v ++ (X.set j w ++ L) := fun v w L => by rw [hs_put, heap_old_set hjl]
      have hS2 : ∀ (v w r : List FV) (L : Heap), (H.set b v ++ (X.set j r ++ L)).set (H.length + j) w = H.set b v ++ (X.set j w ++ L) := fun v w r L => by rw [hs_put, hs_set hjl]
      have hT1 : List.take (out.length * 10) (rowDs out) = rowDs out := List.take_of_length_le (by rw [rowDs_len]; exact Nat.le_refl _)
      have hT2 : out.length * 10 ≤ (rowDs out).length := by rw [rowDs_len]; exact Nat.le_refl _
      have hT3 : ∀ v : List FV, v.length = 10 → List.take ((out.length + 1) * 10) (rowDs out ++ v) = rowDs out ++ v := fun v hv => List.take_of_length_le (by rw [List.length_append, rowDs_len, hv]; omega)
      have hbs : b < (H.set b [FV.sc (.int .i64 k)]).length := by simpa using hbl
      have hbg : (H.set b [FV.sc (.int .i64 k)])[b]? = some [FV.sc (.int .i64 k)] := by simp [hbl]
      simp
      refine CondC.mk (fun hlt => ?_) (fun hlt => ?_)
      · simp at hlt
        have ea := Node.pv_eq a[i]
        simp [hlt, ea, gl, hs_b hbl, hs_at, hs_at0, hR1, hR2, hR3, hS1, hS2, hT1, hT2, hT3]
        refine CondC.mk (fun h0 => ?_) (fun h0 => ?_)
        · simp at h0
          simp
          have hdrop : a.drop i = a[i] :: a.drop (i + 1) := List.drop_eq_getElem_cons hlt
          rw [hdrop, tidyL, if_pos h0] at ho1 ho2
          simp at ho1 ho2
          exact ⟨_, _, ⟨rfl, rfl, by rw [ho1]⟩, by omega, by rw [ho2, h0], by rw [ho1]; first | exact hR1 _ _ | exact hR2 _⟩
        · simp at h0
          simp
          refine CondC.mk (fun h20 => ?_) (fun h20 => ?_)
          · simp at h20
            simp
            have hdrop : a.drop i = a[i] :: a.drop (i + 1) := List.drop_eq_getElem_cons hlt
            rw [hdrop, tidyL, if_neg (by omega), if_pos h20] at ho1 ho2
            exact ⟨a.length - (i + 1), by omega, i + 1, rfl, by omega, out, k, _, rfl, ok1 hX (by simp [body]), _, .row (by rw [List.getElem?_append_left hjl]; exact hXj), hk, hout, ⟨ho1, ho2⟩, rfl, by rw [wrap64 (by omega) (by omega)]; omega⟩
          · simp at h20
            have hm : a[i] ∈ a := List.getElem_mem hlt
            have hPx := hall _ hm
            have own := hP.own _ hPx
            have para := hP.para _ hPx
            have st := treeStands a[i].kind inn
            have fl := treeFull a[i].kind
            have w1 : IntKind.i64.wrap ((k : Int) - 1) = ((k - 1 : Nat) : Int) := by rw [wrap64 (by omega) (by omega)]; omega
            have hrec := fun (G : Heap) (inn d : Int) (hd0 : 0 ≤ d) (hd1 : d ≤ 20) (hG : G[b]? = some [.sc (.int .i64 (k - 1 : Nat))]) hp => treeNodesU hP _ a[i].kids (Nat.lt_succ_self _) (hP.kids _ hPx) (hP.len _ hPx) G b inn d (k - 1) hd0 hd1 (by omega) hG hp
            rw [ea] at own para
            generalize hy : ownN a[i] a[i].kind = y at own
            generalize hy3 : ownN a[i] 3 = y3 at para
            rw [Node.pv_eq] at own para
            simp [gl] at own para
            have wh3 := treeWhole y3
            rw [Node.pv_eq] at wh3
            simp [gl] at wh3
            have hdrop : a.drop i = a[i] :: a.drop (i + 1) := List.drop_eq_getElem_cons hlt
            rw [hdrop, tidyL, if_neg (by omega), if_neg (by omega)] at ho1 ho2
            have fin : ∀ (o : List Node) (k' : Nat) (L : Heap) (f : FV), tidyN inn d k a[i] = (o, k') → HOk (H ++ L) → OutF H.length L (out ++ o) f → ∃ d', d' < a.length - i ∧ ∃ i_1, d' = a.length - i_1 ∧ i_1 ≤ a.length ∧ ∃ x x_1 x_2, H.set b [FV.sc (PV.int IntKind.i64 (k' : Nat))] ++ L = H.set b [FV.sc (PV.int IntKind.i64 (x_1 : Nat))] ++ x_2 ∧ HOk (H ++ x_2) ∧ ∃ x_3, OutF H.length x_2 x x_3 ∧ x_1 ≤ left ∧ x.length + x_1 ≤ left ∧ ((tidyL inn d left a).1 = x ++ (tidyL inn d x_1 (a.drop i_1)).1 ∧ (tidyL inn d left a).2 = (tidyL inn d x_1 (a.drop i_1)).2) ∧ f = x_3 ∧ IntKind.i64.wrap (i + 1) = (i_1 : Nat) := by
              intro o k' L f he hL hf
              have hc := tidyL_count (SizeOf.sizeOf [a[i]] + 1) [a[i]] (by omega) inn d k
              rw [tidyL, if_neg (by omega), if_neg (by omega), tidyL] at hc
              simp [he] at hc ho1 ho2
              exact ⟨a.length - (i + 1), by omega, i + 1, rfl, by omega, out ++ o, k', L, rfl, hL, f, hf, by omega, by simp; omega, ⟨by simp [ho1], ho2⟩, rfl, by rw [wrap64 (by omega) (by omega)]; omega⟩
            have finN : ∀ (o : List Node) (k' : Nat) (u v : List FV) (g' k2 : Nat) (cells : List FV), tidyN inn d k a[i] = (o, k') → (∀ f ∈ body u, f.np0 = true) → (∀ f ∈ body v, f.np0 = true) → cells = rowDs (out ++ o) → k2 = (out ++ o).length → ∃ d', d' < a.length - i ∧ ∃ i_1, d' = a.length - i_1 ∧ i_1 ≤ a.length ∧ ∃ x x_1 x_2, H.set b [FV.sc (PV.int IntKind.i64 (k' : Nat))] ++ (X.set j [.row g' cells] ++ [u, v]) = H.set b [FV.sc (PV.int IntKind.i64 (x_1 : Nat))] ++ x_2 ∧ HOk (H ++ x_2) ∧ ∃ x_3, OutF H.length x_2 x x_3 ∧ x_1 ≤ left ∧ x.length + x_1 ≤ left ∧ ((tidyL inn d left a).1 = x ++ (tidyL inn d x_1 (a.drop i_1)).1 ∧ (tidyL inn d left a).2 = (tidyL inn d x_1 (a.drop i_1)).2) ∧ FV.gr (H.length + j) g' 10 k2 = x_3 ∧ IntKind.i64.wrap (i + 1) = (i_1 : Nat) := fun o k' u v g' k2 cells he hu hv hcl hk2 =>
              fin o k' _ _ he (okPut hX hu hv hcl) (outRow (j := j) (by rw [List.getElem?_append_left (by simpa using hjl)]; simp [hjl]) hcl hk2)
            have hn' := tidyN_eq inn d k a[i]
            rw [hy, hy3] at hn'
            obtain ⟨t1, hk1⟩ : ∃ t : Bool, (a[i].kind = 1) = (t = true) := ⟨decide (a[i].kind = 1), by simp⟩
            obtain ⟨t2, hk2⟩ : ∃ t : Bool, (a[i].kind = 2) = (t = true) := ⟨decide (a[i].kind = 2), by simp⟩
            have hlm : lenMax ≥ 2147483648 := by unfold lenMax; omega
            have hcr := tidyL_count _ a[i].kids (Nat.lt_succ_self _) inn d (k - 1)
            have hcr2 := tidyL_count _ a[i].kids (Nat.lt_succ_self _) a[i].kind (d + 1) (k - 1)
            by_cases hA : (a[i].kind = 1 ∨ a[i].kind = 2) ∧ standsIn a[i].kind inn = false
            · have hs := hA.2
              rw [if_pos hA] at hn'
              replace hA := hA.1
              rw [hk1, hk2] at hA
              cases t1 <;> cases t2
              · simp at hA
              rotate_right
              · simp at hk1 hk2; omega
              all_goals
                simp [hs_b hbl, hs_set hbl, hs_at, hs_at0, hk1, hk2, w1, hR1, hR2, hR3, hS1, hS2, hT1, hT2, hT3]
                refine CallQ.mk (Call.pure callable69 (by simp) (by simp) st) ?_
                simp [hs]
                refine CallQ.mk (Call.pure callable70 (by simp) (by simp) para) ?_
                simp [hs_at, hs_at0, hR1, hR2, hR3, hS1, hS2, hT1, hT2, hT3]
                refine CallQ.mk (Call.pure callable71 (by simp) (by simp) wh3) ?_
                simp
                cases hw : wholeN y3
                · simp [hs_at, hs_at0, hR1, hR2, hR3, hS1, hS2, hT1, hT2, hT3]
                  refine CallQ.mk (Call.shared callable56 (hrec _ inn d hd0 hd1 (hs_b hbl) ?_)) ?_
                  · exact okSet hbl (ok2 hX (by simp [body]) (by simp [body])) _
                  simp [hs_set hbl, sizedN, hs_at, hs_at0, hR1, hR2, hR3, hS1, hS2, hT1, hT2, hT3]
                  exact ⟨by omega, finN (tidyL inn d (k - 1) a[i].kids).1 (tidyL inn d (k - 1) a[i].kids).2 _ _ _ _ _ (by rw [hn', hw]; rfl) (by simp [body]) (by simp [body]) (by rw [rowDs_app, rowDs_pv]) (by simp)⟩
                · simp [hs_at, hs_at0, sizedN, sized1, -List.cons_append, hR1, hR2, hR3, hS1, hS2, hT1, hT2, hT3]
                  refine ⟨by omega, CallQ.mk (Call.shared callable56 (hrec _ inn d hd0 hd1 (hs_b hbl) ?_)) ?_⟩
                  · exact okSet hbl (okPut (o' := out ++ [y3]) hX (by simp [body]) (by simp [body]) (by rw [rowDs_app]; rfl)) _
                  simp [hs_set hbl, sizedN, sized1, sized_app, hs_at, hs_at0, hR1, hR2, hR3, hS1, hS2, hT1, hT2, hT3]
                  exact ⟨by rw [rowDs_len]; omega, by omega, finN (y3 :: (tidyL inn d (k - 1) a[i].kids).1) (tidyL inn d (k - 1) a[i].kids).2 _ _ _ _ _ (by rw [hn', hw]; rfl) (by simp [body]) (by simp [body]) (by rw [rowDs_app, show rowDs (y3 :: (tidyL inn d (k - 1) a[i].kids).1) = nodeD y3 ++ rowDs (tidyL inn d (k - 1) a[i].kids).1 from rfl, ← rowDs_pv (tidyL inn d (k - 1) a[i].kids).1]; simp [nodeD, gl]) (by simp; omega)⟩
            · rw [if_neg hA] at hn'
              have hA' : t1 = true ∨ t2 = true → standsIn a[i].kind inn = true := by
                rw [hk1, hk2] at hA
                intro h
                cases hs : standsIn a[i].kind inn
                · exact absurd ⟨h, hs⟩ hA
                · rfl
              have hyk : y.kids = [] := by rw [← hy]; rfl
              have wh := treeWhole y
              rw [Node.pv_eq] at wh
              simp [gl] at wh
              have wh0 := treeWhole (y.withKids [Node.zero])
              rw [Node.pv_eq] at wh0
              simp [gl, Node.zero_pv] at wh0
              have wd1 : IntKind.i64.wrap (d + 1) = d + 1 := wrap64 (by omega) (by omega)
              cases t1 <;> cases t2
              all_goals
                simp at hA'
                simp [hs_b hbl, hs_set hbl, hs_at, hs_at0, hk1, hk2, w1, wd1, hR1, hR2, hR3, hS1, hS2, hT1, hT2, hT3]
                try
                  refine CallQ.mk (Call.pure callable69 (by simp) (by simp) st) ?_
                  simp [hA', hs_at, hs_at0, hR1, hR2, hR3, hS1, hS2, hT1, hT2, hT3]
                refine CallQ.mk (Call.pure callable70 (by simp) (by simp) own) ?_
                simp [hs_at, hs_at0, hR1, hR2, hR3, hS1, hS2, hT1, hT2, hT3]
                refine CallQ.mk (Call.pure callable72 (by simp) (by simp) fl) ?_
                simp
                cases hkd : hasKids a[i].kind
                · simp [hs_at, hs_at0, hR1, hR2, hR3, hS1, hS2, hT1, hT2, hT3]
                  refine CallQ.mk (Call.pure callable71 (by simp) (by simp) wh) ?_
                  simp
                  cases hw : wholeN y
                  · simp [hs_at, hs_at0, sizedN, hR1, hR2, hR3, hS1, hS2, hT1, hT2, hT3]
                    exact ⟨by simp [hyk]; omega, finN [] (k - 1) _ _ _ _ _ (by rw [hn', hkd, hw]; first | rfl | (simp [hyk])) (by simp [body]) (by simp [body]) (by simp [hyk]) (by simp [hyk])⟩
                  · simp [hs_at, hs_at0, sizedN, sized1, sized_app, hR1, hR2, hR3, hS1, hS2, hT1, hT2, hT3]
                    exact ⟨by omega, finN [y] (k - 1) _ _ _ _ _ (by rw [hn', hkd, hw]; rfl) (by simp [body]) (by simp [body]) (by rw [rowDs_app]; rfl) (by simp)⟩
                · simp [hs_at, hs_at0, sized1, hR1, hR2, hR3, hS1, hS2, hT1, hT2, hT3]
                  refine CallQ.mk (Call.pure callable71 (by simp) (by simp) wh0) ?_
                  simp
                  cases hw : wholeN (y.withKids [Node.zero])
                  · simp [hs_at, hs_at0, hR1, hR2, hR3, hS1, hS2, hT1, hT2, hT3]
                    refine CallQ.mk (Call.shared callable56 (hrec _ inn d hd0 hd1 (hs_b hbl) ?_)) ?_
                    · exact okSet hbl (ok2 hX (by simp [body]) (by simp [body])) _
                    generalize hr : tidyL inn d (k - 1) a[i].kids = r at *
                    obtain ⟨rl, rk⟩ := r
                    have wh1 := treeWhole (y.withKids rl)
                    rw [Node.pv_eq] at wh1
                    simp [gl] at wh1
                    simp at hcr
                    simp [hs_set hbl, hs_at, hs_at0, hs_put, hs_put0, sizedN, hR1, hR2, hR3, hS1, hS2, hT1, hT2, hT3]
                    refine CallQ.mk (Call.pure callable71 (by simp) (by simp) wh1) ?_
                    simp
                    cases hw1 : wholeN (y.withKids rl)
                    · simp [hs_at, hs_at0, sizedN, hR1, hR2, hR3, hS1, hS2, hT1, hT2, hT3]
                      exact ⟨by omega, finN rl rk _ _ _ _ _ (by rw [hn', hkd, if_pos rfl, hw]; simp [hw1]) (by simp [body]) (by simp [body]) (by rw [rowDs_app, rowDs_pv]) (by simp)⟩
                    · simp [hs_at, hs_at0, sizedN, sized1, sized_app, hR1, hR2, hR3, hS1, hS2, hT1, hT2, hT3]
                      exact ⟨by omega, finN [y.withKids rl] rk _ _ _ _ _ (by rw [hn', hkd, if_pos rfl, hw]; simp [hw1]) (by simp [body]) (by simp [body]) (by rw [rowDs_app]; rfl) (by simp)⟩
                  · simp [hs_at, hs_at0, wd1, hR1, hR2, hR3, hS1, hS2, hT1, hT2, hT3]
                    refine CallQ.mk (Call.shared callable56 (hrec _ a[i].kind (d + 1) (by omega) (by omega) (hs_b hbl) ?_)) ?_
                    · exact okSet hbl (ok2 hX (by simp [body]) (by simp [body])) _
                    generalize hr : tidyL a[i].kind (d + 1) (k - 1) a[i].kids = r at *
                    obtain ⟨rl, rk⟩ := r
                    have wh1 := treeWhole (y.withKids rl)
                    rw [Node.pv_eq] at wh1
                    simp [gl] at wh1
                    simp at hcr2
                    simp [hs_set hbl, hs_at, hs_at0, hs_put, hs_put0, sizedN, hR1, hR2, hR3, hS1, hS2, hT1, hT2, hT3]
                    refine CallQ.mk (Call.pure callable71 (by simp) (by simp) wh1) ?_
                    simp
                    cases hw1 : wholeN (y.withKids rl)
                    · simp [hs_at, hs_at0, sizedN, hR1, hR2, hR3, hS1, hS2, hT1, hT2, hT3]
                      exact ⟨by omega, finN rl rk _ _ _ _ _ (by rw [hn', hkd, if_pos rfl, hw]; simp [hw1]) (by simp [body]) (by simp [body]) (by rw [rowDs_app, rowDs_pv]) (by simp)⟩
                    · simp [hs_at, hs_at0, sizedN, sized1, sized_app, hR1, hR2, hR3, hS1, hS2, hT1, hT2, hT3]
                      exact ⟨by omega, finN [y.withKids rl] rk _ _ _ _ _ (by rw [hn', hkd, if_pos rfl, hw]; simp [hw1]) (by simp [body]) (by simp [body]) (by rw [rowDs_app]; rfl) (by simp)⟩
      · simp at hlt
        simp
        rw [List.drop_eq_nil_of_le hlt, tidyL] at ho1 ho2
        simp at ho1 ho2
        exact ⟨_, _, ⟨rfl, rfl, by rw [ho1]⟩, by omega, by rw [ho2], by rw [ho1]; first | exact hR1 _ _ | exact hR2 _⟩
end Go.Proofs.YtlbjfjaleefiiaaDoor.Ev
end
section
namespace Go.Proofs.YtlbjfjaleefiiaaDoor.Ev
open Go
set_option linter.unusedSimpArgs false in
set_option maxRecDepth 20000 in
set_option maxHeartbeats 4000000 in
theorem treeTidyR {P : Node → Prop} (hP : Fit P) (d : Doc) (hall : ∀ x ∈ d.kids, P x) (hl : d.kids.length ≤ 4611686018427387904) (H : Heap) (hH : HOk H) (hne : (tidyD d).kids ≠ []) :
    ∃ L : Heap, L.length = 3 ∧ Con C0 36 [.agg [.sc (.str d.name), .sc (.str d.part), .sc (.str d.date), .sc (.str d.source), .sc (.sl (d.kids.map Node.pv))]] H
      (.agg [.sc (.str d.name), .sc (.str d.part), .sc (.str d.date), .sc (.str d.source), .gr (H.length + 3) 0 10 (tidyD d).kids.length]) (H ++ L ++ [[.row 0 (rowDs (tidyD d).kids)]]) := by
  have hx1 : ∀ f ∈ body [FV.sc (.str d.name), .sc (.str d.part), .sc (.str d.date), .sc (.str d.source), .sc (.sl (d.kids.map Node.pv))], f.np0 = true := fun f hf => by
    simp only [body, List.mem_cons, List.not_mem_nil, or_false] at hf
    rcases hf with rfl | rfl | rfl | rfl | rfl <;> rfl
  have hx2 : ∀ f ∈ body [FV.sc (.str ByteArray.empty), .sc (.str ByteArray.empty), .sc (.str ByteArray.empty), .sc (.str ByteArray.empty), .own []], f.np0 = true := fun f hf => by
    simp only [body, List.mem_cons, List.not_mem_nil, or_false] at hf
    rcases hf with rfl | rfl | rfl | rfl | rfl <;> rfl
  have hx3 : ∀ f ∈ body [FV.sc (.int .i64 20000)], f.np0 = true := fun f hf => by
    simp only [body, List.mem_cons, List.not_mem_nil, or_false] at hf
    rcases hf with rfl; rfl
  have ok3 : HOk (H ++ [[FV.sc (.str d.name), .sc (.str d.part), .sc (.str d.date), .sc (.str d.source), .sc (.sl (d.kids.map Node.pv))], [FV.sc (.str ByteArray.empty), .sc (.str ByteArray.empty), .sc (.str ByteArray.empty), .sc (.str ByteArray.empty), .own []], [FV.sc (.int .i64 20000)]]) := by
    have := ok1 (X := [_, _]) (ok2 (X := []) (by rw [List.append_nil]; exact hH) hx1 hx2) hx3
    simpa using this
  have cn := treeNodesR hP d.kids hall hl _ (H.length + 2) 0 0 20000 (by omega) (by omega) (by omega) (by simp) ok3 hne
  refine ⟨[[.sc (.str d.name), .sc (.str d.part), .sc (.str d.date), .sc (.str d.source), .gr (H.length + 3) 0 10 (tidyD d).kids.length], [.sc (.str d.name), .sc (.str d.part), .sc (.str d.date), .sc (.str d.source), .gr (H.length + 3) 0 10 (tidyD d).kids.length], [.sc (.int .i64 (tidyL 0 0 20000 d.kids).2)]], rfl, ?_⟩
  simp only [tidyD] at hne ⊢
  generalize hT : tidyL 0 0 20000 d.kids = T at *
  obtain ⟨Tl, Tk⟩ := T
  simp only at cn hne ⊢
  simp at cn
  refine enter36 ?_
  simp [Tryd.f36]
  refine CallQ.mk (Call.shared callable56 cn) ?_
  simp
theorem rowDs_at {l : List Node} {i : Nat} (h : i < l.length) : List.take 10 (List.drop (i * 10) (List.map demote1 (rowDs l))) = nodeD l[i] ∧ i * 10 + 10 ≤ (rowDs l).length := by
  have hs : l = l.take i ++ l[i] :: l.drop (i + 1) := by
    rw [← List.drop_eq_getElem_cons h, List.take_append_drop]
  have hc : rowDs l = rowDs (l.take i) ++ (nodeD l[i] ++ rowDs (l.drop (i + 1))) := by
    conv => lhs; rw [hs]
    rw [rowDs_app]
    congr 1
  have hl : (rowDs (l.take i)).length = i * 10 := by rw [rowDs_len, List.length_take]; congr 1; omega
  constructor
  · rw [← List.map_drop, ← List.map_take, hc, List.drop_left' hl, List.take_left' (by simp [nodeD])]
    rfl
  · rw [rowDs_len]; omega
set_option linter.unusedSimpArgs false in
set_option maxRecDepth 20000 in
set_option maxHeartbeats 4000000 in
theorem refSameR {H : Heap} {r g : Nat} (l : List Node) (hl : l.length ≤ 1073741824) (hok : ∀ x ∈ l, x.Ok) (hr : H[r]? = some [.row g (rowDs l)]) (hH : HOk H) :
    Con C0 30 [.gr r g 10 l.length, .sc (.sl (l.map Node.pv))] H (.sc (.bool true)) H := by
  have hrl : r < H.length := (List.getElem?_eq_some_iff.1 hr).1
  have hat := fun {i : Nat} (h : i < l.length) => rowDs_at h
  generalize rowDs l = c at hr hat
  refine con_trimU (C := C0) (fn := Tryd.f30) Tryd.func30 rfl (by decide) mixed (mv := mv30) (vars := vars30) (c := Tryd.f30.body.getD .skip) (by kernel_rfl) rfl hH ?_
  simp [Tryd.f30]
  refine loopC (fun d e H' => ∃ (i : Nat) (x6 x7 x16 x77 : FV) (J : Heap), H' = H ++ J ∧ d = l.length - i ∧ i ≤ l.length ∧
    e = [(0, .gr r g 10 l.length), (1, FV.sc (PV.sl (List.map Node.pv l))), (4, FV.sc (PV.bool false)), (5, FV.sc (.int .i64 (i : Nat))), (6, x6), (7, x7), (12, .sc (.bool false)), (16, x16), (77, x77)]) (d := l.length) ⟨0, _, _, _, _, [], (List.append_nil _).symm, rfl, Nat.zero_le _, rfl⟩ ?_
  rintro d e H' ⟨i, x6, x7, x16, x77, J, rfl, rfl, hi, rfl⟩
  simp
  refine CondC.mk (fun hlt => ?_) (fun hlt => ?_)
  · simp at hlt
    have hlt' : (i : Int) < (l.length : Int) := by omega
    obtain ⟨ra, rb⟩ := hat hlt
    have eb := Node.pv_eq l[i]
    have hx := (hok _ (List.getElem_mem hlt)).all
    have hk := refNodesSame _ l[i].kids (Nat.lt_succ_self _) hx.2.1 hx.2.2.1 l[i].kids
    have ht := refSame l[i].text l[i].text hx.1
    have hrw := refSameRows l[i].rows l[i].rows hx.2.2.2.1 hx.2.2.2.2.1
    have hg := refTableSame l[i].grid l[i].grid hx.2.2.2.2.2
    rw [decide_eq_true rfl] at hk ht hrw hg
    simp only [nodeD] at ra
    have hq := List.getElem?_eq_getElem hlt
    generalize l[i] = y at ra eb hk ht hrw hg hq
    simp only [gl] at eb ht hrw
    simp [hlt', heap_old hrl, hr, ra, rb, hq, eb, gl]
    refine CallQ.mk (Call.pure callable13 (by simp) (by simp) ht) ?_
    simp
    refine CallQ.mk (Call.pure callable52 (by simp) (by simp) hrw) ?_
    simp
    refine CallQ.mk (Call.pure callable53 (by simp) (by simp) hg) ?_
    simp
    refine CallQ.mk (Call.pure callable30 (by simp) (by simp) hk) ?_
    simp [wrapInc (i := i) (by omega)]
    exact ⟨l.length - (i + 1), by omega, i + 1, rfl, by omega, by omega⟩
  · simp at hlt
    simp
set_option linter.unusedSimpArgs false in
set_option maxRecDepth 20000 in
set_option maxHeartbeats 4000000 in
theorem refSameDocR {H : Heap} {r g : Nat} (D : Doc) (hl : D.kids.length ≤ 1073741824) (hok : ∀ x ∈ D.kids, x.Ok) (hr : H[r]? = some [.row g (rowDs D.kids)]) (hH : HOk H) :
    Con C0 21 [.agg [.sc (.str D.name), .sc (.str D.part), .sc (.str D.date), .sc (.str D.source), .gr r g 10 D.kids.length], .agg [.sc (.str D.name), .sc (.str D.part), .sc (.str D.date), .sc (.str D.source), .sc (.sl (D.kids.map Node.pv))]] H (.sc (.bool true)) H := by
  have hrl : r < H.length := (List.getElem?_eq_some_iff.1 hr).1
  have hx1 : ∀ f ∈ body [FV.sc (.str D.name), .sc (.str D.part), .sc (.str D.date), .sc (.str D.source), .gr r g 10 D.kids.length], f.und0 (H.length + 1) = true := fun f hf => by
    simp only [body, List.mem_cons, List.not_mem_nil, or_false] at hf
    rcases hf with rfl | rfl | rfl | rfl | rfl <;> first | rfl | (simp only [FV.und0, decide_eq_true_eq]; omega)
  have hx2 : ∀ f ∈ body [FV.sc (.str D.name), .sc (.str D.part), .sc (.str D.date), .sc (.str D.source), .sc (.sl (D.kids.map Node.pv))], f.np0 = true := fun f hf => by
    simp only [body, List.mem_cons, List.not_mem_nil, or_false] at hf
    rcases hf with rfl | rfl | rfl | rfl | rfl <;> rfl
  have ok2' := ok1 (X := [_]) (hH.more hx1) hx2
  have cs := refSameR D.kids hl hok (H := H ++ [[FV.sc (.str D.name), .sc (.str D.part), .sc (.str D.date), .sc (.str D.source), .gr r g 10 D.kids.length], [FV.sc (.str D.name), .sc (.str D.part), .sc (.str D.date), .sc (.str D.source), .sc (.sl (D.kids.map Node.pv))]]) (by rw [heap_old hrl]; exact hr) (by simpa using ok2')
  generalize D.kids = DK at *
  refine con_trimU (C := C0) (fn := Tryd.f21) Tryd.func21 rfl (by decide) mixed (mv := mv21) (vars := vars21) (c := Tryd.f21.body.getD .skip) (by kernel_rfl) rfl hH ?_
  simp [Tryd.f21]
  refine CallQ.mk (Call.shared callable30 cs) ?_
  simp
end Go.Proofs.YtlbjfjaleefiiaaDoor.Ev
end
section
namespace Go.Proofs.YtlbjfjaleefiiaaDoor.Ev
open Go
set_option linter.unusedSimpArgs false in
set_option maxRecDepth 20000 in
set_option maxHeartbeats 16000000 in
theorem conDocR {H : Heap} {b : Nat} {ro : Option (Nat × Nat)} {t : FV} {B : Bd} (h : BIn H b ro t B) (hl : B.long ≤ 300000000) (hne : (docD B).kids ≠ []) :
    Con C0 12 [.ptr b 0] H (.agg [.sc (.str (docD B).name), .sc (.str (docD B).part), .sc (.str (docD B).date), .sc (.str (docD B).source), .gr H.length 0 10 (docD B).kids.length]) (H ++ [[.row 0 (rowDs (docD B).kids)]]) := by
  have hbl : b < H.length := (List.getElem?_eq_some_iff.1 h.box).1
  refine con_handA (C := C0) (pre := [.sc (.str (docD B).name), .sc (.str (docD B).part), .sc (.str (docD B).date), .sc (.str (docD B).source)]) (fn := Tryd.f12) Tryd.func12 rfl (by decide) mixed (mv := mv12) (vars := vars12) (c := Tryd.f12.body.getD .skip) (by kernel_rfl) (by simp [FV.np0]) h.ok (fun f hf => FV.und_np (rowDs_np _ f hf)) ?_
  have hb := h.box
  have hr := h.row
  simp only [bCells] at hb
  generalize hoF : oF ro B.opens.length = o at hb
  have c0 : ∀ p : FV, p = .sc (gl B.text) → CIn H (H ++ [docZ, bCells { B with kids := [], opens := [] } (.own []) p]) none (.sc (gl B.text)) { B with kids := [], opens := [] } := fun p hp => by subst hp; exact .first h.ok rfl rfl
  have hkl := len_le_long B.kids
  have hol := len_le_long B.opens
  unfold Bd.long at hl
  rcases h.txt with rfl | ⟨htn, rfl⟩
  all_goals
    simp [Tryd.f12, hb, heap_old hbl, gl]
    refine loopC (fun d e H' => ∃ (i : Nat) (x5 x40 : FV), CIn H H' none (.sc (gl B.text)) { B with kids := B.kids.take i, opens := [] } ∧ d = B.kids.length - i ∧ i ≤ B.kids.length ∧ e = [(0, .ptr b 0), (2, .ptr H.length 0), (3, .ptr (H.length + 1) 0), (5, x5), (7, .undef), (9, .sc (.bool false)), (37, .sc (.sl (B.kids.map Node.pv))), (38, .sc (.int .i64 B.kids.length)), (39, .sc (.int .i64 i)), (40, x40), (61, .undef), (62, .undef), (63, .undef), (64, .undef), (87, .undef)]) (d := B.kids.length) ⟨0, .undef, .undef, c0 _ (by first | rfl | (rw [htn]; rfl)), rfl, Nat.zero_le _, rfl⟩ ?_
    rintro d e H' ⟨i, x5, x40, hC, rfl, hi, rfl⟩
    simp
    refine CondC.mk (fun hlt => ?_) (fun hlt => ?_)
    · simp at hlt
      have hq : (B.kids.map Node.pv)[i]? = some (B.kids[i]).pv := by simp [hlt]
      have ht := takeMap hq
      have hK := hC.kid B.kids[i]
      have hkk : B.kids.take i ++ [B.kids[i]] = B.kids.take (i + 1) := by rw [List.take_add_one, List.getElem?_eq_getElem hlt]; rfl
      rw [hkk] at hK
      have hyl := sumBy_mem' Node.long (List.getElem_mem hlt)
      have sr := sizedTake (sizedN B.kids) i
      have hw : IntKind.i64.wrap ((i : Int) + 1) = ((i + 1 : Nat) : Int) := by rw [wrap64 (by omega) (by omega)]; omega
      generalize B.kids[i] = y at hq hyl hK ht
      have cc := conCopied (SizeOf.sizeOf y + 1) y (Nat.lt_succ_self _) (by omega)
      rw [Node.toFV_eq] at cc
      rw [Node.pv_eq] at hq ht
      simp only [gl] at cc hq ht
      have hbx := hC.bin.box
      have hcl := hC.lt
      simp only [bCells, oF] at hbx
      simp only [bCells, nodeD] at hK
      have s1 : ∀ (v w : List FV) (L : Heap), (H'.set (H.length + 1) v ++ L).set (H.length + 1) w = H'.set (H.length + 1) w ++ L := fun v w L => hs_set hcl
      have hlen : min i B.kids.length = i := Nat.min_eq_left hi
      have n1 : (i : Int) < (i : Int) + 1 := by omega
      simp [hq]
      refine DrawC.mk (fun _ _ => .oagg (nodeO y)) ?_
      simp [hbx, heap_old hcl, heap_old_set hcl, hs_at, hs_at0, hs_b hcl, s1]
      refine ⟨?_, ?_, ?_⟩
      all_goals
        refine CallQ.mk (CallD.pure callable34 (by simp) (by simp [nodeO]) cc rfl) ?_
        simp [hbx, heap_old hcl, heap_old_set hcl, hs_at, hs_at0, hs_b hcl, s1, hsetB hcl, nodeO, sized1, lenMax, sr, hw, ht, hlen, n1]
        rw [List.map_take] at hK
        exact ⟨by omega, B.kids.length - (i + 1), by omega, i + 1, hK, rfl, by omega, by omega⟩
    · simp at hlt
      obtain rfl : i = B.kids.length := by omega
      rw [List.take_length] at hC
      have hbo := (hC.old hbl).trans hb
      obtain ⟨o61, ho61⟩ : ∃ o61, o61 = oL ro B.opens.length := ⟨_, rfl⟩
      rcases ro with _ | ⟨r, g⟩
      all_goals
        subst hoF
        simp only [oF] at hbo
        first
          | (have hr' : B.opens = [] := hr
             simp [hbo, hr'])
          | simp [hbo]
        refine loopC (fun d e H'' => ∃ (j : Nat) (ro' : Option (Nat × Nat)) (x7 x64 : FV), CIn H H'' ro' (.sc (gl B.text)) { B with opens := B.opens.take j } ∧ d = B.opens.length - j ∧ j ≤ B.opens.length ∧ e = [(0, .ptr b 0), (2, .ptr H.length 0), (3, .ptr (H.length + 1) 0), (5, x5), (7, x7), (9, .sc (.bool false)), (37, .sc (.sl (B.kids.map Node.pv))), (38, .sc (.int .i64 B.kids.length)), (39, .sc (.int .i64 B.kids.length)), (40, .sc (.bool false)), (61, o61), (62, .sc (.int .i64 B.opens.length)), (63, .sc (.int .i64 j)), (64, x64), (87, .undef)]) (d := B.opens.length) ⟨0, none, .undef, .undef, hC, rfl, Nat.zero_le _, by first | simp [ho61, oL, hr'] | simp [ho61, oL]⟩ ?_
        rintro d e H2 ⟨j, ro', x7, x64, hD, rfl, hj, rfl⟩
        simp
        refine CondC.mk (fun hlt2 => ?_) (fun hlt2 => ?_)
        · simp at hlt2
          first
            | (rw [hr'] at hlt2; exact absurd hlt2 (by simp))
            | (obtain ⟨h1, rest, hnp, k2⟩ := hr
               have hrl : r < H.length := (List.getElem?_eq_some_iff.1 k2).1
               have k3 := (hD.old hrl).trans k2
               obtain ⟨ra, rb⟩ := row_at (l := B.opens) (rest := rest) hlt2
               have hyl := sumBy_mem' Node.long (List.getElem_mem hlt2)
               have hw : IntKind.i64.wrap ((j : Int) + 1) = ((j + 1 : Nat) : Int) := by rw [wrap64 (by omega) (by omega)]; omega
               have hkk : B.opens.take j ++ [B.opens[j]] = B.opens.take (j + 1) := by rw [List.take_add_one, List.getElem?_eq_getElem hlt2]; rfl
               have hlt3 : (j : Int) < (B.opens.length : Int) := by omega
               generalize B.opens[j] = y at ra hyl hkk
               have cc := conCopied (SizeOf.sizeOf y + 1) y (Nat.lt_succ_self _) (by omega)
               rw [Node.toFV_eq] at cc
               simp only [gl] at cc
               generalize rowC B.opens ++ rest = cs at k3 ra rb
               simp only [nodeD] at ra
               have hcl := hD.lt
               have hcl2 : H2.length ≠ H.length + 1 := by omega
               simp only [oL] at ho61
               have hbx := hD.bin.box
               rcases ro' with _ | ⟨r', g'⟩
               · have hj0 : B.opens.take j = [] := hD.bin.row
                 obtain rfl : j = 0 := by
                   rcases List.take_eq_nil_iff.1 hj0 with h | h
                   · exact h
                   · rw [h] at hlt2; exact absurd hlt2 (by simp)
                 simp only [Nat.zero_mul, List.drop_zero, Nat.zero_add] at ra rb
                 have hK := hD.row0 y
                 rw [hj0, List.nil_append] at hkk
                 rw [hkk] at hK
                 simp only [bCells, oF] at hbx
                 simp only [bCells, nodeD] at hK
                 have s1 : ∀ (v w : List FV) (L : Heap), (H2.set (H.length + 1) v ++ L).set (H.length + 1) w = H2.set (H.length + 1) w ++ L := fun v w L => hs_set hcl
                 simp [hlt2, k3, ra, rb, ho61]
                 refine DrawC.mk (fun _ _ => .oagg (nodeO y)) ?_
                 simp [hbx, heap_old hcl, heap_old_set hcl, hs_at, hs_at0, hs_b hcl, s1]
                 refine ⟨?_, ?_, ?_⟩
                 all_goals
                   refine CallQ.mk (CallD.pure callable34 (by simp) (by simp [nodeO]) cc rfl) ?_
                   simp [hbx, heap_old hcl, heap_old_set hcl, hs_at, hs_at0, hs_b hcl, s1, hsetB hcl, nodeO, sized1, lenMax]
                   exact ⟨B.opens.length - 1, by omega, 1, ⟨_, hK⟩, rfl, by omega, by decide⟩
               · have hK := hD.rowS y
                 obtain ⟨k1, rest', hnp', kr⟩ := hD.bin.row
                 have hrl' : r' < H2.length := (List.getElem?_eq_some_iff.1 kr).1
                 have k1s : H.length + 1 ≠ r' := fun h => k1 h.symm
                 have hjl : (B.opens.take j).length = j := by rw [List.length_take]; omega
                 simp only [hkk, hjl] at hK hbx kr
                 simp only [bCells, oF] at hbx
                 simp only [bCells, nodeD] at hK
                 have hcl3 : (rowC (B.opens.take j)).length = j * 10 := by rw [rowC_len, hjl]
                 generalize rowC (B.opens.take j) = rc at kr hK hcl3
                 have hk0 : j * 10 ≤ (rc ++ rest').length := by rw [List.length_append]; omega
                 have kr2 : H2[r'] = [.row g' (rc ++ rest')] := (List.getElem?_eq_some_iff.1 kr).2
                 have tk : List.take (j * 10) (rc ++ rest') = rc := List.take_left' hcl3
                 have hsp : ∀ z v : List FV, z.length = v.length → splice (rc ++ z) (j * 10) v = rc ++ v := fun z v hz => splice_end hz hcl3
                 have n1 : (j : Int) < (j : Int) + 1 := by omega
                 have hs9 : ∀ a0 a1 a2 a3 a4 a5 a6 a7 a8 v : FV, splice [a0, a1, a2, a3, a4, a5, a6, a7, a8] 5 [v] = [a0, a1, a2, a3, a4, v, a6, a7, a8] := fun _ _ _ _ _ _ _ _ _ _ => rfl
                 have hsb : ∀ v : List FV, (H2.set r' v)[H.length + 1]? = H2[H.length + 1]? := fun v => List.getElem?_set_ne k1
                 have hsr : ∀ v : List FV, (H2.set (H.length + 1) v)[r']? = H2[r']? := fun v => List.getElem?_set_ne (fun h => k1 h.symm)
                 have hcm : ∀ v w : List FV, (H2.set (H.length + 1) v).set r' w = (H2.set r' w).set (H.length + 1) v := fun v w => List.set_comm v w (fun h => k1 h.symm)
                 have hbb : ∀ v : List FV, (H2.set (H.length + 1) v)[H.length + 1]? = some v := fun v => hsetB hcl
                 have hrr : ∀ v : List FV, (H2.set r' v)[r']? = some v := fun v => hsetB hrl'
                 have hbr : ∀ v w : List FV, ((H2.set r' v).set (H.length + 1) w)[r']? = some v := fun v w => by rw [List.getElem?_set_ne (fun h => k1 h.symm)]; exact hrr v
                 have hbw : ∀ v w : List FV, ((H2.set r' v).set (H.length + 1) w)[H.length + 1]? = some w := fun v w => hsetB (by simpa using hcl)
                 have hcw : ∀ v w u : List FV, ((H2.set r' v).set (H.length + 1) w).set r' u = (H2.set r' u).set (H.length + 1) w := fun v w u => by rw [hcm2 k1, List.set_set]
                 simp [hlt2, k3, ra, rb, ho61]
                 refine DrawC.mk (fun _ _ => .oagg (nodeO y)) ?_
                 simp [hbx, heap_old hcl, heap_old_set hcl, hs_at, hs_at0, hs_b hcl, -splice]
                 refine ⟨?_, ?_, ?_⟩
                 all_goals
                   refine CallQ.mk (CallD.pure callable34 (by simp) (by simp [nodeO]) cc rfl) ?_
                   simp [hbx, kr, List.set_append_left, List.getElem?_append_left, hcl, hrl', kr2, List.getElem_set_ne k1, List.getElem_set_ne k1s, hbb, hsr, hcm, hbr, hbw, hcw, hs9, hsp, tk, hk0, hcl3, n1, nodeO, sized1, lenMax, hw, -splice]
                   exact ⟨by omega, B.opens.length - (j + 1), by omega, j + 1, ⟨_, hK⟩, rfl, by omega, by omega⟩)
        · simp at hlt2
          obtain rfl : j = B.opens.length := by omega
          rw [List.take_length] at hD
          obtain ⟨H3, t3, e1, e2, e3⟩ := conEnd hD.bin (by show Bd.long B ≤ _; unfold Bd.long; omega)
          obtain ⟨H4, f1, f2, f3⟩ := emptying (endBd B).opens.length rfl e2 (by have := endBd_long B; unfold Bd.long at this ⊢; omega)
          have hE : CIn H H4 ro' t3 (docBd B) := ⟨f2, (hD.fr.trans e3.toG).trans f3.toG⟩
          have hlg : (docBd B).long ≤ 400000000 := by
            show Bd.long (emptyN _ _) ≤ _
            rw [emptyN_long]; have := endBd_long B; unfold Bd.long at this ⊢; omega
          have hsk : sumBy Node.long (docBd B).kids ≤ 1073741824 := by unfold Bd.long at hlg; omega
          have hkl := len_le_long (docBd B).kids
          obtain ⟨LT, hLT, ct⟩ := treeTidyR fitS ⟨(docBd B).name, (docBd B).part, (docBd B).date, (docBd B).source, (docBd B).kids⟩ (small_of hsk) (by show (docBd B).kids.length ≤ _; omega) H4 f2.ok hne
          have hRk : (tidyD ⟨(docBd B).name, (docBd B).part, (docBd B).date, (docBd B).source, (docBd B).kids⟩).kids = (docD B).kids := rfl
          rw [hRk] at ct
          have n1 : (docD B).name = (docBd B).name := rfl
          have n2 : (docD B).part = (docBd B).part := rfl
          have n3 : (docD B).date = (docBd B).date := rfl
          have n4 : (docD B).source = (docBd B).source := rfl
          have hEb := hE.bin.box
          have hEd := hE.doc
          have hEl := hE.lt
          have hcut := fun w => hE.cut w
          have hlen0 : (endBd B).opens.length ≤ 400000000 := by
            have h1 := endBd_long B
            have h2 := len_le_long (endBd B).opens
            unfold Bd.long at h1; omega
          have hbx4 : ∀ (v w : List FV), (H4.set H.length v ++ (LT ++ [w]))[H4.length + 3]? = some w := fun v w => by
            rw [List.getElem?_append_right (by simp), List.length_set, Nat.add_sub_cancel_left, List.getElem?_append_right (by omega), hLT]
            rfl
          have hsd : ∀ (v : List FV) (L : Heap), (H4 ++ L).set H.length v = H4.set H.length v ++ L := fun v L => List.set_append_left _ _ (by omega)
          have hgd : ∀ (v : List FV) (L : Heap), (H4.set H.length v ++ L)[H.length]? = some v := fun v L => by
            rw [List.getElem?_append_left (by rw [List.length_set]; omega), List.getElem?_set_self (by omega)]
          have hod : ∀ (L : Heap), (H4 ++ L)[H.length]? = H4[H.length]? := fun L => heap_old (by omega)
          have htd : ∀ (v : List FV) (L : Heap), (H4.set H.length v ++ L).take H.length = H := fun v L => by
            rw [List.take_append_of_le_length (by rw [List.length_set]; omega)]
            exact hcut v
          have hle4 : H.length ≤ H4.length + 3 := by omega
          rw [n1, n2, n3, n4]
          generalize (docD B).kids = DK at *
          simp only [docZ] at hEd
          simp only [bCells] at hEb
          generalize docBd B = F at *
          simp
          refine CallQ.mk (Call.shared callable11 e1) ?_
          simp
          refine loopC (fun d e H'' => ∃ (E : Bd) (x87 : FV), Emptying (H.length + 1) ro' t3 H'' E H4 ∧ d = E.opens.length ∧ E.opens.length ≤ 400000000 ∧ e = [(0, .ptr b 0), (2, .ptr H.length 0), (3, .ptr (H.length + 1) 0), (5, x5), (7, x7), (9, .sc (.bool false)), (37, .sc (.sl (B.kids.map Node.pv))), (38, .sc (.int .i64 B.kids.length)), (39, .sc (.int .i64 B.kids.length)), (40, .sc (.bool false)), (61, o61), (62, .sc (.int .i64 B.opens.length)), (63, .sc (.int .i64 B.opens.length)), (64, .sc (.bool false)), (87, x87)]) (d := (endBd B).opens.length) ⟨endBd B, .undef, f1, rfl, hlen0, by first | rfl | simp⟩ ?_
          rintro d e H5 ⟨E, x87, hF, rfl, hel, rfl⟩
          cases hF with
          | none hb5 ho =>
            have hq : oF ro' F.opens.length = oF ro' 0 := by
              have h1 := hEb.symm.trans hb5.box
              rw [ho] at h1
              have h2 := congrArg (fun o => (o.getD [])[5]?) h1
              simpa [bCells] using h2
            rw [hq] at hEb
            rcases ro' with _ | ⟨r', g'⟩
            all_goals
              simp only [oF] at hEb
              simp [hEb]
              refine CallQ.mk (Call.shared callable36 ct) ?_
              simp [hEd, hsd, hod, hgd, htd, hbx4, hle4]
              exact ⟨_, _, ⟨rfl, rfl⟩, hle4, hbx4 _ _⟩
          | @step _ H6 _ _ l x hb5 ho hp hr2 =>
            have hpl := popBd_len ho
            have hn : E.opens.length = l.length + 1 := by rw [ho]; simp
            have hbx := hb5.box
            have n1 : (0 : Int) < (l.length : Int) + 1 := by omega
            rcases ro' with _ | ⟨r', g'⟩
            · have h9 : E.opens = [] := hb5.row
              rw [h9] at hn; simp at hn
            · simp only [bCells, oF, hn] at hbx
              simp [hbx, n1, hn]
              refine CallQ.mk (Call.shared callable35 hp) ?_
              simp
              exact ⟨l.length, by omega, popBd E, hr2, hpl.symm, by omega⟩
end Go.Proofs.YtlbjfjaleefiiaaDoor.Ev
end
section
namespace Go.Proofs.YtlbjfjaleefiiaaDoor.Ev
open Go
def glC (l : List Glyph) : List FV := l.flatMap fun g => [.sc (.int .i32 g.r), .sc (.int .u8 g.s)]
theorem glC_cons (g : Glyph) (l : List Glyph) : glC (g :: l) = .sc (.int .i32 g.r) :: .sc (.int .u8 g.s) :: glC l := rfl
theorem glC_len (l : List Glyph) : (glC l).length = l.length * 2 := by
  induction l with
  | nil => rfl
  | cons g l ih => rw [glC_cons]; simp [ih]; omega
theorem chunk_gl (rest : List FV) : ∀ l : List Glyph, chunkPV 2 l.length (glC l ++ rest) = some (l.map Glyph.pv)
  | [] => rfl
  | g :: l => by
    rw [glC_cons, List.length_cons, chunkPV]
    have h1 : scAll ((FV.sc (.int .i32 g.r) :: .sc (.int .u8 g.s) :: glC l ++ rest).take 2) = some [.int .i32 g.r, .int .u8 g.s] := rfl
    have h2 : (FV.sc (.int .i32 g.r) :: .sc (.int .u8 g.s) :: glC l ++ rest).drop 2 = glC l ++ rest := rfl
    rw [h1, h2, chunk_gl rest l]
    rfl
def Node.retext (x : Node) (L : List Glyph) : Node := .mk x.kind x.line x.n L x.kids x.rows x.grid
set_option linter.unusedSimpArgs false in
set_option maxRecDepth 20000 in
set_option maxHeartbeats 16000000 in
theorem conCopiedG {H : Heap} {r g : Nat} {rest : List FV} (x : Node) (L : List Glyph) (hx : x.long ≤ 1073741824) (hL : L.length ≤ 1073741824) (hr : H[r]? = some [.row g (glC L ++ rest)]) (hH : HOk H) :
    Con C0 34 [.agg [.sc (.int .i64 x.kind), .sc (.int .i64 x.line), .sc (.int .i64 x.n), .gr r g 2 L.length, .sc (.sl (x.kids.map Node.pv)), .sc (.sl (x.rows.map gl)), .sc (.str x.grid.cols), .sc (.sl (x.grid.rows.map TRow.pv)), .sc (.bool x.grid.box), .sc (.bool x.grid.all)]] H (.oagg (nodeO (x.retext L))) H := by
  obtain ⟨l1, l2, l3, l4, l5, l6, l7⟩ := long_sizes hx
  have hrl : r < H.length := (List.getElem?_eq_some_iff.1 hr).1
  have hcc := fun y hy => conCopied (SizeOf.sizeOf y + 1) y (Nat.lt_succ_self _) (l7 y hy)
  have hch := chunk_gl rest L
  have hlc := glC_len L
  have hlr : L.length * 2 ≤ (glC L ++ rest).length := by rw [List.length_append, hlc]; omega
  generalize glC L ++ rest = c at hr hch hlr
  obtain ⟨k, ln, n, text, kids, rows, grid⟩ := x
  obtain ⟨cols, trows, box, all⟩ := grid
  simp only [Node.retext, nodeO, Node.kind_mk, Node.line_mk, Node.n_mk, Node.text_mk, Node.kids_mk, Node.rows_mk, Node.grid_mk] at *
  refine con_trimO (C := C0) (fn := Tryd.f34) Tryd.func34 rfl (t := 2) (n := 10) (ty := 48) rfl (by simp [aggOf]) (by simp) mixed (mv := 2000017 :: 10000017 :: mv34) (vars := vars34) (c := Tryd.f34.body.getD .skip) (by kernel_rfl) (by simp [FV.under, FV.und0]) hH ?_
  simp [Tryd.f34, gl, lenMax, szNil, heap_old hrl, hr, hch]
  refine ⟨hlr, by omega, ?_⟩
  have w1 : ∀ {i : Nat}, i < 1073741824 → IntKind.i64.wrap ((i : Int) + 1) = ((i + 1 : Nat) : Int) := fun {i} h => by rw [wrap64 (by omega) (by omega)]; omega
  refine loopC (fun d e H' => ∃ (i : Nat) (x7 x33 : FV), H' = H ++ [[.sc (.int .i64 k), .sc (.int .i64 ln), .sc (.int .i64 n), .own (L.map Glyph.pv), .own [], .own ((rows.take i).map gl), .sc (.str cols), .own [], .sc (.bool box), .sc (.bool all)], nodeO Node.zero] ∧ d = rows.length - i ∧ i ≤ rows.length ∧
    e = [(0, .agg [.sc (.int .i64 k), .sc (.int .i64 ln), .sc (.int .i64 n), .gr r g 2 L.length, .sc (.sl (kids.map Node.pv)), .sc (.sl (rows.map gl)), .sc (.str cols), .sc (.sl (trows.map TRow.pv)), .sc (.bool box), .sc (.bool all)]), (1, .ptr H.length 0), (2, .ptr (H.length + 1) 0), (3, .sc (.sl (rows.map gl))), (4, .sc (.sl (kids.map Node.pv))), (5, .sc (.sl (trows.map TRow.pv))), (7, x7), (9, .undef), (11, .undef), (12, .undef), (14, .undef), (30, .sc (.sl (rows.map gl))), (31, .sc (.int .i64 rows.length)), (32, .sc (.int .i64 i)), (33, x33), (44, .undef), (45, .undef), (46, .undef), (47, .undef), (58, .undef), (59, .undef), (60, .undef), (61, .undef), (68, .undef), (69, .undef), (70, .undef), (71, .undef)]) (d := rows.length) ⟨0, .undef, .undef, ?_, rfl, Nat.zero_le _, ?_⟩ ?_
  · rfl
  · simp
  · rintro d e H' ⟨i, x7, x33, rfl, rfl, hi, rfl⟩
    simp
    refine CondC.mk (fun hlt => ?_) (fun hlt => ?_)
    · simp at hlt
      have hq : (rows.map gl)[i]? = some (gl rows[i]) := by simp [hlt]
      have hr5 := l5 rows[i] (List.getElem_mem hlt)
      have ht := takeMap hq
      have sr := sizedTake (sizedGl rows) i
      generalize rows[i] = rw' at hq hr5 ht
      have s2 := sized_gl rw'
      simp only [gl] at ht
      simp [hq, gl, s2, lenMax, sr, w1 (i := i) (by omega), szNil, sizedSl]
      exact ⟨by omega, by omega, rows.length - (i + 1), by omega, i + 1, ht, rfl, by omega, by omega⟩
    · simp at hlt
      obtain rfl : i = rows.length := by omega
      have tl : (rows.map gl).take rows.length = rows.map gl := List.take_of_length_le (by simp)
      simp [tl]
      refine loopC (fun d e H' => ∃ (i : Nat) (x9 x47 : FV) (J : Heap), H' = H ++ ([.sc (.int .i64 k), .sc (.int .i64 ln), .sc (.int .i64 n), .own (L.map Glyph.pv), .own ((kids.map Node.pv).take i), .own (rows.map gl), .sc (.str cols), .own [], .sc (.bool box), .sc (.bool all)] :: nodeO Node.zero :: J) ∧ d = kids.length - i ∧ i ≤ kids.length ∧
        e = [(0, .agg [.sc (.int .i64 k), .sc (.int .i64 ln), .sc (.int .i64 n), .gr r g 2 L.length, .sc (.sl (kids.map Node.pv)), .sc (.sl (rows.map gl)), .sc (.str cols), .sc (.sl (trows.map TRow.pv)), .sc (.bool box), .sc (.bool all)]), (1, .ptr H.length 0), (2, .ptr (H.length + 1) 0), (3, .sc (.sl (rows.map gl))), (4, .sc (.sl (kids.map Node.pv))), (5, .sc (.sl (trows.map TRow.pv))), (7, x7), (9, x9), (11, .undef), (12, .undef), (14, .undef), (30, .sc (.sl (rows.map gl))), (31, .sc (.int .i64 rows.length)), (32, .sc (.int .i64 rows.length)), (33, .sc (.bool false)), (44, .sc (.sl (kids.map Node.pv))), (45, .sc (.int .i64 kids.length)), (46, .sc (.int .i64 i)), (47, x47), (58, .undef), (59, .undef), (60, .undef), (61, .undef), (68, .undef), (69, .undef), (70, .undef), (71, .undef)]) (d := kids.length) ⟨0, .undef, .undef, [], ?_, rfl, Nat.zero_le _, ?_⟩ ?_
      · rfl
      · simp
        done
      · rintro d e H' ⟨i, x9, x47, J, rfl, rfl, hi2, rfl⟩
        simp
        refine CondC.mk (fun hlt2 => ?_) (fun hlt2 => ?_)
        · simp at hlt2
          have hq : (kids.map Node.pv)[i]? = some (kids[i]).pv := by simp [hlt2]
          have hy := List.getElem_mem hlt2
          have hyl := l7 _ hy
          have ihy := hcc _ hy
          have ht := takeMap hq
          have sr := sizedTake (sizedN kids) i
          generalize kids[i] = y at hq ht hyl ihy
          rw [Node.pv_eq] at hq ht ihy
          simp only [gl] at hq ht ihy
          simp at ihy
          simp [hq, gl]
          refine CallQ.mk (CallP.pure callable34 (by simp) (by simp [nodeO]) ihy) ?_
          simp [nodeO, lenMax, sr, sized1, w1 (i := i) (by omega)]
          exact ⟨by omega, kids.length - (i + 1), by omega, i + 1, ht, rfl, by omega, by omega⟩
        · simp at hlt2
          obtain rfl : i = kids.length := by omega
          have tk : (kids.map Node.pv).take kids.length = kids.map Node.pv := List.take_of_length_le (by simp)
          simp [tk]
          refine loopC (fun d e H' => ∃ (i : Nat) (x11 x12 x14 x61 x68 x69 x70 x71 : FV) (J : Heap), H' = H ++ ([.sc (.int .i64 k), .sc (.int .i64 ln), .sc (.int .i64 n), .own (L.map Glyph.pv), .own (kids.map Node.pv), .own (rows.map gl), .sc (.str cols), .own ((trows.map TRow.pv).take i), .sc (.bool box), .sc (.bool all)] :: nodeO Node.zero :: J) ∧ d = trows.length - i ∧ i ≤ trows.length ∧
            e = [(0, .agg [.sc (.int .i64 k), .sc (.int .i64 ln), .sc (.int .i64 n), .gr r g 2 L.length, .sc (.sl (kids.map Node.pv)), .sc (.sl (rows.map gl)), .sc (.str cols), .sc (.sl (trows.map TRow.pv)), .sc (.bool box), .sc (.bool all)]), (1, .ptr H.length 0), (2, .ptr (H.length + 1) 0), (3, .sc (.sl (rows.map gl))), (4, .sc (.sl (kids.map Node.pv))), (5, .sc (.sl (trows.map TRow.pv))), (7, x7), (9, x9), (11, x11), (12, x12), (14, x14), (30, .sc (.sl (rows.map gl))), (31, .sc (.int .i64 rows.length)), (32, .sc (.int .i64 rows.length)), (33, .sc (.bool false)), (44, .sc (.sl (kids.map Node.pv))), (45, .sc (.int .i64 kids.length)), (46, .sc (.int .i64 kids.length)), (47, .sc (.bool false)), (58, .sc (.sl (trows.map TRow.pv))), (59, .sc (.int .i64 trows.length)), (60, .sc (.int .i64 i)), (61, x61), (68, x68), (69, x69), (70, x70), (71, x71)]) (d := trows.length) ⟨0, .undef, .undef, .undef, .undef, .undef, .undef, .undef, .undef, J, ?_, rfl, Nat.zero_le _, ?_⟩ ?_
          · rfl
          · simp
            done
          · rintro d e H' ⟨i, x11, x12, x14, x61, x68, x69, x70, x71, J, rfl, rfl, hi3, rfl⟩
            simp
            refine CondC.mk (fun hlt3 => ?_) (fun hlt3 => ?_)
            · simp at hlt3
              have hq : (trows.map TRow.pv)[i]? = some (trows[i]).pv := by simp [hlt3]
              obtain ⟨hy1, hy2⟩ := l6 _ (List.getElem_mem hlt3)
              have ht := takeMap hq
              have sr := sizedTake (sizedT trows) i
              generalize trows[i] = y at hq ht hy1 hy2
              obtain ⟨rule, cs⟩ := y
              simp only [TRow.pv] at hq ht hy1 hy2
              simp [hq]
              refine loopC (fun d e H' => ∃ (j : Nat) (x14 x71 : FV), H' = H ++ ([.sc (.int .i64 k), .sc (.int .i64 ln), .sc (.int .i64 n), .own (L.map Glyph.pv), .own (kids.map Node.pv), .own (rows.map gl), .sc (.str cols), .own ((trows.map TRow.pv).take i), .sc (.bool box), .sc (.bool all)] :: nodeO Node.zero :: (J ++ [[.sc (.bool rule), .sc (.sl (cs.map gl))], [.sc (.bool rule), .own ((cs.map gl).take j)]])) ∧ d = cs.length - j ∧ j ≤ cs.length ∧
                e = [(0, .agg [.sc (.int .i64 k), .sc (.int .i64 ln), .sc (.int .i64 n), .gr r g 2 L.length, .sc (.sl (kids.map Node.pv)), .sc (.sl (rows.map gl)), .sc (.str cols), .sc (.sl (trows.map TRow.pv)), .sc (.bool box), .sc (.bool all)]), (1, .ptr H.length 0), (2, .ptr (H.length + 1) 0), (3, .sc (.sl (rows.map gl))), (4, .sc (.sl (kids.map Node.pv))), (5, .sc (.sl (trows.map TRow.pv))), (7, x7), (9, x9), (11, .ptr (H.length + (J.length + 2)) 0), (12, .ptr (H.length + (J.length + 3)) 0), (14, x14), (30, .sc (.sl (rows.map gl))), (31, .sc (.int .i64 rows.length)), (32, .sc (.int .i64 rows.length)), (33, .sc (.bool false)), (44, .sc (.sl (kids.map Node.pv))), (45, .sc (.int .i64 kids.length)), (46, .sc (.int .i64 kids.length)), (47, .sc (.bool false)), (58, .sc (.sl (trows.map TRow.pv))), (59, .sc (.int .i64 trows.length)), (60, .sc (.int .i64 i)), (61, .sc (.bool true)), (68, .sc (.sl (cs.map gl))), (69, .sc (.int .i64 cs.length)), (70, .sc (.int .i64 j)), (71, x71)]) (d := cs.length) ⟨0, x14, x71, ?_, rfl, Nat.zero_le _, ?_⟩ ?_
              · simp
                done
              · simp [hlt3]
                done
              · rintro d e H' ⟨j, x14, x71, rfl, rfl, hj, rfl⟩
                simp
                refine CondC.mk (fun hlt4 => ?_) (fun hlt4 => ?_)
                · simp at hlt4
                  have hqc : (cs.map gl)[j]? = some (gl cs[j]) := by simp [hlt4]
                  have hr6 := hy2 cs[j] (List.getElem_mem hlt4)
                  have htc := takeMap hqc
                  have src := sizedTake (sizedGl cs) j
                  generalize cs[j] = rw' at hqc hr6 htc
                  have s2 := sized_gl rw'
                  simp only [gl] at htc
                  simp [hqc, gl, s2, lenMax, src, w1 (i := j) (by omega), szNil, sizedSl]
                  exact ⟨by omega, by omega, cs.length - (j + 1), by omega, j + 1, htc, rfl, by omega, by omega⟩
                · simp at hlt4
                  obtain rfl : j = cs.length := by omega
                  have tc : (cs.map gl).take cs.length = cs.map gl := List.take_of_length_le (by simp)
                  have s3 : ∀ (b : Bool) (l : List PV), Sized 2 [PV.agg [PV.bool b, PV.sl l]] := fun b l p hp => by rw [List.mem_singleton.1 hp]; rfl
                  simp [tc, lenMax, sr, s3, w1 (i := i) (by omega)]
                  exact ⟨by omega, trows.length - (i + 1), by omega, i + 1, ht, rfl, by omega, by omega⟩
            · simp at hlt3
              obtain rfl : i = trows.length := by omega
              have tt : (trows.map TRow.pv).take trows.length = trows.map TRow.pv := List.take_of_length_le (by simp)
              simp [tt, nodeO]
end Go.Proofs.YtlbjfjaleefiiaaDoor.Ev
end
section
namespace Go.Proofs.YtlbjfjaleefiiaaDoor.Ev
open Go
set_option linter.unusedSimpArgs false in
set_option maxRecDepth 20000 in
set_option maxHeartbeats 8000000 in
theorem conAddG {H : Heap} {b : Nat} {ro : Option (Nat × Nat)} {t : FV} {B : Bd} (h : BIn H b ro t B) {r g : Nat} {rest : List FV} (x : Node) (L : List Glyph) (hr : H[r]? = some [.row g (glC L ++ rest)]) (hrb : r ≠ b) (hro : ∀ q g, ro = some (q, g) → q ≠ r) (hx : x.long ≤ 100000000) (hL : L.length ≤ 100000000) (hl : B.long + (x.retext L).long ≤ 400000000) :
    ∃ H' t', Con C0 24 [.ptr b 0, .agg [.sc (.int .i64 x.kind), .sc (.int .i64 x.line), .sc (.int .i64 x.n), .gr r g 2 L.length, .sc (.sl (x.kids.map Node.pv)), .sc (.sl (x.rows.map gl)), .sc (.str x.grid.cols), .sc (.sl (x.grid.rows.map TRow.pv)), .sc (.bool x.grid.box), .sc (.bool x.grid.all)]] H (.tup []) H' ∧ BIn H' b ro t' (layBd (endBd B) (x.retext L)) ∧ Frm H H' b ro := by
  have hbl : b < H.length := (List.getElem?_eq_some_iff.1 h.box).1
  have hrl : r < H.length := (List.getElem?_eq_some_iff.1 hr).1
  have hel := endBd_long B
  obtain ⟨Y, hY⟩ : ∃ Y : List FV, Y = [.sc (.int .i64 x.kind), .sc (.int .i64 x.line), .sc (.int .i64 x.n), .gr r g 2 L.length, .sc (.sl (x.kids.map Node.pv)), .sc (.sl (x.rows.map gl)), .sc (.str x.grid.cols), .sc (.sl (x.grid.rows.map TRow.pv)), .sc (.bool x.grid.box), .sc (.bool x.grid.all)] := ⟨_, rfl⟩
  have h1 := h.more (fs := Y) (fun f hf => by
    rw [hY] at hf
    simp only [body, List.mem_cons, List.not_mem_nil, or_false] at hf
    rcases hf with rfl | rfl | rfl | rfl | rfl | rfl | rfl | rfl | rfl | rfl <;> first | rfl | (simp only [FV.und0, decide_eq_true_eq]; omega))
  obtain ⟨H1, t1, c1, c2, c3⟩ := conEnd h1 (by omega)
  have hx1 : H1[H.length]? = some Y := by
    rw [c3.same H.length (by omega) (fun r g hrg => by
      have hr := h.row
      subst hrg
      obtain ⟨_, rest, _, h2⟩ := hr
      have := (List.getElem?_eq_some_iff.1 h2).1
      omega), heap_at0]
    rfl
  have hr1 : H1[r]? = some [.row g (glC L ++ rest)] := by
    rw [c3.same r hrb (fun q g hq => fun hh => hro q g hq hh.symm), heap_old hrl]
    exact hr
  have cc := conCopiedG x L (by omega) (by omega) hr1 c2.ok
  obtain ⟨H2, d1, d2, d3⟩ := conLay c2 (x.retext L) (by omega)
  have hk := h.take d2 (c3.trans d3)
  refine ⟨H2.take H.length, t1, ?_, hk⟩
  subst hY
  rw [Node.toFV_eq] at d1
  simp only [Node.retext, Node.kind_mk, Node.line_mk, Node.n_mk, Node.text_mk, Node.kids_mk, Node.rows_mk, Node.grid_mk, gl] at cc d1 hx1 c1 ⊢
  refine con_trimU (C := C0) (fn := Tryd.f24) Tryd.func24 rfl (by decide) mixed (mv := mv24) (vars := vars24) (c := Tryd.f24.body.getD .skip) (by kernel_rfl) rfl (fun fs hfs f hf => by have := hk.1.ok fs hfs f hf; rw [hk.2.len] at this; exact this) ?_
  simp [Tryd.f24]
  refine CallQ.mk (Call.shared callable11 c1) ?_
  simp [hx1]
  refine CallQ.mk (Call.shared callable34 cc) ?_
  simp [nodeO]
  refine CallQ.mk (Call.shared callable33 d1) ?_
  simp
end Go.Proofs.YtlbjfjaleefiiaaDoor.Ev
end
section
namespace Go.Proofs.YtlbjfjaleefiiaaDoor.Ev
open Go
def bStep (B : Bd) (d : Do8) : Bd × Bool :=
  if d.kind = 1 then ({ B with name := nameS d.s 0, part := nameS d.s 1, date := nameS d.s 2, source := nameS d.s 3 }, false)
  else if d.kind = 2 then ({ endBd B with opens := (endBd B).opens ++ [d.x] }, false)
  else if d.kind = 3 then (closeBd B d.n, insideB (endBd B).opens d.n)
  else if d.kind = 4 then (shutBd B d.l, false)
  else if d.kind = 5 then (textBd B d.g d.n, false)
  else if d.kind = 6 then (endBd B, false)
  else (layBd (endBd B) d.x, false)
def Do8.box (d : Do8) : List FV := d.cells.map .sc
theorem Do8.box_und (d : Do8) (n : Nat) : ∀ f ∈ body d.box, f.und0 n = true := fun f hf => by
  simp only [body, Do8.box, Do8.cells, List.map_cons, List.map_nil, List.mem_cons, List.not_mem_nil, or_false] at hf
  rcases hf with rfl | rfl | rfl | rfl | rfl | rfl | rfl | rfl | rfl | rfl | rfl | rfl | rfl | rfl | rfl <;> rfl
theorem FrG.first {H : Heap} {b : Nat} {ro : Option (Nat × Nat)} (L : Heap) : FrG H (H ++ L) b ro ro := ⟨by simp, fun i hi _ _ => heap_old hi, fun r g hr => ⟨g, hr⟩, fun h0 r g hr => by rw [h0] at hr; simp at hr⟩
set_option linter.unusedSimpArgs false in
set_option maxRecDepth 20000 in
set_option maxHeartbeats 16000000 in
theorem conDone {H : Heap} {b : Nat} {ro : Option (Nat × Nat)} {t : FV} {B : Bd} (h : BIn H b ro t B) (d : Do8) (hl : B.long + d.long ≤ 200000000) (hs : d.s.length ≤ 1073741824) :
    ∃ H' t' ro', Con C0 16 [.ptr b 0, d.pv.toFV] H (.sc (.bool (bStep B d).2)) H' ∧ BIn H' b ro' t' (bStep B d).1 ∧ FrG H H' b ro ro' := by
  have hb := h.more (fs := d.box) (d.box_und _)
  have fr0 : FrG H (H ++ [d.box]) b ro ro := .first _
  have htl : B.text.length ≤ B.long := by unfold Bd.long; omega
  obtain ⟨k, s, x, n, l, g⟩ := d
  simp only [Do8.long] at hl
  unfold bStep
  simp only
  by_cases h1 : k = 1
  · subst h1
    have k0 := law8Name s 0 (by omega) hs
    have k1 := law8Name s 1 (by omega) hs
    have k2 := law8Name s 2 (by omega) hs
    have k3 := law8Name s 3 (by omega) hs
    obtain ⟨H1, c1, c2, c3⟩ := conTitle hb (nameS s 0) (nameS s 1) (nameS s 2) (nameS s 3)
    refine ⟨H1, t, ro, ?_, c2, fr0.trans c3.toG⟩
    simp only [Do8.pv, Do8.box, Do8.cells, gl] at *
    refine enter16 ?_
    simp [Tryd.f16]
    refine CallQ.mk (CallP.pure callable39 (by simp) (by simp) k0) ?_
    simp
    refine CallQ.mk (CallP.pure callable39 (by simp) (by simp) k1) ?_
    simp
    refine CallQ.mk (CallP.pure callable39 (by simp) (by simp) k2) ?_
    simp
    refine CallQ.mk (CallP.pure callable39 (by simp) (by simp) k3) ?_
    simp
    refine CallQ.mk (CallP.shared callable28 c1) ?_
    simp
  rw [if_neg h1]
  by_cases h2 : k = 2
  · rw [if_pos h2]
    obtain ⟨H1, t1, ro1, c1, c2, c3⟩ := conOpen hb x (by omega)
    refine ⟨H1, t1, ro1, ?_, c2, fr0.trans c3⟩
    rw [Node.toFV_eq] at c1
    simp only [Do8.pv, Do8.box, Do8.cells, gl] at c1 ⊢
    refine enter16 ?_
    simp [Tryd.f16, h2]
    rw [h2] at c1
    refine CallQ.mk (Call.shared callable29 c1) ?_
    simp
  rw [if_neg h2]
  by_cases h3 : k = 3
  · rw [if_pos h3]
    obtain ⟨H1, t1, c1, c2, c3⟩ := conClose hb n (by omega)
    refine ⟨H1, t1, ro, ?_, c2, fr0.trans c3.toG⟩
    simp only [Do8.pv, Do8.box, Do8.cells, gl] at c1 ⊢
    refine enter16 ?_
    simp [Tryd.f16, h3]
    rw [h3] at c1
    refine CallQ.mk (Call.shared callable27 c1) ?_
    simp
  rw [if_neg h3]
  by_cases h4 : k = 4
  · rw [if_pos h4]
    obtain ⟨H1, t1, c1, c2, c3⟩ := conShut hb l (by omega) (by omega)
    refine ⟨H1, t1, ro, ?_, c2, fr0.trans c3.toG⟩
    simp only [Do8.pv, Do8.box, Do8.cells, gl] at c1 ⊢
    refine enter16 ?_
    simp [Tryd.f16, h4]
    rw [h4] at c1
    refine CallQ.mk (Call.shared callable26 c1) ?_
    simp
  rw [if_neg h4]
  by_cases h5 : k = 5
  · rw [if_pos h5]
    obtain ⟨H1, c1, c2, c3⟩ := conText hb g n (by omega)
    refine ⟨H1, _, ro, ?_, c2, fr0.trans c3.toG⟩
    simp only [Do8.pv, Do8.box, Do8.cells, gl] at c1 ⊢
    refine enter16 ?_
    simp [Tryd.f16, h5]
    rw [h5] at c1
    refine CallQ.mk (Call.shared callable10 c1) ?_
    simp
  rw [if_neg h5]
  by_cases h6 : k = 6
  · rw [if_pos h6]
    obtain ⟨H1, t1, c1, c2, c3⟩ := conEnd hb (by omega)
    refine ⟨H1, t1, ro, ?_, c2, fr0.trans c3.toG⟩
    simp only [Do8.pv, Do8.box, Do8.cells, gl] at c1 ⊢
    refine enter16 ?_
    simp [Tryd.f16, h6]
    rw [h6] at c1
    refine CallQ.mk (Call.shared callable11 c1) ?_
    simp
  rw [if_neg h6]
  obtain ⟨H1, t1, c1, c2, c3⟩ := conAdd hb x (by omega)
  refine ⟨H1, t1, ro, ?_, c2, fr0.trans c3.toG⟩
  rw [Node.toFV_eq] at c1
  simp only [Do8.pv, Do8.box, Do8.cells, gl] at c1 ⊢
  refine enter16 ?_
  simp [Tryd.f16, h1, h2, h3, h4, h5, h6]
  refine CallQ.mk (Call.shared callable24 c1) ?_
  simp
end Go.Proofs.YtlbjfjaleefiiaaDoor.Ev
end
section
namespace Go.Proofs.YtlbjfjaleefiiaaDoor.Ev
open Go
theorem do_at {l : List Do8} {i : Nat} (h : i < l.length) : (l[i]).pv = .agg [.int .i64 l[i].kind, .sl (l[i].s.map .str), .int .i64 l[i].x.kind, .int .i64 l[i].x.line, .int .i64 l[i].x.n, gl l[i].x.text, .sl (l[i].x.kids.map Node.pv), .sl (l[i].x.rows.map gl), .str l[i].x.grid.cols, .sl (l[i].x.grid.rows.map TRow.pv), .bool l[i].x.grid.box, .bool l[i].x.grid.all, .int .i64 l[i].n, .sl (l[i].l.map (.int .i64)), gl l[i].g] := rfl
theorem do_len (l : List Do8) : 2 * l.length ≤ sumBy Do8.long l := by
  induction l with
  | nil => simp
  | cons x l ih => have hx : 2 ≤ x.long := by (unfold Do8.long; omega)
                   rw [sumBy, List.length_cons]; omega
set_option linter.unusedSimpArgs false in
set_option maxRecDepth 20000 in
set_option maxHeartbeats 8000000 in
theorem ref8Long (l : List Do8) (hb : sumBy Do8.long l ≤ 1073741824) : PCon C0 38 [.sc (.sl (l.map Do8.pv))] (.sc (.int .i64 (sumBy Do8.long l : Nat))) := by
  have hll := do_len l
  refine penter38 ?_
  simp [Tryd.f38]
  refine loopC (fun d e H' => ∃ (i : Nat) (x8 : FV), H' = [] ∧ d = l.length - i ∧ i ≤ l.length ∧ e = [(0, .sc (.sl (l.map Do8.pv))), (2, .sc (.int .i64 0)), (3, .sc (.int .i64 (sumBy Do8.long (l.take i) : Nat))), (4, .sc (.int .i64 i)), (8, x8)]) (d := l.length) ⟨0, .undef, rfl, rfl, Nat.zero_le _, rfl⟩ ?_
  rintro d e H' ⟨i, x8, rfl, rfl, hi, rfl⟩
  simp
  refine CondC.mk (fun hlt => ?_) (fun hlt => ?_)
  · simp at hlt
    have hlt' : (i : Int) < (l.length : Int) := by omega
    have hat := do_at hlt
    have hst := sumBy_take Do8.long hlt
    have hle : sumBy Do8.long (l.take (i + 1)) ≤ sumBy Do8.long l := by
      have h1 := sumBy_append Do8.long (l.take (i + 1)) (l.drop (i + 1))
      rw [List.take_append_drop] at h1; omega
    have hdl : l[i].long = 2 + l[i].g.length + l[i].l.length + l[i].x.long := rfl
    have hok := ok_of (l := [l[i].x]) (by simp only [sumBy]; omega)
    have cn := refLong _ [l[i].x] (Nat.lt_succ_self _) hok (by simp)
    simp only [List.map_cons, List.map_nil, Node.pv_eq, sumBy, Nat.add_zero] at cn
    have sz := sizedN [l[i].x]
    simp only [List.map_cons, List.map_nil, Node.pv_eq] at sz
    simp only [gl] at cn sz hat
    generalize hS : sumBy Do8.long (l.take i) = Sm at *
    generalize hX : l[i].x.long = Xm at *
    have w1 : IntKind.i64.wrap ((Sm : Int) + 2) = Sm + 2 := wrap64 (by omega) (by omega)
    have w2 : IntKind.i64.wrap ((Sm : Int) + 2 + l[i].g.length) = Sm + 2 + l[i].g.length := wrap64 (by omega) (by omega)
    have w3 : IntKind.i64.wrap ((Sm : Int) + 2 + l[i].g.length + l[i].l.length) = Sm + 2 + l[i].g.length + l[i].l.length := wrap64 (by omega) (by omega)
    have w4 : IntKind.i64.wrap ((Sm : Int) + 2 + l[i].g.length + l[i].l.length + Xm) = Sm + 2 + l[i].g.length + l[i].l.length + Xm := wrap64 (by omega) (by omega)
    have w5 : IntKind.i64.wrap (Xm : Int) = Xm := wrap64 (by omega) (by omega)
    have hw : IntKind.i64.wrap ((i : Int) + 1) = ((i + 1 : Nat) : Int) := by rw [wrap64 (by omega) (by omega)]; omega
    rw [w5] at cn
    simp [hat, hlt, hlt', w1, w2, w3]
    refine ⟨sz, ?_⟩
    refine CallQ.mk (CallP.pure callable23 (by simp) (by simp) cn) ?_
    simp [w4, hw]
    exact ⟨l.length - (i + 1), by omega, i + 1, rfl, by omega, by omega, by omega⟩
  · simp at hlt
    obtain rfl : i = l.length := by omega
    simp
set_option linter.unusedSimpArgs false in
set_option maxRecDepth 20000 in
theorem law8Long (l : List Do8) (hb : sumBy Do8.long l ≤ 1073741824) : PCon C0 15 [.sc (.sl (l.map Do8.pv))] (.sc (.bool (decide (800 < sumBy Do8.long l) || decide (60 < l.length)))) := by
  have c := ref8Long l hb
  refine penter15 ?_
  simp [Tryd.f15]
  refine CallQ.mk (Call.pure callable38 (by simp) (by simp) c) ?_
  by_cases h : 800 < sumBy Do8.long l
  · have h' : (800 : Int) < (sumBy Do8.long l : Nat) := by omega
    simp [h, h']
  · have h' : ¬ (800 : Int) < (sumBy Do8.long l : Nat) := by omega
    simp [h, h']
    omega
set_option linter.unusedSimpArgs false in
set_option maxRecDepth 20000 in
set_option maxHeartbeats 8000000 in
theorem depthNil (H : Heap) : Con C0 18 [.nilp] H (.sc (.int .i64 0)) H := by
  refine enter18 ?_
  simp [Tryd.f18]
end Go.Proofs.YtlbjfjaleefiiaaDoor.Ev
end
section
namespace Go.Proofs.YtlbjfjaleefiiaaDoor.Ev
open Go
def gx (r : Int) : Glyph := ⟨r, 0⟩
def xKnown : Node := .mk 1 0 0 [gx 120] [] [] noTbl
def wKnown : Node := .mk 1 0 0 [gx 120] [.mk 3 4 0 [gx 97, gx 32, gx 98] [] [] noTbl] [] noTbl
def bKnown : Bd := textBd (textBd { endBd Bd.zero with opens := (endBd Bd.zero).opens ++ [xKnown] } [gx 97] 4) [gx 98] 5
theorem known_doc : (docD bKnown).kids = [wKnown] := by kernel_rfl
theorem known_opens : bKnown.opens.length = 1 := by kernel_rfl
theorem BIn.zero {H : Heap} (h : HOk H) : BIn (H ++ [bCells Bd.zero (.own []) (.own [])]) H.length none (.own []) Bd.zero :=
  ⟨by rw [heap_at0]; rfl, rfl, .inr ⟨rfl, rfl⟩, h.more (HOk.build ⟨rfl, rfl⟩)⟩
set_option linter.unusedSimpArgs false in
set_option maxRecDepth 20000 in
set_option maxHeartbeats 8000000 in
theorem known8 : PCon C0 9 [] (.sc (.bool true)) := by
  have c0 := conNew []
  have h0 := BIn.zero (H := []) (fun _ h => by simp at h)
  simp only [List.nil_append, List.length_nil] at c0 h0
  obtain ⟨H1, t1, r1, c1, h1, _⟩ := conOpen h0 xKnown (by decide +kernel)
  obtain ⟨H2, c2, h2, _⟩ := conText h1 [gx 97] 4 (by decide +kernel)
  obtain ⟨H3, c3, h3, _⟩ := conText h2 [gx 98] 5 (by decide +kernel)
  have cd : Con C0 12 [.ptr 0 0] H3 (docD bKnown).pv.toFV H3 := conDoc h3 (by decide +kernel)
  have cs := refNodesSame _ [wKnown] (Nat.lt_succ_self _) (by simp) (ok_of (by decide +kernel)) [wKnown]
  have hk : (docD bKnown).pv.toFV = .agg [.sc (.str (docD bKnown).name), .sc (.str (docD bKnown).part), .sc (.str (docD bKnown).date), .sc (.str (docD bKnown).source), .sc (.sl [wKnown.pv])] := by
    simp [Doc.pv, known_doc]
  rw [hk] at cd
  generalize docD bKnown = D at cd
  have c1' := c1.les (args := [.ptr 0 0, .agg [.sc (.int .i64 1), .sc (.int .i64 0), .sc (.int .i64 0), .sc (.sl [.agg [.int .i32 120, .int .u8 0]]), .emp, .emp, .sc (.str ByteArray.empty), .emp, .sc (.bool false), .sc (.bool false)]]) (by
    rw [Node.toFV_eq]
    simp only [xKnown, Node.kind_mk, Node.line_mk, Node.n_mk, Node.text_mk, Node.kids_mk, Node.rows_mk, Node.grid_mk, noTbl, List.map_nil, gl, List.map_cons, gx, Glyph.pv]
    repeat' first | exact FLes.nil | exact FLe.refl _ | exact FLe.emp | apply FLes.cons | apply FLe.agg)
  have h4 := h3.more (fs := [.sc (.str D.name), .sc (.str D.part), .sc (.str D.date), .sc (.str D.source), .sc (.sl [wKnown.pv])]) (fun f hf => by
    simp only [body, List.mem_cons, List.not_mem_nil, or_false] at hf
    rcases hf with rfl | rfl | rfl | rfl | rfl <;> rfl)
  have cp := conDepth h4
  have ho : (textBd (textBd { endBd Bd.zero with opens := (endBd Bd.zero).opens ++ [xKnown] } [gx 97] 4) [gx 98] 5).opens.length = 1 := known_opens
  rw [ho] at cp
  have cz := depthNil (H3 ++ [[.sc (.str D.name), .sc (.str D.part), .sc (.str D.date), .sc (.str D.source), .sc (.sl [wKnown.pv])]])
  simp only [gl, List.map_cons, List.map_nil, gx, Glyph.pv] at c2 c3
  simp only [List.map_cons, List.map_nil, Node.pv_eq, wKnown, Node.kind_mk, Node.line_mk, Node.n_mk, Node.text_mk, Node.kids_mk, Node.rows_mk, Node.grid_mk, noTbl, gl, gx, Glyph.pv] at cs cd cp cz
  have z1 : ∀ r : Int, Sized 2 [PV.agg [PV.int .i32 r, PV.int .u8 0]] := fun r p hp => by rw [List.mem_singleton.1 hp]; rfl
  refine penter9 ?_
  simp [Tryd.f9]
  refine CallQ.mk (Call.shared callable8 c0) ?_
  simp
  refine ⟨z1 _, ?_⟩
  refine CallQ.mk (Call.shared callable29 c1') ?_
  simp
  refine ⟨z1 _, ?_⟩
  refine CallQ.mk (Call.shared callable10 c2) ?_
  simp
  refine ⟨z1 _, ?_⟩
  refine CallQ.mk (Call.shared callable10 c3) ?_
  simp
  refine CallQ.mk (Call.shared callable12 cd) ?_
  simp
  refine ⟨z1 _, fun p hp => ?_, fun p hp => ?_, fun p hp => ?_, ?_⟩
  · simp only [List.mem_cons, List.not_mem_nil, or_false] at hp; rcases hp with rfl | rfl | rfl <;> rfl
  · simp only [List.mem_cons, List.not_mem_nil, or_false] at hp; rcases hp with rfl; rfl
  · simp only [List.mem_cons, List.not_mem_nil, or_false] at hp; rcases hp with rfl; rfl
  refine CallQ.mk (Call.pure callable30 (by simp) (by simp) cs) ?_
  simp
  refine CallQ.mk (Call.shared callable18 cp) ?_
  simp
  refine CallQ.mk (Call.shared callable18 cz) ?_
  simp
end Go.Proofs.YtlbjfjaleefiiaaDoor.Ev
end
section
namespace Go.Proofs.YtlbjfjaleefiiaaDoor.Ev
open Go
def zl (B : Bd) : Bd := { B with line := 0 }
theorem zl_lay (B : Bd) (x : Node) : layBd (zl B) x = zl (layBd B x) := by
  rcases List.eq_nil_or_concat B.opens with h | ⟨l, y, h⟩
  · rw [layBd_nil h, layBd_nil (show (zl B).opens = [] from h)]; rfl
  · rw [List.concat_eq_append] at h
    rw [layBd_snoc h, layBd_snoc (show (zl B).opens = l ++ [y] from h)]; rfl
theorem zl_pop (B : Bd) : popBd (zl B) = zl (popBd B) := by
  rcases List.eq_nil_or_concat B.opens with h | ⟨l, y, h⟩
  · unfold popBd; rw [show (zl B).opens = B.opens from rfl, h]; rfl
  · rw [List.concat_eq_append] at h
    rw [popBd_snoc h, popBd_snoc (show (zl B).opens = l ++ [y] from h)]
    exact zl_lay { B with opens := l } y
theorem zl_close (n : Nat) : ∀ (B : Bd) (k : Int), closeN n (zl B) k = zl (closeN n B k) := by
  induction n with
  | zero => intro B k; rfl
  | succ n ih =>
    intro B k
    rcases List.eq_nil_or_concat B.opens with h | ⟨l, y, h⟩
    · rw [closeN, closeN, show (zl B).opens = B.opens from rfl, h]; rfl
    · rw [List.concat_eq_append] at h
      rw [closeN_snoc h, closeN_snoc (show (zl B).opens = l ++ [y] from h), zl_pop, ih]
      split <;> rfl
theorem zl_shut (n : Nat) : ∀ (B : Bd) (ks : List Int), shutN n (zl B) ks = zl (shutN n B ks) := by
  induction n with
  | zero => intro B k; rfl
  | succ n ih =>
    intro B ks
    rcases List.eq_nil_or_concat B.opens with h | ⟨l, y, h⟩
    · rw [shutN, shutN, show (zl B).opens = B.opens from rfl, h]; rfl
    · rw [List.concat_eq_append] at h
      rw [shutN_snoc h, shutN_snoc (show (zl B).opens = l ++ [y] from h), zl_pop, ih]
      split <;> rfl
def Calm (B : Bd) : Prop := B.text = [] ∧ B.has = false
theorem Calm.lay {B : Bd} (h : Calm B) (x : Node) : Calm (layBd B x) := ⟨(layBd_text B x).1.trans h.1, (layBd_text B x).2.1.trans h.2⟩
theorem Calm.pop {B : Bd} (h : Calm B) : Calm (popBd B) := by
  rcases List.eq_nil_or_concat B.opens with ho | ⟨l, y, ho⟩
  · unfold popBd; rw [ho]; exact h
  · rw [List.concat_eq_append] at ho
    rw [popBd_snoc ho]
    exact Calm.lay (B := { B with opens := l }) h y
theorem Calm.close (n : Nat) : ∀ {B : Bd}, Calm B → ∀ k, Calm (closeN n B k) := by
  induction n with
  | zero => intro B h k; exact h
  | succ n ih =>
    intro B h k
    rcases List.eq_nil_or_concat B.opens with ho | ⟨l, y, ho⟩
    · rw [closeN, ho]; exact h
    · rw [List.concat_eq_append] at ho
      rw [closeN_snoc ho]
      split
      · exact h.pop
      · exact ih h.pop k
theorem Calm.shut (n : Nat) : ∀ {B : Bd}, Calm B → ∀ ks, Calm (shutN n B ks) := by
  induction n with
  | zero => intro B h k; exact h
  | succ n ih =>
    intro B h ks
    rcases List.eq_nil_or_concat B.opens with ho | ⟨l, y, ho⟩
    · rw [shutN, ho]; exact h
    · rw [List.concat_eq_append] at ho
      rw [shutN_snoc ho]
      split
      · exact ih h.pop ks
      · exact h
def Fine (B : Bd) : Prop := B.has = false → B.text = []
theorem Calm.fine {B : Bd} (h : Calm B) : Fine B := fun _ => h.1
theorem endBd_calm {B : Bd} (h : Fine B) : Calm (endBd B) := by
  unfold endBd
  split
  · exact ⟨h ‹_›, ‹_›⟩
  · exact ⟨rfl, rfl⟩
def tOf (B : Bd) : Bd := if B.has = false then zl B else B
theorem tOf_calm {B : Bd} (h : Calm B) : tOf B = zl B := if_pos h.2
theorem trimG_nil : trimG [] = [] := by decide +kernel
theorem rEnd_tOf {B : Bd} (h : Fine B) : rEnd (tOf B) = zl (endBd B) := by
  unfold tOf endBd
  by_cases hh : B.has = false
  · rw [if_pos hh, if_pos hh]
    unfold rEnd
    have ht : (zl B).text = [] := h hh
    rw [ht, trimG_nil, if_pos rfl]
    obtain ⟨nm, pt, dt, so, kids, opens, text, line, has⟩ := B
    simp only at hh
    subst hh
    have : text = [] := h rfl
    subst this
    rfl
  · rw [if_neg hh, if_neg hh]
    unfold rEnd zl
    split <;> rfl
theorem step_eq {B : Bd} (h : Fine B) (d : Do8) : rStep (tOf B) d = (tOf (bStep B d).1, (bStep B d).2) ∧ Fine (bStep B d).1 := by
  have hc := endBd_calm h
  have he := rEnd_tOf h
  have hn : (zl (endBd B)).opens = (endBd B).opens := rfl
  unfold rStep bStep
  rw [he, hn]
  by_cases h1 : d.kind = 1
  · rw [if_pos h1, if_pos h1]
    refine ⟨?_, h⟩
    unfold tOf
    split <;> rfl
  rw [if_neg h1, if_neg h1]
  by_cases h2 : d.kind = 2
  · rw [if_pos h2, if_pos h2]
    have hc2 : Calm { endBd B with opens := (endBd B).opens ++ [d.x] } := hc
    exact ⟨by simp only; rw [tOf_calm hc2]; rfl, hc2.fine⟩
  rw [if_neg h2, if_neg h2]
  by_cases h3 : d.kind = 3
  · rw [if_pos h3, if_pos h3]
    unfold closeBd
    simp only
    cases hi : insideB (endBd B).opens d.n
    · simp only [Bool.false_eq_true, if_false]
      exact ⟨by rw [tOf_calm hc], hc.fine⟩
    · simp only [if_true]
      have hc2 := Calm.close (endBd B).opens.length hc d.n
      exact ⟨by rw [tOf_calm hc2, zl_close], hc2.fine⟩
  rw [if_neg h3, if_neg h3]
  by_cases h4 : d.kind = 4
  · rw [if_pos h4, if_pos h4]
    have hc2 := Calm.shut (endBd B).opens.length hc d.l
    exact ⟨by simp only [shutBd]; rw [tOf_calm hc2, zl_shut], hc2.fine⟩
  rw [if_neg h4, if_neg h4]
  by_cases h5 : d.kind = 5
  · rw [if_pos h5, if_pos h5]
    refine ⟨?_, fun hh => by simp [textBd] at hh⟩
    simp only
    congr 1
    unfold tOf rText textBd
    obtain ⟨nm, pt, dt, so, kids, opens, text, line, has⟩ := B
    cases has <;> rfl
  rw [if_neg h5, if_neg h5]
  by_cases h6 : d.kind = 6
  · rw [if_pos h6, if_pos h6]
    exact ⟨by simp only; rw [tOf_calm hc], hc.fine⟩
  rw [if_neg h6, if_neg h6]
  have hc2 := hc.lay d.x
  exact ⟨by simp only; rw [tOf_calm hc2, zl_lay], hc2.fine⟩
theorem closeN_long (n : Nat) : ∀ (B : Bd) (k : Int), (closeN n B k).long = B.long := by
  induction n with
  | zero => intro B k; rfl
  | succ n ih =>
    intro B k
    rcases List.eq_nil_or_concat B.opens with h | ⟨l, y, h⟩
    · rw [closeN, h]; rfl
    · rw [List.concat_eq_append] at h
      rw [closeN_snoc h]
      split
      · exact popBd_long B
      · rw [ih, popBd_long]
theorem shutN_long (n : Nat) : ∀ (B : Bd) (ks : List Int), (shutN n B ks).long = B.long := by
  induction n with
  | zero => intro B k; rfl
  | succ n ih =>
    intro B k
    rcases List.eq_nil_or_concat B.opens with h | ⟨l, y, h⟩
    · rw [shutN, h]; rfl
    · rw [List.concat_eq_append] at h
      rw [shutN_snoc h]
      split
      · rw [ih, popBd_long]
      · rfl
theorem bStep_long (B : Bd) (d : Do8) : (bStep B d).1.long ≤ B.long + d.long + 3 := by
  have he := endBd_long B
  unfold bStep Do8.long
  split
  · show B.long ≤ _; omega
  split
  · simp only [Bd.long, sumBy_append, sumBy] at he ⊢; omega
  split
  · show (closeBd B d.n).long ≤ _
    unfold closeBd
    split
    · rw [closeN_long]; omega
    · omega
  split
  · show (shutBd B d.l).long ≤ _
    unfold shutBd; rw [shutN_long]; omega
  split
  · have := joinS_len B.text d.g
    simp only [textBd, Bd.long]; omega
  split
  · show (endBd B).long ≤ _; omega
  · show (layBd (endBd B) d.x).long ≤ _
    rw [layBd_long]; omega
end Go.Proofs.YtlbjfjaleefiiaaDoor.Ev
end
section
namespace Go.Proofs.YtlbjfjaleefiiaaDoor.Ev
open Go
theorem BIn.put {H : Heap} {b i : Nat} {ro : Option (Nat × Nat)} {t : FV} {B : Bd} (h : BIn H b ro t B) {cs : List FV} (hi : i ≠ b) (hr : ∀ r g, ro = some (r, g) → i ≠ r) (hc : ∀ f ∈ body cs, f.und0 H.length = true) : BIn (H.set i cs) b ro t B := by
  refine ⟨by rw [List.getElem?_set_ne hi]; exact h.box, ?_, h.txt, h.ok.set' hc⟩
  have hrow := h.row
  cases ro with
  | none => exact hrow
  | some p =>
    obtain ⟨r, g⟩ := p
    obtain ⟨h1, rest, hnp, h2⟩ := hrow
    exact ⟨h1, rest, hnp, by rw [List.getElem?_set_ne (hr r g rfl)]; exact h2⟩
end Go.Proofs.YtlbjfjaleefiiaaDoor.Ev
end
section
namespace Go.Proofs.YtlbjfjaleefiiaaDoor.Ev
open Go
theorem docD_long {B : Bd} (h : B.long ≤ 100000) : sumBy Node.long (docD B).kids ≤ 1073741824 := by
  have h1 := tidy_long _ (docBd B).kids (Nat.lt_succ_self _) 0 0 20000
  have h2 : (docBd B).long = (endBd B).long := emptyN_long _ _
  have h3 := endBd_long B
  show sumBy Node.long (tidyL 0 0 20000 (docBd B).kids).1 ≤ _
  unfold Bd.long at h h2 h3
  omega
theorem docD_toFV (B : Bd) : (docD B).pv.toFV = .agg [.sc (.str (docD B).name), .sc (.str (docD B).part), .sc (.str (docD B).date), .sc (.str (docD B).source), .sc (.sl ((docD B).kids.map Node.pv))] := by simp [Doc.pv]
def dCells (D : Doc) : List FV := [.sc (.str D.name), .sc (.str D.part), .sc (.str D.date), .sc (.str D.source), .sc (.sl (D.kids.map Node.pv))]
theorem dCells_und (D : Doc) (n : Nat) : ∀ f ∈ body (dCells D), f.und0 n = true := fun f hf => by
  simp only [body, dCells, List.mem_cons, List.not_mem_nil, or_false] at hf
  rcases hf with rfl | rfl | rfl | rfl | rfl <;> rfl
theorem BIn.rlt {H : Heap} {b r g : Nat} {t : FV} {B : Bd} (h : BIn H b (some (r, g)) t B) : r < H.length := by
  obtain ⟨_, rest, _, h2⟩ := h.row
  exact (List.getElem?_eq_some_iff.1 h2).1
end Go.Proofs.YtlbjfjaleefiiaaDoor.Ev
end
section
namespace Go.Proofs.YtlbjfjaleefiiaaDoor.Ev
open Go
theorem retext_same (x : Node) : x.retext x.text = x := by cases x; rfl
theorem glC_np (l : List Glyph) : ∀ f ∈ glC l, f.np0 = true := fun f hf => by
  unfold glC at hf
  obtain ⟨g, _, hg⟩ := List.mem_flatMap.1 hf
  simp only [List.mem_cons, List.not_mem_nil, or_false] at hg
  rcases hg with rfl | rfl <;> rfl
theorem glC_pv (l : List Glyph) : ((l.map Glyph.pv).flatMap PV.leaves).map FV.sc = glC l := by
  induction l with
  | nil => rfl
  | cons g l ih => rw [List.map_cons, List.flatMap_cons, List.map_append, ih]; rfl
theorem BIn.first_ne {H : Heap} {b i : Nat} {ro : Option (Nat × Nat)} {t : FV} {B : Bd} (h : BIn H b ro t B) {x : Node} (hx : H[i]? = some (nodeD x)) : ∀ r g, ro = some (r, g) → i ≠ r := fun r g hr hi => by
  have hw := h.row
  subst hr
  obtain ⟨_, rest, _, h2⟩ := hw
  rw [← hi, hx] at h2
  simp [nodeD] at h2
theorem put_np {c v : List FV} {n m : Nat} (hc : ∀ f ∈ c, f.np0 = true) (hv : ∀ f ∈ v, f.np0 = true) : ∀ f ∈ List.take n c ++ (v ++ List.drop m c), f.np0 = true := fun f hf => by
  rcases List.mem_append.1 hf with hf | hf
  · exact hc f (List.mem_of_mem_take hf)
  · rcases List.mem_append.1 hf with hf | hf
    · exact hv f hf
    · exact hc f (List.mem_of_mem_drop hf)
theorem put_len {c v : List FV} {n : Nat} (h : n + v.length ≤ c.length) : (List.take n c ++ (v ++ List.drop (n + v.length) c)).length = c.length := by
  rw [List.length_append, List.length_append, List.length_take, List.length_drop]; omega
theorem penterOwn8 {args : List FV} {r : FV} (h : wpC C0 95 [36, 2000039, 9000083] vars5 (Tryd.f5.body.getD .skip) (argsEnv 0 args) [] fun x e H₁ => (match x with | .exit _ => False | _ => True) ∧ resultOf C0 e H₁ Tryd.f5.results.toList = some r ∧ True) : PCon C0 5 args r :=
  pcon_of (C := C0) (fn := Tryd.f5) Tryd.func5 rfl (by decide) mixed (by kernel_rfl) h
set_option linter.unusedSimpArgs false in
set_option maxRecDepth 20000 in
set_option maxHeartbeats 16000000 in
theorem buildOwnLaw (l : List Do8) (x : Node) (hb : sumBy Do8.long l ≤ 1073741824) (hs : ∀ d ∈ l, d.s.length ≤ 1073741824) (hxl : x.long ≤ 1073741824) : PCon C0 5 [.sc (.sl (l.map Do8.pv)), x.pv.toFV] (.sc (.bool true)) := by
  have cl := law8Long l hb
  have kn := known8
  have hsx : sumBy Node.long [x] ≤ 1073741824 := by simp only [sumBy]; omega
  have cx := refLong _ [x] (Nat.lt_succ_self _) (ok_of hsx) (by simp)
  have c0 := conNew [nodeD x]
  have h0 := BIn.zero (H := [nodeD x]) (fun fs hfs f hf => by
    rw [List.mem_singleton.1 hfs] at hf
    exact nodeD_und x _ f hf)
  have hw9 : IntKind.i64.wrap ((sumBy Node.long [x] : Nat) : Int) = ((x.long : Nat) : Int) := by
    rw [wrap64 (by omega) (by omega)]; simp [sumBy]
  rw [hw9] at cx
  have ex := Node.pv_eq x
  rw [Node.toFV_eq]
  simp only [List.length_singleton, List.singleton_append] at c0 h0
  simp only [List.map_cons, List.map_nil, ex] at cx
  refine penterOwn8 ?_
  simp only [gl] at cx ⊢
  simp only [nodeD] at c0
  simp [Tryd.f5]
  refine CallQ.mk (Call.pure callable15 (by simp) (by simp) cl) ?_
  by_cases hlo : (decide (800 < sumBy Do8.long l) || decide (60 < l.length)) = true
  · rw [hlo]
    simp
    refine CallQ.mk (Call.pure callable9 (by simp) (by simp) kn) ?_
    simp
  rw [Bool.not_eq_true] at hlo
  rw [hlo]
  simp only [Bool.or_eq_false_iff, decide_eq_false_iff_not, Nat.not_lt] at hlo
  simp [sized1]
  refine CallQ.mk (Call.pure callable23 (by simp) (by simp) cx) ?_
  by_cases hx2 : 200 < x.long
  · have hx2' : (200 : Int) < (x.long : Int) := by omega
    simp [hx2, hx2']
    refine CallQ.mk (Call.pure callable9 (by simp) (by simp) kn) ?_
    simp
  have hx2' : ¬ (200 : Int) < (x.long : Int) := by omega
  simp [hx2, hx2']
  refine CallQ.mk (Call.shared callable8 c0) ?_
  simp
  refine loopC (fun d e H' => ∃ (i : Nat) (t : FV) (ro : Option (Nat × Nat)) (B : Bd) (x27 : FV), BIn H' 1 ro t B ∧ Fine B ∧ H'[0]? = some (nodeD x) ∧ B.long ≤ sumBy Do8.long (l.take i) + 3 * i ∧ d = l.length - i ∧ i ≤ l.length ∧ e = [(0, .sc (.sl (l.map Do8.pv))), (1, .agg [.sc (.int .i64 x.kind), .sc (.int .i64 x.line), .sc (.int .i64 x.n), .sc (.sl (x.text.map Glyph.pv)), .sc (.sl (x.kids.map Node.pv)), .sc (.sl (x.rows.map gl)), .sc (.str x.grid.cols), .sc (.sl (x.grid.rows.map TRow.pv)), .sc (.bool x.grid.box), .sc (.bool x.grid.all)]), (3, .ptr 0 0), (4, .sc (.bool false)), (5, .ptr 1 0), (6, .sc (.int .i64 i)), (7, .undef), (8, .undef), (9, .undef), (10, .undef), (11, .undef), (12, .undef), (13, .undef), (21, .sc (.bool false)), (27, x27), (51, .undef), (67, .undef)]) (d := l.length) ⟨0, .own [], none, Bd.zero, .undef, h0, fun _ => rfl, rfl, by have h9 : Bd.zero.long = 0 := (by decide +kernel); omega, rfl, Nat.zero_le _, rfl⟩ ?_
  rintro d e H' ⟨i, t, ro, B, x27, hB, hF, hx0, hBl, rfl, hi, rfl⟩
  simp
  refine CondC.mk (fun hlt => ?_) (fun hlt => ?_)
  · simp at hlt
    have hlt' : (i : Int) < (l.length : Int) := by omega
    have hat := do_at hlt
    have hst := sumBy_take Do8.long hlt
    have hle : sumBy Do8.long (l.take (i + 1)) ≤ sumBy Do8.long l := by
      have h1 := sumBy_append Do8.long (l.take (i + 1)) (l.drop (i + 1))
      rw [List.take_append_drop] at h1; omega
    have hsl := hs _ (List.getElem_mem hlt)
    have hw : IntKind.i64.wrap ((i : Int) + 1) = ((i + 1 : Nat) : Int) := by rw [wrap64 (by omega) (by omega)]; omega
    obtain ⟨H1, t1, ro1, c1, hB1, fr1⟩ := conDone hB l[i] (by omega) hsl
    have hF1 := (step_eq hF l[i]).2
    have hbl := bStep_long B l[i]
    have hx1 : H1[0]? = some (nodeD x) := (fr1.same 0 (List.getElem?_eq_some_iff.1 hx0).1 (by omega) (hB.first_ne hx0)).trans hx0
    generalize bStep B l[i] = P at *
    obtain ⟨B1, is⟩ := P
    simp only at c1 hB1 hF1 hbl
    simp only [hat, PV.toFV, List.map_cons, List.map_nil, gl] at c1
    simp only [gl] at hat
    simp [hat, hlt, hlt']
    refine CallQ.mk (Call.shared callable16 c1) ?_
    simp [hw]
    exact ⟨l.length - (i + 1), by omega, i + 1, t1, ro1, B1, hB1, hF1, hx1, by omega, rfl, by omega, by omega⟩
  · simp at hlt
    obtain rfl : i = l.length := by omega
    rw [List.take_length] at hBl
    have hl0 : 0 < H'.length := (List.getElem?_eq_some_iff.1 hx0).1
    have hl1 : 1 < H'.length := (List.getElem?_eq_some_iff.1 hB.box).1
    have hel := endBd_long B
    have hll := layBd_long (endBd B) x
    have hrl : ∀ r g, ro = some (r, g) → r < H'.length := fun r g hr => by subst hr; exact hB.rlt
    have hx0' := hx0
    simp only [nodeD] at hx0'
    by_cases ht0 : x.text = []
    · have hBy := hB.more (fs := [.sc (.int .i64 x.kind), .sc (.int .i64 x.line), .sc (.int .i64 x.n), .sc (.sl ([])), .sc (.sl (x.kids.map Node.pv)), .sc (.sl (x.rows.map gl)), .sc (.str x.grid.cols), .sc (.sl (x.grid.rows.map TRow.pv)), .sc (.bool x.grid.box), .sc (.bool x.grid.all)]) (fun f hf => by
        simp only [body, List.mem_cons, List.not_mem_nil, or_false] at hf
        rcases hf with rfl | rfl | rfl | rfl | rfl | rfl | rfl | rfl | rfl | rfl <;> rfl)
      obtain ⟨H1, t1, ca, hB1, fr1⟩ := conAdd hBy x (by omega)
      rw [Node.toFV_eq] at ca
      simp only [gl, ht0, List.map_nil] at ca
      simp [hx0', ht0]
      refine CallQ.mk (Call.shared callable24 ca) ?_
      have d1 := conDoc hB1 (by omega)
      rw [docD_toFV] at d1
      have hdl := docD_long (B := layBd (endBd B) x) (by omega)
      have hBW := hB1.more (fs := dCells (docD (layBd (endBd B) x))) (dCells_und _ _)
      have hW : (H1 ++ [dCells (docD (layBd (endBd B) x))])[H1.length]? = some (dCells (docD (layBd (endBd B) x))) := by simp
      have hKl : (H1 ++ [dCells (docD (layBd (endBd B) x))]).length = H1.length + 1 := by simp
      have hlb : (layBd (endBd B) x).long ≤ 100000 := by omega
      generalize layBd (endBd B) x = E at *
      simp
      refine CallQ.mk (Call.shared callable12 d1) ?_
      simp
      refine loopC (fun d e K => ∃ (x51 : FV), K = H1 ++ [dCells (docD E)] ∧ d = 0 ∧ e = [(0, .sc (.sl (l.map Do8.pv))), (1, .agg [.sc (.int .i64 x.kind), .sc (.int .i64 x.line), .sc (.int .i64 x.n), .sc (.sl ([])), .sc (.sl (x.kids.map Node.pv)), .sc (.sl (x.rows.map gl)), .sc (.str x.grid.cols), .sc (.sl (x.grid.rows.map TRow.pv)), .sc (.bool x.grid.box), .sc (.bool x.grid.all)]), (3, .ptr 0 0), (4, .sc (.bool false)), (5, .ptr 1 0), (6, .sc (.int .i64 l.length)), (7, .own []), (8, .ptr H'.length 0), (9, .ptr H1.length 0), (10, .sc (.int .i64 0)), (11, .undef), (12, .undef), (13, .undef), (21, .sc (.bool false)), (27, .sc (.bool false)), (51, x51), (67, .undef)]) (d := 0) ⟨_, rfl, rfl, rfl⟩ ?_
      rintro d e K ⟨x51, hK, rfl, rfl⟩
      rw [← hK] at hBW hW hKl
      have hBK := hBW
      clear hBW
      clear hK
      generalize hf7 : FV.own [] = f7 at *
      simp [← hf7]
      have hWl : H1.length < K.length := by omega
      have hkl := len_le_long (docD E).kids
      have hcnt := Node.cnt_long _ (docD E).kids (Nat.lt_succ_self _)
      have sd := refSameDoc (docD E) (docD E) (by omega) (ok_of hdl)
      have ck := refCheckD (docD E) (by omega) (by omega) (small_of hdl) (refDeep' _ hdl)
      rw [show checkD (docD E) = 0 from tidyD_check _] at ck
      rw [docD_toFV] at ck
      rw [decide_eq_true rfl, docD_toFV] at sd
      have hBL := hBK.more (fs := dCells (docD E)) (dCells_und _ _)
      have hokd := ok_of hdl
      by_cases hk0 : (docD E).kids = []
      · have d2 := conDoc hBK (by omega)
        have d3 := conDoc hBL (by omega)
        rw [docD_toFV] at d2 d3
        simp only [dCells] at hW d3
        generalize docD E = D at *
        simp only [hk0, List.map_nil] at d2 d3 sd ck hW
        refine CallQ.mk (Call.shared callable12 d2) ?_
        simp [hW, heap_old hWl]
        refine CallQ.mk (Call.pure callable21 (by simp) (by simp) sd) ?_
        simp
        refine loopC (fun d e K' => ∃ (x52 x67 : FV), K' = K ++ [[.sc (.str D.name), .sc (.str D.part), .sc (.str D.date), .sc (.str D.source), .sc (.sl [])]] ∧ d = 0 ∧ e = [(0, .sc (.sl (l.map Do8.pv))), (1, .agg [.sc (.int .i64 x.kind), .sc (.int .i64 x.line), .sc (.int .i64 x.n), .sc (.sl ([])), .sc (.sl (x.kids.map Node.pv)), .sc (.sl (x.rows.map gl)), .sc (.str x.grid.cols), .sc (.sl (x.grid.rows.map TRow.pv)), .sc (.bool x.grid.box), .sc (.bool x.grid.all)]), (3, .ptr 0 0), (4, .sc (.bool false)), (5, .ptr 1 0), (6, .sc (.int .i64 l.length)), (7, .own []), (8, .ptr H'.length 0), (9, .ptr H1.length 0), (10, .sc (.int .i64 0)), (11, .ptr K.length 0), (12, .sc (.bool true)), (13, .sc (.int .i64 (0 : Nat))), (21, .sc (.bool false)), (27, .sc (.bool false)), (51, x52), (67, x67)]) (d := 0) ⟨_, _, rfl, rfl, rfl⟩ ?_
        rintro d e K' ⟨x52, x67, rfl, rfl, rfl⟩
        simp [heap_old hWl, hW]
        refine CallQ.mk (CallP.reads callable12 d3) ?_
        simp [heap_old hWl, hW]
        refine CallQ.mk (CallP.pure callable21 (by simp) (by simp) sd) ?_
        simp [heap_old hWl, hW]
        refine CallQ.mk (CallP.pure callable25 (by simp) (by simp) ck) ?_
        simp
        refine CallQ.mk (CallP.pure callable9 (by simp) (by simp) kn) ?_
        simp
      · have d2 := conDocR hBK (by omega) hk0
        have hKW := (List.getElem?_eq_some_iff.1 hBK.box).1
        have hBR := hBK.more (fs := [.row 0 (rowDs (docD E).kids)]) (fun f hf => FV.und_np (rowDs_np _ f hf))
        have hBS := hBR.more (fs := [.sc (.str (docD E).name), .sc (.str (docD E).part), .sc (.str (docD E).date), .sc (.str (docD E).source), .gr K.length 0 10 (docD E).kids.length]) (fun f hf => by
          simp only [body, List.mem_cons, List.not_mem_nil, or_false] at hf
          rcases hf with rfl | rfl | rfl | rfl | rfl <;> first | rfl | (simp only [FV.und0, decide_eq_true_eq, List.length_append, List.length_singleton]; omega))
        rw [List.append_assoc] at hBS
        have sr := refSameDocR (H := K ++ ([[.row 0 (rowDs (docD E).kids)]] ++ [[.sc (.str (docD E).name), .sc (.str (docD E).part), .sc (.str (docD E).date), .sc (.str (docD E).source), .gr K.length 0 10 (docD E).kids.length]])) (r := K.length) (g := 0) (docD E) (by omega) hokd (by simp) hBS.ok
        simp only [List.singleton_append] at sr
        have hcn := rowDs_np (docD E).kids
        have hcl := rowDs_len (docD E).kids
        simp only [dCells] at hW
        have d3 : ∀ c : List FV, (∀ f ∈ c, f.np0 = true) → Con C0 12 [.ptr 1 0] (K ++ [[.row 0 c], [.sc (.str (docD E).name), .sc (.str (docD E).part), .sc (.str (docD E).date), .sc (.str (docD E).source), .gr K.length 0 10 (docD E).kids.length]]) (docD E).pv.toFV (K ++ [[.row 0 c], [.sc (.str (docD E).name), .sc (.str (docD E).part), .sc (.str (docD E).date), .sc (.str (docD E).source), .gr K.length 0 10 (docD E).kids.length]]) := fun c hc => by
          have h1 := hBK.more (fs := [.row 0 c]) (fun f hf => FV.und_np (hc f hf))
          have h2 := h1.more (fs := [.sc (.str (docD E).name), .sc (.str (docD E).part), .sc (.str (docD E).date), .sc (.str (docD E).source), .gr K.length 0 10 (docD E).kids.length]) (fun f hf => by
            simp only [body, List.mem_cons, List.not_mem_nil, or_false] at hf
            rcases hf with rfl | rfl | rfl | rfl | rfl <;> first | rfl | (simp only [FV.und0, decide_eq_true_eq, List.length_append, List.length_singleton]; omega))
          rw [List.append_assoc] at h2
          exact conDoc h2 (by omega)
        rw [docD_toFV] at d3
        generalize rowDs (docD E).kids = c0 at *
        generalize docD E = D at *
        refine CallQ.mk (Call.shared callable12 d2) ?_
        simp [hW, heap_old hWl]
        refine CallQ.mk (Call.shared callable21 sr) ?_
        simp
        refine loopC (fun d e K' => ∃ (i : Nat) (c : List FV) (x52 x67 : FV), K' = K ++ [[.row 0 c], [.sc (.str D.name), .sc (.str D.part), .sc (.str D.date), .sc (.str D.source), .gr K.length 0 10 D.kids.length]] ∧ c.length = D.kids.length * 10 ∧ (∀ f ∈ c, f.np0 = true) ∧ d = D.kids.length - i ∧ i ≤ D.kids.length ∧ e = [(0, .sc (.sl (l.map Do8.pv))), (1, .agg [.sc (.int .i64 x.kind), .sc (.int .i64 x.line), .sc (.int .i64 x.n), .sc (.sl ([])), .sc (.sl (x.kids.map Node.pv)), .sc (.sl (x.rows.map gl)), .sc (.str x.grid.cols), .sc (.sl (x.grid.rows.map TRow.pv)), .sc (.bool x.grid.box), .sc (.bool x.grid.all)]), (3, .ptr 0 0), (4, .sc (.bool false)), (5, .ptr 1 0), (6, .sc (.int .i64 l.length)), (7, .own []), (8, .ptr H'.length 0), (9, .ptr H1.length 0), (10, .sc (.int .i64 0)), (11, .ptr (K.length + 1) 0), (12, .sc (.bool true)), (13, .sc (.int .i64 (i : Nat))), (21, .sc (.bool false)), (27, .sc (.bool false)), (51, x52), (67, x67)]) (d := D.kids.length) ⟨0, c0, _, _, rfl, hcl, hcn, rfl, Nat.zero_le _, rfl⟩ ?_
        rintro d e K' ⟨i, c, x52, x67, rfl, hcl2, hcn2, rfl, hi, rfl⟩
        simp
        refine CondC.mk (fun hlt4 => ?_) (fun hlt4 => ?_)
        · simp at hlt4
          have hlt4' : (i : Int) < (D.kids.length : Int) := by omega
          have hw : IntKind.i64.wrap ((i : Int) + 1) = ((i + 1 : Nat) : Int) := by rw [wrap64 (by omega) (by omega)]; omega
          simp [hlt4, hlt4', hcl2, hw]
          have hX : ∀ f ∈ List.take (i * 10 + 1) c ++ (FV.sc (.int .i64 77) :: List.drop (i * 10 + 1 + 1) c), f.np0 = true := put_np (v := [FV.sc (.int .i64 77)]) hcn2 (fun f hf => by rw [List.mem_singleton.1 hf]; rfl)
          refine ⟨by omega, by omega, D.kids.length - (i + 1), by omega, by omega, fun f hf => ?_, i + 1, rfl, by omega, by omega⟩
          rcases hf with hf | rfl | hf
          · exact hX f (List.mem_of_mem_take hf)
          · rfl
          · exact hX f (List.mem_of_mem_drop hf)
        · simp at hlt4
          have d4 := d3 c hcn2
          simp [heap_old hWl, hW]
          refine CallQ.mk (CallP.reads callable12 d4) ?_
          simp [heap_old hWl, hW]
          refine CallQ.mk (CallP.pure callable21 (by simp) (by simp) sd) ?_
          simp [heap_old hWl, hW]
          refine CallQ.mk (CallP.pure callable25 (by simp) (by simp) ck) ?_
          simp
          refine CallQ.mk (CallP.pure callable9 (by simp) (by simp) kn) ?_
          simp
    · have hn0 : x.text.length ≠ 0 := fun hh => ht0 (List.length_eq_zero_iff.1 hh)
      have hBr := hB.more (fs := [.row 0 (glC x.text)]) (fun f hf => FV.und_np (glC_np _ f hf))
      have hBy := hBr.more (fs := [.sc (.int .i64 x.kind), .sc (.int .i64 x.line), .sc (.int .i64 x.n), .gr H'.length 0 2 x.text.length, .sc (.sl (x.kids.map Node.pv)), .sc (.sl (x.rows.map gl)), .sc (.str x.grid.cols), .sc (.sl (x.grid.rows.map TRow.pv)), .sc (.bool x.grid.box), .sc (.bool x.grid.all)]) (fun f hf => by
        simp only [body, List.mem_cons, List.not_mem_nil, or_false] at hf
        rcases hf with rfl | rfl | rfl | rfl | rfl | rfl | rfl | rfl | rfl | rfl <;> first | rfl | (simp only [FV.und0, decide_eq_true_eq, List.length_append, List.length_singleton]; omega))
      rw [List.append_assoc] at hBy
      have hR0 : (H' ++ ([[FV.row 0 (glC x.text)]] ++ [[.sc (.int .i64 x.kind), .sc (.int .i64 x.line), .sc (.int .i64 x.n), .gr H'.length 0 2 x.text.length, .sc (.sl (x.kids.map Node.pv)), .sc (.sl (x.rows.map gl)), .sc (.str x.grid.cols), .sc (.sl (x.grid.rows.map TRow.pv)), .sc (.bool x.grid.box), .sc (.bool x.grid.all)]]))[H'.length]? = some [.row 0 (glC x.text ++ [])] := by simp
      have htl : x.text.length ≤ x.long := by rw [Node.long_eq]; omega
      obtain ⟨H1, t1, ca, hB1, fr1⟩ := conAddG hBy x x.text hR0 (by omega) (fun q g hq => by have := hrl q g hq; omega) (by omega) (by omega) (by rw [retext_same]; omega)
      rw [retext_same] at hB1
      have hR1 : H1[H'.length]? = some [.row 0 (glC x.text)] := by
        rw [fr1.same H'.length (by omega) (fun r g hr => by have := hrl r g hr; omega), hR0, List.append_nil]
      simp only [List.singleton_append] at ca
      have hz : ∀ L : Heap, (H' ++ L)[0]? = some [.sc (.int .i64 x.kind), .sc (.int .i64 x.line), .sc (.int .i64 x.n), .sc (.sl (x.text.map Glyph.pv)), .sc (.sl (x.kids.map Node.pv)), .sc (.sl (x.rows.map gl)), .sc (.str x.grid.cols), .sc (.sl (x.grid.rows.map TRow.pv)), .sc (.bool x.grid.box), .sc (.bool x.grid.all)] := fun L => by rw [heap_old hl0]; exact hx0'
      have hl2 : H1.length = H'.length + 2 := by rw [fr1.len]; simp
      simp [hx0', ↓hz, ht0, gl, glC_pv, sizedG]
      refine ⟨by unfold lenMax; omega, CallQ.mk (Call.shared callable24 ca) ?_⟩
      have d1 := conDoc hB1 (by omega)
      rw [docD_toFV] at d1
      have hdl := docD_long (B := layBd (endBd B) x) (by omega)
      have hBW := hB1.more (fs := dCells (docD (layBd (endBd B) x))) (dCells_und _ _)
      have hW0 : (H1 ++ [dCells (docD (layBd (endBd B) x))])[H1.length]? = some (dCells (docD (layBd (endBd B) x))) := by simp
      have hKl0 : (H1 ++ [dCells (docD (layBd (endBd B) x))]).length = H1.length + 1 := by simp
      have hlb : (layBd (endBd B) x).long ≤ 100000 := by omega
      have hRK : (H1 ++ [dCells (docD (layBd (endBd B) x))])[H'.length]? = some [.row 0 (glC x.text)] := by rw [heap_old (by omega)]; exact hR1
      generalize layBd (endBd B) x = E at *
      simp
      refine CallQ.mk (Call.shared callable12 d1) ?_
      simp
      refine loopC (fun d e K => ∃ (j : Nat) (c : List FV) (x51 : FV), BIn K 1 ro t1 E ∧ K[H1.length]? = some (dCells (docD E)) ∧ K.length = H1.length + 1 ∧ K[H'.length]? = some [.row 0 c] ∧ c.length = x.text.length * 2 ∧ (∀ f ∈ c, f.np0 = true) ∧ d = x.text.length - j ∧ j ≤ x.text.length ∧ e = [(0, .sc (.sl (l.map Do8.pv))), (1, .agg [.sc (.int .i64 x.kind), .sc (.int .i64 x.line), .sc (.int .i64 x.n), .sc (.sl (x.text.map Glyph.pv)), .sc (.sl (x.kids.map Node.pv)), .sc (.sl (x.rows.map gl)), .sc (.str x.grid.cols), .sc (.sl (x.grid.rows.map TRow.pv)), .sc (.bool x.grid.box), .sc (.bool x.grid.all)]), (3, .ptr 0 0), (4, .sc (.bool false)), (5, .ptr 1 0), (6, .sc (.int .i64 l.length)), (7, .gr H'.length 0 2 x.text.length), (8, .ptr (H'.length + 1) 0), (9, .ptr H1.length 0), (10, .sc (.int .i64 (j : Nat))), (11, .undef), (12, .undef), (13, .undef), (21, .sc (.bool false)), (27, .sc (.bool false)), (51, x51), (67, .undef)]) (d := x.text.length) ⟨0, glC x.text, _, hBW, hW0, hKl0, hRK, glC_len _, glC_np _, rfl, Nat.zero_le _, rfl⟩ ?_
      rintro d e K ⟨j, c, x51, hBK, hW, hKl, hRK2, hcl, hcn, rfl, hj, rfl⟩
      clear hBW hW0 hKl0 hRK
      generalize hf7 : FV.gr H'.length 0 2 x.text.length = f7
      simp [← hf7]
      refine CondC.mk (fun hlt2 => ?_) (fun hlt2 => ?_)
      · simp at hlt2
        have hw : IntKind.i64.wrap ((j : Int) + 1) = ((j + 1 : Nat) : Int) := by rw [wrap64 (by omega) (by omega)]; omega
        have hlt3 : (j : Int) < (x.text.length : Int) := by omega
        have hsp : j * 2 + 2 ≤ x.text.length * 2 := by omega
        have hRl : H'.length < K.length := by omega
        have hv : ∀ f ∈ [FV.sc (.int .i32 33), .sc (.int .u8 0)], f.np0 = true := fun f hf => by
          simp only [List.mem_cons, List.not_mem_nil, or_false] at hf
          rcases hf with rfl | rfl <;> rfl
        simp [hRK2, hcl, hlt2, hlt3, hw, hsp]
        exact ⟨x.text.length - (j + 1), by omega, hBK.put (by omega) (fun r g hr => by have := hrl r g hr; omega) (fun f hf => FV.und_np (put_np hcn hv f hf)), by rw [List.getElem?_set_ne (by omega)]; exact hW, hKl, j + 1, _, List.getElem?_set_self hRl, (put_len (v := [FV.sc (.int .i32 33), .sc (.int .u8 0)]) (by simp; omega)).trans hcl, put_np hcn hv, rfl, by omega, by omega⟩
      · simp at hlt2
        simp
        have hWl : H1.length < K.length := by omega
        have hkl := len_le_long (docD E).kids
        have hcnt := Node.cnt_long _ (docD E).kids (Nat.lt_succ_self _)
        have sd := refSameDoc (docD E) (docD E) (by omega) (ok_of hdl)
        have ck := refCheckD (docD E) (by omega) (by omega) (small_of hdl) (refDeep' _ hdl)
        rw [show checkD (docD E) = 0 from tidyD_check _] at ck
        rw [docD_toFV] at ck
        rw [decide_eq_true rfl, docD_toFV] at sd
        have hBL := hBK.more (fs := dCells (docD E)) (dCells_und _ _)
        have hokd := ok_of hdl
        by_cases hk0 : (docD E).kids = []
        · have d2 := conDoc hBK (by omega)
          have d3 := conDoc hBL (by omega)
          rw [docD_toFV] at d2 d3
          simp only [dCells] at hW d3
          generalize docD E = D at *
          simp only [hk0, List.map_nil] at d2 d3 sd ck hW
          refine CallQ.mk (Call.shared callable12 d2) ?_
          simp [hW, heap_old hWl]
          refine CallQ.mk (Call.pure callable21 (by simp) (by simp) sd) ?_
          simp
          refine loopC (fun d e K' => ∃ (x52 x67 : FV), K' = K ++ [[.sc (.str D.name), .sc (.str D.part), .sc (.str D.date), .sc (.str D.source), .sc (.sl [])]] ∧ d = 0 ∧ e = [(0, .sc (.sl (l.map Do8.pv))), (1, .agg [.sc (.int .i64 x.kind), .sc (.int .i64 x.line), .sc (.int .i64 x.n), .sc (.sl (x.text.map Glyph.pv)), .sc (.sl (x.kids.map Node.pv)), .sc (.sl (x.rows.map gl)), .sc (.str x.grid.cols), .sc (.sl (x.grid.rows.map TRow.pv)), .sc (.bool x.grid.box), .sc (.bool x.grid.all)]), (3, .ptr 0 0), (4, .sc (.bool false)), (5, .ptr 1 0), (6, .sc (.int .i64 l.length)), (7, .gr H'.length 0 2 x.text.length), (8, .ptr (H'.length + 1) 0), (9, .ptr H1.length 0), (10, .sc (.int .i64 (j : Nat))), (11, .ptr K.length 0), (12, .sc (.bool true)), (13, .sc (.int .i64 (0 : Nat))), (21, .sc (.bool false)), (27, .sc (.bool false)), (51, x52), (67, x67)]) (d := 0) ⟨_, _, rfl, rfl, rfl⟩ ?_
          rintro d e K' ⟨x52, x67, rfl, rfl, rfl⟩
          simp [heap_old hWl, hW]
          refine CallQ.mk (CallP.reads callable12 d3) ?_
          simp [heap_old hWl, hW]
          refine CallQ.mk (CallP.pure callable21 (by simp) (by simp) sd) ?_
          simp [heap_old hWl, hW]
          refine CallQ.mk (CallP.pure callable25 (by simp) (by simp) ck) ?_
          simp
          refine CallQ.mk (CallP.pure callable9 (by simp) (by simp) kn) ?_
          simp
        · have d2 := conDocR hBK (by omega) hk0
          have hKW := (List.getElem?_eq_some_iff.1 hBK.box).1
          have hBR := hBK.more (fs := [.row 0 (rowDs (docD E).kids)]) (fun f hf => FV.und_np (rowDs_np _ f hf))
          have hBS := hBR.more (fs := [.sc (.str (docD E).name), .sc (.str (docD E).part), .sc (.str (docD E).date), .sc (.str (docD E).source), .gr K.length 0 10 (docD E).kids.length]) (fun f hf => by
            simp only [body, List.mem_cons, List.not_mem_nil, or_false] at hf
            rcases hf with rfl | rfl | rfl | rfl | rfl <;> first | rfl | (simp only [FV.und0, decide_eq_true_eq, List.length_append, List.length_singleton]; omega))
          rw [List.append_assoc] at hBS
          have sr := refSameDocR (H := K ++ ([[.row 0 (rowDs (docD E).kids)]] ++ [[.sc (.str (docD E).name), .sc (.str (docD E).part), .sc (.str (docD E).date), .sc (.str (docD E).source), .gr K.length 0 10 (docD E).kids.length]])) (r := K.length) (g := 0) (docD E) (by omega) hokd (by simp) hBS.ok
          simp only [List.singleton_append] at sr
          have hcn := rowDs_np (docD E).kids
          have hcl := rowDs_len (docD E).kids
          simp only [dCells] at hW
          have d3 : ∀ c : List FV, (∀ f ∈ c, f.np0 = true) → Con C0 12 [.ptr 1 0] (K ++ [[.row 0 c], [.sc (.str (docD E).name), .sc (.str (docD E).part), .sc (.str (docD E).date), .sc (.str (docD E).source), .gr K.length 0 10 (docD E).kids.length]]) (docD E).pv.toFV (K ++ [[.row 0 c], [.sc (.str (docD E).name), .sc (.str (docD E).part), .sc (.str (docD E).date), .sc (.str (docD E).source), .gr K.length 0 10 (docD E).kids.length]]) := fun c hc => by
            have h1 := hBK.more (fs := [.row 0 c]) (fun f hf => FV.und_np (hc f hf))
            have h2 := h1.more (fs := [.sc (.str (docD E).name), .sc (.str (docD E).part), .sc (.str (docD E).date), .sc (.str (docD E).source), .gr K.length 0 10 (docD E).kids.length]) (fun f hf => by
              simp only [body, List.mem_cons, List.not_mem_nil, or_false] at hf
              rcases hf with rfl | rfl | rfl | rfl | rfl <;> first | rfl | (simp only [FV.und0, decide_eq_true_eq, List.length_append, List.length_singleton]; omega))
            rw [List.append_assoc] at h2
            exact conDoc h2 (by omega)
          rw [docD_toFV] at d3
          generalize rowDs (docD E).kids = c0 at *
          generalize docD E = D at *
          refine CallQ.mk (Call.shared callable12 d2) ?_
          simp [hW, heap_old hWl]
          refine CallQ.mk (Call.shared callable21 sr) ?_
          simp
          refine loopC (fun d e K' => ∃ (i : Nat) (c : List FV) (x52 x67 : FV), K' = K ++ [[.row 0 c], [.sc (.str D.name), .sc (.str D.part), .sc (.str D.date), .sc (.str D.source), .gr K.length 0 10 D.kids.length]] ∧ c.length = D.kids.length * 10 ∧ (∀ f ∈ c, f.np0 = true) ∧ d = D.kids.length - i ∧ i ≤ D.kids.length ∧ e = [(0, .sc (.sl (l.map Do8.pv))), (1, .agg [.sc (.int .i64 x.kind), .sc (.int .i64 x.line), .sc (.int .i64 x.n), .sc (.sl (x.text.map Glyph.pv)), .sc (.sl (x.kids.map Node.pv)), .sc (.sl (x.rows.map gl)), .sc (.str x.grid.cols), .sc (.sl (x.grid.rows.map TRow.pv)), .sc (.bool x.grid.box), .sc (.bool x.grid.all)]), (3, .ptr 0 0), (4, .sc (.bool false)), (5, .ptr 1 0), (6, .sc (.int .i64 l.length)), (7, .gr H'.length 0 2 x.text.length), (8, .ptr (H'.length + 1) 0), (9, .ptr H1.length 0), (10, .sc (.int .i64 (j : Nat))), (11, .ptr (K.length + 1) 0), (12, .sc (.bool true)), (13, .sc (.int .i64 (i : Nat))), (21, .sc (.bool false)), (27, .sc (.bool false)), (51, x52), (67, x67)]) (d := D.kids.length) ⟨0, c0, _, _, rfl, hcl, hcn, rfl, Nat.zero_le _, rfl⟩ ?_
          rintro d e K' ⟨i, c, x52, x67, rfl, hcl2, hcn2, rfl, hi, rfl⟩
          simp
          refine CondC.mk (fun hlt4 => ?_) (fun hlt4 => ?_)
          · simp at hlt4
            have hlt4' : (i : Int) < (D.kids.length : Int) := by omega
            have hw : IntKind.i64.wrap ((i : Int) + 1) = ((i + 1 : Nat) : Int) := by rw [wrap64 (by omega) (by omega)]; omega
            simp [hlt4, hlt4', hcl2, hw]
            have hX : ∀ f ∈ List.take (i * 10 + 1) c ++ (FV.sc (.int .i64 77) :: List.drop (i * 10 + 1 + 1) c), f.np0 = true := put_np (v := [FV.sc (.int .i64 77)]) hcn2 (fun f hf => by rw [List.mem_singleton.1 hf]; rfl)
            refine ⟨by omega, by omega, D.kids.length - (i + 1), by omega, by omega, fun f hf => ?_, i + 1, rfl, by omega, by omega⟩
            rcases hf with hf | rfl | hf
            · exact hX f (List.mem_of_mem_take hf)
            · rfl
            · exact hX f (List.mem_of_mem_drop hf)
          · simp at hlt4
            have d4 := d3 c hcn2
            simp [heap_old hWl, hW]
            refine CallQ.mk (CallP.reads callable12 d4) ?_
            simp [heap_old hWl, hW]
            refine CallQ.mk (CallP.pure callable21 (by simp) (by simp) sd) ?_
            simp [heap_old hWl, hW]
            refine CallQ.mk (CallP.pure callable25 (by simp) (by simp) ck) ?_
            simp
            refine CallQ.mk (CallP.pure callable9 (by simp) (by simp) kn) ?_
            simp
end Go.Proofs.YtlbjfjaleefiiaaDoor.Ev
end
