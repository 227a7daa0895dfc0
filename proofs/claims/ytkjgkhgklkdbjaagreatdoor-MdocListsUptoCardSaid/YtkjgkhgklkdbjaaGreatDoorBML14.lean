/- Of what the law MdocLists needs: part 14. -/
import Derived.Test.YtkjgkhgklkdbjaaGreatDoorBML8
import Derived.Test.YtkjgkhgklkdbjaaGreatDoorBML11
import Derived.Test.YtkjgkhgklkdbjaaGreatDoorBML13
set_option linter.unusedSimpArgs false
set_option linter.unusedVariables false
section
namespace Go.Proofs.YtkjgkhgklkdbjaaGreatDoor.Ev
open Go
structure Bd where
  name : ByteArray
  part : ByteArray
  date : ByteArray
  source : ByteArray
  kids : List Node
  opens : List Node
  text : List Glyph
  line : Int
  has : Bool
def bCells (B : Bd) (o t : FV) : List FV := [.sc (.str B.name), .sc (.str B.part), .sc (.str B.date), .sc (.str B.source), .own (B.kids.map Node.pv), o, t, .sc (.int .i64 B.line), .sc (.bool B.has)]
theorem Node.toFV_eq (x : Node) : x.pv.toFV = .agg [.sc (.int .i64 x.kind), .sc (.int .i64 x.line), .sc (.int .i64 x.n), .sc (gl x.text), .sc (.sl (x.kids.map Node.pv)), .sc (.sl (x.rows.map gl)), .sc (.str x.grid.cols), .sc (.sl (x.grid.rows.map TRow.pv)), .sc (.bool x.grid.box), .sc (.bool x.grid.all)] := by
  rw [Node.pv_eq]; rfl
def HOk (H : Heap) : Prop := ∀ fs ∈ H, ∀ f ∈ body fs, f.und0 H.length = true
theorem HOk.set {H : Heap} {b : Nat} {fs : List FV} (h : HOk H) (hf : ∀ f ∈ body fs, f.und0 H.length = true) : ∀ gs ∈ H.set b fs, ∀ f ∈ body gs, f.und0 H.length = true := fun gs hg f hf' => by
  rcases List.mem_or_eq_of_mem_set hg with h' | rfl
  · exact h gs h' f hf'
  · exact hf f hf'
theorem HOk.set' {H : Heap} {b : Nat} {fs : List FV} (h : HOk H) (hf : ∀ f ∈ body fs, f.und0 H.length = true) : HOk (H.set b fs) := by
  unfold HOk
  rw [List.length_set]
  exact h.set hf
theorem HOk.cells {H : Heap} {b : Nat} {B : Bd} {o t : FV} (h : HOk H) (hb : H[b]? = some (bCells B o t)) : o.und0 H.length = true ∧ t.und0 H.length = true :=
  have h1 := h _ (List.mem_of_getElem? hb)
  ⟨h1 o (by simp [body, bCells]), h1 t (by simp [body, bCells])⟩
theorem HOk.build {n : Nat} {B : Bd} {o t : FV} (h : o.und0 n = true ∧ t.und0 n = true) : ∀ f ∈ body (bCells B o t), f.und0 n = true := fun f hf => by
  simp only [body, bCells, List.mem_cons, List.not_mem_nil, or_false] at hf
  rcases hf with rfl | rfl | rfl | rfl | rfl | rfl | rfl | rfl | rfl <;> first | rfl | exact h.1 | exact h.2
set_option linter.unusedSimpArgs false in
set_option maxRecDepth 20000 in
set_option maxHeartbeats 16000000 in
theorem conLay0 (B : Bd) (o t : FV) (x : Node) (H : Heap) (b : Nat) (hb : H[b]? = some (bCells B o t)) (ho : o = .own [] ∨ ∃ r g, o = .gr r g 10 0) (hk : B.kids.length ≤ 1073741824) (hH : HOk H) :
    Con C0 110 [.ptr b 0, x.pv.toFV] H (.tup []) (H.set b (bCells { B with kids := B.kids ++ [x] } o t)) := by
  have hbl : b < H.length := (List.getElem?_eq_some_iff.1 hb).1
  have hu := hH.set (b := b) (HOk.build (B := { B with kids := B.kids ++ [x] }) (hH.cells hb))
  obtain ⟨nm, pt, dt, so, kids, opens, text, line, has⟩ := B
  simp only [bCells] at hb hk hu ⊢
  rw [Node.toFV_eq]
  refine con_trimU (C := C0) (fn := Tryz.f110) Tryz.func110 rfl (by decide) mixed (mv := mv110) (vars := vars110) (c := Tryz.f110.body.getD .skip) (by kernel_rfl) rfl ?_ ?_
  · exact hu
  have sk := sizedN kids
  have hkk : (kids.length : Int) < (kids.length : Int) + 1 := by omega
  rcases ho with rfl | ⟨r, g, rfl⟩
  all_goals
    simp [Tryz.f110, gl, hb, heap_old hbl]
    refine DrawC.mk (fun _ _ => .undef) ?_
    simp [gl, hb, heap_old hbl, heap_old_set hbl, hs_b hbl, hs_set hbl, sk, sized1, lenMax, hkk, hs_at, hs_at0]
    refine ⟨by omega, ?_⟩
    rw [Node.pv_eq x]
    rfl
end Go.Proofs.YtkjgkhgklkdbjaaGreatDoor.Ev
end
section
namespace Go.Proofs.YtkjgkhgklkdbjaaGreatDoor.Ev
open Go
theorem splice_one {c : List FV} {p : Nat} {w : FV} (h : p < c.length) : splice c p [w] = c.set p w := by
  unfold splice
  rw [List.set_eq_take_append_cons_drop, if_pos h]
  simp
set_option linter.unusedSimpArgs false in
set_option maxRecDepth 20000 in
set_option maxHeartbeats 16000000 in
theorem conLay1 (B : Bd) (t : FV) (x : Node) (H : Heap) (b r g n : Nat) (c : List FV) (ks : List PV) (hb : H[b]? = some (bCells B (.gr r g 10 (n + 1)) t)) (hr : H[r]? = some [.row g c]) (hrb : r ≠ b)
    (hc : c[n * 10 + 4]? = some (.own ks)) (hs : Sized 10 ks) (hk : ks.length ≤ 1073741824) (hn : n ≤ 1073741824) (hH : HOk H) :
    Con C0 110 [.ptr b 0, x.pv.toFV] H (.tup []) (H.set r [.row g (c.set (n * 10 + 4) (.own (ks ++ [x.pv])))]) := by
  have hbl : b < H.length := (List.getElem?_eq_some_iff.1 hb).1
  have hrl : r < H.length := (List.getElem?_eq_some_iff.1 hr).1
  have hcl : n * 10 + 4 < c.length := (List.getElem?_eq_some_iff.1 hc).1
  have hu : ∀ fs ∈ H.set r [.row g (c.set (n * 10 + 4) (.own (ks ++ [x.pv])))], ∀ f ∈ body fs, f.und0 H.length = true := by
    refine hH.set fun f hf => ?_
    rcases List.mem_or_eq_of_mem_set (show f ∈ c.set (n * 10 + 4) (.own (ks ++ [x.pv])) from hf) with h | rfl
    · exact hH _ (List.mem_of_getElem? hr) f h
    · rfl
  obtain ⟨nm, pt, dt, so, kids, opens, text, line, has⟩ := B
  simp only [bCells] at hb
  have w1 : IntKind.i64.wrap (((n : Int) + 1) - 1) = n := by rw [wrap64 (by omega) (by omega)]; omega
  have n0 : (0 : Int) < (n : Int) + 1 := by omega
  have n1 : (n : Int) < (n : Int) + 1 := by omega
  have k1 : (ks.length : Int) < (ks.length : Int) + 1 := by omega
  rw [Node.toFV_eq]
  refine con_trimU (C := C0) (fn := Tryz.f110) Tryz.func110 rfl (by decide) mixed (mv := mv110) (vars := vars110) (c := Tryz.f110.body.getD .skip) (by kernel_rfl) rfl hu ?_
  simp [Tryz.f110, gl, hb, heap_old hbl, n0]
  have w2 : IntKind.i64.wrap (n : Int) = n := wrap64 (by omega) (by omega)
  have ho : ∀ (v : List FV) (L : Heap), (H.set r v ++ L)[b]? = H[b]? := fun v L => by
    rw [List.getElem?_append_left (by simpa using hbl), List.getElem?_set_ne hrb]
  have hc1 : ∀ v, (c.set (n * 10 + 4) v)[n * 10 + 4]? = some v := fun v => by simp [hcl]
  have hc2 : ∀ (v w : FV), splice (c.set (n * 10 + 4) v) (n * 10 + 4) [w] = c.set (n * 10 + 4) w := fun v w => by
    rw [splice_one (by simpa using hcl), List.set_set]
  have hc3 : ∀ v : FV, n * 10 + 4 + 1 ≤ (c.set (n * 10 + 4) v).length := fun v => by simp; omega
  have hc4 : ∀ v w : FV, (c.set (n * 10 + 4) v).set (n * 10 + 4) w = c.set (n * 10 + 4) w := fun v w => List.set_set ..
  have hcl' : n * 10 + 4 + 1 ≤ c.length := by omega
  have hs0 : ∀ a b : FV, splice [a] 0 [b] = [b] := fun _ _ => rfl
  refine DrawC.mk (fun _ _ => .undef) ?_
  simp [gl, hb, hr, heap_old hbl, heap_old hrl, heap_old_set hrl, hs_b hrl, hs_set hrl, hs_at, hs_at0, ho, w2, n1, hc, hc1, hc2, hcl', hs, sized1, lenMax, k1, hs0, -splice]
  refine ⟨⟨by omega, ?_⟩, DrawC.mk (fun _ _ => .undef) ?_⟩
  · rw [Node.pv_eq x]
    rfl
  · simp [gl, hb, hr, heap_old hbl, heap_old hrl, heap_old_set hrl, hs_b hrl, hs_set hrl, hs_at, hs_at0, ho, w2, n1, hc, hc1, hc2, hc3, hcl', hs, sized1, lenMax, k1, hs0, setBody, -splice]
    exact ⟨by omega, by rw [Node.pv_eq x]; rfl⟩
end Go.Proofs.YtkjgkhgklkdbjaaGreatDoor.Ev
end
section
namespace Go.Proofs.YtkjgkhgklkdbjaaGreatDoor.Ev
open Go
def rowC (l : List Node) : List FV := l.flatMap nodeO
theorem nodeO_len (x : Node) : (nodeO x).length = 10 := rfl
theorem rowC_app (a b : List Node) : rowC (a ++ b) = rowC a ++ rowC b := by simp [rowC]
theorem rowC_one (x : Node) : rowC [x] = nodeO x := by simp [rowC]
theorem rowC_len (l : List Node) : (rowC l).length = l.length * 10 := by
  induction l with
  | nil => rfl
  | cons x l ih => rw [rowC, List.flatMap_cons, List.length_append, nodeO_len, ← rowC, ih, List.length_cons]; omega
def oF (ro : Option (Nat × Nat)) (n : Nat) : FV := match ro with
  | none => .own []
  | some (r, g) => .gr r g 10 n
def Bd.long (B : Bd) : Nat := sumBy Node.long B.kids + sumBy Node.long B.opens + B.text.length
def RowIn (H : Heap) (b : Nat) (ro : Option (Nat × Nat)) (l : List Node) : Prop := match ro with
  | none => l = []
  | some (r, g) => r ≠ b ∧ ∃ rest, (∀ f ∈ rest, f.np0 = true) ∧ H[r]? = some [.row g (rowC l ++ rest)]
structure BIn (H : Heap) (b : Nat) (ro : Option (Nat × Nat)) (t : FV) (B : Bd) : Prop where
  box : H[b]? = some (bCells B (oF ro B.opens.length) t)
  row : RowIn H b ro B.opens
  txt : t = .sc (gl B.text) ∨ (B.text = [] ∧ t = .own [])
  ok : HOk H
structure Frm (H H' : Heap) (b : Nat) (ro : Option (Nat × Nat)) : Prop where
  len : H'.length = H.length
  same : ∀ i, i ≠ b → (∀ r g, ro = some (r, g) → i ≠ r) → H'[i]? = H[i]?
theorem Frm.refl (H : Heap) (b : Nat) (ro : Option (Nat × Nat)) : Frm H H b ro := ⟨rfl, fun _ _ _ => rfl⟩
theorem Frm.trans {A B C : Heap} {b : Nat} {ro : Option (Nat × Nat)} (h : Frm A B b ro) (k : Frm B C b ro) : Frm A C b ro :=
  ⟨k.len.trans h.len, fun i h1 h2 => (k.same i h1 h2).trans (h.same i h1 h2)⟩
def layBd (B : Bd) (x : Node) : Bd := match B.opens.reverse with
  | [] => { B with kids := B.kids ++ [x] }
  | y :: l => { B with opens := l.reverse ++ [y.withKids (y.kids ++ [x])] }
theorem layBd_nil {B : Bd} {x : Node} (h : B.opens = []) : layBd B x = { B with kids := B.kids ++ [x] } := by unfold layBd; rw [h]; rfl
theorem layBd_snoc {B : Bd} {x y : Node} {l : List Node} (h : B.opens = l ++ [y]) : layBd B x = { B with opens := l ++ [y.withKids (y.kids ++ [x])] } := by unfold layBd; rw [h]; simp
theorem withKids_long (y : Node) (l : List Node) : (y.withKids l).long + sumBy Node.long y.kids = y.long + sumBy Node.long l := by
  rw [Node.long_eq, Node.long_eq y]
  simp only [Node.text_wk, Node.kids_wk, Node.rows_wk, Node.grid_wk]
  omega
theorem layBd_long (B : Bd) (x : Node) : (layBd B x).long = B.long + x.long := by
  rcases List.eq_nil_or_concat B.opens with h | ⟨l, y, h⟩
  · rw [layBd_nil h]
    simp only [Bd.long, sumBy_append, sumBy]
    omega
  · rw [List.concat_eq_append] at h
    rw [layBd_snoc h]
    simp only [Bd.long, h, sumBy_append, sumBy]
    have := withKids_long y (y.kids ++ [x])
    rw [sumBy_append] at this
    simp only [sumBy] at this
    omega
theorem conLay {H : Heap} {b : Nat} {ro : Option (Nat × Nat)} {t : FV} {B : Bd} (h : BIn H b ro t B) (x : Node) (hl : B.long + x.long ≤ 1073741824) :
    ∃ H', Con C0 110 [.ptr b 0, x.pv.toFV] H (.tup []) H' ∧ BIn H' b ro t (layBd B x) ∧ Frm H H' b ro := by
  have hbl : b < H.length := (List.getElem?_eq_some_iff.1 h.box).1
  have hlen := len_le_long B.kids
  have hlen2 := len_le_long B.opens
  unfold Bd.long at hl
  rcases List.eq_nil_or_concat B.opens with ho | ⟨l, y, ho⟩
  · have hb := h.box
    rw [ho] at hb
    have hc := conLay0 B (oF ro 0) t x H b hb (by
      cases ro with
      | none => exact .inl rfl
      | some p => obtain ⟨r, g⟩ := p; exact .inr ⟨r, g, rfl⟩) (by omega) h.ok
    refine ⟨_, hc, ?_, ⟨by simp, fun i h1 _ => List.getElem?_set_ne (fun h => h1 h.symm)⟩⟩
    rw [layBd_nil ho]
    refine ⟨by rw [List.getElem?_set_self hbl]; simp only [ho]; rfl, ?_, h.txt, h.ok.set' (HOk.build (h.ok.cells hb))⟩
    have hr := h.row
    cases ro with
    | none => exact hr
    | some p =>
      obtain ⟨r, g⟩ := p
      obtain ⟨h1, rest, hnp, h2⟩ := hr
      exact ⟨h1, rest, hnp, by rw [List.getElem?_set_ne (fun h => h1 h.symm)]; exact h2⟩
  · rw [List.concat_eq_append] at ho
    have hr := h.row
    cases ro with
    | none =>
      have hr' : B.opens = [] := hr
      rw [ho] at hr'; simp at hr'
    | some p =>
      obtain ⟨r, g⟩ := p
      obtain ⟨h1, rest, hnp, h2⟩ := hr
      have hrl : r < H.length := (List.getElem?_eq_some_iff.1 h2).1
      have hb := h.box
      rw [ho] at hb h2
      simp only [List.length_append, List.length_singleton] at hb
      rw [rowC_app, rowC_one] at h2
      have hll : l.length ≤ B.opens.length := by rw [ho]; simp
      have hyl : y.long ≤ sumBy Node.long B.opens := long_mem (by rw [ho]; simp)
      have hys := long_sizes (x := y) (by omega)
      have hrc := rowC_len l
      have hat : (rowC l ++ nodeO y ++ rest)[l.length * 10 + 4]? = some (.own (y.kids.map Node.pv)) := by
        rw [List.append_assoc, List.getElem?_append_right (by omega), hrc, show l.length * 10 + 4 - l.length * 10 = 4 by omega]
        rfl
      have hc := conLay1 B t x H b r g l.length (rowC l ++ nodeO y ++ rest) (y.kids.map Node.pv) hb h2 h1 hat (sizedN _) (by simpa using hys.2.1) (by omega) h.ok
      have hset : (rowC l ++ nodeO y ++ rest).set (l.length * 10 + 4) (.own (y.kids.map Node.pv ++ [x.pv])) = rowC l ++ nodeO (y.withKids (y.kids ++ [x])) ++ rest := by
        rw [List.append_assoc, List.set_append_right _ _ (by omega), hrc, show l.length * 10 + 4 - l.length * 10 = 4 by omega, List.append_assoc]
        congr 1
        simp [nodeO]
      rw [hset] at hc
      refine ⟨_, hc, ?_, ⟨by simp, fun i _ h4 => List.getElem?_set_ne (fun h => h4 r g rfl h.symm)⟩⟩
      rw [layBd_snoc ho]
      refine ⟨?_, ⟨h1, rest, hnp, by rw [List.getElem?_set_self hrl, rowC_app, rowC_one]⟩, h.txt, h.ok.set' fun f hf => ?_⟩
      · rw [List.getElem?_set_ne h1, hb]
        simp only [List.length_append, List.length_singleton]
        rfl
      · have hf' : f ∈ rowC l ++ nodeO (y.withKids (y.kids ++ [x])) ++ rest := hf
        rw [← hset] at hf'
        rcases List.mem_or_eq_of_mem_set hf' with h' | rfl
        · exact h.ok _ (List.mem_of_getElem? h2) f h'
        · rfl
end Go.Proofs.YtkjgkhgklkdbjaaGreatDoor.Ev
end
section
namespace Go.Proofs.YtkjgkhgklkdbjaaGreatDoor.Ev
open Go
set_option linter.unusedSimpArgs false in
set_option maxRecDepth 20000 in
set_option maxHeartbeats 4000000 in
theorem conTrimG (l : List Glyph) (hl : l.length ≤ 1073741824) : PCon C0 73 [.sc (gl l)] (.own ((trimG l).map Glyph.pv)) := by
  refine penter73 ?_
  simp [Tryz.f73, gl]
  refine loopC (fun d e H => ∃ (n : Nat) (x2 x18 : FV), d = n ∧ ends l ≤ n ∧ n ≤ l.length ∧ e = [(0, .sc (.sl (l.map Glyph.pv))), (2, .own []), (3, .sc (.int .i64 n)), (18, x18)]) (d := l.length) ⟨l.length, .undef, .undef, rfl, ends_le l, Nat.le_refl _, rfl⟩ ?_
  rintro d e H ⟨n, x2, x18, hd, hn, hnl, rfl⟩
  have hd' := hd.symm
  subst hd'
  have hsb : sizedB 2 (l.map Glyph.pv) = true := by simp [sizedB]; exact fun g _ => rfl
  by_cases h0 : n = 0
  · subst h0
    have ht : trimG l = [] := List.eq_nil_of_length_eq_zero (by unfold ends at hn; omega)
    have cg := cloneG [] (by simp [lenMax])
    simp only [gl, List.map_nil] at cg
    simp [ht, hsb]
    refine CallQ.mk (Call.pure callable69 (by simp) (by simp) cg) ?_
    simp
  · obtain ⟨k, rfl⟩ : ∃ k, n = k + 1 := ⟨n - 1, by omega⟩
    have hk : k < l.length := by omega
    have w1 : IntKind.i64.wrap (((k + 1 : Nat) : Int) - 1) = (k : Nat) := by rw [wrap64 (by omega) (by omega)]; omega
    simp at w1
    have hq : (l.map Glyph.pv)[k]? = some (l[k]).pv := by simp [hk]
    by_cases h32 : l[k].r = 32
    · have hne : ¬ ends l = k + 1 := fun he => by
        have := ends_at (l := l) (by omega)
        simp [he, Glyph.blank, h32] at this
      simp [w1, hq, Glyph.pv, h32]
      exact ⟨k, by omega, by omega, by omega, .undef, rfl⟩
    · have he : ends l = k + 1 := by
        rcases Nat.lt_or_ge k (ends l) with h | h
        · omega
        · have := ends_behind hk h
          simp [Glyph.blank, h32] at this
      have hkl : (k : Int) + 1 ≤ l.length := by omega
      have hk0 : (0 : Int) ≤ (k : Int) + 1 := by omega
      have cg := cloneG (trimG l) (by show (trimG l).length ≤ 137438953472; have := ends_le l; unfold ends at this; omega)
      rw [trimG_take, he] at cg
      simp only [gl, List.map_take] at cg
      rw [trimG_take, he]
      simp [w1, hq, Glyph.pv, h32, hsb, hkl, hk0]
      refine CallQ.mk (Call.pure callable69 (by simp) (by simp) cg) ?_
      simp
end Go.Proofs.YtkjgkhgklkdbjaaGreatDoor.Ev
end
section
namespace Go.Proofs.YtkjgkhgklkdbjaaGreatDoor.Ev
open Go
def laid (out : List Block) (b : Block) : Block := match out.getLast? with
  | some x => { b with gap := decide (x.kind ≠ 1) && decide (x.kind ≠ 2) }
  | none => b
end Go.Proofs.YtkjgkhgklkdbjaaGreatDoor.Ev
end
section
namespace Go.Proofs.YtkjgkhgklkdbjaaGreatDoor.Ev
open Go
def FLe (f g : FV) : Prop := ∀ (W : Wd) (r : Option Root) (i : Nat) (v : Value), FRep W r i f v → FRep W r i g v
inductive FLes : List FV → List FV → Prop
  | nil : FLes [] []
  | cons {f g : FV} {l m : List FV} : FLe f g → FLes l m → FLes (f :: l) (g :: m)
theorem FLes.len {l m : List FV} (h : FLes l m) : l.length = m.length := by
  induction h with
  | nil => rfl
  | cons _ _ ih => simp [ih]
theorem FLes.get {l m : List FV} (h : FLes l m) : ∀ {j : Nat} {g : FV}, m[j]? = some g → ∃ f, l[j]? = some f ∧ FLe f g := by
  induction h with
  | nil => intro j g h; simp at h
  | cons h _ ih =>
    intro j g hg
    cases j with
    | zero => simp at hg; subst hg; exact ⟨_, rfl, h⟩
    | succ j => exact ih (by simpa using hg)
theorem FLe.refl (f : FV) : FLe f f := fun _ _ _ _ h => h
theorem FLe.emp : FLe .emp (.sc (.sl [])) := fun _ _ _ _ h => by
  cases h
  exact .sc rfl .nil
theorem FLe.agg {l m : List FV} (h : FLes l m) : FLe (.agg l) (.agg m) := fun W r i v hv => by
  cases hv with
  | agg hs hr =>
    refine .agg (hs.trans h.len) fun j g v hg hv => ?_
    obtain ⟨f, hf, hle⟩ := h.get hg
    exact hle _ _ _ _ (hr j f v hf hv)
end Go.Proofs.YtkjgkhgklkdbjaaGreatDoor.Ev
end
section
namespace Go.Proofs.YtkjgkhgklkdbjaaGreatDoor.Ev
open Go
theorem Con.les {C : Ctx} {f : FuncId} {args args' : List FV} {H : Heap} {r : FV} {H' : Heap} (h : Con C f args' H r H') (hl : FLes args args') : Con C f args H r H' := fun vs W h1 h2 h3 h4 =>
  h vs W (h1.trans hl.len) (fun j g v hg hv => by
    obtain ⟨f, hf, hle⟩ := hl.get hg
    exact hle _ _ _ _ (h2 j f v hf hv)) h3 h4
theorem hsetB {H : Heap} {b : Nat} (h : b < H.length) {x : List FV} : (H.set b x)[b]? = some x := List.getElem?_set_self h
def paraB (B : Bd) : Node := .mk 3 B.line 0 B.text [] [] noTbl
def endBd (B : Bd) : Bd := if B.has = false then B else { (if trimG B.text = [] then B else layBd B (paraB B)) with text := [], has := false }
theorem paraB_long (B : Bd) : (paraB B).long = 3 + B.text.length := by rw [Node.long_eq]; simp [paraB, noTbl, rowsLong, sumBy]
theorem layBd_text (B : Bd) (x : Node) : (layBd B x).text = B.text ∧ (layBd B x).has = B.has ∧ (layBd B x).line = B.line ∧ (layBd B x).name = B.name ∧ (layBd B x).part = B.part ∧ (layBd B x).date = B.date ∧ (layBd B x).source = B.source ∧ (layBd B x).opens.length = B.opens.length := by
  rcases List.eq_nil_or_concat B.opens with h | ⟨l, y, h⟩
  · rw [layBd_nil h]; simp
  · rw [List.concat_eq_append] at h
    rw [layBd_snoc h]; simp [h]
theorem endBd_long (B : Bd) : (endBd B).long ≤ B.long + 3 := by
  unfold endBd
  split
  · omega
  · split
    · simp only [Bd.long, List.length_nil]; omega
    · have h1 := layBd_long B (paraB B)
      have h2 := paraB_long B
      have h3 := (layBd_text B (paraB B)).1
      have h4 : ({ layBd B (paraB B) with text := [], has := false } : Bd).long + (layBd B (paraB B)).text.length = (layBd B (paraB B)).long := by simp only [Bd.long, List.length_nil]; omega
      rw [h3] at h4
      omega
theorem BIn.clear {H : Heap} {b : Nat} {ro : Option (Nat × Nat)} {t : FV} {B : Bd} (h : BIn H b ro t B) : BIn (H.set b (bCells { B with text := [], has := false } (oF ro B.opens.length) (.own []))) b ro (.own []) { B with text := [], has := false } ∧ Frm H (H.set b (bCells { B with text := [], has := false } (oF ro B.opens.length) (.own []))) b ro := by
  have hbl : b < H.length := (List.getElem?_eq_some_iff.1 h.box).1
  refine ⟨⟨by rw [List.getElem?_set_self hbl], ?_, .inr ⟨rfl, rfl⟩, h.ok.set' (HOk.build ⟨(h.ok.cells h.box).1, rfl⟩)⟩, by simp, fun i h1 _ => List.getElem?_set_ne (fun h => h1 h.symm)⟩
  have hr := h.row
  cases ro with
  | none => exact hr
  | some p =>
    obtain ⟨r, g⟩ := p
    obtain ⟨h1, rest, hnp, h2⟩ := hr
    exact ⟨h1, rest, hnp, by rw [List.getElem?_set_ne (fun h => h1 h.symm)]; exact h2⟩
set_option linter.unusedSimpArgs false in
set_option maxRecDepth 20000 in
set_option maxHeartbeats 16000000 in
theorem conEnd {H : Heap} {b : Nat} {ro : Option (Nat × Nat)} {t : FV} {B : Bd} (h : BIn H b ro t B) (hl : B.long ≤ 500000000) :
    ∃ H' t', Con C0 54 [.ptr b 0] H (.tup []) H' ∧ BIn H' b ro t' (endBd B) ∧ Frm H H' b ro := by
  have hbl : b < H.length := (List.getElem?_eq_some_iff.1 h.box).1
  cases hh : B.has with
  | false =>
    refine ⟨H, t, ?_, by unfold endBd; rw [if_pos hh]; exact h, Frm.refl _ _ _⟩
    have hb := h.box
    generalize oF ro B.opens.length = o at hb
    obtain ⟨nm, pt, dt, so, kids, opens, text, line, has⟩ := B
    simp only at hh
    subst hh
    simp only [bCells] at hb
    refine enter54 ?_
    simp [Tryz.f54, hb]
  | true =>
    have htl : B.text.length ≤ 1073741824 := by unfold Bd.long at hl; omega
    have ct := conTrimG B.text htl
    by_cases htr : trimG B.text = []
    · have hc := h.clear
      refine ⟨_, _, ?_, by unfold endBd; rw [if_neg (by simp [hh]), if_pos htr]; exact hc.1, hc.2⟩
      have hb := h.box
      have htx := h.txt
      generalize oF ro B.opens.length = o at hb ⊢
      obtain ⟨nm, pt, dt, so, kids, opens, text, line, has⟩ := B
      simp only at hh htr ct htx
      subst hh
      simp only [bCells] at hb ⊢
      rw [htr] at ct
      refine enter54 ?_
      rcases htx with rfl | ⟨rfl, rfl⟩
      all_goals
        simp only [gl, List.map_nil] at ct
        simp [Tryz.f54, hb, gl]
        refine CallQ.mk (Call.pure callable73 (by simp) (by simp) ct) ?_
        simp [hb, gl, hsetB hbl]
    · obtain ⟨H1, c1, c2, c3⟩ := conLay h (paraB B) (by rw [paraB_long]; unfold Bd.long at *; omega)
      have hc := c2.clear
      refine ⟨_, _, ?_, by unfold endBd; rw [if_neg (by simp [hh]), if_neg htr]; exact hc.1, c3.trans hc.2⟩
      have hb := h.box
      have hb2 := c2.box
      have hbl2 : b < H1.length := (List.getElem?_eq_some_iff.1 hb2).1
      have htx := h.txt
      have hlt := layBd_text B (paraB B)
      have hpos : 0 < (trimG B.text).length := List.length_pos_iff.2 htr
      generalize layBd B (paraB B) = L at *
      obtain ⟨l1, l2, l3, l4, l5, l6, l7, l8⟩ := hlt
      rw [Node.toFV_eq] at c1
      simp only [paraB, Node.kind_mk, Node.line_mk, Node.n_mk, Node.text_mk, Node.kids_mk, Node.rows_mk, Node.grid_mk, noTbl, List.map_nil] at c1
      rw [l8] at hb2 ⊢
      generalize oF ro B.opens.length = o at hb hb2 ⊢
      obtain ⟨nm, pt, dt, so, kids, opens, text, line, has⟩ := B
      obtain ⟨nm', pt', dt', so', kids', opens', text', line', has'⟩ := L
      simp only at hh htr ct htx l1 l2 l3 l4 l5 l6 l7 l8 hpos c1
      subst hh l1 l2 l3 l4 l5 l6 l7
      simp only [bCells] at hb hb2 ⊢
      have c1' : Con C0 110 [.ptr b 0, .agg [.sc (.int .i64 3), .sc (.int .i64 line'), .sc (.int .i64 0), .sc (.sl (text'.map Glyph.pv)), .emp, .emp, .sc (.str ByteArray.empty), .emp, .sc (.bool false), .sc (.bool false)]] H (.tup []) H1 :=
        c1.les (by repeat' first | exact FLes.nil | exact FLe.refl _ | exact FLe.emp | apply FLes.cons | apply FLe.agg)
      refine enter54 ?_
      simp only [gl] at ct
      rcases htx with rfl | ⟨rfl, rfl⟩
      · simp [Tryz.f54, hb, gl]
        refine CallQ.mk (Call.pure callable73 (by simp) (by simp) ct) ?_
        simp [hb, gl, hpos]
        refine CallQ.mk (CallP.shared callable110 c1') ?_
        simp [hb2, hsetB hbl2]
      · exact absurd rfl htr
end Go.Proofs.YtkjgkhgklkdbjaaGreatDoor.Ev
end
section
namespace Go.Proofs.YtkjgkhgklkdbjaaGreatDoor.Ev
open Go
theorem BIn.tell {H : Heap} {b : Nat} {ro : Option (Nat × Nat)} {t t' : FV} {B B' : Bd} (h : BIn H b ro t B) (ho : B'.opens = B.opens) (ht : t' = .sc (gl B'.text) ∨ (B'.text = [] ∧ t' = .own [])) :
    BIn (H.set b (bCells B' (oF ro B.opens.length) t')) b ro t' B' ∧ Frm H (H.set b (bCells B' (oF ro B.opens.length) t')) b ro := by
  have hbl : b < H.length := (List.getElem?_eq_some_iff.1 h.box).1
  refine ⟨⟨by rw [List.getElem?_set_self hbl, ho], ?_, ht, h.ok.set' (HOk.build ⟨(h.ok.cells h.box).1, by rcases ht with rfl | ⟨_, rfl⟩ <;> rfl⟩)⟩, by simp, fun i h1 _ => List.getElem?_set_ne (fun h => h1 h.symm)⟩
  have hr := h.row
  rw [ho]
  cases ro with
  | none => exact hr
  | some p =>
    obtain ⟨r, g⟩ := p
    obtain ⟨h1, rest, hnp, h2⟩ := hr
    exact ⟨h1, rest, hnp, by rw [List.getElem?_set_ne (fun h => h1 h.symm)]; exact h2⟩
set_option linter.unusedSimpArgs false in
set_option maxRecDepth 20000 in
set_option maxHeartbeats 4000000 in
theorem conTitle {H : Heap} {b : Nat} {ro : Option (Nat × Nat)} {t : FV} {B : Bd} (h : BIn H b ro t B) (n p d s : ByteArray) :
    ∃ H', Con C0 131 [.ptr b 0, .sc (.str n), .sc (.str p), .sc (.str d), .sc (.str s)] H (.tup []) H' ∧ BIn H' b ro t { B with name := n, part := p, date := d, source := s } ∧ Frm H H' b ro := by
  have hbl : b < H.length := (List.getElem?_eq_some_iff.1 h.box).1
  have hc := h.tell (B' := { B with name := n, part := p, date := d, source := s }) (t' := t) rfl h.txt
  refine ⟨_, ?_, hc⟩
  have hb := h.box
  generalize oF ro B.opens.length = o at hb ⊢
  obtain ⟨nm, pt, dt, so, kids, opens, text, line, has⟩ := B
  simp only [bCells] at hb ⊢
  refine enter131 ?_
  simp [Tryz.f131, hb, hsetB hbl]
def textBd (B : Bd) (l : List Glyph) (ln : Int) : Bd := { B with text := joinS B.text l, line := if B.has = true then B.line else ln, has := true }
set_option linter.unusedSimpArgs false in
set_option maxRecDepth 20000 in
set_option maxHeartbeats 8000000 in
theorem conText {H : Heap} {b : Nat} {ro : Option (Nat × Nat)} {t : FV} {B : Bd} (h : BIn H b ro t B) (l : List Glyph) (ln : Int) (hl : B.text.length + l.length ≤ 536870912) :
    ∃ H', Con C0 74 [.ptr b 0, .sc (gl l), .sc (.int .i64 ln)] H (.tup []) H' ∧ BIn H' b ro (.sc (gl (joinS B.text l))) (textBd B l ln) ∧ Frm H H' b ro := by
  have hbl : b < H.length := (List.getElem?_eq_some_iff.1 h.box).1
  have hc := h.tell (B' := textBd B l ln) (t' := .sc (gl (joinS B.text l))) rfl (.inl rfl)
  refine ⟨_, ?_, hc⟩
  have hb := h.box
  have htx := h.txt
  have cj := conJoinS B.text l hl
  generalize oF ro B.opens.length = o at hb ⊢
  obtain ⟨nm, pt, dt, so, kids, opens, text, line, has⟩ := B
  simp only [bCells, textBd] at hb htx cj ⊢
  refine enter74 ?_
  rcases htx with rfl | ⟨rfl, rfl⟩
  all_goals
    simp only [gl, List.map_nil] at cj hb
    cases has
    all_goals
      simp [Tryz.f74, hb, hsetB hbl, gl]
      refine CallQ.mk (Call.pure callable116 (by simp) (by simp) cj) ?_
      simp [hb, hsetB hbl]
set_option linter.unusedSimpArgs false in
set_option maxRecDepth 20000 in
theorem conDepth {H : Heap} {b : Nat} {ro : Option (Nat × Nat)} {t : FV} {B : Bd} (h : BIn H b ro t B) : Con C0 143 [.ptr b 0] H (.sc (.int .i64 B.opens.length)) H := by
  have hb := h.box
  have hr := h.row
  refine enter143 ?_
  cases ro with
  | none =>
    have hr' : B.opens = [] := hr
    simp only [bCells, oF] at hb
    simp [Tryz.f143, hb, hr']
  | some p =>
    obtain ⟨r, g⟩ := p
    simp only [bCells, oF] at hb
    simp [Tryz.f143, hb]
def Bd.zero : Bd := ⟨ByteArray.empty, ByteArray.empty, ByteArray.empty, ByteArray.empty, [], [], [], 0, false⟩
set_option maxRecDepth 20000 in
theorem conNew (H : Heap) : Con C0 37 [] H (.ptr H.length 0) (H ++ [bCells Bd.zero (.own []) (.own [])]) := by
  refine enter37 ?_
  simp [Tryz.f37, bCells, Bd.zero]
end Go.Proofs.YtkjgkhgklkdbjaaGreatDoor.Ev
end
section
namespace Go.Proofs.YtkjgkhgklkdbjaaGreatDoor.Ev
open Go
theorem und0_mono {n m : Nat} (h : n ≤ m) {f : FV} (hf : f.und0 n = true) : f.und0 m = true := by
  cases f with
  | fn f a b => cases a <;> cases b <;> simp_all [FV.und0]
  | ptr b o => simp only [FV.und0, decide_eq_true_eq] at hf ⊢; omega
  | bs b o k => simp only [FV.und0, decide_eq_true_eq] at hf ⊢; omega
  | gr b g z k => simp only [FV.und0, decide_eq_true_eq] at hf ⊢; omega
  | gp b g o => simp only [FV.und0, decide_eq_true_eq] at hf ⊢; omega
  | _ => simp_all [FV.und0]
theorem HOk.more {H : Heap} (h : HOk H) {fs : List FV} (hf : ∀ f ∈ body fs, f.und0 (H.length + 1) = true) : HOk (H ++ [fs]) := fun gs hg f hf' => by
  rw [List.length_append, List.length_singleton]
  rcases List.mem_append.1 hg with h' | h'
  · exact und0_mono (Nat.le_succ _) (h gs h' f hf')
  · rw [List.mem_singleton.1 h'] at hf'; exact hf f hf'
theorem BIn.more {H : Heap} {b : Nat} {ro : Option (Nat × Nat)} {t : FV} {B : Bd} (h : BIn H b ro t B) {fs : List FV} (hf : ∀ f ∈ body fs, f.und0 (H.length + 1) = true) : BIn (H ++ [fs]) b ro t B := by
  have hbl : b < H.length := (List.getElem?_eq_some_iff.1 h.box).1
  refine ⟨by rw [heap_old hbl]; exact h.box, ?_, h.txt, h.ok.more hf⟩
  have hr := h.row
  cases ro with
  | none => exact hr
  | some p =>
    obtain ⟨r, g⟩ := p
    obtain ⟨h1, rest, hnp, h2⟩ := hr
    have hrl : r < H.length := (List.getElem?_eq_some_iff.1 h2).1
    exact ⟨h1, rest, hnp, by rw [heap_old hrl]; exact h2⟩
theorem nodeO_und (x : Node) (n : Nat) : ∀ f ∈ nodeO x, f.und0 n = true := fun f hf => by
  simp only [nodeO, List.mem_cons, List.not_mem_nil, or_false] at hf
  rcases hf with rfl | rfl | rfl | rfl | rfl | rfl | rfl | rfl | rfl | rfl <;> rfl
theorem rowC_und (l : List Node) (n : Nat) : ∀ f ∈ rowC l, f.und0 n = true := fun f hf => by
  simp only [rowC, List.mem_flatMap] at hf
  obtain ⟨x, _, hx⟩ := hf
  exact nodeO_und x n f hx
theorem BIn.take {H L H1 : Heap} {b : Nat} {ro : Option (Nat × Nat)} {t0 t : FV} {B0 B : Bd} (h0 : BIn H b ro t0 B0) (h : BIn H1 b ro t B) (hf : Frm (H ++ L) H1 b ro) : BIn (H1.take H.length) b ro t B ∧ Frm H (H1.take H.length) b ro := by
  have hbl : b < H.length := (List.getElem?_eq_some_iff.1 h0.box).1
  have hlen : (H1.take H.length).length = H.length := by rw [List.length_take, hf.len, List.length_append]; omega
  have hget : ∀ i, i < H.length → (H1.take H.length)[i]? = H1[i]? := fun i hi => List.getElem?_take_of_lt hi
  have hold : ∀ i, i < H.length → i ≠ b → (∀ r g, ro = some (r, g) → i ≠ r) → H1[i]? = H[i]? := fun i hi h1 h2 => by rw [hf.same i h1 h2, heap_old hi]
  have hrl : ∀ r g, ro = some (r, g) → r < H.length := fun r g hrg => by
    have hr := h0.row
    subst hrg
    obtain ⟨_, rest, _, h2⟩ := hr
    exact (List.getElem?_eq_some_iff.1 h2).1
  have hone : (oF ro B.opens.length).und0 H.length = true := by
    cases ro with
    | none => rfl
    | some p => obtain ⟨r, g⟩ := p; simp only [oF, FV.und0, decide_eq_true_eq]; exact hrl r g rfl
  refine ⟨⟨by rw [hget b hbl]; exact h.box, ?_, h.txt, fun gs hg f hf' => ?_⟩, hlen, fun i h1 h2 => ?_⟩
  · have hr := h.row
    cases ro with
    | none => exact hr
    | some p =>
      obtain ⟨r, g⟩ := p
      obtain ⟨h1, rest, hnp, h2⟩ := hr
      exact ⟨h1, rest, hnp, by rw [hget r (hrl r g rfl)]; exact h2⟩
  · rw [hlen]
    obtain ⟨i, hi⟩ := List.getElem?_of_mem hg
    have hil : i < H.length := by rw [← hlen]; exact (List.getElem?_eq_some_iff.1 hi).1
    rw [hget i hil] at hi
    by_cases hib : i = b
    · subst hib
      rw [h.box] at hi
      obtain rfl := Option.some.inj hi
      exact HOk.build ⟨hone, by rcases h.txt with rfl | ⟨_, rfl⟩ <;> rfl⟩ f hf'
    · by_cases hir : ∃ g, ro = some (i, g)
      · obtain ⟨g, rfl⟩ := hir
        obtain ⟨h1, rest, hnp, h2⟩ := h.row
        rw [h2] at hi
        obtain rfl := Option.some.inj hi
        rcases List.mem_append.1 (show f ∈ rowC B.opens ++ rest from hf') with h' | h'
        · exact rowC_und _ _ f h'
        · exact FV.und_np (hnp f h')
      · rw [hold i hil hib (fun r g hrg hh => hir ⟨g, by rw [hrg, hh]⟩)] at hi
        exact h0.ok gs (List.mem_of_getElem? hi) f hf'
  · by_cases hil : i < H.length
    · rw [hget i hil]; exact hold i hil h1 h2
    · rw [List.getElem?_eq_none (by omega), List.getElem?_eq_none (by omega)]
end Go.Proofs.YtkjgkhgklkdbjaaGreatDoor.Ev
end
section
namespace Go.Proofs.YtkjgkhgklkdbjaaGreatDoor.Ev
open Go
def nodeD (x : Node) : List FV := [.sc (.int .i64 x.kind), .sc (.int .i64 x.line), .sc (.int .i64 x.n), .sc (.sl (x.text.map Glyph.pv)), .sc (.sl (x.kids.map Node.pv)), .sc (.sl (x.rows.map gl)), .sc (.str x.grid.cols), .sc (.sl (x.grid.rows.map TRow.pv)), .sc (.bool x.grid.box), .sc (.bool x.grid.all)]
theorem row_at {l : List Node} {rest : List FV} {i : Nat} (h : i < l.length) : List.take 10 (List.drop (i * 10) (List.map demote1 (rowC l ++ rest))) = nodeD l[i] ∧ i * 10 + 10 ≤ (rowC l ++ rest).length := by
  have hs : l = l.take i ++ l[i] :: l.drop (i + 1) := by
    rw [← List.drop_eq_getElem_cons h, List.take_append_drop]
  have hc : rowC l = rowC (l.take i) ++ (nodeO l[i] ++ rowC (l.drop (i + 1))) := by
    conv => lhs; rw [hs]
    rw [rowC_app]
    congr 1
  have hl : (rowC (l.take i)).length = i * 10 := by rw [rowC_len, List.length_take]; congr 1; omega
  constructor
  · rw [← List.map_drop, ← List.map_take, hc, List.append_assoc, List.drop_left' hl, List.append_assoc, List.take_left' (nodeO_len _)]
    rfl
  · rw [List.length_append, rowC_len]; omega
theorem BIn.cut {H : Heap} {b r g : Nat} {t : FV} {B : Bd} {l : List Node} {x : Node} (h : BIn H b (some (r, g)) t B) (ho : B.opens = l ++ [x]) :
    BIn (H.set b (bCells { B with opens := l } (.gr r g 10 l.length) t)) b (some (r, g)) t { B with opens := l } ∧ Frm H (H.set b (bCells { B with opens := l } (.gr r g 10 l.length) t)) b (some (r, g)) := by
  have hbl : b < H.length := (List.getElem?_eq_some_iff.1 h.box).1
  obtain ⟨h1, rest, hnp, h2⟩ := h.row
  have hrl : r < H.length := (List.getElem?_eq_some_iff.1 h2).1
  refine ⟨⟨by rw [List.getElem?_set_self hbl]; rfl, ?_, h.txt, h.ok.set' (HOk.build ⟨by simp only [FV.und0, decide_eq_true_eq]; exact hrl, (h.ok.cells h.box).2⟩)⟩, by simp, fun i h1 _ => List.getElem?_set_ne (fun h => h1 h.symm)⟩
  refine ⟨h1, nodeO x ++ rest, fun f hf => ?_, ?_⟩
  · rcases List.mem_append.1 hf with hf | hf
    · simp only [nodeO, List.mem_cons, List.not_mem_nil, or_false] at hf
      rcases hf with rfl | rfl | rfl | rfl | rfl | rfl | rfl | rfl | rfl | rfl <;> rfl
    · exact hnp f hf
  · rw [List.getElem?_set_ne (fun h => h1 h.symm), h2, ho, rowC_app, rowC_one, List.append_assoc]
set_option linter.unusedSimpArgs false in
set_option maxRecDepth 20000 in
set_option maxHeartbeats 8000000 in
theorem conPop {H : Heap} {b : Nat} {ro : Option (Nat × Nat)} {t : FV} {B : Bd} (h : BIn H b ro t B) {l : List Node} {x : Node} (ho : B.opens = l ++ [x]) (hl : B.long ≤ 400000000) :
    ∃ H', Con C0 81 [.ptr b 0] H (.tup []) H' ∧ BIn H' b ro t (layBd { B with opens := l } x) ∧ Frm H H' b ro := by
  have hbl : b < H.length := (List.getElem?_eq_some_iff.1 h.box).1
  cases ro with
  | none =>
    have hr : B.opens = [] := h.row
    rw [ho] at hr; simp at hr
  | some p =>
    obtain ⟨r, g⟩ := p
    have hlong : ({ B with opens := l } : Bd).long + x.long = B.long := by simp only [Bd.long, ho, sumBy_append, sumBy]; omega
    obtain ⟨k1, k2⟩ := h.cut ho
    have k3 := k1.more (fs := nodeD x) (fun f hf => by
      simp only [body, nodeD, List.mem_cons, List.not_mem_nil, or_false] at hf
      rcases hf with rfl | rfl | rfl | rfl | rfl | rfl | rfl | rfl | rfl | rfl <;> rfl)
    obtain ⟨H1, c1, c2, c3⟩ := conLay k3 x (by omega)
    have hk := k1.take c2 c3
    have hlen : (H.set b (bCells { B with opens := l } (.gr r g 10 l.length) t)).length = H.length := by simp
    rw [hlen] at hk
    refine ⟨H1.take H.length, ?_, hk.1, k2.trans hk.2⟩
    obtain ⟨h1, rest, hnp, h2⟩ := h.row
    have hrl : r < H.length := (List.getElem?_eq_some_iff.1 h2).1
    have hol : l.length ≤ B.opens.length := by rw [ho]; simp
    have hob := len_le_long B.opens
    obtain ⟨ra, rb⟩ := row_at (l := B.opens) (rest := rest) (i := l.length) (by rw [ho]; simp)
    have hxo : B.opens[l.length]'(by rw [ho]; simp) = x := by simp [ho]
    rw [hxo] at ra
    have hb := h.box
    have hn : B.opens.length = l.length + 1 := by rw [ho]; simp
    simp only [oF, hn] at hb
    unfold Bd.long at hl
    have w1 : IntKind.i64.wrap (((l.length : Int) + 1) - 1) = l.length := by rw [wrap64 (by omega) (by omega)]; omega
    have w2 : IntKind.i64.wrap (l.length : Int) = l.length := wrap64 (by omega) (by omega)
    have n1 : (l.length : Int) < (l.length : Int) + 1 := by omega
    have n2 : (l.length : Int) ≤ (l.length : Int) + 1 := by omega
    generalize rowC B.opens ++ rest = c at h2 ra rb
    rw [Node.toFV_eq] at c1
    simp only [gl] at c1
    simp only [bCells, nodeD] at hb c1 ra
    refine con_trimU (C := C0) (fn := Tryz.f81) Tryz.func81 rfl (by decide) mixed (mv := mv81) (vars := vars81) (c := Tryz.f81.body.getD .skip) (by kernel_rfl) rfl (fun fs hfs f hf => by have := hk.1.ok fs hfs f hf; rw [hk.2.len, hlen] at this; exact this) ?_
    simp [Tryz.f81, hb, h2, heap_old hbl, heap_old hrl, heap_old_set hbl, hs_b hbl, hs_at, hs_at0, w1, w2, n1, n2, ra, rb]
    refine CallQ.mk (Call.shared callable110 c1) ?_
    simp
end Go.Proofs.YtkjgkhgklkdbjaaGreatDoor.Ev
end
section
namespace Go.Proofs.YtkjgkhgklkdbjaaGreatDoor.Ev
open Go
def insideB (l : List Node) (k : Int) : Bool := l.any fun x => decide (x.kind = k)
theorem inside_take {l : List Node} {k : Int} {i : Nat} (h : i < l.length) (hn : insideB (l.take i) k = false) (hk : l[i].kind ≠ k) : insideB (l.take (i + 1)) k = false := by
  rw [List.take_succ_eq_append_getElem h, insideB, List.any_append, ← insideB, hn]; simp [hk]
theorem inside_at {l : List Node} {k : Int} {i : Nat} (h : i < l.length) (hk : l[i].kind = k) : insideB l k = true := by
  rw [insideB, List.any_eq_true]; exact ⟨l[i], List.getElem_mem h, by simp [hk]⟩
set_option linter.unusedSimpArgs false in
set_option maxRecDepth 20000 in
set_option maxHeartbeats 8000000 in
theorem conInside {H : Heap} {b : Nat} {ro : Option (Nat × Nat)} {t : FV} {B : Bd} (h : BIn H b ro t B) (k : Int) (hl : B.long ≤ 400000000) :
    Con C0 145 [.ptr b 0, .sc (.int .i64 k)] H (.sc (.bool (insideB B.opens k))) H := by
  have hbl : b < H.length := (List.getElem?_eq_some_iff.1 h.box).1
  have hob := len_le_long B.opens
  unfold Bd.long at hl
  refine con_trimU (C := C0) (fn := Tryz.f145) Tryz.func145 rfl (by decide) mixed (mv := mv145) (vars := vars145) (c := Tryz.f145.body.getD .skip) (by kernel_rfl) rfl h.ok ?_
  have hb := h.box
  have hr := h.row
  cases ro with
  | none =>
    have hr' : B.opens = [] := hr
    simp only [bCells, oF] at hb
    simp [Tryz.f145, hb, hr']
    refine loopC (fun d e H' => ∃ (x15 : FV), H' = H ∧ d = 0 ∧ e = [(0, .ptr b 0), (1, .sc (.int .i64 k)), (4, .sc (.bool false)), (6, .undef), (8, .sc (.bool false)), (12, .sc (.sl [])), (13, .sc (.int .i64 0)), (14, .sc (.int .i64 0)), (15, x15), (21, .undef)]) (d := 0) ⟨.undef, rfl, rfl, rfl⟩ ?_
    rintro d e H' ⟨x15, rfl, rfl, rfl⟩
    simp [insideB]
  | some p =>
    obtain ⟨r, g⟩ := p
    obtain ⟨h1, rest, hnp, h2⟩ := hr
    have hrl : r < H.length := (List.getElem?_eq_some_iff.1 h2).1
    simp only [bCells, oF] at hb
    simp [Tryz.f145, hb]
    refine loopC (fun d e H' => ∃ (i : Nat) (x6 x15 x21 : FV) (J : Heap), H' = H ++ J ∧ d = B.opens.length - i ∧ i ≤ B.opens.length ∧ insideB (B.opens.take i) k = false ∧ e = [(0, .ptr b 0), (1, .sc (.int .i64 k)), (4, .sc (.bool false)), (6, x6), (8, .sc (.bool false)), (12, .gr r g 10 B.opens.length), (13, .sc (.int .i64 B.opens.length)), (14, .sc (.int .i64 i)), (15, x15), (21, x21)]) (d := B.opens.length) ⟨0, .undef, .undef, .undef, [], by simp, rfl, Nat.zero_le _, rfl, rfl⟩ ?_
    rintro d e H' ⟨i, x6, x15, x21, J, rfl, rfl, hi, hno, rfl⟩
    simp
    refine CondC.mk (fun hlt => ?_) (fun hlt => ?_)
    · simp at hlt
      have hlt' : (i : Int) < (B.opens.length : Int) := by omega
      obtain ⟨ra, rb⟩ := row_at (l := B.opens) (rest := rest) hlt
      have hw : IntKind.i64.wrap ((i : Int) + 1) = ((i + 1 : Nat) : Int) := by rw [wrap64 (by omega) (by omega)]; omega
      have f1 := fun hk => inside_take hlt hno (k := k) hk
      have f2 := fun hk => inside_at hlt (k := k) hk
      generalize B.opens[i] = x at ra f1 f2
      generalize rowC B.opens ++ rest = c at h2 ra rb
      simp only [nodeD] at ra
      by_cases hk : x.kind = k
      · simp [h2, heap_old hrl, ra, rb, hlt, hlt', hk]
        exact f2 hk
      · simp [h2, heap_old hrl, ra, rb, hlt, hlt', hk, hw]
        exact ⟨B.opens.length - (i + 1), by omega, i + 1, rfl, by omega, f1 hk, by omega⟩
    · simp at hlt
      obtain rfl : i = B.opens.length := by omega
      rw [List.take_length] at hno
      simp [hno]
end Go.Proofs.YtkjgkhgklkdbjaaGreatDoor.Ev
end
section
namespace Go.Proofs.YtkjgkhgklkdbjaaGreatDoor.Ev
open Go
structure FrG (H H' : Heap) (b : Nat) (ro ro' : Option (Nat × Nat)) : Prop where
  le : H.length ≤ H'.length
  same : ∀ i, i < H.length → i ≠ b → (∀ r g, ro = some (r, g) → i ≠ r) → H'[i]? = H[i]?
  row : (∀ r g, ro = some (r, g) → ∃ g', ro' = some (r, g')) ∧ (ro = none → ∀ r g, ro' = some (r, g) → H.length ≤ r)
theorem Frm.toG {H H' : Heap} {b : Nat} {ro : Option (Nat × Nat)} (h : Frm H H' b ro) : FrG H H' b ro ro :=
  ⟨by rw [h.len]; exact Nat.le_refl _, fun i _ h1 h2 => h.same i h1 h2, fun r g hr => ⟨g, hr⟩, fun h0 r g hr => by rw [h0] at hr; simp at hr⟩
theorem FrG.trans {A B C : Heap} {b : Nat} {r1 r2 r3 : Option (Nat × Nat)} (h : FrG A B b r1 r2) (k : FrG B C b r2 r3) : FrG A C b r1 r3 where
  le := Nat.le_trans h.le k.le
  same i hi h1 h2 := by
    have hi' : i < B.length := Nat.lt_of_lt_of_le hi h.le
    refine (k.same i hi' h1 fun r g hr => ?_).trans (h.same i hi h1 h2)
    cases r1 with
    | none => have := h.row.2 rfl r g hr; omega
    | some p =>
      obtain ⟨r', g'⟩ := p
      obtain ⟨g2, hg2⟩ := h.row.1 r' g' rfl
      rw [hg2] at hr
      simp only [Option.some.injEq, Prod.mk.injEq] at hr
      have := h2 r' g' rfl
      omega
  row := ⟨fun r g hr => by
    obtain ⟨g', h1⟩ := h.row.1 r g hr
    exact k.row.1 r g' h1, fun h0 r g hr => by
    cases r2 with
    | none => exact Nat.le_trans h.le (k.row.2 rfl r g hr)
    | some p =>
      obtain ⟨r', g'⟩ := p
      have h3 := h.row.2 h0 r' g' rfl
      obtain ⟨g2, hg2⟩ := k.row.1 r' g' rfl
      rw [hg2] at hr
      simp only [Option.some.injEq, Prod.mk.injEq] at hr
      omega⟩
theorem hcm2 {H : Heap} {b r : Nat} (h : r ≠ b) {v w : List FV} : (H.set b v).set r w = (H.set r w).set b v := List.set_comm v w (fun h' => h h'.symm)
theorem splice_end {c : List FV} {n : Nat} {z v : List FV} (hz : z.length = v.length) (hn : c.length = n) : splice (c ++ z) n v = c ++ v := by
  unfold splice
  rw [List.take_left' hn, List.drop_of_length_le (by rw [List.length_append]; omega), List.append_nil]
set_option linter.unusedSimpArgs false in
set_option maxRecDepth 20000 in
set_option maxHeartbeats 16000000 in
theorem conOpen {H : Heap} {b : Nat} {ro : Option (Nat × Nat)} {t : FV} {B : Bd} (h : BIn H b ro t B) (x : Node) (hl : B.long + x.long ≤ 400000000) :
    ∃ H' t' ro', Con C0 144 [.ptr b 0, x.pv.toFV] H (.tup []) H' ∧ BIn H' b ro' t' { endBd B with opens := (endBd B).opens ++ [x] } ∧ FrG H H' b ro ro' := by
  have hbl : b < H.length := (List.getElem?_eq_some_iff.1 h.box).1
  have hel := endBd_long B
  have cc := conCopied (SizeOf.sizeOf x + 1) x (Nat.lt_succ_self _) (by omega)
  have h1 := h.more (fs := nodeD x) (fun f hf => by
    simp only [body, nodeD, List.mem_cons, List.not_mem_nil, or_false] at hf
    rcases hf with rfl | rfl | rfl | rfl | rfl | rfl | rfl | rfl | rfl | rfl <;> rfl)
  obtain ⟨H1, t1, c1, c2, c3⟩ := conEnd h1 (by omega)
  have hx1 : H1[H.length]? = some (nodeD x) := by
    rw [c3.same H.length (by omega) (fun r g hrg => by
      have hr := h.row
      subst hrg
      obtain ⟨_, rest, _, h2⟩ := hr
      have := (List.getElem?_eq_some_iff.1 h2).1
      omega), heap_at0]
    rfl
  have hlen1 : H1.length = H.length + 1 := by rw [c3.len]; simp
  have hbl1 : b < H1.length := by omega
  have hxb : H.length ≠ b := by omega
  rw [Node.toFV_eq] at cc ⊢
  have hob := len_le_long (endBd B).opens
  have hlo : (endBd B).opens.length ≤ 400000003 := by unfold Bd.long at hel; unfold Bd.long at hl; omega
  simp only [gl] at cc ⊢
  have fr0 : FrG H (H ++ [nodeD x]) b ro ro := ⟨by simp, fun i hi _ _ => heap_old hi, fun r g hr => ⟨g, hr⟩, fun h0 r g hr => by rw [h0] at hr; simp at hr⟩
  have fr1 := fr0.trans c3.toG
  have hb := c2.box
  have htx := c2.txt
  have hok := c2.ok
  have hrow := c2.row
  generalize endBd B = E at *
  have wz : IntKind.i64.wrap 0 = 0 := by decide
  cases ro with
  | none =>
    have hr' : E.opens = [] := hrow
    have hlen2 : (H1.set b (bCells { E with opens := [x] } (.gr H1.length 0 10 1) t1)).length = H1.length := by simp
    refine ⟨H1.set b (bCells { E with opens := [x] } (.gr H1.length 0 10 1) t1) ++ [[.row 0 (nodeO x)]], t1, some (H1.length, 0), ?_, ⟨?_, ⟨by omega, [], by simp, ?_⟩, htx, ?_⟩, fr1.trans ⟨by simp, fun i hi h2 _ => ?_, fun r g hr => by simp at hr, fun _ r g hr => ?_⟩⟩
    · simp only [bCells, oF] at hb
      simp only [bCells, nodeD] at c1 hx1 ⊢
      refine enter144 ?_
      simp [Tryz.f144]
      refine CallQ.mk (Call.shared callable54 c1) ?_
      simp
      refine DrawC.mk (fun _ _ => .oagg (nodeO x)) ?_
      have hsx : ∀ v : List FV, (H1.set b v)[H.length]? = H1[H.length]? := fun v => List.getElem?_set_ne (fun h => hxb h.symm)
      have s1 : ∀ (v w : List FV) (L : Heap), (H1.set b v ++ L).set b w = H1.set b w ++ L := fun v w L => hs_set hbl1
      simp [hb, hx1, hsx, hsetB hbl1, heap_old hbl1]
      refine ⟨?_, ?_, ?_⟩
      all_goals
        refine CallQ.mk (CallD.pure callable80 (by simp) (by simp [nodeO]) cc rfl) ?_
        simp [hb, hsetB hbl1, nodeO, sized1, lenMax, hs_at, hs_at0, hs_b hbl1, s1]
    · rw [heap_old (by rw [hlen2]; exact hbl1), List.getElem?_set_self hbl1]
      simp [hr', oF]
    · have := heap_at0 (H := H1.set b (bCells { E with opens := [x] } (.gr H1.length 0 10 1) t1)) (L := [[.row 0 (nodeO x)]])
      rw [hlen2] at this
      rw [this, hr', List.nil_append, rowC_one, List.append_nil]
      rfl
    · have hcell : ∀ f ∈ body (bCells { E with opens := [x] } (.gr H1.length 0 10 1) t1), f.und0 (H1.length + 1) = true := HOk.build ⟨by simp [FV.und0], und0_mono (Nat.le_succ _) (hok.cells hb).2⟩
      intro gs hg f hf
      rw [List.length_append, hlen2, List.length_singleton]
      rcases List.mem_append.1 hg with h' | h'
      · rcases List.mem_or_eq_of_mem_set h' with h' | rfl
        · exact und0_mono (Nat.le_succ _) (hok gs h' f hf)
        · exact hcell f hf
      · rw [List.mem_singleton.1 h'] at hf
        exact nodeO_und x _ f hf
    · rw [heap_old (by rw [hlen2]; exact hi), List.getElem?_set_ne (fun h => h2 h.symm)]
    · simp only [Option.some.injEq, Prod.mk.injEq] at hr
      omega
  | some p =>
    obtain ⟨r, g⟩ := p
    obtain ⟨k1, rest, hnp, k2⟩ := hrow
    have hrl : r < H1.length := (List.getElem?_eq_some_iff.1 k2).1
    have hxr : H.length ≠ r := fun hh => by
      have hr := h.row
      obtain ⟨_, _, _, h2⟩ := hr
      have := (List.getElem?_eq_some_iff.1 h2).1
      omega
    have hcl := rowC_len E.opens
    have hlen2 : ((H1.set r [.row (g + 1) (rowC E.opens ++ nodeO x)]).set b (bCells { E with opens := E.opens ++ [x] } (.gr r (g + 1) 10 (E.opens.length + 1)) t1)).length = H1.length := by simp
    refine ⟨(H1.set r [.row (g + 1) (rowC E.opens ++ nodeO x)]).set b (bCells { E with opens := E.opens ++ [x] } (.gr r (g + 1) 10 (E.opens.length + 1)) t1), t1, some (r, g + 1), ?_, ⟨?_, ⟨k1, [], by simp, ?_⟩, htx, ?_⟩, fr1.trans ⟨by simp, fun i hi h2 h3 => ?_, fun r' g' hr => ?_, fun h0 => by simp at h0⟩⟩
    · simp only [bCells, oF] at hb
      simp only [bCells, nodeD] at c1 hx1 ⊢
      have hk0 : E.opens.length * 10 ≤ (rowC E.opens ++ rest).length := by rw [List.length_append]; omega
      have tk : List.take (E.opens.length * 10) (rowC E.opens ++ rest) = rowC E.opens := List.take_left' hcl
      have hsp : ∀ z v : List FV, z.length = v.length → splice (rowC E.opens ++ z) (E.opens.length * 10) v = rowC E.opens ++ v := fun z v hz => splice_end hz hcl
      have n1 : (E.opens.length : Int) < (E.opens.length : Int) + 1 := by omega
      have hs9 : ∀ a0 a1 a2 a3 a4 a5 a6 a7 a8 v : FV, splice [a0, a1, a2, a3, a4, a5, a6, a7, a8] 5 [v] = [a0, a1, a2, a3, a4, v, a6, a7, a8] := fun _ _ _ _ _ _ _ _ _ _ => rfl
      have hsb : ∀ v : List FV, (H1.set r v)[b]? = H1[b]? := fun v => List.getElem?_set_ne k1
      have hsr : ∀ v : List FV, (H1.set b v)[r]? = H1[r]? := fun v => List.getElem?_set_ne (fun h => k1 h.symm)
      have hsx : ∀ v : List FV, (H1.set b v)[H.length]? = H1[H.length]? := fun v => List.getElem?_set_ne (fun h => hxb h.symm)
      have hcm : ∀ v w : List FV, (H1.set b v).set r w = (H1.set r w).set b v := fun v w => List.set_comm v w (fun h => k1 h.symm)
      have hbb : ∀ v : List FV, (H1.set b v)[b]? = some v := fun v => hsetB hbl1
      have hrr : ∀ v : List FV, (H1.set r v)[r]? = some v := fun v => hsetB hrl
      have hbr : ∀ v w : List FV, ((H1.set r v).set b w)[r]? = some v := fun v w => by rw [List.getElem?_set_ne (fun h => k1 h.symm)]; exact hrr v
      have hbw : ∀ v w : List FV, ((H1.set r v).set b w)[b]? = some w := fun v w => hsetB (by simpa using hbl1)
      have hcw : ∀ v w u : List FV, ((H1.set r v).set b w).set r u = (H1.set r u).set b w := fun v w u => by rw [hcm2 k1, List.set_set]
      refine enter144 ?_
      simp [Tryz.f144]
      refine CallQ.mk (Call.shared callable54 c1) ?_
      simp
      refine DrawC.mk (fun _ _ => .oagg (nodeO x)) ?_
      simp [hb, hx1, hsx, hbb, -splice]
      refine ⟨?_, ?_, ?_⟩
      all_goals
        refine CallQ.mk (CallD.pure callable80 (by simp) (by simp [nodeO]) cc rfl) ?_
        simp [hb, k2, hbb, hsr, hcm, hbr, hbw, hcw, hs9, hsp, tk, hk0, hcl, n1, nodeO, sized1, lenMax, -splice]
        omega
    · rw [List.getElem?_set_self (by simpa using hbl1)]
      simp [oF]
    · rw [List.getElem?_set_ne (fun h => k1 h.symm), List.getElem?_set_self hrl, rowC_app, rowC_one, List.append_nil]
    · have hcell : ∀ f ∈ body (bCells { E with opens := E.opens ++ [x] } (.gr r (g + 1) 10 (E.opens.length + 1)) t1), f.und0 H1.length = true := HOk.build ⟨by simpa [FV.und0] using hrl, (hok.cells hb).2⟩
      have h5 := hok.set' (b := r) (fs := [.row (g + 1) (rowC E.opens ++ nodeO x)]) (fun f hf => by
        rcases List.mem_append.1 (show f ∈ rowC E.opens ++ nodeO x from hf) with h' | h'
        · exact rowC_und _ _ f h'
        · exact nodeO_und x _ f h')
      exact h5.set' (by simpa using hcell)
    · rw [List.getElem?_set_ne (fun h => h2 h.symm), List.getElem?_set_ne (fun h => h3 r g rfl h.symm)]
    · simp only [Option.some.injEq, Prod.mk.injEq] at hr
      obtain ⟨rfl, rfl⟩ := hr
      exact ⟨_, rfl⟩
end Go.Proofs.YtkjgkhgklkdbjaaGreatDoor.Ev
end
section
namespace Go.Proofs.YtkjgkhgklkdbjaaGreatDoor.Ev
open Go
def popBd (B : Bd) : Bd := match B.opens.reverse with
  | [] => B
  | x :: l => layBd { B with opens := l.reverse } x
theorem popBd_snoc {B : Bd} {l : List Node} {x : Node} (h : B.opens = l ++ [x]) : popBd B = layBd { B with opens := l } x := by unfold popBd; rw [h]; simp
def kinds (l : List Node) : List Int := l.map Node.kind
theorem layBd_kinds (B : Bd) (x : Node) : kinds (layBd B x).opens = kinds B.opens := by
  rcases List.eq_nil_or_concat B.opens with h | ⟨l, y, h⟩
  · rw [layBd_nil h]
  · rw [List.concat_eq_append] at h
    rw [layBd_snoc h]; simp [h, kinds]
theorem inside_kinds (l : List Node) (k : Int) : insideB l k = (kinds l).any fun i => decide (i = k) := by
  unfold insideB kinds; rw [List.any_map]; rfl
theorem popBd_kinds {B : Bd} {l : List Node} {x : Node} (h : B.opens = l ++ [x]) : kinds (popBd B).opens = kinds l := by rw [popBd_snoc h, layBd_kinds]
theorem popBd_len {B : Bd} {l : List Node} {x : Node} (h : B.opens = l ++ [x]) : (popBd B).opens.length = l.length := by
  have := congrArg List.length (popBd_kinds h)
  simpa [kinds] using this
theorem popBd_long (B : Bd) : (popBd B).long = B.long := by
  rcases List.eq_nil_or_concat B.opens with h | ⟨l, y, h⟩
  · unfold popBd; rw [h]; rfl
  · rw [List.concat_eq_append] at h
    rw [popBd_snoc h, layBd_long]
    simp only [Bd.long, h, sumBy_append, sumBy]; omega
def closeN : Nat → Bd → Int → Bd
  | 0, B, _ => B
  | n + 1, B, k => match B.opens.reverse with
    | [] => B
    | x :: _ => if x.kind = k then popBd B else closeN n (popBd B) k
theorem closeN_snoc {n : Nat} {B : Bd} {k : Int} {l : List Node} {x : Node} (h : B.opens = l ++ [x]) : closeN (n + 1) B k = if x.kind = k then popBd B else closeN n (popBd B) k := by
  rw [closeN, h]; simp
inductive Closing (b : Nat) (ro : Option (Nat × Nat)) (t : FV) (k : Int) : Heap → Bd → Heap → Prop
  | last {H H1 : Heap} {B : Bd} {l : List Node} {x : Node} : BIn H b ro t B → B.opens = l ++ [x] → x.kind = k → Con C0 81 [.ptr b 0] H (.tup []) H1 → Closing b ro t k H B H1
  | step {H H1 H2 : Heap} {B : Bd} {l : List Node} {x : Node} : BIn H b ro t B → B.opens = l ++ [x] → x.kind ≠ k → Con C0 81 [.ptr b 0] H (.tup []) H1 → Closing b ro t k H1 (popBd B) H2 → Closing b ro t k H B H2
theorem closing {b : Nat} {ro : Option (Nat × Nat)} {t : FV} {k : Int} : ∀ (n : Nat) {H : Heap} {B : Bd}, B.opens.length = n → BIn H b ro t B → insideB B.opens k = true → B.long ≤ 400000000 →
    ∃ H', Closing b ro t k H B H' ∧ BIn H' b ro t (closeN n B k) ∧ Frm H H' b ro := by
  intro n
  induction n with
  | zero =>
    intro H B hn h hk hl
    rw [List.length_eq_zero_iff.1 hn] at hk
    simp [insideB] at hk
  | succ n ih =>
    intro H B hn h hk hl
    rcases List.eq_nil_or_concat B.opens with ho | ⟨l, x, ho⟩
    · rw [ho] at hn; simp at hn
    rw [List.concat_eq_append] at ho
    obtain ⟨H1, c1, c2, c3⟩ := conPop h ho hl
    rw [← popBd_snoc ho] at c2
    rw [closeN_snoc ho]
    by_cases hx : x.kind = k
    · rw [if_pos hx]
      exact ⟨H1, .last h ho hx c1, c2, c3⟩
    · rw [if_neg hx]
      have hlen := popBd_len ho
      have hin : insideB (popBd B).opens k = true := by
        rw [inside_kinds, popBd_kinds ho, ← inside_kinds]
        rw [ho, insideB, List.any_append, Bool.or_eq_true] at hk
        rcases hk with hk | hk
        · exact hk
        · simp [hx] at hk
      obtain ⟨H2, d1, d2, d3⟩ := ih (H := H1) (B := popBd B) (by rw [hlen]; rw [ho] at hn; simpa using hn) c2 hin (by rw [popBd_long]; exact hl)
      exact ⟨H2, .step h ho hx c1 d1, d2, c3.trans d3⟩
def closeBd (B : Bd) (k : Int) : Bd := if insideB (endBd B).opens k = true then closeN (endBd B).opens.length (endBd B) k else endBd B
set_option linter.unusedSimpArgs false in
set_option maxRecDepth 20000 in
set_option maxHeartbeats 8000000 in
theorem conClose {H : Heap} {b : Nat} {ro : Option (Nat × Nat)} {t : FV} {B : Bd} (h : BIn H b ro t B) (k : Int) (hl : B.long ≤ 300000000) :
    ∃ H' t', Con C0 104 [.ptr b 0, .sc (.int .i64 k)] H (.sc (.bool (insideB (endBd B).opens k))) H' ∧ BIn H' b ro t' (closeBd B k) ∧ Frm H H' b ro := by
  obtain ⟨H1, t1, c1, c2, c3⟩ := conEnd h (by omega)
  have hel := endBd_long B
  have ci := conInside c2 k (by omega)
  cases hk : insideB (endBd B).opens k with
  | false =>
    refine ⟨H1, t1, ?_, by unfold closeBd; rw [hk]; exact c2, c3⟩
    rw [hk] at ci
    refine enter104 ?_
    simp [Tryz.f104]
    refine CallQ.mk (Call.shared callable54 c1) ?_
    simp
    refine CallQ.mk (Call.shared callable145 ci) ?_
    simp
  | true =>
    obtain ⟨H2, d1, d2, d3⟩ := closing (endBd B).opens.length rfl c2 hk (by omega)
    refine ⟨H2, t1, ?_, by unfold closeBd; rw [hk, if_pos rfl]; exact d2, c3.trans d3⟩
    rw [hk] at ci
    have hlen : (endBd B).opens.length ≤ 400000000 := by have := len_le_long (endBd B).opens; unfold Bd.long at hel hl; omega
    refine enter104 ?_
    simp [Tryz.f104]
    refine CallQ.mk (Call.shared callable54 c1) ?_
    simp
    refine CallQ.mk (Call.shared callable145 ci) ?_
    simp
    refine loopC (fun d e H' => ∃ (E : Bd) (x5 x29 : FV), Closing b ro t1 k H' E H2 ∧ d = E.opens.length ∧ E.opens.length ≤ 400000000 ∧ e = [(0, .ptr b 0), (1, .sc (.int .i64 k)), (4, .sc (.bool false)), (5, x5), (11, .sc (.bool false)), (29, x29)]) (d := (endBd B).opens.length) ⟨endBd B, .undef, .undef, d1, rfl, hlen, rfl⟩ ?_
    rintro d e H' ⟨E, x5, x29, hC, rfl, hle, rfl⟩
    cases hC with
    | @last _ _ _ l x hb ho hx hp =>
      have hr := hb.row
      cases ro with
      | none => have hr' : E.opens = [] := hr; rw [ho] at hr'; simp at hr'
      | some p =>
        obtain ⟨r, g⟩ := p
        obtain ⟨h1, rest, hnp, h2⟩ := hr
        have hbx := hb.box
        have hn : E.opens.length = l.length + 1 := by rw [ho]; simp
        simp only [bCells, oF, hn] at hbx
        have hat : (rowC E.opens ++ rest)[l.length * 10]? = some (.sc (.int .i64 k)) := by
          rw [ho, rowC_app, List.append_assoc, List.getElem?_append_right (by rw [rowC_len]; omega), rowC_len, Nat.sub_self, rowC_one, ← hx]; rfl
        generalize rowC E.opens ++ rest = c at h2 hat
        have w1 : IntKind.i64.wrap (l.length : Int) = l.length := wrap64 (by omega) (by omega)
        have n1 : (l.length : Int) < (l.length : Int) + 1 := by omega
        simp [hbx, h2, hat, w1, n1]
        refine CallQ.mk (Call.shared callable81 hp) ?_
        simp
    | @step _ _ _ _ l x hb ho hx hp hr2 =>
      have hr := hb.row
      have hpl := popBd_len ho
      cases ro with
      | none => have hr' : E.opens = [] := hr; rw [ho] at hr'; simp at hr'
      | some p =>
        obtain ⟨r, g⟩ := p
        obtain ⟨h1, rest, hnp, h2⟩ := hr
        have hbx := hb.box
        have hn : E.opens.length = l.length + 1 := by rw [ho]; simp
        simp only [bCells, oF, hn] at hbx
        have hat : (rowC E.opens ++ rest)[l.length * 10]? = some (.sc (.int .i64 x.kind)) := by
          rw [ho, rowC_app, List.append_assoc, List.getElem?_append_right (by rw [rowC_len]; omega), rowC_len, Nat.sub_self, rowC_one]; rfl
        generalize rowC E.opens ++ rest = c at h2 hat
        have w1 : IntKind.i64.wrap (l.length : Int) = l.length := wrap64 (by omega) (by omega)
        have n1 : (l.length : Int) < (l.length : Int) + 1 := by omega
        simp [hbx, h2, hat, w1, n1, hx]
        refine CallQ.mk (Call.shared callable81 hp) ?_
        simp [hx]
        exact ⟨l.length, by omega, popBd E, hr2, hpl.symm, by omega⟩
end Go.Proofs.YtkjgkhgklkdbjaaGreatDoor.Ev
end
section
namespace Go.Proofs.YtkjgkhgklkdbjaaGreatDoor.Ev
open Go
def emptyN : Nat → Bd → Bd
  | 0, B => B
  | n + 1, B => emptyN n (popBd B)
inductive Emptying (b : Nat) (ro : Option (Nat × Nat)) (t : FV) : Heap → Bd → Heap → Prop
  | none {H : Heap} {B : Bd} : BIn H b ro t B → B.opens = [] → Emptying b ro t H B H
  | step {H H1 H2 : Heap} {B : Bd} {l : List Node} {x : Node} : BIn H b ro t B → B.opens = l ++ [x] → Con C0 81 [.ptr b 0] H (.tup []) H1 → Emptying b ro t H1 (popBd B) H2 → Emptying b ro t H B H2
theorem emptying {b : Nat} {ro : Option (Nat × Nat)} {t : FV} : ∀ (n : Nat) {H : Heap} {B : Bd}, B.opens.length = n → BIn H b ro t B → B.long ≤ 400000000 →
    ∃ H', Emptying b ro t H B H' ∧ BIn H' b ro t (emptyN n B) ∧ Frm H H' b ro := by
  intro n
  induction n with
  | zero => intro H B hn h hl; exact ⟨H, .none h (List.length_eq_zero_iff.1 hn), h, .refl _ _ _⟩
  | succ n ih =>
    intro H B hn h hl
    rcases List.eq_nil_or_concat B.opens with ho | ⟨l, x, ho⟩
    · rw [ho] at hn; simp at hn
    rw [List.concat_eq_append] at ho
    obtain ⟨H1, c1, c2, c3⟩ := conPop h ho hl
    rw [← popBd_snoc ho] at c2
    obtain ⟨H2, d1, d2, d3⟩ := ih (H := H1) (B := popBd B) (by rw [popBd_len ho]; rw [ho] at hn; simpa using hn) c2 (by rw [popBd_long]; exact hl)
    exact ⟨H2, .step h ho c1 d1, d2, c3.trans d3⟩
def docBd (B : Bd) : Bd := emptyN (endBd B).opens.length (endBd B)
theorem emptyN_long (n : Nat) : ∀ B : Bd, (emptyN n B).long = B.long := by
  induction n with
  | zero => intro B; rfl
  | succ n ih => intro B; rw [emptyN, ih, popBd_long]
def docD (B : Bd) : Doc := tidyD ⟨(docBd B).name, (docBd B).part, (docBd B).date, (docBd B).source, (docBd B).kids⟩
def docZ : List FV := [.sc (.str ByteArray.empty), .sc (.str ByteArray.empty), .sc (.str ByteArray.empty), .sc (.str ByteArray.empty), .own []]
structure CIn (H H' : Heap) (ro : Option (Nat × Nat)) (t : FV) (B : Bd) : Prop where
  bin : BIn H' (H.length + 1) ro t B
  fr : FrG (H ++ [docZ]) H' (H.length + 1) none ro
theorem CIn.lt {H H' : Heap} {ro : Option (Nat × Nat)} {t : FV} {B : Bd} (h : CIn H H' ro t B) : H.length + 1 < H'.length := (List.getElem?_eq_some_iff.1 h.bin.box).1
theorem CIn.old {H H' : Heap} {ro : Option (Nat × Nat)} {t : FV} {B : Bd} (h : CIn H H' ro t B) {i : Nat} (hi : i < H.length) : H'[i]? = H[i]? := by
  rw [h.fr.same i (by simp; omega) (by omega) (fun r g hr => by simp at hr), heap_old hi]
theorem CIn.doc {H H' : Heap} {ro : Option (Nat × Nat)} {t : FV} {B : Bd} (h : CIn H H' ro t B) : H'[H.length]? = some docZ := by
  rw [h.fr.same _ (by simp) (by omega) (fun r g hr => by simp at hr), heap_at0]; rfl
theorem CIn.first {H : Heap} {t : FV} {B : Bd} (hok : HOk H) (ht : t = .sc (gl B.text)) (ho : B.opens = []) : CIn H (H ++ [docZ, bCells B (.own []) t]) none t B where
  bin := ⟨by
      simp [oF], ho, .inl ht, by
      have h1 := hok.more (fs := docZ) (fun f hf => by
        simp only [body, docZ, List.mem_cons, List.not_mem_nil, or_false] at hf
        rcases hf with rfl | rfl | rfl | rfl | rfl <;> rfl)
      have h2 := h1.more (fs := bCells B (.own []) t) (HOk.build ⟨rfl, by rw [ht]; rfl⟩)
      simpa using h2⟩
  fr := ⟨by simp, fun i hi _ _ => by
      have := heap_old (H := H ++ [docZ]) (L := [bCells B (.own []) t]) hi
      simpa using this, fun r g hr => by simp at hr, fun _ r g hr => by simp at hr⟩
theorem nodeD_und (x : Node) (n : Nat) : ∀ f ∈ body (nodeD x), f.und0 n = true := fun f hf => by
  simp only [body, nodeD, List.mem_cons, List.not_mem_nil, or_false] at hf
  rcases hf with rfl | rfl | rfl | rfl | rfl | rfl | rfl | rfl | rfl | rfl <;> rfl
theorem FrG.more {A H : Heap} {b : Nat} {r1 r2 : Option (Nat × Nat)} (h : FrG A H b r1 r2) (L : Heap) : FrG A (H ++ L) b r1 r2 :=
  ⟨by have := h.le; simp; omega, fun i hi h1 h2 => by rw [heap_old (Nat.lt_of_lt_of_le hi h.le)]; exact h.same i hi h1 h2, h.row⟩
theorem FrG.put {A H : Heap} {b : Nat} {r1 r2 : Option (Nat × Nat)} (h : FrG A H b r1 r2) (w : List FV) : FrG A (H.set b w) b r1 r2 :=
  ⟨by rw [List.length_set]; exact h.le, fun i hi h1 h2 => by rw [List.getElem?_set_ne (fun hh => h1 hh.symm)]; exact h.same i hi h1 h2, h.row⟩
theorem CIn.kid {H H' : Heap} {t : FV} {B : Bd} (h : CIn H H' none t B) (y : Node) :
    CIn H (H'.set (H.length + 1) (bCells { B with kids := B.kids ++ [y] } (.own []) t) ++ [nodeD y]) none t { B with kids := B.kids ++ [y] } where
  bin := by
    have hb : BIn (H'.set (H.length + 1) (bCells { B with kids := B.kids ++ [y] } (.own []) t)) (H.length + 1) none t { B with kids := B.kids ++ [y] } :=
      ⟨by rw [List.getElem?_set_self h.lt]; rfl, h.bin.row, h.bin.txt, h.bin.ok.set' (HOk.build ⟨rfl, (h.bin.ok.cells h.bin.box).2⟩)⟩
    exact hb.more (nodeD_und y _)
  fr := (h.fr.put _).more _
theorem CIn.row0 {H H' : Heap} {t : FV} {B : Bd} (h : CIn H H' none t B) (y : Node) :
    CIn H (H'.set (H.length + 1) (bCells { B with opens := [y] } (.gr (H'.length + 1) 0 10 1) t) ++ [nodeD y, [.row 0 (nodeO y)]]) (some (H'.length + 1, 0)) t { B with opens := [y] } where
  bin := by
    have hlt := h.lt
    have hl : (H'.set (H.length + 1) (bCells { B with opens := [y] } (.gr (H'.length + 1) 0 10 1) t)).length = H'.length := by simp
    refine ⟨?_, ⟨by omega, [], by simp, ?_⟩, h.bin.txt, ?_⟩
    · rw [heap_old (by rw [hl]; exact hlt), List.getElem?_set_self hlt]; rfl
    · rw [List.getElem?_append_right (by omega), hl, rowC_one, List.append_nil, Nat.add_sub_cancel_left]; rfl
    · intro gs hg f hf
      have hu := fun (m : Nat) (hm : H'.length + 1 < m) => HOk.build (n := m) (B := { B with opens := [y] }) (o := .gr (H'.length + 1) 0 10 1) (t := t) ⟨by simpa [FV.und0] using hm, und0_mono (by omega) (h.bin.ok.cells h.bin.box).2⟩
      rw [List.length_append, hl]
      simp only [List.length_cons, List.length_nil]
      rcases List.mem_append.1 hg with h' | h'
      · rcases List.mem_or_eq_of_mem_set h' with h' | rfl
        · exact und0_mono (by omega) (h.bin.ok gs h' f hf)
        · exact hu _ (by omega) f hf
      · simp only [List.mem_cons, List.not_mem_nil, or_false] at h'
        rcases h' with rfl | rfl
        · exact nodeD_und y _ f hf
        · exact nodeO_und y _ f hf
  fr := by
    have h1 := (h.fr.put (bCells { B with opens := [y] } (.gr (H'.length + 1) 0 10 1) t)).more [nodeD y, [.row 0 (nodeO y)]]
    have hlt := h.lt
    exact ⟨h1.le, h1.same, fun r g hr => by simp at hr, fun _ r g hr => by
      simp only [Option.some.injEq, Prod.mk.injEq] at hr
      rw [List.length_append]; simp; omega⟩
theorem CIn.rowS {H H' : Heap} {t : FV} {B : Bd} {r g : Nat} (h : CIn H H' (some (r, g)) t B) (y : Node) :
    CIn H ((H'.set r [.row (g + 1) (rowC B.opens ++ nodeO y)]).set (H.length + 1) (bCells { B with opens := B.opens ++ [y] } (.gr r (g + 1) 10 (B.opens.length + 1)) t) ++ [nodeD y]) (some (r, g + 1)) t { B with opens := B.opens ++ [y] } where
  bin := by
    have hlt := h.lt
    obtain ⟨k1, rest, hnp, k2⟩ := h.bin.row
    have hrl : r < H'.length := (List.getElem?_eq_some_iff.1 k2).1
    have hb : BIn ((H'.set r [.row (g + 1) (rowC B.opens ++ nodeO y)]).set (H.length + 1) (bCells { B with opens := B.opens ++ [y] } (.gr r (g + 1) 10 (B.opens.length + 1)) t)) (H.length + 1) (some (r, g + 1)) t { B with opens := B.opens ++ [y] } := by
      refine ⟨?_, ⟨k1, [], by simp, ?_⟩, h.bin.txt, ?_⟩
      · rw [List.getElem?_set_self (by simpa using hlt)]; simp [oF]
      · rw [List.getElem?_set_ne (fun h => k1 h.symm), List.getElem?_set_self hrl, rowC_app, rowC_one, List.append_nil]
      · have hcell : ∀ f ∈ body (bCells { B with opens := B.opens ++ [y] } (.gr r (g + 1) 10 (B.opens.length + 1)) t), f.und0 H'.length = true := HOk.build ⟨by simpa [FV.und0] using hrl, (h.bin.ok.cells h.bin.box).2⟩
        have h5 := h.bin.ok.set' (b := r) (fs := [.row (g + 1) (rowC B.opens ++ nodeO y)]) (fun f hf => by
          rcases List.mem_append.1 (show f ∈ rowC B.opens ++ nodeO y from hf) with h' | h'
          · exact rowC_und _ _ f h'
          · exact nodeO_und y _ f h')
        exact h5.set' (by simpa using hcell)
    exact hb.more (nodeD_und y _)
  fr := by
    have hr := h.fr.row.2 rfl r g rfl
    have h0 : FrG (H ++ [docZ]) (H'.set r [.row (g + 1) (rowC B.opens ++ nodeO y)]) (H.length + 1) none (some (r, g)) :=
      ⟨by rw [List.length_set]; exact h.fr.le, fun i hi h1 h2 => by rw [List.getElem?_set_ne (by omega)]; exact h.fr.same i hi h1 h2, h.fr.row⟩
    have h1 := (h0.put (bCells { B with opens := B.opens ++ [y] } (.gr r (g + 1) 10 (B.opens.length + 1)) t)).more [nodeD y]
    exact ⟨h1.le, h1.same, fun r g hr => by simp at hr, fun _ r' g' hr' => by
      simp only [Option.some.injEq, Prod.mk.injEq] at hr'
      omega⟩
def oL (ro : Option (Nat × Nat)) (n : Nat) : FV := match ro with
  | none => .sc (.sl [])
  | some (r, g) => .gr r g 10 n
theorem CIn.cut {H H' : Heap} {ro : Option (Nat × Nat)} {t : FV} {B : Bd} (h : CIn H H' ro t B) (w : List FV) : (H'.set H.length w).take H.length = H := by
  have hlt := h.lt
  apply List.ext_getElem?
  intro i
  by_cases hi : i < H.length
  · rw [List.getElem?_take_of_lt hi, List.getElem?_set_ne (by omega), h.old hi]
  · rw [List.getElem?_eq_none (by rw [List.length_take]; omega), List.getElem?_eq_none (by omega)]
set_option linter.unusedSimpArgs false in
set_option maxRecDepth 20000 in
set_option maxHeartbeats 16000000 in
theorem conDoc {H : Heap} {b : Nat} {ro : Option (Nat × Nat)} {t : FV} {B : Bd} (h : BIn H b ro t B) (hl : B.long ≤ 300000000) :
    Con C0 41 [.ptr b 0] H (docD B).pv.toFV H := by
  have hbl : b < H.length := (List.getElem?_eq_some_iff.1 h.box).1
  generalize hR : (docD B).pv.toFV = R
  refine con_trimU (C := C0) (fn := Tryz.f41) Tryz.func41 rfl (by decide) mixed (mv := mv41) (vars := vars41) (c := Tryz.f41.body.getD .skip) (by kernel_rfl) (by subst hR; rfl) h.ok ?_
  have hb := h.box
  have hr := h.row
  simp only [bCells] at hb
  generalize hoF : oF ro B.opens.length = o at hb
  have c0 : ∀ p : FV, p = .sc (gl B.text) → CIn H (H ++ [docZ, bCells { B with kids := [], opens := [] } (.own []) p]) none (.sc (gl B.text)) { B with kids := [], opens := [] } := fun p hp => by subst hp; exact .first h.ok rfl rfl
  have hkl := len_le_long B.kids
  have hol := len_le_long B.opens
  unfold Bd.long at hl
  rcases h.txt with rfl | ⟨htn, rfl⟩
  all_goals
    simp [Tryz.f41, hb, heap_old hbl, gl]
    refine loopC (fun d e H' => ∃ (i : Nat) (x5 x40 : FV), CIn H H' none (.sc (gl B.text)) { B with kids := B.kids.take i, opens := [] } ∧ d = B.kids.length - i ∧ i ≤ B.kids.length ∧ e = [(0, .ptr b 0), (2, .ptr H.length 0), (3, .ptr (H.length + 1) 0), (5, x5), (7, .undef), (9, .sc (.bool false)), (37, .sc (.sl (B.kids.map Node.pv))), (38, .sc (.int .i64 B.kids.length)), (39, .sc (.int .i64 i)), (40, x40), (61, .undef), (62, .undef), (63, .undef), (64, .undef), (87, .undef)]) (d := B.kids.length) ⟨0, .undef, .undef, c0 _ (by first | rfl | (rw [htn]; rfl)), rfl, Nat.zero_le _, rfl⟩ ?_
    rintro d e H' ⟨i, x5, x40, hC, rfl, hi, rfl⟩
    simp
    refine CondC.mk (fun hlt => ?_) (fun hlt => ?_)
    · simp at hlt
      have hq : (B.kids.map Node.pv)[i]? = some (B.kids[i]).pv := by simp [hlt]
      have ht := takeMap hq
      have hK := hC.kid B.kids[i]
      have hkk : B.kids.take i ++ [B.kids[i]] = B.kids.take (i + 1) := by rw [List.take_add_one, List.getElem?_eq_getElem hlt]; rfl
      rw [hkk] at hK
      have hyl := sumBy_mem' Node.long (List.getElem_mem hlt)
      have sr := sizedTake (sizedN B.kids) i
      have hw : IntKind.i64.wrap ((i : Int) + 1) = ((i + 1 : Nat) : Int) := by rw [wrap64 (by omega) (by omega)]; omega
      generalize B.kids[i] = y at hq hyl hK ht
      have cc := conCopied (SizeOf.sizeOf y + 1) y (Nat.lt_succ_self _) (by omega)
      rw [Node.toFV_eq] at cc
      rw [Node.pv_eq] at hq ht
      simp only [gl] at cc hq ht
      have hbx := hC.bin.box
      have hcl := hC.lt
      simp only [bCells, oF] at hbx
      simp only [bCells, nodeD] at hK
      have s1 : ∀ (v w : List FV) (L : Heap), (H'.set (H.length + 1) v ++ L).set (H.length + 1) w = H'.set (H.length + 1) w ++ L := fun v w L => hs_set hcl
      have hlen : min i B.kids.length = i := Nat.min_eq_left hi
      have n1 : (i : Int) < (i : Int) + 1 := by omega
      simp [hq]
      refine DrawC.mk (fun _ _ => .oagg (nodeO y)) ?_
      simp [hbx, heap_old hcl, heap_old_set hcl, hs_at, hs_at0, hs_b hcl, s1]
      refine ⟨?_, ?_, ?_⟩
      all_goals
        refine CallQ.mk (CallD.pure callable80 (by simp) (by simp [nodeO]) cc rfl) ?_
        simp [hbx, heap_old hcl, heap_old_set hcl, hs_at, hs_at0, hs_b hcl, s1, hsetB hcl, nodeO, sized1, lenMax, sr, hw, ht, hlen, n1]
        rw [List.map_take] at hK
        exact ⟨by omega, B.kids.length - (i + 1), by omega, i + 1, hK, rfl, by omega, by omega⟩
    · simp at hlt
      obtain rfl : i = B.kids.length := by omega
      rw [List.take_length] at hC
      have hbo := (hC.old hbl).trans hb
      obtain ⟨o61, ho61⟩ : ∃ o61, o61 = oL ro B.opens.length := ⟨_, rfl⟩
      rcases ro with _ | ⟨r, g⟩
      all_goals
        subst hoF
        simp only [oF] at hbo
        first
          | (have hr' : B.opens = [] := hr
             simp [hbo, hr'])
          | simp [hbo]
        refine loopC (fun d e H'' => ∃ (j : Nat) (ro' : Option (Nat × Nat)) (x7 x64 : FV), CIn H H'' ro' (.sc (gl B.text)) { B with opens := B.opens.take j } ∧ d = B.opens.length - j ∧ j ≤ B.opens.length ∧ e = [(0, .ptr b 0), (2, .ptr H.length 0), (3, .ptr (H.length + 1) 0), (5, x5), (7, x7), (9, .sc (.bool false)), (37, .sc (.sl (B.kids.map Node.pv))), (38, .sc (.int .i64 B.kids.length)), (39, .sc (.int .i64 B.kids.length)), (40, .sc (.bool false)), (61, o61), (62, .sc (.int .i64 B.opens.length)), (63, .sc (.int .i64 j)), (64, x64), (87, .undef)]) (d := B.opens.length) ⟨0, none, .undef, .undef, hC, rfl, Nat.zero_le _, by first | simp [ho61, oL, hr'] | simp [ho61, oL]⟩ ?_
        rintro d e H2 ⟨j, ro', x7, x64, hD, rfl, hj, rfl⟩
        simp
        refine CondC.mk (fun hlt2 => ?_) (fun hlt2 => ?_)
        · simp at hlt2
          first
            | (rw [hr'] at hlt2; exact absurd hlt2 (by simp))
            | (obtain ⟨h1, rest, hnp, k2⟩ := hr
               have hrl : r < H.length := (List.getElem?_eq_some_iff.1 k2).1
               have k3 := (hD.old hrl).trans k2
               obtain ⟨ra, rb⟩ := row_at (l := B.opens) (rest := rest) hlt2
               have hyl := sumBy_mem' Node.long (List.getElem_mem hlt2)
               have hw : IntKind.i64.wrap ((j : Int) + 1) = ((j + 1 : Nat) : Int) := by rw [wrap64 (by omega) (by omega)]; omega
               have hkk : B.opens.take j ++ [B.opens[j]] = B.opens.take (j + 1) := by rw [List.take_add_one, List.getElem?_eq_getElem hlt2]; rfl
               have hlt3 : (j : Int) < (B.opens.length : Int) := by omega
               generalize B.opens[j] = y at ra hyl hkk
               have cc := conCopied (SizeOf.sizeOf y + 1) y (Nat.lt_succ_self _) (by omega)
               rw [Node.toFV_eq] at cc
               simp only [gl] at cc
               generalize rowC B.opens ++ rest = cs at k3 ra rb
               simp only [nodeD] at ra
               have hcl := hD.lt
               have hcl2 : H2.length ≠ H.length + 1 := by omega
               simp only [oL] at ho61
               have hbx := hD.bin.box
               rcases ro' with _ | ⟨r', g'⟩
               · have hj0 : B.opens.take j = [] := hD.bin.row
                 obtain rfl : j = 0 := by
                   rcases List.take_eq_nil_iff.1 hj0 with h | h
                   · exact h
                   · rw [h] at hlt2; exact absurd hlt2 (by simp)
                 simp only [Nat.zero_mul, List.drop_zero, Nat.zero_add] at ra rb
                 have hK := hD.row0 y
                 rw [hj0, List.nil_append] at hkk
                 rw [hkk] at hK
                 simp only [bCells, oF] at hbx
                 simp only [bCells, nodeD] at hK
                 have s1 : ∀ (v w : List FV) (L : Heap), (H2.set (H.length + 1) v ++ L).set (H.length + 1) w = H2.set (H.length + 1) w ++ L := fun v w L => hs_set hcl
                 simp [hlt2, k3, ra, rb, ho61]
                 refine DrawC.mk (fun _ _ => .oagg (nodeO y)) ?_
                 simp [hbx, heap_old hcl, heap_old_set hcl, hs_at, hs_at0, hs_b hcl, s1]
                 refine ⟨?_, ?_, ?_⟩
                 all_goals
                   refine CallQ.mk (CallD.pure callable80 (by simp) (by simp [nodeO]) cc rfl) ?_
                   simp [hbx, heap_old hcl, heap_old_set hcl, hs_at, hs_at0, hs_b hcl, s1, hsetB hcl, nodeO, sized1, lenMax]
                   exact ⟨B.opens.length - 1, by omega, 1, ⟨_, hK⟩, rfl, by omega, by decide⟩
               · have hK := hD.rowS y
                 obtain ⟨k1, rest', hnp', kr⟩ := hD.bin.row
                 have hrl' : r' < H2.length := (List.getElem?_eq_some_iff.1 kr).1
                 have k1s : H.length + 1 ≠ r' := fun h => k1 h.symm
                 have hjl : (B.opens.take j).length = j := by rw [List.length_take]; omega
                 simp only [hkk, hjl] at hK hbx kr
                 simp only [bCells, oF] at hbx
                 simp only [bCells, nodeD] at hK
                 have hcl3 : (rowC (B.opens.take j)).length = j * 10 := by rw [rowC_len, hjl]
                 generalize rowC (B.opens.take j) = rc at kr hK hcl3
                 have hk0 : j * 10 ≤ (rc ++ rest').length := by rw [List.length_append]; omega
                 have kr2 : H2[r'] = [.row g' (rc ++ rest')] := (List.getElem?_eq_some_iff.1 kr).2
                 have tk : List.take (j * 10) (rc ++ rest') = rc := List.take_left' hcl3
                 have hsp : ∀ z v : List FV, z.length = v.length → splice (rc ++ z) (j * 10) v = rc ++ v := fun z v hz => splice_end hz hcl3
                 have n1 : (j : Int) < (j : Int) + 1 := by omega
                 have hs9 : ∀ a0 a1 a2 a3 a4 a5 a6 a7 a8 v : FV, splice [a0, a1, a2, a3, a4, a5, a6, a7, a8] 5 [v] = [a0, a1, a2, a3, a4, v, a6, a7, a8] := fun _ _ _ _ _ _ _ _ _ _ => rfl
                 have hsb : ∀ v : List FV, (H2.set r' v)[H.length + 1]? = H2[H.length + 1]? := fun v => List.getElem?_set_ne k1
                 have hsr : ∀ v : List FV, (H2.set (H.length + 1) v)[r']? = H2[r']? := fun v => List.getElem?_set_ne (fun h => k1 h.symm)
                 have hcm : ∀ v w : List FV, (H2.set (H.length + 1) v).set r' w = (H2.set r' w).set (H.length + 1) v := fun v w => List.set_comm v w (fun h => k1 h.symm)
                 have hbb : ∀ v : List FV, (H2.set (H.length + 1) v)[H.length + 1]? = some v := fun v => hsetB hcl
                 have hrr : ∀ v : List FV, (H2.set r' v)[r']? = some v := fun v => hsetB hrl'
                 have hbr : ∀ v w : List FV, ((H2.set r' v).set (H.length + 1) w)[r']? = some v := fun v w => by rw [List.getElem?_set_ne (fun h => k1 h.symm)]; exact hrr v
                 have hbw : ∀ v w : List FV, ((H2.set r' v).set (H.length + 1) w)[H.length + 1]? = some w := fun v w => hsetB (by simpa using hcl)
                 have hcw : ∀ v w u : List FV, ((H2.set r' v).set (H.length + 1) w).set r' u = (H2.set r' u).set (H.length + 1) w := fun v w u => by rw [hcm2 k1, List.set_set]
                 simp [hlt2, k3, ra, rb, ho61]
                 refine DrawC.mk (fun _ _ => .oagg (nodeO y)) ?_
                 simp [hbx, heap_old hcl, heap_old_set hcl, hs_at, hs_at0, hs_b hcl, -splice]
                 refine ⟨?_, ?_, ?_⟩
                 all_goals
                   refine CallQ.mk (CallD.pure callable80 (by simp) (by simp [nodeO]) cc rfl) ?_
                   simp [hbx, kr, List.set_append_left, List.getElem?_append_left, hcl, hrl', kr2, List.getElem_set_ne k1, List.getElem_set_ne k1s, hbb, hsr, hcm, hbr, hbw, hcw, hs9, hsp, tk, hk0, hcl3, n1, nodeO, sized1, lenMax, hw, -splice]
                   exact ⟨by omega, B.opens.length - (j + 1), by omega, j + 1, ⟨_, hK⟩, rfl, by omega, by omega⟩)
        · simp at hlt2
          obtain rfl : j = B.opens.length := by omega
          rw [List.take_length] at hD
          obtain ⟨H3, t3, e1, e2, e3⟩ := conEnd hD.bin (by show Bd.long B ≤ _; unfold Bd.long; omega)
          obtain ⟨H4, f1, f2, f3⟩ := emptying (endBd B).opens.length rfl e2 (by have := endBd_long B; unfold Bd.long at this ⊢; omega)
          have hE : CIn H H4 ro' t3 (docBd B) := ⟨f2, (hD.fr.trans e3.toG).trans f3.toG⟩
          have hlg : (docBd B).long ≤ 400000000 := by
            show Bd.long (emptyN _ _) ≤ _
            rw [emptyN_long]; have := endBd_long B; unfold Bd.long at this ⊢; omega
          have hsk : sumBy Node.long (docBd B).kids ≤ 1073741824 := by unfold Bd.long at hlg; omega
          have hkl := len_le_long (docBd B).kids
          have ct := treeTidy' fitS ⟨(docBd B).name, (docBd B).part, (docBd B).date, (docBd B).source, (docBd B).kids⟩ (small_of hsk) (by show (docBd B).kids.length ≤ _; omega)
          have hEb := hE.bin.box
          have hEd := hE.doc
          have hEl := hE.lt
          have hcut := fun w => hE.cut w
          have hlen0 : (endBd B).opens.length ≤ 400000000 := by
            have h1 := endBd_long B
            have h2 := len_le_long (endBd B).opens
            unfold Bd.long at h1; omega
          have hR' : R = .agg [.sc (.str (docBd B).name), .sc (.str (docBd B).part), .sc (.str (docBd B).date), .sc (.str (docBd B).source), .sc (.sl ((tidyL 0 0 20000 (docBd B).kids).1.map Node.pv))] := by rw [← hR]; simp [docD, tidyD, Doc.pv]
          simp only [docZ] at hEd
          simp only [bCells] at hEb
          generalize docBd B = F at *
          simp
          refine CallQ.mk (Call.shared callable54 e1) ?_
          simp
          refine loopC (fun d e H'' => ∃ (E : Bd) (x87 : FV), Emptying (H.length + 1) ro' t3 H'' E H4 ∧ d = E.opens.length ∧ E.opens.length ≤ 400000000 ∧ e = [(0, .ptr b 0), (2, .ptr H.length 0), (3, .ptr (H.length + 1) 0), (5, x5), (7, x7), (9, .sc (.bool false)), (37, .sc (.sl (B.kids.map Node.pv))), (38, .sc (.int .i64 B.kids.length)), (39, .sc (.int .i64 B.kids.length)), (40, .sc (.bool false)), (61, o61), (62, .sc (.int .i64 B.opens.length)), (63, .sc (.int .i64 B.opens.length)), (64, .sc (.bool false)), (87, x87)]) (d := (endBd B).opens.length) ⟨endBd B, .undef, f1, rfl, hlen0, by first | rfl | simp⟩ ?_
          rintro d e H5 ⟨E, x87, hF, rfl, hel, rfl⟩
          cases hF with
          | none hb5 ho =>
            have hq : oF ro' F.opens.length = oF ro' 0 := by
              have h1 := hEb.symm.trans hb5.box
              rw [ho] at h1
              have h2 := congrArg (fun o => (o.getD [])[5]?) h1
              simpa [bCells] using h2
            rw [hq] at hEb
            rcases ro' with _ | ⟨r', g'⟩
            all_goals
              simp only [oF] at hEb
              simp [hEb]
              refine CallQ.mk (Call.pure callable82 (by simp) (by simp) ct) ?_
              simp [hEd, hcut, hR', hsetB (Nat.lt_trans (Nat.lt_succ_self _) hEl)]
          | @step _ H6 _ _ l x hb5 ho hp hr2 =>
            have hpl := popBd_len ho
            have hn : E.opens.length = l.length + 1 := by rw [ho]; simp
            have hbx := hb5.box
            have n1 : (0 : Int) < (l.length : Int) + 1 := by omega
            rcases ro' with _ | ⟨r', g'⟩
            · have h9 : E.opens = [] := hb5.row
              rw [h9] at hn; simp at hn
            · simp only [bCells, oF, hn] at hbx
              simp [hbx, n1, hn]
              refine CallQ.mk (Call.shared callable81 hp) ?_
              simp
              exact ⟨l.length, by omega, popBd E, hr2, hpl.symm, by omega⟩
end Go.Proofs.YtkjgkhgklkdbjaaGreatDoor.Ev
end
section
namespace Go.Proofs.YtkjgkhgklkdbjaaGreatDoor.Ev
open Go
structure Mr where
  bad : List Dg
  name : ByteArray
  t0 : ByteArray
  t1 : ByteArray
  t2 : ByteArray
  t3 : ByteArray
  titled : Bool
def mC (b : Nat) (M : Mr) : List FV := [.ptr b 0, .own (M.bad.map Dg.pv), .sc (.str M.name), .sc (.str M.t0), .sc (.str M.t1), .sc (.str M.t2), .sc (.str M.t3), .sc (.bool M.titled), .own []]
theorem mC_und {b n : Nat} (h : b < n) (M : Mr) : ∀ f ∈ body (mC b M), f.und0 n = true := fun f hf => by
  simp only [body, mC, List.mem_cons, List.not_mem_nil, or_false] at hf
  rcases hf with rfl | rfl | rfl | rfl | rfl | rfl | rfl | rfl | rfl <;> first | rfl | simpa [FV.und0] using h
def rowF (ln : Int) (mac : ByteArray) (args : List ByteArray) (txt : ByteArray) : FV := .agg [.sc (.int .i64 ln), .sc (.str mac), .sc (.sl (args.map .str)), .sc (.str txt)]
set_option linter.unusedSimpArgs false in
set_option maxRecDepth 20000 in
set_option maxHeartbeats 4000000 in
theorem conNoteNil (H : Heap) (p : Nat) (ln : Int) : Con C0 127 [.ptr p 0, .sc (.sl []), .sc (.int .i64 ln)] H (.tup []) H := by
  refine enter127 ?_
  simp [Tryz.f127]
  refine loopC (fun d e H' => H' = H ∧ d = 0 ∧ ∃ x11 : FV, e = [(0, .ptr p 0), (1, .sc (.sl [])), (2, .sc (.int .i64 ln)), (7, .undef), (8, .sc (.sl [])), (9, .sc (.int .i64 0)), (10, .sc (.int .i64 0)), (11, x11)]) (d := 0) ⟨rfl, rfl, _, rfl⟩ ?_
  rintro d e H' ⟨rfl, rfl, x11, rfl⟩
  simp
end Go.Proofs.YtkjgkhgklkdbjaaGreatDoor.Ev
end
section
namespace Go.Proofs.YtkjgkhgklkdbjaaGreatDoor.Ev
open Go
set_option linter.unusedSimpArgs false in
set_option maxRecDepth 20000 in
set_option maxHeartbeats 4000000 in
theorem conLast0 {H : Heap} {p b : Nat} {M : Mr} (hp : H[p]? = some (mC b M)) : Con C0 70 [.ptr p 0] H .nilp H := by
  simp only [mC] at hp
  refine enter70 ?_
  simp [Tryz.f70, hp]
set_option linter.unusedSimpArgs false in
set_option maxRecDepth 20000 in
set_option maxHeartbeats 4000000 in
theorem conArg (ln : Int) (mac : ByteArray) (args : List ByteArray) (txt : ByteArray) (k : Nat) (hk : k ≤ 1073741824) (hl : args.length ≤ 1073741824) : PCon C0 130 [rowF ln mac args txt, .sc (.int .i64 k)] (.sc (.str (args[k]?.getD ⟨#[]⟩))) := by
  refine penter130 ?_
  simp only [rowF]
  by_cases h : k < args.length
  · have h' : ¬ (args.length : Int) ≤ (k : Int) := by omega
    have h'' : ¬ args.length ≤ k := by omega
    obtain ⟨w, hw⟩ : ∃ w, args[k] = w := ⟨_, rfl⟩
    simp [Tryz.f130, h, h', h'', hw]
  · have h' : (args.length : Int) ≤ (k : Int) := by omega
    have h'' : args.length ≤ k := by omega
    simp [Tryz.f130, h', h'']
set_option linter.unusedSimpArgs false in
set_option maxRecDepth 20000 in
set_option maxHeartbeats 4000000 in
theorem conInlineNo {H : Heap} {p b : Nat} {M : Mr} (hp : H[p]? = some (mC b M)) (hH : HOk H) (ln : Int) (mac : ByteArray) (args : List ByteArray) (txt : ByteArray) (h0 : mac ≠ ⟨#[]⟩) (hc : callE mac = false) (hm : mac.size ≤ 1073741824) :
    Con C0 71 [.ptr p 0, rowF ln mac args txt] H (.tup [.own [], .sc (.bool false)]) H := by
  have cc := conCallable mac hm
  rw [hc] at cc
  simp only [rowF]
  refine con_trimU (C := C0) (fn := Tryz.f71) Tryz.func71 rfl (by decide) mixed (mv := mv71) (vars := vars71) (c := Tryz.f71.body.getD .skip) (by kernel_rfl) rfl hH ?_
  simp [Tryz.f71, h0]
  refine CallQ.mk (Call.pure callable36 (by simp) (by simp) cc) ?_
  simp
set_option linter.unusedSimpArgs false in
set_option maxRecDepth 20000 in
set_option maxHeartbeats 4000000 in
theorem conEntitle {H : Heap} {p b : Nat} {M : Mr} {t : FV} {B : Bd} (hp : H[p]? = some (mC b M)) (hB : BIn H b none t B) (hpb : p ≠ b) (ln : Int) (x : ByteArray) (txt : ByteArray) :
    ∃ H', Con C0 75 [.ptr p 0, rowF ln ⟨#[68, 116]⟩ [x] txt] H (.tup []) H' ∧ BIn H' b none t { B with name := x, part := ⟨#[]⟩, date := M.t2, source := M.t3 } ∧ H'[p]? = some (mC b { M with t0 := x, t1 := ⟨#[]⟩, titled := true }) ∧ H'.length = H.length ∧ ∀ i, i ≠ b → i ≠ p → H'[i]? = H[i]? := by
  have hpl : p < H.length := (List.getElem?_eq_some_iff.1 hp).1
  have hbl : b < H.length := (List.getElem?_eq_some_iff.1 hB.box).1
  obtain ⟨H0, hH0⟩ : ∃ H0, H0 = H.set p (mC b { M with t0 := x, t1 := ⟨#[]⟩, titled := true }) := ⟨_, rfl⟩
  obtain ⟨RB, hRB⟩ : ∃ RB : List FV, RB = [.sc (.int .i64 ln), .sc (.str ⟨#[68, 116]⟩), .sc (.sl [.str x]), .sc (.str txt)] := ⟨_, rfl⟩
  have hl0 : H0.length = H.length := by rw [hH0, List.length_set]
  have hB0 : BIn H0 b none t B := ⟨by rw [hH0, List.getElem?_set_ne hpb]; exact hB.box, hB.row, hB.txt, by rw [hH0]; exact hB.ok.set' (mC_und hbl _)⟩
  have hB1 : BIn (H0 ++ [RB]) b none t B := hB0.more (fun f hf => by
    rw [hRB] at hf
    simp only [body, List.mem_cons, List.not_mem_nil, or_false] at hf
    rcases hf with rfl | rfl | rfl | rfl <;> rfl)
  obtain ⟨H1, c1, c2, c3⟩ := conTitle hB1 x ⟨#[]⟩ M.t2 M.t3
  obtain ⟨k1, k2⟩ := hB0.take c2 c3
  have hp0 : H0[p]? = some (mC b { M with t0 := x, t1 := ⟨#[]⟩, titled := true }) := by rw [hH0]; exact List.getElem?_set_self hpl
  refine ⟨H1.take H0.length, ?_, k1, ?_, by rw [k2.len, hl0], fun i h1 h2 => ?_⟩
  · have ca0 := conArg ln ⟨#[68, 116]⟩ [x] txt 0 (by omega) (by simp)
    have ca1 := conArg ln ⟨#[68, 116]⟩ [x] txt 1 (by omega) (by simp)
    obtain ⟨bad, name, t0, t1, t2, t3, titled⟩ := M
    simp only [rowF, mC] at *
    refine con_trimU (C := C0) (fn := Tryz.f75) Tryz.func75 rfl (by decide) mixed (mv := mv75) (vars := vars75) (c := Tryz.f75.body.getD .skip) (by kernel_rfl) rfl (by rw [hl0]; have := k1.ok; unfold HOk at this; rw [k2.len, hl0] at this; exact this) ?_
    have hpo : ∀ L : Heap, (H ++ L)[p]? = some [.ptr b 0, .own (bad.map Dg.pv), .sc (.str name), .sc (.str t0), .sc (.str t1), .sc (.str t2), .sc (.str t3), .sc (.bool titled), .own []] := fun L => by rw [heap_old hpl]; exact hp
    have hsa : ∀ (L : Heap) (c : List FV), (H ++ L).set p c = H.set p c ++ L := fun L c => List.set_append_left p c hpl
    have hrow : ∀ (c x : List FV), (H.set p c ++ [x])[H.length]? = some x := fun c x => by
      rw [List.getElem?_append_right (by simp)]; simp
    have hsp : ∀ (c : List FV) (L : Heap), (H.set p c ++ L)[p]? = some c := fun c L => by
      rw [List.getElem?_append_left (by rw [List.length_set]; exact hpl), List.getElem?_set_self hpl]
    have hss : ∀ (c c' : List FV) (L : Heap), (H.set p c ++ L).set p c' = H.set p c' ++ L := fun c c' L => by
      rw [List.set_append_left p c' (by rw [List.length_set]; exact hpl), List.set_set]
    simp [Tryz.f75, hpo, hsa, hrow, hsp, hss]
    refine CallQ.mk (CallP.pure callable130 (by simp) (by simp) ca0) ?_
    simp [hrow]
    refine CallQ.mk (CallP.pure callable130 (by simp) (by simp) ca1) ?_
    simp [hsp, hss]
    rw [← hRB, ← hH0]
    refine CallQ.mk (CallP.shared callable131 c1) ?_
    simp [hl0]
  · rw [k2.same p hpb (fun r g hr => by simp at hr)]
    exact hp0
  · rw [k2.same i h1 (fun r g hr => by simp at hr), hH0, List.getElem?_set_ne (fun h => h2 h.symm)]
end Go.Proofs.YtkjgkhgklkdbjaaGreatDoor.Ev
end
section
namespace Go.Proofs.YtkjgkhgklkdbjaaGreatDoor.Ev
open Go
def NoBlank (l : List Glyph) : Prop := ∀ g ∈ l, g.r ≠ 32
theorem sq_word : ∀ (l out : List Glyph), NoBlank l → l.foldl sqStep (out, false) = (out ++ l, false)
  | [], out, _ => by simp
  | g :: l, out, h => by
    have hg := h g (by simp)
    rw [List.foldl_cons]
    have : sqStep (out, false) g = (out ++ [g], false) := by simp [sqStep, hg]
    rw [this, sq_word l _ fun x hx => h x (by simp [hx])]
    simp
theorem dw_nil {α : Type} {p : α → Bool} : ∀ {l : List α}, l.dropWhile p = [] → ∀ x ∈ l, p x = true
  | [], _, x, hx => by cases hx
  | y :: l, h, x, hx => by
    rw [List.dropWhile_cons] at h
    split at h
    · rename_i hy
      rcases List.mem_cons.1 hx with rfl | hx
      · exact hy
      · exact dw_nil h x hx
    · cases h
theorem trim_ne {l : List Glyph} {g : Glyph} (hm : g ∈ l) (hg : g.r ≠ 32) : trimG l ≠ [] := fun h => by
  unfold trimG at h
  have h1 := dw_nil (List.reverse_eq_nil_iff.1 h) g (List.mem_reverse.2 hm)
  unfold Glyph.blank at h1
  simp at h1
  exact hg h1
def titleBd (x : ByteArray) : Bd := { Bd.zero with name := x }
end Go.Proofs.YtkjgkhgklkdbjaaGreatDoor.Ev
end
section
namespace Go.Proofs.YtkjgkhgklkdbjaaGreatDoor.Ev
open Go
structure RIn (H : Heap) (p b : Nat) (t : FV) (B : Bd) (M : Mr) : Prop where
  bin : BIn H b none t B
  box : H[p]? = some (mC b M)
  ne : p ≠ b
theorem RIn.plt {H : Heap} {p b : Nat} {t : FV} {B : Bd} {M : Mr} (h : RIn H p b t B M) : p < H.length := (List.getElem?_eq_some_iff.1 h.box).1
theorem RIn.blt {H : Heap} {p b : Nat} {t : FV} {B : Bd} {M : Mr} (h : RIn H p b t B M) : b < H.length := (List.getElem?_eq_some_iff.1 h.bin.box).1
theorem RIn.more {H : Heap} {p b : Nat} {t : FV} {B : Bd} {M : Mr} (h : RIn H p b t B M) {fs : List FV} (hf : ∀ f ∈ body fs, f.und0 (H.length + 1) = true) : RIn (H ++ [fs]) p b t B M :=
  ⟨h.bin.more hf, by rw [heap_old h.plt]; exact h.box, h.ne⟩
def Oth (H H' : Heap) (p b : Nat) : Prop := H'.length = H.length ∧ ∀ i, i ≠ b → i ≠ p → H'[i]? = H[i]?
theorem RIn.take {H H1 : Heap} {p b : Nat} {t t0 : FV} {B B0 : Bd} {M M0 : Mr} {fs : List FV} (h0 : RIn H p b t0 B0 M0) (h : RIn H1 p b t B M) (ho : Oth (H ++ [fs]) H1 p b) : RIn (H1.take H.length) p b t B M ∧ Oth H (H1.take H.length) p b := by
  have hlen : H1.length = H.length + 1 := by rw [ho.1]; simp
  have hl2 : (H1.take H.length).length = H.length := by rw [List.length_take]; omega
  have hget : ∀ i, i < H.length → (H1.take H.length)[i]? = H1[i]? := fun i hi => List.getElem?_take_of_lt hi
  have hold : ∀ i, i < H.length → i ≠ b → i ≠ p → H1[i]? = H[i]? := fun i hi h1 h2 => by rw [ho.2 i h1 h2, heap_old hi]
  refine ⟨⟨⟨by rw [hget b h0.blt]; exact h.bin.box, h.bin.row, h.bin.txt, ?_⟩, by rw [hget p h0.plt]; exact h.box, h.ne⟩, hl2, fun i h1 h2 => ?_⟩
  · intro gs hg f hf
    rw [hl2]
    obtain ⟨i, hi, hge⟩ := List.getElem_of_mem hg
    have hi' : i < H.length := by rw [hl2] at hi; exact hi
    have hg? : (H1.take H.length)[i]? = some gs := by rw [List.getElem?_eq_getElem hi, hge]
    rw [hget i hi'] at hg?
    by_cases hb : i = b
    · subst hb
      rw [h.bin.box] at hg?
      obtain rfl := Option.some.inj hg?
      have ht : t.und0 H.length = true := by
        rcases h.bin.txt with hh | ⟨_, hh⟩ <;> rw [hh] <;> rfl
      exact HOk.build ⟨rfl, ht⟩ f hf
    · by_cases hp : i = p
      · subst hp
        rw [h.box] at hg?
        obtain rfl := Option.some.inj hg?
        exact mC_und h0.blt M f hf
      · rw [hold i hi' hb hp] at hg?
        exact h0.bin.ok gs (List.mem_of_getElem? hg?) f hf
  · by_cases hi : i < H.length
    · rw [hget i hi, hold i hi h1 h2]
    · rw [List.getElem?_eq_none (by omega), List.getElem?_eq_none (by omega)]
def rowB (ln : Int) (mac : ByteArray) (args : List ByteArray) (txt : ByteArray) : List FV := [.sc (.int .i64 ln), .sc (.str mac), .sc (.sl (args.map .str)), .sc (.str txt)]
theorem rowB_und (ln : Int) (mac : ByteArray) (args : List ByteArray) (txt : ByteArray) (n : Nat) : ∀ f ∈ body (rowB ln mac args txt), f.und0 n = true := fun f hf => by
  simp only [rowB, body, List.mem_cons, List.not_mem_nil, or_false] at hf
  rcases hf with rfl | rfl | rfl | rfl <;> rfl
def dtS : ByteArray := ⟨#[68, 116]⟩
theorem dt_call : callE dtS = false := by rfl
set_option linter.unusedSimpArgs false in
set_option maxRecDepth 20000 in
set_option maxHeartbeats 8000000 in
theorem rowDt {H : Heap} {p b : Nat} {t : FV} {B : Bd} {M : Mr} (h : RIn H p b t B M) (ln : Int) (x : ByteArray) (txt : ByteArray) :
    ∃ H', Con C0 38 [.ptr p 0, .agg (rowB ln dtS [x] txt)] H (.tup []) H' ∧ RIn H' p b t { B with name := x, part := ⟨#[]⟩, date := M.t2, source := M.t3 } { M with t0 := x, t1 := ⟨#[]⟩, titled := true } ∧ Oth H H' p b := by
  have h2 := h.more (fs := rowB ln dtS [x] txt) (rowB_und _ _ _ _ _)
  obtain ⟨H1, e1, e2, e3, e4, e5⟩ := conEntitle h2.box h2.bin h2.ne ln x txt
  obtain ⟨k1, k2⟩ := h.take (H1 := H1) (fs := rowB ln dtS [x] txt) ⟨e2, e3, h.ne⟩ ⟨e4, e5⟩
  refine ⟨H1.take H.length, ?_, k1, k2⟩
  have cl := conLast0 h2.box
  have ci := conInlineNo h2.box h2.bin.ok ln dtS [x] txt (by decide) dt_call (by decide)
  simp only [rowF, rowB, dtS, List.map_cons, List.map_nil] at *
  refine con_trimU (C := C0) (fn := Tryz.f38) Tryz.func38 rfl (by decide) mixed (mv := mv38) (vars := vars38) (c := Tryz.f38.body.getD .skip) (by kernel_rfl) rfl (by have := k1.bin.ok; unfold HOk at this; rw [k2.1] at this; exact this) ?_
  simp [Tryz.f38]
  refine CallQ.mk (Call.shared callable70 cl) ?_
  simp
  refine CallQ.mk (Call.shared callable71 ci) ?_
  simp
  refine CallQ.mk (Call.shared callable75 e1) ?_
  simp
end Go.Proofs.YtkjgkhgklkdbjaaGreatDoor.Ev
end
section
namespace Go.Proofs.YtkjgkhgklkdbjaaGreatDoor.Ev
open Go
structure Bk where
  line : Int
  list : ByteArray
  width : Int
  items : Int
  tag : Bool
def kC (K : Bk) : List FV := [.sc (.int .i64 K.line), .sc (.str K.list), .sc (.int .i64 K.width), .sc (.int .i64 K.items), .sc (.bool K.tag), .nilp]
def mG (b : Nat) (M : Mr) (o : FV) : List FV := [.ptr b 0, .own (M.bad.map Dg.pv), .sc (.str M.name), .sc (.str M.t0), .sc (.str M.t1), .sc (.str M.t2), .sc (.str M.t3), .sc (.bool M.titled), o]
theorem mG_und {b n r g k : Nat} (h : b < n) (hr : r < n) (M : Mr) : ∀ f ∈ body (mG b M (.gr r g 1 k)), f.und0 n = true := fun f hf => by
  simp only [body, mG, List.mem_cons, List.not_mem_nil, or_false] at hf
  rcases hf with rfl | rfl | rfl | rfl | rfl | rfl | rfl | rfl | rfl <;> first | rfl | simpa [FV.und0] using h | simpa [FV.und0] using hr
theorem kC_und (K : Bk) (n : Nat) : ∀ f ∈ body (kC K), f.und0 n = true := fun f hf => by
  simp only [body, kC, List.mem_cons, List.not_mem_nil, or_false] at hf
  rcases hf with rfl | rfl | rfl | rfl | rfl | rfl <;> rfl
structure SIn (H : Heap) (p b : Nat) (ro : Option (Nat × Nat)) (t : FV) (B : Bd) (M : Mr) (r g k c : Nat) (K : Bk) : Prop where
  bin : BIn H b ro t B
  box : H[p]? = some (mG b M (.gr r g 1 k))
  row : H[r]? = some [.row g [.ptr c 0]]
  blk : H[c]? = some (kC K)
  pb : p ≠ b
  rb : r ≠ b
  cb : c ≠ b
  rp : r ≠ p
  cp : c ≠ p
  cr : c ≠ r
  out : ∀ q h, ro = some (q, h) → q ≠ p ∧ q ≠ r ∧ q ≠ c
theorem SIn.blt {H : Heap} {p b r g k c : Nat} {ro : Option (Nat × Nat)} {t : FV} {B : Bd} {M : Mr} {K : Bk} (h : SIn H p b ro t B M r g k c K) : b < H.length := (List.getElem?_eq_some_iff.1 h.bin.box).1
theorem SIn.plt {H : Heap} {p b r g k c : Nat} {ro : Option (Nat × Nat)} {t : FV} {B : Bd} {M : Mr} {K : Bk} (h : SIn H p b ro t B M r g k c K) : p < H.length := (List.getElem?_eq_some_iff.1 h.box).1
theorem SIn.rlt {H : Heap} {p b r g k c : Nat} {ro : Option (Nat × Nat)} {t : FV} {B : Bd} {M : Mr} {K : Bk} (h : SIn H p b ro t B M r g k c K) : r < H.length := (List.getElem?_eq_some_iff.1 h.row).1
theorem SIn.clt {H : Heap} {p b r g k c : Nat} {ro : Option (Nat × Nat)} {t : FV} {B : Bd} {M : Mr} {K : Bk} (h : SIn H p b ro t B M r g k c K) : c < H.length := (List.getElem?_eq_some_iff.1 h.blk).1
theorem SIn.more {H : Heap} {p b r g k c : Nat} {ro : Option (Nat × Nat)} {t : FV} {B : Bd} {M : Mr} {K : Bk} (h : SIn H p b ro t B M r g k c K) {fs : List FV} (hf : ∀ f ∈ body fs, f.und0 (H.length + 1) = true) : SIn (H ++ [fs]) p b ro t B M r g k c K :=
  { h with bin := h.bin.more hf, box := by rw [heap_old h.plt]; exact h.box, row := by rw [heap_old h.rlt]; exact h.row, blk := by rw [heap_old h.clt]; exact h.blk }
theorem SIn.bld {H H' : Heap} {p b r g k c : Nat} {ro ro' : Option (Nat × Nat)} {t t' : FV} {B B' : Bd} {M : Mr} {K : Bk} (h : SIn H p b ro t B M r g k c K) (hB : BIn H' b ro' t' B') (hf : FrG H H' b ro ro') : SIn H' p b ro' t' B' M r g k c K where
  bin := hB
  box := by rw [hf.same p h.plt h.pb fun q g hq => fun he => (h.out q g hq).1 he.symm]; exact h.box
  row := by rw [hf.same r h.rlt h.rb fun q g hq => fun he => (h.out q g hq).2.1 he.symm]; exact h.row
  blk := by rw [hf.same c h.clt h.cb fun q g hq => fun he => (h.out q g hq).2.2 he.symm]; exact h.blk
  pb := h.pb
  rb := h.rb
  cb := h.cb
  rp := h.rp
  cp := h.cp
  cr := h.cr
  out q g' hq := by
    cases ro with
    | none =>
      have := hf.row.2 rfl q g' hq
      have h1 := h.plt
      have h2 := h.rlt
      have h3 := h.clt
      omega
    | some s =>
      obtain ⟨s1, s2⟩ := s
      obtain ⟨g2, h2⟩ := hf.row.1 s1 s2 rfl
      rw [h2] at hq
      simp only [Option.some.injEq, Prod.mk.injEq] at hq
      obtain ⟨rfl, _⟩ := hq
      exact h.out s1 s2 rfl
theorem BIn.away {H : Heap} {b : Nat} {ro : Option (Nat × Nat)} {t : FV} {B : Bd} (h : BIn H b ro t B) {i : Nat} {fs : List FV} (hi : i ≠ b) (ho : ∀ q g, ro = some (q, g) → q ≠ i) (hf : ∀ f ∈ body fs, f.und0 H.length = true) : BIn (H.set i fs) b ro t B where
  box := by rw [List.getElem?_set_ne hi]; exact h.box
  row := by
    have hr := h.row
    cases ro with
    | none => exact hr
    | some s =>
      obtain ⟨s1, s2⟩ := s
      obtain ⟨h1, rest, hnp, h2⟩ := hr
      exact ⟨h1, rest, hnp, by rw [List.getElem?_set_ne (fun he => ho s1 s2 rfl he.symm)]; exact h2⟩
  txt := h.txt
  ok := h.ok.set' hf
theorem SIn.put {H : Heap} {p b r g k c : Nat} {ro : Option (Nat × Nat)} {t : FV} {B : Bd} {M : Mr} {K : Bk} (h : SIn H p b ro t B M r g k c K) (M' : Mr) (k' : Nat) : SIn (H.set p (mG b M' (.gr r g 1 k'))) p b ro t B M' r g k' c K :=
  { h with
    bin := h.bin.away h.pb (fun q g hq => (h.out q g hq).1) (mG_und h.blt h.rlt M')
    box := List.getElem?_set_self h.plt
    row := by rw [List.getElem?_set_ne (fun he => h.rp he.symm)]; exact h.row
    blk := by rw [List.getElem?_set_ne (fun he => h.cp he.symm)]; exact h.blk }
theorem SIn.putK {H : Heap} {p b r g k c : Nat} {ro : Option (Nat × Nat)} {t : FV} {B : Bd} {M : Mr} {K : Bk} (h : SIn H p b ro t B M r g k c K) (K' : Bk) : SIn (H.set c (kC K')) p b ro t B M r g k c K' :=
  { h with
    bin := h.bin.away h.cb (fun q g hq => (h.out q g hq).2.2) (kC_und K' _)
    box := by rw [List.getElem?_set_ne h.cp]; exact h.box
    row := by rw [List.getElem?_set_ne h.cr]; exact h.row
    blk := List.getElem?_set_self h.clt }
structure OthS (H H' : Heap) (p b c : Nat) (ro ro' : Option (Nat × Nat)) : Prop where
  le : H.length ≤ H'.length
  same : ∀ i, i < H.length → i ≠ b → i ≠ p → i ≠ c → (∀ q g, ro = some (q, g) → i ≠ q) → H'[i]? = H[i]?
  row : (∀ q g, ro = some (q, g) → ∃ g', ro' = some (q, g')) ∧ (ro = none → ∀ q g, ro' = some (q, g) → H.length ≤ q)
theorem FrG.oth {H H' : Heap} {b : Nat} {ro ro' : Option (Nat × Nat)} (h : FrG H H' b ro ro') (p c : Nat) : OthS H H' p b c ro ro' := ⟨h.le, fun i h1 h2 _ _ h3 => h.same i h1 h2 h3, h.row⟩
theorem OthS.trans {A B C : Heap} {p b c : Nat} {r1 r2 r3 : Option (Nat × Nat)} (h : OthS A B p b c r1 r2) (k : OthS B C p b c r2 r3) : OthS A C p b c r1 r3 where
  le := Nat.le_trans h.le k.le
  same i hi h1 h2 h3 h4 := by
    have hi' : i < B.length := Nat.lt_of_lt_of_le hi h.le
    refine (k.same i hi' h1 h2 h3 fun r g hr => ?_).trans (h.same i hi h1 h2 h3 h4)
    cases r1 with
    | none => have := h.row.2 rfl r g hr; omega
    | some p =>
      obtain ⟨r', g'⟩ := p
      obtain ⟨g2, hg2⟩ := h.row.1 r' g' rfl
      rw [hg2] at hr
      simp only [Option.some.injEq, Prod.mk.injEq] at hr
      have := h4 r' g' rfl
      omega
  row := ⟨fun r g hr => by
    obtain ⟨g', h1⟩ := h.row.1 r g hr
    exact k.row.1 r g' h1, fun h0 r g hr => by
    cases r2 with
    | none => exact Nat.le_trans h.le (k.row.2 rfl r g hr)
    | some p =>
      obtain ⟨r', g'⟩ := p
      have h3 := h.row.2 h0 r' g' rfl
      obtain ⟨g2, hg2⟩ := k.row.1 r' g' rfl
      rw [hg2] at hr
      simp only [Option.some.injEq, Prod.mk.injEq] at hr
      omega⟩
theorem OthS.refl (H : Heap) (p b c : Nat) (ro : Option (Nat × Nat)) : OthS H H p b c ro ro := ⟨Nat.le_refl _, fun _ _ _ _ _ _ => rfl, fun r g hr => ⟨g, hr⟩, fun h0 r g hr => by rw [h0] at hr; simp at hr⟩
theorem OthS.app (H L : Heap) (p b c : Nat) (ro : Option (Nat × Nat)) : OthS H (H ++ L) p b c ro ro := ⟨by simp, fun i hi _ _ _ _ => heap_old hi, fun r g hr => ⟨g, hr⟩, fun h0 r g hr => by rw [h0] at hr; simp at hr⟩
theorem OthS.put {A H : Heap} {p b c : Nat} {r1 r2 : Option (Nat × Nat)} (h : OthS A H p b c r1 r2) (w : List FV) : OthS A (H.set p w) p b c r1 r2 :=
  ⟨by rw [List.length_set]; exact h.le, fun i hi h1 h2 h3 h4 => by rw [List.getElem?_set_ne (fun hh => h2 hh.symm)]; exact h.same i hi h1 h2 h3 h4, h.row⟩
theorem OthS.putK {A H : Heap} {p b c : Nat} {r1 r2 : Option (Nat × Nat)} (h : OthS A H p b c r1 r2) (w : List FV) : OthS A (H.set c w) p b c r1 r2 :=
  ⟨by rw [List.length_set]; exact h.le, fun i hi h1 h2 h3 h4 => by rw [List.getElem?_set_ne (fun hh => h3 hh.symm)]; exact h.same i hi h1 h2 h3 h4, h.row⟩
set_option linter.unusedSimpArgs false in
set_option maxRecDepth 20000 in
set_option maxHeartbeats 4000000 in
theorem conLast1 {H : Heap} {p b r g c : Nat} {M : Mr} (hp : H[p]? = some (mG b M (.gr r g 1 1))) (hr : H[r]? = some [.row g [.ptr c 0]]) : Con C0 70 [.ptr p 0] H (.ptr c 0) H := by
  simp only [mG] at hp
  have wz : IntKind.i64.wrap 0 = 0 := by decide
  refine enter70 ?_
  simp [Tryz.f70, hp, hr, wz]
set_option linter.unusedSimpArgs false in
set_option maxRecDepth 20000 in
set_option maxHeartbeats 4000000 in
theorem conLastE {H : Heap} {p b r g : Nat} {M : Mr} (hp : H[p]? = some (mG b M (.gr r g 1 0))) : Con C0 70 [.ptr p 0] H .nilp H := by
  simp only [mG] at hp
  refine enter70 ?_
  simp [Tryz.f70, hp]
end Go.Proofs.YtkjgkhgklkdbjaaGreatDoor.Ev
end
section
namespace Go.Proofs.YtkjgkhgklkdbjaaGreatDoor.Ev
open Go
def LCs (s : ByteArray) : Prop := ∀ b ∈ s.data.toList, LCb b
abbrev Tau := Nat → Int × List Glyph
def parL (s : ByteArray) (ln : Int) : List Node := if s = ⟨#[]⟩ then [] else [.mk 3 ln 0 (glyB s 0) [] [] noTbl]
def tag0 (τ : Tau) (i : Nat) : Node := .mk 4 (3 + 2 * (i : Int)) (τ i).1 (τ i).2 [] [] noTbl
def tagI (τ : Tau) (ts : List ByteArray) (i : Nat) : Node := .mk 4 (3 + 2 * (i : Int)) (τ i).1 (τ i).2 (parL (ts.getD i ⟨#[]⟩) (4 + 2 * (i : Int))) [] noTbl
def tags (τ : Tau) (ts : List ByteArray) (k : Nat) : List Node := (List.range k).map (tagI τ ts)
theorem tags_succ (τ : Tau) (ts : List ByteArray) (k : Nat) : tags τ ts (k + 1) = tags τ ts k ++ [tagI τ ts k] := by simp [tags, List.range_succ]
theorem tags_len (τ : Tau) (ts : List ByteArray) (k : Nat) : (tags τ ts k).length = k := by simp [tags]
def indN (l : List Node) : Node := .mk 5 2 0 [] l [] noTbl
def lB (x : ByteArray) (kids opens : List Node) (text : List Glyph) (ln : Int) (has : Bool) : Bd := ⟨x, ByteArray.empty, ByteArray.empty, ByteArray.empty, kids, opens, text, ln, has⟩
def outB (x : ByteArray) (τ : Tau) (ts : List ByteArray) (k : Nat) (ln : Int) : Bd := lB x [] [indN (tags τ ts k)] [] ln false
def midB (x : ByteArray) (τ : Tau) (ts : List ByteArray) (k : Nat) (ln : Int) : Bd := lB x [] [indN (tags τ ts k), tag0 τ k] [] ln false
def lstB (x : ByteArray) (τ : Tau) (ts : List ByteArray) (k : Nat) (ln : Int) : Bd := if ts.getD k ⟨#[]⟩ = ⟨#[]⟩ then midB x τ ts k ln else lB x [] [indN (tags τ ts k), tag0 τ k] (glyB (ts.getD k ⟨#[]⟩) 0) (4 + 2 * (k : Int)) true
def finB (x : ByteArray) (τ : Tau) (ts : List ByteArray) (k : Nat) (ln : Int) : Bd := lB x [indN (tags τ ts k)] [] [] ln false
theorem lc_blank {s : ByteArray} (h : LCs s) (n : Int) : NoBlank (glyB s n) := fun g hg => by
  unfold glyB at hg
  obtain ⟨c, hc, rfl⟩ := List.mem_map.1 hg
  obtain ⟨y, hy, rfl⟩ := bI_mem hc
  have := h y hy
  unfold LCb at this
  show (y.toNat : Int) ≠ 32
  omega
theorem gly_ne {s : ByteArray} (h : s ≠ ⟨#[]⟩) (n : Int) : glyB s n ≠ [] := fun he => by
  have := congrArg List.length he
  unfold glyB at this
  rw [List.length_map, bI_len] at this
  have hz : s.size = 0 := by simpa using this
  obtain ⟨d⟩ := s
  have : d.size = 0 := hz
  exact h (by rw [Array.eq_empty_of_size_eq_zero this])
theorem text_mid {x : ByteArray} {τ : Tau} {ts : List ByteArray} {k : Nat} {ln : Int} (h : ts.getD k ⟨#[]⟩ ≠ ⟨#[]⟩) : textBd (midB x τ ts k ln) (glyB (ts.getD k ⟨#[]⟩) 0) (4 + 2 * (k : Int)) = lstB x τ ts k ln := by
  unfold lstB
  rw [if_neg h]
  unfold textBd midB lB joinS
  simp
theorem end_mid {x : ByteArray} {τ : Tau} {ts : List ByteArray} {k : Nat} {ln : Int} (h : ts.getD k ⟨#[]⟩ = ⟨#[]⟩) : endBd (midB x τ ts k ln) = lstB x τ ts k ln := by
  unfold lstB
  rw [if_pos h]
  rfl
theorem end_lst {x : ByteArray} {τ : Tau} {ts : List ByteArray} {k : Nat} (hs : LCs (ts.getD k ⟨#[]⟩)) (ln : Int) : ∃ ln', endBd (lstB x τ ts k ln) = lB x [] [indN (tags τ ts k), tagI τ ts k] [] ln' false := by
  unfold lstB
  by_cases h : ts.getD k ⟨#[]⟩ = ⟨#[]⟩
  · rw [if_pos h]
    refine ⟨ln, ?_⟩
    have : tagI τ ts k = tag0 τ k := by unfold tagI tag0 parL; rw [if_pos h]
    rw [this]; rfl
  · rw [if_neg h]
    refine ⟨4 + 2 * (k : Int), ?_⟩
    have hg := gly_ne h 0
    have hb := lc_blank hs 0
    have ht : tagI τ ts k = (tag0 τ k).withKids [.mk 3 (4 + 2 * (k : Int)) 0 (glyB (ts.getD k ⟨#[]⟩) 0) [] [] noTbl] := by unfold tagI tag0 parL; rw [if_neg h]; rfl
    rw [ht]
    generalize glyB (ts.getD k ⟨#[]⟩) 0 = G at *
    have htr : trimG G ≠ [] := by
      cases G with
      | nil => exact absurd rfl hg
      | cons g G => exact trim_ne (g := g) (by simp) (hb g (by simp))
    unfold endBd lB
    simp only [Bool.true_eq_false, if_false]
    rw [if_neg htr, layBd_snoc (l := [indN (tags τ ts k)]) (y := tag0 τ k) rfl]
    rfl
theorem ind_with (l m : List Node) : (indN l).withKids m = indN m := rfl
theorem ind_kids (l : List Node) : (indN l).kids = l := rfl
theorem close_tag {x : ByteArray} {τ : Tau} {ts : List ByteArray} {k : Nat} (hs : LCs (ts.getD k ⟨#[]⟩)) (ln : Int) : ∃ ln', closeBd (lstB x τ ts k ln) 4 = outB x τ ts (k + 1) ln' := by
  obtain ⟨ln', he⟩ := end_lst (x := x) (τ := τ) hs ln
  refine ⟨ln', ?_⟩
  unfold closeBd
  rw [he]
  have hin : insideB (lB x [] [indN (tags τ ts k), tagI τ ts k] [] ln' false).opens 4 = true := by
    show ([indN (tags τ ts k), tagI τ ts k].any fun y => decide (y.kind = 4)) = true
    have : (tagI τ ts k).kind = 4 := rfl
    simp [this]
  rw [if_pos hin]
  have hl : (lB x [] [indN (tags τ ts k), tagI τ ts k] [] ln' false).opens.length = 1 + 1 := rfl
  rw [hl, closeN_snoc (l := [indN (tags τ ts k)]) (x := tagI τ ts k) rfl, if_pos (show (tagI τ ts k).kind = 4 from rfl), popBd_snoc (l := [indN (tags τ ts k)]) (x := tagI τ ts k) rfl, layBd_snoc (l := []) (y := indN (tags τ ts k)) rfl]
  unfold outB
  rw [tags_succ, ind_with, ind_kids]
  rfl
theorem close_ind {x : ByteArray} {τ : Tau} {ts : List ByteArray} {k : Nat} (hs : LCs (ts.getD k ⟨#[]⟩)) (ln : Int) : ∃ ln', closeBd (lstB x τ ts k ln) 5 = finB x τ ts (k + 1) ln' := by
  obtain ⟨ln', he⟩ := end_lst (x := x) (τ := τ) hs ln
  refine ⟨ln', ?_⟩
  unfold closeBd
  rw [he]
  have hin : insideB (lB x [] [indN (tags τ ts k), tagI τ ts k] [] ln' false).opens 5 = true := by
    show ([indN (tags τ ts k), tagI τ ts k].any fun y => decide (y.kind = 5)) = true
    have : (indN (tags τ ts k)).kind = 5 := rfl
    simp [this]
  rw [if_pos hin]
  have hl : (lB x [] [indN (tags τ ts k), tagI τ ts k] [] ln' false).opens.length = 1 + 1 := rfl
  have hp : popBd (lB x [] [indN (tags τ ts k), tagI τ ts k] [] ln' false) = outB x τ ts (k + 1) ln' := by
    rw [popBd_snoc (l := [indN (tags τ ts k)]) (x := tagI τ ts k) rfl, layBd_snoc (l := []) (y := indN (tags τ ts k)) rfl]
    unfold outB
    rw [tags_succ, ind_with, ind_kids]
    rfl
  have hk4 : ¬ (tagI τ ts k).kind = 5 := by show ¬ (4 : Int) = 5; decide
  rw [hl, closeN_snoc (l := [indN (tags τ ts k)]) (x := tagI τ ts k) rfl, if_neg hk4, hp]
  rw [closeN_snoc (n := 0) (l := []) (x := indN (tags τ ts (k + 1))) rfl, if_pos (show (indN (tags τ ts (k + 1))).kind = 5 from rfl), popBd_snoc (l := []) (x := indN (tags τ ts (k + 1))) rfl, layBd_nil rfl]
  rfl
theorem close_none (x : ByteArray) (τ : Tau) (ts : List ByteArray) (ln : Int) : closeBd (outB x τ ts 0 ln) 5 = finB x τ ts 0 ln := rfl
def TauOk (τ : Tau) (n : Nat) : Prop := ∀ i, i < n → 0 ≤ (τ i).1 ∧ (τ i).1 ≤ 200 ∧ squeeze (τ i).2 = (τ i).2 ∧ (τ i).2.length ≤ 10
theorem tag_ok {τ : Tau} {ts : List ByteArray} {n i : Nat} (hτ : TauOk τ n) (hi : i < n) (hn : n ≤ 1000) (hs : LCs (ts.getD i ⟨#[]⟩)) : checkN 5 (tagI τ ts i) = true := by
  obtain ⟨h1, h2, h3, h4⟩ := hτ i hi
  have hb : bareT noTbl = true := by decide
  rw [checkN_eq, Bool.and_eq_true]
  constructor
  · unfold tagI
    generalize parL (ts.getD i ⟨#[]⟩) (4 + 2 * (i : Int)) = P
    have w : wholeN (.mk 4 (3 + 2 * (i : Int)) (τ i).1 (τ i).2 P [] noTbl) = true := by simp [wholeN]
    have o : okHas (.mk 4 (3 + 2 * (i : Int)) (τ i).1 (τ i).2 P [] noTbl) = true := by simp [okHas, hasText, hasKids, hasN]
    have z : sqzd (τ i).2 = true := by unfold sqzd; exact decide_eq_true h3
    have e1 : (0 : Int) ≤ 3 + 2 * (i : Int) := by omega
    have e2 : 3 + 2 * (i : Int) ≤ 1099511627775 := by omega
    unfold okN
    rw [w, o]
    simp [standsIn, e1, e2, h1, h2, z, hb]
  · show checkL 4 (parL (ts.getD i ⟨#[]⟩) (4 + 2 * (i : Int))) = true
    unfold parL
    split
    · rfl
    · rename_i hne
      have z : sqzd (glyB (ts.getD i ⟨#[]⟩) 0) = true := by
        unfold sqzd squeeze sqAll
        rw [sq_word _ [] (lc_blank hs 0)]
        simp
      have g := gly_ne hne 0
      generalize glyB (ts.getD i ⟨#[]⟩) 0 = G at *
      have w : wholeN (.mk 3 (4 + 2 * (i : Int)) 0 G [] [] noTbl) = true := by
        cases G with
        | nil => exact absurd rfl g
        | cons a G => simp [wholeN]
      have o : okHas (.mk 3 (4 + 2 * (i : Int)) 0 G [] [] noTbl) = true := by simp [okHas, hasText, hasKids, hasN]
      have e1 : (0 : Int) ≤ 4 + 2 * (i : Int) := by omega
      have e2 : 4 + 2 * (i : Int) ≤ 1099511627775 := by omega
      rw [checkL, checkN_eq]
      unfold okN
      rw [w, o]
      simp [standsIn, e1, e2, z, hb, checkL]
theorem tags_check {τ : Tau} {ts : List ByteArray} {n : Nat} (hτ : TauOk τ n) (hn : n ≤ 1000) (hs : ∀ i, LCs (ts.getD i ⟨#[]⟩)) : ∀ k, k ≤ n → checkL 5 (tags τ ts k) = true ∧ Node.cntL (tags τ ts k) ≤ 2 * k ∧ Node.deeps (tags τ ts k) ≤ 2 := by
  intro k
  induction k with
  | zero => intro _; exact ⟨rfl, Nat.le_refl _, Nat.zero_le _⟩
  | succ k ih =>
    intro hk
    obtain ⟨i1, i2, i3⟩ := ih (by omega)
    have hcnt : ∀ l m : List Node, Node.cntL (l ++ m) = Node.cntL l + Node.cntL m := by
      intro l m
      induction l with
      | nil => simp [Node.cntL]
      | cons y l ih => rw [List.cons_append, Node.cntL, Node.cntL, ih]; omega
    have hp : Node.cntL (parL (ts.getD k ⟨#[]⟩) (4 + 2 * (k : Int))) ≤ 1 ∧ Node.deeps (parL (ts.getD k ⟨#[]⟩) (4 + 2 * (k : Int))) ≤ 1 := by
      unfold parL
      split
      · exact ⟨by simp [Node.cntL], by simp [Node.deeps]⟩
      · exact ⟨by simp [Node.cntL, Node.cnt], by simp [Node.deeps, Node.deep]⟩
    have hd : (tagI τ ts k).deep ≤ 2 := by rw [Node.deep_eq]; show 1 + Node.deeps (parL (ts.getD k ⟨#[]⟩) (4 + 2 * (k : Int))) ≤ 2; omega
    have hc : (tagI τ ts k).cnt ≤ 2 := by rw [Node.cnt_eq]; show 1 + Node.cntL (parL (ts.getD k ⟨#[]⟩) (4 + 2 * (k : Int))) ≤ 2; omega
    rw [tags_succ]
    refine ⟨?_, ?_, ?_⟩
    · rw [checkL_all, List.all_append, ← checkL_all, i1]
      simp [tag_ok hτ (show k < n by omega) hn (hs k)]
    · rw [hcnt, Node.cntL, Node.cntL]; omega
    · rw [Node.deeps_append, Node.deeps, Node.deeps]; omega
theorem fin_doc {x : ByteArray} {τ : Tau} {ts : List ByteArray} {n : Nat} (hτ : TauOk τ n) (hn : n ≤ 1000) (hs : ∀ i, LCs (ts.getD i ⟨#[]⟩)) (ln : Int) : (docD (finB x τ ts n ln)).kids = if n = 0 then [] else [indN (tags τ ts n)] := by
  have hd : docD (finB x τ ts n ln) = tidyD ⟨x, ByteArray.empty, ByteArray.empty, ByteArray.empty, [indN (tags τ ts n)]⟩ := rfl
  rw [hd]
  split
  · rename_i h
    subst h
    have hw : wholeN ((ownN (indN []) 5).withKids [Node.zero]) = true := by simp [wholeN, ownN, indN, Node.withKids]
    have hN : tidyN 0 0 20000 (indN []) = ([], 19999) := by
      have hk : (indN []).kind = 5 := rfl
      rw [tidyN_eq, if_neg (by rw [hk]; simp), hk, if_pos (by decide), if_pos hw]
      have h0 : tidyL 5 (0 + 1) (20000 - 1) (indN []).kids = ([], 19999) := by show tidyL 5 (0 + 1) (20000 - 1) [] = _; rw [tidyL]
      rw [h0]
      have hw2 : wholeN ((ownN (indN []) 5).withKids []) = false := by simp [wholeN, ownN, indN, Node.withKids]
      simp only [hw2]
      rfl
    show (tidyL 0 0 20000 [indN []]).1 = []
    rw [tidyL, if_neg (by decide), if_neg (by decide), hN, tidyL]
    rfl
  · rename_i h
    obtain ⟨c1, c2, c3⟩ := tags_check hτ hn hs n (Nat.le_refl _)
    rw [tidyD_same]
    unfold checkD
    have e1 : Node.cntL [indN (tags τ ts n)] ≤ 1 + 2 * n := by
      rw [Node.cntL, Node.cntL, Node.cnt_eq]
      show 1 + Node.cntL (tags τ ts n) + 0 ≤ _
      omega
    have e2 : Node.deeps [indN (tags τ ts n)] ≤ 3 := by
      rw [Node.deeps, Node.deeps, Node.deep_eq]
      show max (1 + Node.deeps (tags τ ts n)) 0 ≤ 3
      omega
    have hne : (tags τ ts n).isEmpty = false := by
      have := tags_len τ ts n
      cases ht : tags τ ts n with
      | nil => rw [ht] at this; simp at this; omega
      | cons y l => rfl
    have w : wholeN (indN (tags τ ts n)) = true := by
      unfold indN at *
      simp [wholeN, hne]
    have o : okHas (indN (tags τ ts n)) = true := by simp [okHas, hasText, hasKids, hasN, indN]
    have z : sqzd ([] : List Glyph) = true := by decide
    have hb : bareT noTbl = true := by decide
    have ok : okN 0 (indN (tags τ ts n)) = true := by
      unfold okN
      rw [w, o]
      simp [standsIn, z, hb, indN]
    have hck : checkL 0 [indN (tags τ ts n)] = true := by
      rw [checkL, checkN_eq, ok, checkL]
      show (true && checkL 5 (tags τ ts n) && true) = true
      rw [c1]; rfl
    show (if 20000 < Node.cntL [indN (tags τ ts n)] ∨ 20 < Node.deeps [indN (tags τ ts n)] then 3 else if checkL 0 [indN (tags τ ts n)] = true then 0 else 2) = (0 : Int)
    rw [if_neg (by omega), if_pos hck]
end Go.Proofs.YtkjgkhgklkdbjaaGreatDoor.Ev
end
section
namespace Go.Proofs.YtkjgkhgklkdbjaaGreatDoor.Ev
open Go
set_option linter.unusedSimpArgs false in
set_option maxRecDepth 20000 in
set_option maxHeartbeats 4000000 in
theorem conTellR {H : Heap} {p b : Nat} {M : Mr} {o : FV} (hp : H[p]? = some (mG b M o)) (k ln : Int) (hl : M.bad.length ≤ 1073741824) : Con C0 40 [.ptr p 0, .sc (.int .i64 k), .sc (.int .i64 ln)] H (.tup []) (H.set p (mG b { M with bad := M.bad ++ [⟨k, ln, 0⟩] } o)) := by
  have hpl : p < H.length := (List.getElem?_eq_some_iff.1 hp).1
  obtain ⟨bad, name, t0, t1, t2, t3, titled⟩ := M
  have sd : Sized 3 (bad.map Dg.pv) := fun q hq => by simp only [List.mem_map] at hq; obtain ⟨x, _, rfl⟩ := hq; rfl
  have s1 : Sized 3 [PV.agg [.int .i64 k, .int .i64 ln, .int .i64 0]] := fun q hq => by rw [List.mem_singleton.1 hq]; rfl
  simp only [mG, List.map_append, List.map_cons, List.map_nil, Dg.pv] at *
  refine enter40 ?_
  simp [Tryz.f40, hp, hsetB hpl, sd, s1, lenMax]
  omega
def openB (B : Bd) (x : Node) : Bd := { endBd B with opens := (endBd B).opens ++ [x] }
set_option linter.unusedSimpArgs false in
set_option maxRecDepth 20000 in
set_option maxHeartbeats 4000000 in
theorem conOpenR {H : Heap} {p b : Nat} {ro : Option (Nat × Nat)} {t : FV} {B : Bd} {M : Mr} {o : FV} (h : BIn H b ro t B) (hp : H[p]? = some (mG b M o)) (hpb : p ≠ b) (hpr : ∀ q g, ro = some (q, g) → q ≠ p) (x : Node) (hl : B.long + x.long ≤ 300000000) (hd : (endBd B).opens.length < 20) :
    ∃ H' t' ro', Con C0 132 [.ptr p 0, x.pv.toFV] H (.sc (.bool true)) H' ∧ BIn H' b ro' t' (openB (endBd B) x) ∧ FrG H H' b ro ro' := by
  have hpl : p < H.length := (List.getElem?_eq_some_iff.1 hp).1
  have h1 := h.more (fs := nodeD x) (nodeD_und x _)
  obtain ⟨H1, t1, c1, c2, c3⟩ := conEnd h1 (by omega)
  have hel := endBd_long B
  obtain ⟨H2, t2, ro2, e1, e2, e3⟩ := conOpen c2 x (by omega)
  have cd := conDepth c2
  have hx1 : H1[H.length]? = some (nodeD x) := by
    rw [c3.same H.length (by have := (List.getElem?_eq_some_iff.1 h.box).1; omega) (fun r g hrg => by
      have hr := h.row
      subst hrg
      obtain ⟨_, rest, _, h2⟩ := hr
      have := (List.getElem?_eq_some_iff.1 h2).1
      omega), heap_at0]
    rfl
  have hp0 : (H ++ [nodeD x])[p]? = some (mG b M o) := by rw [heap_old hpl]; exact hp
  have hp1 : H1[p]? = some (mG b M o) := by
    rw [c3.same p hpb (fun r g hr => fun he => hpr r g hr he.symm)]; exact hp0
  have fr0 : FrG H (H ++ [nodeD x]) b ro ro := ⟨by simp, fun i hi _ _ => heap_old hi, fun r g hr => ⟨g, hr⟩, fun h0 r g hr => by rw [h0] at hr; simp at hr⟩
  refine ⟨H2, t2, ro2, ?_, e2, (fr0.trans c3.toG).trans e3⟩
  have hdd : ¬ (20 : Int) ≤ ((endBd B).opens.length : Int) := by omega
  rw [Node.toFV_eq] at e1 ⊢
  simp only [gl] at e1 ⊢
  simp only [mG] at hp0 hp1
  simp only [nodeD] at c1 hx1 hp0
  generalize (endBd B).opens.length = n at *
  refine enter132 ?_
  simp [Tryz.f132, hp0]
  refine CallQ.mk (Call.shared callable54 c1) ?_
  simp [hp1]
  refine CallQ.mk (Call.shared callable143 cd) ?_
  simp [hdd, hp1, hx1]
  refine CallQ.mk (CallP.shared callable144 e1) ?_
  simp
set_option linter.unusedSimpArgs false in
set_option maxRecDepth 20000 in
set_option maxHeartbeats 4000000 in
theorem conEndR {H : Heap} {p b r g c : Nat} {ro : Option (Nat × Nat)} {t : FV} {B : Bd} {M : Mr} {K : Bk} (h : SIn H p b ro t B M r g 1 c K) (hl : B.long ≤ 300000000) :
    ∃ H' t', Con C0 72 [.ptr p 0] H (.tup []) H' ∧ SIn H' p b ro t' (closeBd B 5) M r g 0 c K ∧ OthS H H' p b c ro ro := by
  have h0 := h.put M 0
  obtain ⟨H1, t1, c1, c2, c3⟩ := conClose h0.bin 5 hl
  refine ⟨H1, t1, ?_, h0.bld c2 c3.toG, ((OthS.refl H p b c ro).put _).trans (c3.toG.oth p c)⟩
  have hpl := h.plt
  have cl := conLast1 h.box h.row
  have hp := h.box
  have hc := h0.blk
  have hq := h0.box
  generalize hH0 : H.set p (mG b M (.gr r g 1 0)) = H0 at *
  have hset : ∀ v : List FV, H.set p v = H0.set p v := fun v => by rw [← hH0, List.set_set]
  simp only [mG] at hp hq hH0
  simp only [kC] at hc
  have wz : IntKind.i64.wrap 0 = 0 := by decide
  refine enter72 ?_
  simp [Tryz.f72]
  refine CallQ.mk (Call.shared callable70 cl) ?_
  simp [hp, hH0, hc, hq, wz]
  refine CallQ.mk (Call.shared callable104 c1) ?_
  simp
set_option linter.unusedSimpArgs false in
set_option maxRecDepth 20000 in
set_option maxHeartbeats 4000000 in
theorem conEndAll1 {H : Heap} {p b r g c : Nat} {ro : Option (Nat × Nat)} {t : FV} {B : Bd} {M : Mr} {K : Bk} (h : SIn H p b ro t B M r g 1 c K) (hl : B.long ≤ 300000000) (hb : M.bad.length ≤ 1073741824) :
    ∃ H' t', Con C0 39 [.ptr p 0] H (.tup []) H' ∧ SIn H' p b ro t' (closeBd B 5) { M with bad := M.bad ++ [⟨7, K.line, 0⟩] } r g 0 c K ∧ OthS H H' p b c ro ro := by
  have ct := conTellR h.box 7 K.line hb
  have h1 := h.put { M with bad := M.bad ++ [⟨7, K.line, 0⟩] } 1
  obtain ⟨H1, t1, c1, c2, c3⟩ := conEndR h1 hl
  refine ⟨H1, t1, ?_, c2, ((OthS.refl H p b c ro).put _).trans c3⟩
  have cl := conLast1 h.box h.row
  have ce := conLastE c2.box
  have hc := h.blk
  simp only [kC] at hc
  refine enter39 ?_
  simp [Tryz.f39]
  refine CallQ.mk (Call.shared callable70 cl) ?_
  simp
  refine loopC (fun d e H' => (d = 1 ∧ H' = H ∧ ∃ x6 : FV, e = [(0, .ptr p 0), (2, .ptr c 0), (6, x6)]) ∨ (d = 0 ∧ H' = H1 ∧ ∃ x6 : FV, e = [(0, .ptr p 0), (2, .nilp), (6, x6)])) (d := 1) (.inl ⟨rfl, rfl, _, rfl⟩) ?_
  rintro d e H' (⟨rfl, rfl, x6, rfl⟩ | ⟨rfl, rfl, x6, rfl⟩)
  · simp [hc]
    refine CallQ.mk (Call.shared callable40 ct) ?_
    simp
    refine CallQ.mk (Call.shared callable72 c1) ?_
    simp
    refine CallQ.mk (Call.shared callable70 ce) ?_
    simp
  · simp
set_option linter.unusedSimpArgs false in
set_option maxRecDepth 20000 in
set_option maxHeartbeats 4000000 in
theorem conEndAllE {H : Heap} {p b r g c : Nat} {ro : Option (Nat × Nat)} {t : FV} {B : Bd} {M : Mr} {K : Bk} (h : SIn H p b ro t B M r g 0 c K) : Con C0 39 [.ptr p 0] H (.tup []) H := by
  have cl := conLastE h.box
  refine enter39 ?_
  simp [Tryz.f39]
  refine CallQ.mk (Call.shared callable70 cl) ?_
  simp
  refine loopC (fun d e H' => H' = H ∧ d = 0 ∧ ∃ x6 : FV, e = [(0, .ptr p 0), (2, .nilp), (6, x6)]) (d := 0) ⟨rfl, rfl, _, rfl⟩ ?_
  rintro d e H' ⟨rfl, rfl, x6, rfl⟩
  simp
end Go.Proofs.YtkjgkhgklkdbjaaGreatDoor.Ev
end
section
namespace Go.Proofs.YtkjgkhgklkdbjaaGreatDoor.Ev
open Go
def tagS : ByteArray := ⟨#[45, 116, 97, 103]⟩
def bulS : ByteArray := ⟨#[45, 98, 117, 108, 108, 101, 116]⟩
def enuS : ByteArray := ⟨#[45, 101, 110, 117, 109]⟩
def iteS : ByteArray := ⟨#[45, 105, 116, 101, 109]⟩
def widS : ByteArray := ⟨#[45, 119, 105, 100, 116, 104]⟩
def listS : List ByteArray := [tagS, bulS, enuS, iteS]
theorem list_wid {k : ByteArray} (h : k ∈ listS) : Go.Lib.idxOfS [k] widS = -1 := by
  simp only [listS, List.mem_cons, List.not_mem_nil, or_false] at h
  rcases h with rfl | rfl | rfl | rfl <;> decide
def OthL (H H' : Heap) (p b : Nat) : Prop := H.length ≤ H'.length ∧ ∀ i, i < H.length → i ≠ b → i ≠ p → H'[i]? = H[i]?
set_option linter.unusedSimpArgs false in
set_option maxRecDepth 20000 in
set_option maxHeartbeats 8000000 in
theorem conList {H : Heap} {p b : Nat} {t : FV} {B : Bd} {M : Mr} (h : RIn H p b t B M) (ln : Int) (mac kind : ByteArray) (hk : kind ∈ listS) (txt : ByteArray) (hl : B.long ≤ 200000000) (hd : (endBd B).opens.length < 20) :
    ∃ H' t' ro' r c, Con C0 77 [.ptr p 0, rowF ln mac [kind] txt] H (.tup []) H' ∧ SIn H' p b ro' t' (openB (endBd B) (.mk 5 ln 0 [] [] [] noTbl)) M r 0 1 c ⟨ln, kind, 7, 0, false⟩ ∧ OthL H H' p b ∧ (∀ q g, ro' = some (q, g) → H.length ≤ q) := by
  have hpl := h.plt
  have hbl := h.blt
  have ha := h.more (fs := rowB ln mac [kind] txt) (rowB_und _ _ _ _ _)
  have hb := ha.more (fs := kC ⟨ln, kind, 7, 0, false⟩) (kC_und _ _)
  obtain ⟨H2, t2, ro2, c1, c2, c3⟩ := conOpenR (o := .own []) hb.bin hb.box hb.ne (fun q g hq => by simp at hq) (.mk 5 ln 0 [] [] [] noTbl) (by
    have : (Node.mk 5 ln 0 [] [] [] noTbl).long = 3 := rfl
    omega) hd
  have hlb : ((H ++ [rowB ln mac [kind] txt]) ++ [kC ⟨ln, kind, 7, 0, false⟩]).length = H.length + 2 := by simp
  have hpq : ∀ q g, ro2 = some (q, g) → H.length + 2 ≤ q := fun q g hq => by rw [← hlb]; exact c3.row.2 rfl q g hq
  have hle : H.length + 2 ≤ H2.length := by have := c3.le; omega
  have hold : ∀ i, i < H.length + 2 → i ≠ b → H2[i]? = ((H ++ [rowB ln mac [kind] txt]) ++ [kC ⟨ln, kind, 7, 0, false⟩])[i]? := fun i hi hib => c3.same i (by omega) hib (fun q g hq => by simp at hq)
  have hp2 : H2[p]? = some (mG b M (.own [])) := by rw [hold p (by omega) h.ne]; exact hb.box
  have hk2 : H2[H.length + 1]? = some (kC ⟨ln, kind, 7, 0, false⟩) := by
    rw [hold _ (by omega) (by omega), List.getElem?_append_right (by simp)]; simp
  have hpl2 : p < H2.length := by omega
  have hr2 : H2[H.length]? = some (rowB ln mac [kind] txt) := by
    rw [hold _ (by omega) (by omega), List.append_assoc, List.getElem?_append_right (by simp)]; simp
  -- the end
  have m1 := c2.more (fs := [.row 0 []]) (fun f hf => by simp [body] at hf)
  have m2 := m1.more (fs := [.row 0 [.ptr (H.length + 1) 0]]) (fun f hf => by
    simp only [body, List.mem_singleton] at hf
    subst hf
    simp only [FV.und0, List.length_append, List.length_singleton, decide_eq_true_eq]; omega)
  have m3 := m2.away (i := p) (fs := mG b M (.gr (H2.length + 1) 0 1 1)) h.ne (fun q g hq => by have := hpq q g hq; omega) (mG_und (by simp; omega) (by simp) M)
  have happ : (H2 ++ [[.row 0 []]] ++ [[.row 0 [.ptr (H.length + 1) 0]]] : Heap).set p (mG b M (.gr (H2.length + 1) 0 1 1)) = H2.set p (mG b M (.gr (H2.length + 1) 0 1 1)) ++ [[.row 0 []], [.row 0 [.ptr (H.length + 1) 0]]] := by
    rw [List.append_assoc, List.set_append_left _ _ hpl2]; rfl
  rw [happ] at m3
  have hlen3 : (H2.set p (mG b M (.gr (H2.length + 1) 0 1 1))).length = H2.length := List.length_set
  have hget : ∀ i, i < H2.length → i ≠ p → (H2.set p (mG b M (.gr (H2.length + 1) 0 1 1)) ++ [[.row 0 []], [.row 0 [.ptr (H.length + 1) 0]]] : Heap)[i]? = H2[i]? := fun i hi hip => by
    rw [List.getElem?_append_left (by omega), List.getElem?_set_ne (fun hh => hip hh.symm)]
  refine ⟨H2.set p (mG b M (.gr (H2.length + 1) 0 1 1)) ++ [[.row 0 []], [.row 0 [.ptr (H.length + 1) 0]]], t2, ro2, H2.length + 1, H.length + 1, ?_, ⟨m3, ?_, ?_, ?_, h.ne, by omega, by omega, by omega, by omega, by omega, fun q g hq => ?_⟩, ⟨by simp; omega, fun i hi h1 h2 => ?_⟩, fun q g hq => by have := hpq q g hq; omega⟩
  · have ca := conArg ln mac [kind] txt 0 (by omega) (by simp)
    have cc := conContL listS kind (by decide)
    rw [(Go.Lib.containsS_iff _ _).2 hk] at cc
    have ci := conIdxS [kind] widS (by simp)
    rw [list_wid hk] at ci
    have hp0 := hb.box
    rw [Node.toFV_eq] at c1
    simp only [Node.kind_mk, Node.line_mk, Node.n_mk, Node.text_mk, Node.kids_mk, Node.rows_mk, Node.grid_mk, gl, noTbl, List.map_nil] at c1
    simp only [rowF, rowB, mC, mG, kC, listS, tagS, bulS, enuS, iteS, widS, List.map_cons, List.map_nil] at *
    have hp1 : ∀ L : Heap, (H2 ++ L)[p]? = H2[p]? := fun L => heap_old hpl2
    have hs1 : ∀ (L : Heap) (v : List FV), (H2 ++ L).set p v = H2.set p v ++ L := fun L v => List.set_append_left p v hpl2
    simp only [List.append_assoc, List.cons_append, List.nil_append] at c1
    refine enter77 ?_
    simp [Tryz.f77]
    refine CallQ.mk (CallP.pure callable130 (by simp) (by simp) ca) ?_
    simp [Sized]
    refine CallQ.mk (Call.pure callable133 (by simp) (by simp) cc) ?_
    simp
    refine CallQ.mk (Call.pure callable134 (by simp) (by simp) ci) ?_
    simp
    refine CallQ.mk (Call.shared callable132 (c1.les (by repeat' first | exact FLes.nil | exact FLe.refl _ | exact FLe.emp | apply FLes.cons | apply FLe.agg))) ?_
    simp [hp2, hp1, hs1, hs_b hpl2, hs_set hpl2, lenMax]
  · rw [List.getElem?_append_left (by omega)]
    exact List.getElem?_set_self hpl2
  · rw [List.getElem?_append_right (by omega), hlen3]; simp
  · rw [hget _ (by omega) (by omega)]; exact hk2
  · have := hpq q g hq
    have hql : q < H2.length := by
      have hr := c2.row
      subst hq
      obtain ⟨_, rest, _, hh⟩ := hr
      exact (List.getElem?_eq_some_iff.1 hh).1
    omega
  · rw [hget _ (by omega) h2, hold i (by omega) h1, List.append_assoc, heap_old hi]
end Go.Proofs.YtkjgkhgklkdbjaaGreatDoor.Ev
end
section
namespace Go.Proofs.YtkjgkhgklkdbjaaGreatDoor.Ev
open Go
theorem pcs_nil (name : ByteArray) : pcsW name [] = ⟨[], [], name, 0⟩ := rfl
set_option linter.unusedSimpArgs false in
set_option maxRecDepth 20000 in
set_option maxHeartbeats 4000000 in
theorem conPiecesNil {H : Heap} {p b : Nat} {M : Mr} {o : FV} (hp : H[p]? = some (mG b M o)) (hH : HOk H) (ln : Int) (mac : ByteArray) (args : List ByteArray) (txt : ByteArray) (hn : M.name.size ≤ 4096) :
    Con C0 128 [.ptr p 0, rowF ln mac args txt, .sc (.sl [])] H (.own []) H := by
  have hpl : p < H.length := (List.getElem?_eq_some_iff.1 hp).1
  have cp := conPieces M.name [] (by simp) hn (by decide)
  have e1 : (pcsW M.name []).bad = [] := by rw [pcs_nil]
  have e2 : (pcsW M.name []).name = M.name := by rw [pcs_nil]
  have e3 : pcsL M.name [] = [] := by unfold pcsL; rw [pcs_nil]; rfl
  rw [e1, e2, e3] at cp
  have cj := conJoin [] (by decide) (by decide)
  have e4 : (joinL []).1 = [] := rfl
  rw [e4] at cj
  have hsame : H.set p (mG b M o) = H := set_sameX hp
  obtain ⟨bad, name, t0, t1, t2, t3, titled⟩ := M
  simp only [mG, rowF, List.map_nil] at *
  refine con_trimU (C := C0) (fn := Tryz.f128) Tryz.func128 rfl (by decide) mixed (mv := mv128) (vars := vars128) (c := Tryz.f128.body.getD .skip) (by kernel_rfl) rfl hH ?_
  have hpo : ∀ L : Heap, (H ++ L)[p]? = some [.ptr b 0, .own (bad.map Dg.pv), .sc (.str name), .sc (.str t0), .sc (.str t1), .sc (.str t2), .sc (.str t3), .sc (.bool titled), o] := fun L => by rw [heap_old hpl]; exact hp
  have hsa : ∀ (L : Heap), (H ++ L).set p [.ptr b 0, .own (bad.map Dg.pv), .sc (.str name), .sc (.str t0), .sc (.str t1), .sc (.str t2), .sc (.str t3), .sc (.bool titled), o] = H ++ L := fun L => by rw [List.set_append_left _ _ hpl, hsame]
  simp [Tryz.f128, hpo]
  refine CallQ.mk (Call.pure callable34 (by simp) (by simp) cp) ?_
  simp [hpo, hsa]
  refine CallQ.mk (Call.shared callable127 (conNoteNil _ p ln)) ?_
  simp
  refine CallQ.mk (Call.pure callable35 (by simp) (by simp) cj) ?_
  simp
def ItemOk (K : Bk) (N : Int) (T : List Glyph) : Prop :=
  (K.list = tagS ∧ N = K.width ∧ T = []) ∨ (K.list = bulS ∧ N = 2 ∧ T = [⟨8226, 0⟩]) ∨ (K.list = enuS ∧ N = 4 ∧ ∃ i : Nat, i < 100 ∧ K.items + 1 = i ∧ T = ofG (itoaB i ++ ⟨#[46]⟩) 0) ∨ (K.list = iteS ∧ N = 0 ∧ T = [])
theorem itoa_small {i : Nat} (h : i < 100) : (itoaB i).size ≤ 2 := by
  show (Go.Lib.decDigits i).toArray.size ≤ 2
  rw [List.size_toArray, Go.Lib.decDigits]
  split
  · simp
  · rw [Go.Lib.decDigits]
    split
    · simp
    · omega
set_option linter.unusedSimpArgs false in
set_option maxRecDepth 20000 in
set_option maxHeartbeats 16000000 in
theorem conItem {H : Heap} {p b r g c : Nat} {ro : Option (Nat × Nat)} {t : FV} {B : Bd} {M : Mr} {K : Bk} (h : SIn H p b ro t B M r g 1 c K) (ln : Int) (mac txt : ByteArray) {N : Int} {T : List Glyph} (hq : ItemOk K N T) (hi0 : 0 ≤ K.items) (hi1 : K.items ≤ 1000) (hn : M.name.size ≤ 4096)
    {C : Bd} (hC : C = if K.tag = true then closeBd B 4 else B) (hl : B.long ≤ 200000000) (hlC : C.long ≤ 200000000) (hT : T.length ≤ 1000) (hd : (endBd C).opens.length < 20) :
    ∃ H' t' ro', Con C0 78 [.ptr p 0, rowF ln mac [] txt] H (.tup []) H' ∧ SIn H' p b ro' t' (openB (endBd C) (.mk 4 ln N T [] [] noTbl)) M r g 1 c { K with items := K.items + 1, tag := true } ∧ OthS H H' p b c ro ro' := by
  have ha := h.more (fs := rowB ln mac [] txt) (rowB_und _ _ _ _ _)
  have hal : (H ++ [rowB ln mac [] txt]).length = H.length + 1 := by simp
  have hrowa : (H ++ [rowB ln mac [] txt])[H.length]? = some (rowB ln mac [] txt) := by rw [heap_at0]; rfl
  have hrq : ∀ q g, ro = some (q, g) → q < H.length := fun q g hq => by
    have hr := h.bin.row
    subst hq
    obtain ⟨_, rest, _, hh⟩ := hr
    exact (List.getElem?_eq_some_iff.1 hh).1
  have hbl := h.blt
  have hpl := h.plt
  have hrl := h.rlt
  have hcl := h.clt
  -- the tag that is open
  obtain ⟨Hc, tc, k1, k2, k3, k4, k5⟩ : ∃ Hc tc, (K.tag = true → ∃ x, Con C0 104 [.ptr b 0, .sc (.int .i64 4)] (H ++ [rowB ln mac [] txt]) (.sc (.bool x)) Hc) ∧ (K.tag = false → H ++ [rowB ln mac [] txt] = Hc) ∧ SIn Hc p b ro tc C M r g 1 c K ∧ OthS (H ++ [rowB ln mac [] txt]) Hc p b c ro ro ∧ Hc[H.length]? = some (rowB ln mac [] txt) := by
    cases hk : K.tag
    · rw [hk] at hC
      simp only [Bool.false_eq_true, if_false] at hC
      subst hC
      exact ⟨_, t, by simp, fun _ => rfl, ha, OthS.refl _ _ _ _ _, hrowa⟩
    · rw [hk] at hC
      simp only [if_true] at hC
      subst hC
      obtain ⟨Hc, tc, c1, c2, c3⟩ := conClose ha.bin 4 (by omega)
      refine ⟨Hc, tc, fun _ => ⟨_, c1⟩, by simp, ha.bld c2 c3.toG, c3.toG.oth p c, ?_⟩
      rw [c3.same H.length (by omega) (fun q g hq => by have := hrq q g hq; omega)]
      exact hrowa
  have hcle : H.length + 1 ≤ Hc.length := by have := k4.le; omega
  have m1 := k3.putK { K with items := K.items + 1 }
  have hlen1 : (Hc.set c (kC { K with items := K.items + 1 })).length = Hc.length := List.length_set
  have m2 := m1.more (fs := nodeO (.mk 4 ln N T [] [] noTbl)) (fun f hf => nodeO_und _ _ f hf)
  have hHd : ∃ Hd : Heap, Hd = Hc.set c (kC { K with items := K.items + 1 }) ++ [nodeO (.mk 4 ln N T [] [] noTbl)] := ⟨_, rfl⟩
  obtain ⟨Hd, hHd⟩ := hHd
  rw [← hHd] at m2
  have hXl : (Node.mk 4 ln N T [] [] noTbl).long = 3 + T.length := by rw [Node.long_eq]; simp [noTbl, rowsLong, sumBy]
  obtain ⟨He, te, roe, e1, e2, e3⟩ := conOpenR m2.bin m2.box m2.pb (fun q g hq => (m2.out q g hq).1) (.mk 4 ln N T [] [] noTbl) (by omega) hd
  have m3 := m2.bld e2 e3
  have m4 := m3.putK { K with items := K.items + 1, tag := true }
  have hde : Hd.length = Hc.length + 1 := by rw [hHd]; simp
  refine ⟨He.set c (kC { K with items := K.items + 1, tag := true }), te, roe, ?_, m4, ?_⟩
  · have wI : IntKind.i64.wrap (K.items + 1) = K.items + 1 := wrap64 (by omega) (by omega)
    have cl := conLast1 ha.box ha.row
    have cp := conPiecesNil m1.box m1.bin.ok ln mac [] txt hn
    have hka := ha.blk
    have hpc := k3.box
    have hpa := ha.box
    have hcc := k3.blk
    have hc1 := m1.blk
    have hp1 := m1.box
    have hr1 : (Hc.set c (kC { K with items := K.items + 1 }))[H.length]? = some (rowB ln mac [] txt) := by rw [List.getElem?_set_ne (by omega)]; exact k5
    have hc3 := m3.blk
    have hcl1 := m1.clt
    have hcl3 := m3.clt
    have hpl1 := m1.plt
    have cpz : ∀ L : Heap, HOk (Hc.set c (kC { K with items := K.items + 1 }) ++ L) → Con C0 128 [.ptr p 0, rowF ln mac [] txt, .sc (.sl [])] (Hc.set c (kC { K with items := K.items + 1 }) ++ L) (.own []) (Hc.set c (kC { K with items := K.items + 1 }) ++ L) := fun L hL => conPiecesNil (o := .gr r g 1 1) (by rw [heap_old hpl1]; exact hp1) hL ln mac [] txt hn
    have cp2 := cpz [nodeO (.mk 4 ln 0 [] [] [] noTbl)] (by
      have := m1.more (fs := nodeO (.mk 4 ln 0 [] [] [] noTbl)) (fun f hf => nodeO_und _ _ f hf)
      exact this.bin.ok)
    clear cpz
    rw [Node.toFV_eq] at e1
    simp only [Node.kind_mk, Node.line_mk, Node.n_mk, Node.text_mk, Node.kids_mk, Node.rows_mk, Node.grid_mk, gl, noTbl, List.map_nil] at e1
    have hK2 : kC { K with items := K.items + 1 } = [.sc (.int .i64 K.line), .sc (.str K.list), .sc (.int .i64 K.width), .sc (.int .i64 (K.items + 1)), .sc (.bool K.tag), .nilp] := rfl
    have hsetK : ∀ v : List FV, Hc.set c v = (Hc.set c (kC { K with items := K.items + 1 })).set c v := fun v => by rw [List.set_set]
    obtain ⟨H1, hH1⟩ : ∃ H1, H1 = Hc.set c (kC { K with items := K.items + 1 }) := ⟨_, rfl⟩
    rw [← hH1] at hHd hc1 hp1 hr1 hcl1 hpl1 hlen1 cp2
    rw [hK2] at hH1 hc1
    have o1 : ∀ (L : Heap), (H1 ++ L)[c]? = some [.sc (.int .i64 K.line), .sc (.str K.list), .sc (.int .i64 K.width), .sc (.int .i64 (K.items + 1)), .sc (.bool K.tag), .nilp] := fun L => by rw [heap_old hcl1]; exact hc1
    have o2 : ∀ (L : Heap), (H1 ++ L)[H.length]? = some (rowB ln mac [] txt) := fun L => by rw [heap_old (by omega)]; exact hr1
    have o3 : ∀ (L : Heap), (H1 ++ L)[p]? = some (mG b M (.gr r g 1 1)) := fun L => by rw [heap_old hpl1]; exact hp1
    have o4 : ∀ x : List FV, (H1 ++ [x])[Hc.length]? = some x := fun x => by rw [← hlen1, heap_at0]; rfl
    have o5 : ∀ x y : List FV, (H1 ++ [x]).set Hc.length y = H1 ++ [y] := fun x y => by rw [← hlen1, List.set_append_right _ _ (Nat.le_refl _)]; simp
    have sz : ∀ (l : List Glyph), Sized 2 (l.map Glyph.pv) := sizedG
    simp only [rowF, rowB, mG, kC, nodeO, List.map_nil, Node.kind_mk, Node.line_mk, Node.n_mk, Node.text_mk, Node.kids_mk, Node.rows_mk, Node.grid_mk, noTbl] at *
    refine enter78 ?_
    simp [Tryz.f78]
    refine CallQ.mk (Call.shared callable70 cl) ?_
    have hL0 : K.list ≠ ⟨#[]⟩ := by
      rcases hq with h | h | h | h <;> rw [h.1] <;> decide
    obtain ⟨kln, kls, kwd, kit, ktg⟩ := K
    simp only at *
    have a4 : ∀ x : List FV, (H1 ++ [x])[H1.length]? = some x := fun x => by rw [heap_at0]; rfl
    have a5 : ∀ x y : List FV, (H1 ++ [x]).set H1.length y = H1 ++ [y] := fun x y => by rw [List.set_append_right _ _ (Nat.le_refl _)]; simp
    have a6 : ∀ L : Heap, (H1 ++ L)[c]? = H1[c]? := fun L => heap_old hcl1
    unfold ItemOk at hq
    simp only [tagS, bulS, enuS, iteS] at hq
    subst hHd
    have s2 : Sized 2 [PV.agg [PV.int IntKind.i32 8226, PV.int IntKind.u8 0]] := fun q hq => by rw [List.mem_singleton.1 hq]; rfl
    cases ktg
    obtain rfl := k2 rfl
    simp [hka, hL0, wI, k5, ← hH1, hr1, a4, a5]
    rotate_left
    obtain ⟨xx, k1⟩ := k1 rfl
    simp [hka, hL0, hpa]
    refine CallQ.mk (Call.shared callable104 k1) ?_
    simp [hcc, k5, wI, ← hH1, hr1, a4, a5]
    all_goals
      rcases hq with ⟨hk1, hN, hT2⟩ | ⟨hk1, hN, hT2⟩ | ⟨hk1, hN, i, hi, hii, hT2⟩ | ⟨hk1, hN, hT2⟩
      all_goals
        subst hk1
        subst hN
        subst hT2
        try simp only [List.map_cons, List.map_nil, Glyph.pv] at e1
        simp [a6, hc1, a4, a5]
      · refine DrawC.mk2 ⟨fun _ _ => .undef, fun _ _ H => (.own [], H)⟩ ?_
        simp [a6, hc1, a4, a5, o2]
        refine ⟨?_, ?_, ?_⟩
        all_goals
          refine CallQ.mk (CallD.shared callable128 cp2 ⟨rfl, rfl⟩) ?_
          simp [a6, hc1, a4, a5, o2]
          refine CallQ.mk (Call.shared callable132 e1) ?_
          simp [hc3]
      · refine ⟨s2, CallQ.mk (Call.shared callable132 e1) ?_⟩
        simp [hc3]
      · have ci := conItoa i hi
        have cs := itoa_small hi
        rw [← hii] at ci
        have z1 : (⟨#[46]⟩ : ByteArray).size = 1 := rfl
        have q1 : (itoaB i).size + (⟨#[46]⟩ : ByteArray).size ≤ 1099511627776 := by omega
        have co := conOf (itoaB i ++ ⟨#[46]⟩) 0 (by rw [ByteArray.size_append]; omega)
        generalize ofG (itoaB i ++ ⟨#[46]⟩) 0 = G at *
        refine CallQ.mk (Call.pure callable136 (by simp) (by simp) ci) ?_
        simp [q1]
        refine CallQ.mk (Call.pure callable126 (by simp) (by simp) co) ?_
        simp [a6, hc1, a4, a5]
        refine CallQ.mk (Call.shared callable132 e1) ?_
        simp [hc3]
      · refine CallQ.mk (Call.shared callable132 e1) ?_
        simp [hc3]
  · have f1 := (((OthS.app H [rowB ln mac [] txt] p b c ro).trans k4).putK (kC { K with items := K.items + 1 })).trans (OthS.app _ [nodeO (.mk 4 ln N T [] [] noTbl)] p b c ro)
    rw [← hHd] at f1
    exact (f1.trans (e3.oth p c)).putK _
end Go.Proofs.YtkjgkhgklkdbjaaGreatDoor.Ev
end
section
namespace Go.Proofs.YtkjgkhgklkdbjaaGreatDoor.Ev
open Go
set_option linter.unusedSimpArgs false in
set_option maxRecDepth 20000 in
set_option maxHeartbeats 4000000 in
theorem conInlineText {H : Heap} {p : Nat} (hH : HOk H) (hpl : p < H.length) (ln : Int) (args : List ByteArray) (txt : ByteArray) (hs : txt.size ≤ 1073741824) (hbad : lineD txt = []) :
    Con C0 71 [.ptr p 0, rowF ln ⟨#[]⟩ args txt] H (.tup [.sc (gl (lineG ⟨0, 0⟩ txt)), .sc (.bool true)]) H := by
  have cl := conLine ⟨0, 0⟩ txt hs
  rw [hbad] at cl
  generalize lineG ⟨0, 0⟩ txt = L at *
  generalize lineF ⟨0, 0⟩ txt = F at *
  simp only [rowF, Face.cells, gl, List.map_nil] at *
  refine con_trimU (C := C0) (fn := Tryz.f71) Tryz.func71 rfl (by decide) mixed (mv := mv71) (vars := vars71) (c := Tryz.f71.body.getD .skip) (by kernel_rfl) rfl hH ?_
  simp [Tryz.f71]
  refine CallQ.mk (Call.pure callable55 (by simp) (by simp) cl) ?_
  simp
  refine CallQ.mk (Call.shared callable127 (conNoteNil _ p ln)) ?_
  simp
end Go.Proofs.YtkjgkhgklkdbjaaGreatDoor.Ev
end
section
namespace Go.Proofs.YtkjgkhgklkdbjaaGreatDoor.Ev
open Go
def blS : ByteArray := ⟨#[66, 108]⟩
def itS : ByteArray := ⟨#[73, 116]⟩
def elS : ByteArray := ⟨#[69, 108]⟩
theorem bl_call : callE blS = false := by rfl
theorem it_call : callE itS = false := by rfl
theorem el_call : callE elS = false := by rfl
set_option linter.unusedSimpArgs false in
set_option maxRecDepth 20000 in
set_option maxHeartbeats 4000000 in
theorem conInlineN {H : Heap} {p : Nat} (hH : HOk H) (ln : Int) (mac : ByteArray) (args : List ByteArray) (txt : ByteArray) (h0 : mac ≠ ⟨#[]⟩) (hc : callE mac = false) (hm : mac.size ≤ 1073741824) :
    Con C0 71 [.ptr p 0, rowF ln mac args txt] H (.tup [.own [], .sc (.bool false)]) H := by
  have cc := conCallable mac hm
  rw [hc] at cc
  simp only [rowF]
  refine con_trimU (C := C0) (fn := Tryz.f71) Tryz.func71 rfl (by decide) mixed (mv := mv71) (vars := vars71) (c := Tryz.f71.body.getD .skip) (by kernel_rfl) rfl hH ?_
  simp [Tryz.f71, h0]
  refine CallQ.mk (Call.pure callable36 (by simp) (by simp) cc) ?_
  simp
set_option linter.unusedSimpArgs false in
set_option maxRecDepth 20000 in
set_option maxHeartbeats 8000000 in
theorem rowBl {H : Heap} {p b : Nat} {t : FV} {B : Bd} {M : Mr} (h : RIn H p b t B M) (ln : Int) (kind : ByteArray) (hk : kind ∈ listS) (txt : ByteArray) (hl : B.long ≤ 200000000) (hd : (endBd B).opens.length < 20) :
    ∃ H' t' ro' r c, Con C0 38 [.ptr p 0, .agg (rowB ln blS [kind] txt)] H (.tup []) H' ∧ SIn H' p b ro' t' (openB (endBd B) (.mk 5 ln 0 [] [] [] noTbl)) M r 0 1 c ⟨ln, kind, 7, 0, false⟩ ∧ OthL H H' p b ∧ (∀ q g, ro' = some (q, g) → H.length ≤ q) := by
  have h2 := h.more (fs := rowB ln blS [kind] txt) (rowB_und _ _ _ _ _)
  obtain ⟨H1, t1, ro1, r, c, e1, e2, e3, e4⟩ := conList h2 ln blS kind hk txt hl hd
  refine ⟨H1, t1, ro1, r, c, ?_, e2, ⟨by have := e3.1; simp at this; omega, fun i hi h1 h3 => by rw [e3.2 i (by simp; omega) h1 h3, heap_old hi]⟩, fun q g hq => by have := e4 q g hq; simp at this; omega⟩
  have cl := conLast0 h2.box
  have ci := conInlineN (p := p) h2.bin.ok ln blS [kind] txt (by decide) bl_call (by decide)
  simp only [rowF, rowB, blS, List.map_cons, List.map_nil] at *
  refine enter38 ?_
  simp [Tryz.f38]
  refine CallQ.mk (Call.shared callable70 cl) ?_
  simp
  refine CallQ.mk (Call.shared callable71 ci) ?_
  simp
  refine CallQ.mk (Call.shared callable77 e1) ?_
  simp
set_option linter.unusedSimpArgs false in
set_option maxRecDepth 20000 in
set_option maxHeartbeats 8000000 in
theorem rowIt {H : Heap} {p b r g c : Nat} {ro : Option (Nat × Nat)} {t : FV} {B : Bd} {M : Mr} {K : Bk} (h : SIn H p b ro t B M r g 1 c K) (hL0 : K.list ≠ ⟨#[]⟩) (ln : Int) (txt : ByteArray) {N : Int} {T : List Glyph} (hq : ItemOk K N T) (hi0 : 0 ≤ K.items) (hi1 : K.items ≤ 1000) (hn : M.name.size ≤ 4096)
    {C : Bd} (hC : C = if K.tag = true then closeBd B 4 else B) (hl : B.long ≤ 200000000) (hlC : C.long ≤ 200000000) (hT : T.length ≤ 1000) (hd : (endBd C).opens.length < 20) :
    ∃ H' t' ro', Con C0 38 [.ptr p 0, .agg (rowB ln itS [] txt)] H (.tup []) H' ∧ SIn H' p b ro' t' (openB (endBd C) (.mk 4 ln N T [] [] noTbl)) M r g 1 c { K with items := K.items + 1, tag := true } ∧ OthS H H' p b c ro ro' := by
  have h2 := h.more (fs := rowB ln itS [] txt) (rowB_und _ _ _ _ _)
  obtain ⟨H1, t1, ro1, e1, e2, e3⟩ := conItem h2 ln itS txt hq hi0 hi1 hn hC hl hlC hT hd
  refine ⟨H1, t1, ro1, ?_, e2, (OthS.app H [rowB ln itS [] txt] p b c ro).trans e3⟩
  have cl := conLast1 h2.box h2.row
  have ci := conInlineN (p := p) h2.bin.ok ln itS [] txt (by decide) it_call (by decide)
  have hk := h2.blk
  simp only [rowF, rowB, itS, kC, List.map_nil] at *
  refine enter38 ?_
  simp [Tryz.f38]
  refine CallQ.mk (Call.shared callable70 cl) ?_
  simp [hk]
  refine CallQ.mk (Call.shared callable71 ci) ?_
  simp [hk, hL0]
  refine CallQ.mk (Call.shared callable78 e1) ?_
  simp
set_option linter.unusedSimpArgs false in
set_option maxRecDepth 20000 in
set_option maxHeartbeats 8000000 in
theorem rowEl {H : Heap} {p b r g c : Nat} {ro : Option (Nat × Nat)} {t : FV} {B : Bd} {M : Mr} {K : Bk} (h : SIn H p b ro t B M r g 1 c K) (hL0 : K.list ≠ ⟨#[]⟩) (ln : Int) (txt : ByteArray) (hl : B.long ≤ 200000000) :
    ∃ H' t', Con C0 38 [.ptr p 0, .agg (rowB ln elS [] txt)] H (.tup []) H' ∧ SIn H' p b ro t' (closeBd B 5) M r g 0 c K ∧ OthS H H' p b c ro ro := by
  have h2 := h.more (fs := rowB ln elS [] txt) (rowB_und _ _ _ _ _)
  obtain ⟨H1, t1, e1, e2, e3⟩ := conEndR h2 (by omega)
  refine ⟨H1, t1, ?_, e2, (OthS.app H [rowB ln elS [] txt] p b c ro).trans e3⟩
  have cl := conLast1 h2.box h2.row
  have ci := conInlineN (p := p) h2.bin.ok ln elS [] txt (by decide) el_call (by decide)
  have hk := h2.blk
  simp only [rowF, rowB, elS, kC, List.map_nil] at *
  refine enter38 ?_
  simp [Tryz.f38]
  refine CallQ.mk (Call.shared callable70 cl) ?_
  simp [hk]
  refine CallQ.mk (Call.shared callable71 ci) ?_
  simp [hk, hL0]
  refine CallQ.mk (Call.shared callable72 e1) ?_
  simp
def lineBd (B : Bd) (G : List Glyph) (ln : Int) : Bd := if trimG G = [] then endBd B else textBd B G ln
set_option linter.unusedSimpArgs false in
set_option maxRecDepth 20000 in
set_option maxHeartbeats 8000000 in
theorem rowTx {H : Heap} {p b r g c : Nat} {ro : Option (Nat × Nat)} {t : FV} {B : Bd} {M : Mr} {K : Bk} (h : SIn H p b ro t B M r g 1 c K) (ln : Int) (txt : ByteArray) (hs : txt.size ≤ 100000000) (hbad : lineD txt = []) {G : List Glyph} (hG : lineG ⟨0, 0⟩ txt = G) (hl : B.long ≤ 200000000) :
    ∃ H' t', Con C0 38 [.ptr p 0, .agg (rowB ln ⟨#[]⟩ [] txt)] H (.tup []) H' ∧ SIn H' p b ro t' (lineBd B G ln) M r g 1 c K ∧ OthS H H' p b c ro ro := by
  have h2 := h.more (fs := rowB ln ⟨#[]⟩ [] txt) (rowB_und _ _ _ _ _)
  have ci := conInlineText (p := p) h2.bin.ok h2.plt ln [] txt (by omega) hbad
  rw [hG] at ci
  have hgl : G.length ≤ 100000000 := by have := line_len ⟨0, 0⟩ txt; rw [hG] at this; omega
  have ctr := conTrimG G (by omega)
  have cl := conLast1 h2.box h2.row
  have hk := h2.blk
  have hpx := h2.box
  have hrw : (H ++ [rowB ln ⟨#[]⟩ [] txt])[H.length]? = some (rowB ln ⟨#[]⟩ [] txt) := by rw [heap_at0]; rfl
  unfold lineBd
  by_cases hz : trimG G = []
  · rw [if_pos hz]
    obtain ⟨H1, t1, e1, e2, e3⟩ := conEnd h2.bin (by omega)
    refine ⟨H1, t1, ?_, h2.bld e2 e3.toG, (OthS.app H [rowB ln ⟨#[]⟩ [] txt] p b c ro).trans (e3.toG.oth p c)⟩
    rw [hz] at ctr
    simp only [rowF, rowB, kC, mG, gl, List.map_nil] at *
    refine enter38 ?_
    simp [Tryz.f38]
    refine CallQ.mk (Call.shared callable70 cl) ?_
    simp [hk]
    refine CallQ.mk (Call.shared callable71 ci) ?_
    simp
    refine CallQ.mk (Call.pure callable73 (by simp) (by simp) ctr) ?_
    simp [hpx]
    refine CallQ.mk (Call.shared callable54 e1) ?_
    simp
  · rw [if_neg hz]
    obtain ⟨H1, e1, e2, e3⟩ := conText h2.bin G ln (by unfold Bd.long at hl; omega)
    refine ⟨H1, _, ?_, h2.bld e2 e3.toG, (OthS.app H [rowB ln ⟨#[]⟩ [] txt] p b c ro).trans (e3.toG.oth p c)⟩
    generalize joinS B.text G = JS at *
    have hz' : ¬ ((trimG G).length : Int) = 0 := fun h0 => hz (List.length_eq_zero_iff.1 (by omega))
    generalize trimG G = TG at *
    simp only [rowF, rowB, kC, mG, gl, List.map_nil] at *
    refine enter38 ?_
    simp [Tryz.f38]
    refine CallQ.mk (Call.shared callable70 cl) ?_
    simp [hk]
    refine CallQ.mk (Call.shared callable71 ci) ?_
    simp
    refine CallQ.mk (Call.pure callable73 (by simp) (by simp) ctr) ?_
    simp [hpx, hz, hz']
    refine CallQ.mk (CallP.shared callable74 e1) ?_
    simp
end Go.Proofs.YtkjgkhgklkdbjaaGreatDoor.Ev
end
section
namespace Go.Proofs.YtkjgkhgklkdbjaaGreatDoor.Ev
open Go
theorem glyB_len (s : ByteArray) (n : Int) : (glyB s n).length = s.size := by unfold glyB; rw [List.length_map, bI_len]
def Mr.zero : Mr := ⟨[], ByteArray.empty, ByteArray.empty, ByteArray.empty, ByteArray.empty, ByteArray.empty, false⟩
def rowP (ln : Int) (mac : ByteArray) (args : List ByteArray) : PV := .agg [.int .i64 ln, .str mac, .sl (args.map .str), .str ByteArray.empty]
end Go.Proofs.YtkjgkhgklkdbjaaGreatDoor.Ev
end
section
namespace Go.Proofs.YtkjgkhgklkdbjaaGreatDoor.Ev
open Go
def rowT (ln : Int) (txt : ByteArray) : PV := .agg [.int .i64 ln, .str ByteArray.empty, .sl [], .str txt]
def itemR (ts : List ByteArray) (i : Nat) : List PV := [rowP (3 + 2 * (i : Int)) itS [], rowT (4 + 2 * (i : Int)) (ts.getD i ⟨#[]⟩)]
def itemsR (ts : List ByteArray) (n : Nat) : List PV := (List.range n).flatMap (itemR ts)
theorem itemsR_succ (ts : List ByteArray) (n : Nat) : itemsR ts (n + 1) = itemsR ts n ++ itemR ts n := by simp [itemsR, List.range_succ]
theorem itemsR_len (ts : List ByteArray) (n : Nat) : (itemsR ts n).length = 2 * n := by
  induction n with
  | zero => rfl
  | succ n ih => rw [itemsR_succ, List.length_append, ih]; simp [itemR]; omega
theorem itemsR_at (ts : List ByteArray) : ∀ (n i : Nat), i < n → (itemsR ts n)[2 * i]? = some (rowP (3 + 2 * (i : Int)) itS []) ∧ (itemsR ts n)[2 * i + 1]? = some (rowT (4 + 2 * (i : Int)) (ts.getD i ⟨#[]⟩)) := by
  intro n
  induction n with
  | zero => intro i h; omega
  | succ n ih =>
    intro i h
    rw [itemsR_succ]
    have hl := itemsR_len ts n
    by_cases hi : i < n
    · obtain ⟨h1, h2⟩ := ih i hi
      exact ⟨by rw [List.getElem?_append_left (by omega)]; exact h1, by rw [List.getElem?_append_left (by omega)]; exact h2⟩
    · obtain rfl : i = n := by omega
      refine ⟨?_, ?_⟩
      · rw [List.getElem?_append_right (by omega), hl, Nat.sub_self]; rfl
      · rw [List.getElem?_append_right (by omega), hl, show 2 * i + 1 - 2 * i = 1 by omega]; rfl
def endR (closed : Bool) : List PV := if closed = true then [rowP 90 elS []] else []
def listR (x kind : ByteArray) (ts : List ByteArray) (n : Nat) (closed : Bool) : List PV := ([rowP 1 dtS [x], rowP 2 blS [kind]] ++ itemsR ts n) ++ endR closed
theorem listR_len (x kind : ByteArray) (ts : List ByteArray) (n : Nat) (closed : Bool) : (listR x kind ts n closed).length = 2 + 2 * n + (if closed = true then 1 else 0) := by
  unfold listR endR
  rw [List.length_append, List.length_append, itemsR_len]
  cases closed <;> simp <;> omega
theorem listR_item (x kind : ByteArray) (ts : List ByteArray) (n : Nat) (closed : Bool) {i : Nat} (h : i < n) : (listR x kind ts n closed)[2 + 2 * i]? = some (rowP (3 + 2 * (i : Int)) itS []) ∧ (listR x kind ts n closed)[3 + 2 * i]? = some (rowT (4 + 2 * (i : Int)) (ts.getD i ⟨#[]⟩)) := by
  obtain ⟨h1, h2⟩ := itemsR_at ts n i h
  have hl := itemsR_len ts n
  unfold listR
  refine ⟨?_, ?_⟩
  · rw [List.getElem?_append_left (by simp; omega), List.getElem?_append_right (by simp)]
    rw [← h1]; congr 1; simp
  · rw [List.getElem?_append_left (by simp; omega), List.getElem?_append_right (by simp; omega)]
    rw [← h2]; congr 1; simp; omega
theorem listR_end (x kind : ByteArray) (ts : List ByteArray) (n : Nat) : (listR x kind ts n true)[2 + 2 * n]? = some (rowP 90 elS []) := by
  have hl := itemsR_len ts n
  unfold listR
  rw [List.getElem?_append_right (by simp; omega)]
  have : 2 + 2 * n - ([rowP 1 dtS [x], rowP 2 blS [kind]] ++ itemsR ts n).length = 0 := by simp; omega
  rw [this]; rfl
def tauK (kind : ByteArray) : Tau := fun i => if kind = tagS then (7, []) else if kind = bulS then (2, [⟨8226, 0⟩]) else if kind = enuS then (4, ofG (itoaB (i + 1) ++ ⟨#[46]⟩) 0) else (0, [])
theorem tau_item {kind : ByteArray} (h : kind ∈ listS) {i : Nat} (hi : i < 50) {ln : Int} {tg : Bool} : ItemOk ⟨ln, kind, 7, i, tg⟩ (tauK kind i).1 (tauK kind i).2 := by
  have e1 : bulS ≠ tagS := by decide
  have e2 : enuS ≠ tagS := by decide
  have e3 : enuS ≠ bulS := by decide
  have e4 : iteS ≠ tagS := by decide
  have e5 : iteS ≠ bulS := by decide
  have e6 : iteS ≠ enuS := by decide
  simp only [listS, List.mem_cons, List.not_mem_nil, or_false] at h
  unfold ItemOk tauK
  rcases h with rfl | rfl | rfl | rfl
  · exact .inl ⟨rfl, by simp, by simp⟩
  · exact .inr (.inl ⟨rfl, by simp [e1], by simp [e1]⟩)
  · exact .inr (.inr (.inl ⟨rfl, by simp [e2, e3], i + 1, by omega, by simp, by simp [e2, e3]⟩))
  · exact .inr (.inr (.inr ⟨rfl, by simp [e4, e5, e6], by simp [e4, e5, e6]⟩))
theorem digs {n : Nat} (h : n < 100) : Go.Lib.decDigits n = if n < 10 then [UInt8.ofNat (48 + n)] else [UInt8.ofNat (48 + n / 10), UInt8.ofNat (48 + n % 10)] := by
  rw [Go.Lib.decDigits]
  split
  · rfl
  · rw [Go.Lib.decDigits, dif_pos (by omega)]; rfl
def enumT (i : Nat) : List Glyph := ofG (itoaB (i + 1) ++ ⟨#[46]⟩) 0
def enumU (i : Nat) : List Glyph := ofG (⟨(if i + 1 < 10 then [UInt8.ofNat (48 + (i + 1))] else [UInt8.ofNat (48 + (i + 1) / 10), UInt8.ofNat (48 + (i + 1) % 10)]).toArray⟩ ++ ⟨#[46]⟩) 0
theorem enum_u {i : Nat} (h : i < 20) : enumT i = enumU i := by
  unfold enumT enumU itoaB
  rw [digs (by omega)]
set_option maxRecDepth 20000 in
theorem enum_ok0 : ∀ i : Fin 20, squeeze (enumU i.val) = enumU i.val ∧ (enumU i.val).length ≤ 10 := by decide +kernel
theorem enum_ok (i : Fin 20) : squeeze (enumT i.val) = enumT i.val ∧ (enumT i.val).length ≤ 10 := by
  rw [enum_u i.isLt]; exact enum_ok0 i
theorem tau_ok {kind : ByteArray} (h : kind ∈ listS) : TauOk (tauK kind) 20 := fun i hi => by
  have he := enum_ok ⟨i, hi⟩
  unfold enumT at he
  simp only at he
  unfold tauK
  split
  · exact ⟨by decide, by decide, by decide, by decide⟩
  · split
    · exact ⟨by decide, by decide, by decide, by decide⟩
    · split
      · exact ⟨(by decide : (0 : Int) ≤ 4), (by decide : (4 : Int) ≤ 200), he.1, he.2⟩
      · exact ⟨by decide, by decide, by decide, by decide⟩
end Go.Proofs.YtkjgkhgklkdbjaaGreatDoor.Ev
end
section
namespace Go.Proofs.YtkjgkhgklkdbjaaGreatDoor.Ev
open Go
def listM (x : ByteArray) : Mr := { Mr.zero with t0 := x, titled := true }
def prevB (x : ByteArray) (τ : Tau) (ts : List ByteArray) (k : Nat) (ln : Int) : Bd := match k with
  | 0 => outB x τ ts 0 ln
  | k + 1 => lstB x τ ts k ln
theorem long_tag {τ : Tau} {ts : List ByteArray} {n i : Nat} (hτ : TauOk τ n) (hi : i < n) (hs : ∀ i, (ts.getD i ⟨#[]⟩).size ≤ 1000) : (tagI τ ts i).long ≤ 1016 := by
  have h := (hτ i hi).2.2.2
  have h2 := hs i
  have hp : sumBy Node.long (parL (ts.getD i ⟨#[]⟩) (4 + 2 * (i : Int))) ≤ 1003 := by
    unfold parL
    split
    · simp [sumBy]
    · rw [sumBy, sumBy, Node.long_eq]
      simp only [Node.text_mk, Node.kids_mk, Node.rows_mk, Node.grid_mk, noTbl, rowsLong, sumBy]
      have : (glyB (ts.getD i ⟨#[]⟩) 0).length = (ts.getD i ⟨#[]⟩).size := glyB_len _ _
      have : (ByteArray.empty).size = 0 := rfl
      omega
  rw [Node.long_eq]
  unfold tagI
  simp only [Node.text_mk, Node.kids_mk, Node.rows_mk, Node.grid_mk, noTbl, rowsLong, sumBy]
  have : (ByteArray.empty).size = 0 := rfl
  omega
theorem long_tags {τ : Tau} {ts : List ByteArray} {n : Nat} (hτ : TauOk τ n) (hs : ∀ i, (ts.getD i ⟨#[]⟩).size ≤ 1000) : ∀ k, k ≤ n → sumBy Node.long (tags τ ts k) ≤ 1016 * k := by
  intro k
  induction k with
  | zero => intro _; simp [tags, sumBy]
  | succ k ih =>
    intro hk
    have := ih (by omega)
    have h2 := long_tag hτ (show k < n by omega) hs
    rw [tags_succ, sumBy_append, sumBy, sumBy]
    omega
theorem long_ind (l : List Node) : (indN l).long = 3 + sumBy Node.long l := by
  rw [Node.long_eq]
  unfold indN
  simp only [Node.text_mk, Node.kids_mk, Node.rows_mk, Node.grid_mk, noTbl, rowsLong, sumBy]
  have : (ByteArray.empty).size = 0 := rfl
  simp
theorem long_out {x : ByteArray} {τ : Tau} {ts : List ByteArray} {n k : Nat} (hτ : TauOk τ n) (hk : k ≤ n) (hs : ∀ i, (ts.getD i ⟨#[]⟩).size ≤ 1000) (ln : Int) : (outB x τ ts k ln).long ≤ 1016 * k + 3 := by
  have := long_tags hτ hs k hk
  unfold outB lB Bd.long
  simp only [sumBy, long_ind, List.length_nil]
  omega
theorem long_mid {x : ByteArray} {τ : Tau} {ts : List ByteArray} {n k : Nat} (hτ : TauOk τ n) (hk : k < n) (hs : ∀ i, (ts.getD i ⟨#[]⟩).size ≤ 1000) (ln : Int) : (midB x τ ts k ln).long ≤ 1016 * k + 16 := by
  have := long_tags hτ hs k (by omega)
  have h := (hτ k hk).2.2.2
  have ht : (tag0 τ k).long ≤ 13 := by
    rw [Node.long_eq]
    unfold tag0
    simp only [Node.text_mk, Node.kids_mk, Node.rows_mk, Node.grid_mk, noTbl, rowsLong, sumBy]
    have : (ByteArray.empty).size = 0 := rfl
    omega
  unfold midB lB Bd.long
  simp only [sumBy, long_ind, List.length_nil]
  omega
theorem long_lst {x : ByteArray} {τ : Tau} {ts : List ByteArray} {n k : Nat} (hτ : TauOk τ n) (hk : k < n) (hs : ∀ i, (ts.getD i ⟨#[]⟩).size ≤ 1000) (ln : Int) : (lstB x τ ts k ln).long ≤ 1016 * k + 1016 := by
  have hm := long_mid (x := x) hτ hk hs ln
  unfold lstB
  split
  · omega
  · have := hs k
    have hg : (glyB (ts.getD k ⟨#[]⟩) 0).length = (ts.getD k ⟨#[]⟩).size := glyB_len _ _
    unfold midB lB Bd.long at hm
    unfold lB Bd.long
    simp only [List.length_nil] at hm ⊢
    omega
theorem long_prev {x : ByteArray} {τ : Tau} {ts : List ByteArray} {n k : Nat} (hτ : TauOk τ n) (hk : k ≤ n) (hs : ∀ i, (ts.getD i ⟨#[]⟩).size ≤ 1000) (ln : Int) : (prevB x τ ts k ln).long ≤ 1016 * k + 3 := by
  cases k with
  | zero => exact long_out hτ hk hs ln
  | succ k => have := long_lst (x := x) hτ (show k < n by omega) hs ln; show (lstB x τ ts k ln).long ≤ _; omega
theorem prev_close {x : ByteArray} {τ : Tau} {ts : List ByteArray} (hs : ∀ i, LCs (ts.getD i ⟨#[]⟩)) (k : Nat) (ln : Int) : ∃ ln', (if decide (0 < k) = true then closeBd (prevB x τ ts k ln) 4 else prevB x τ ts k ln) = outB x τ ts k ln' := by
  cases k with
  | zero => exact ⟨ln, rfl⟩
  | succ k =>
    rw [if_pos (by simp)]
    exact close_tag (hs k) ln
theorem prev_end {x : ByteArray} {τ : Tau} {ts : List ByteArray} (hs : ∀ i, LCs (ts.getD i ⟨#[]⟩)) (k : Nat) (ln : Int) : ∃ ln', closeBd (prevB x τ ts k ln) 5 = finB x τ ts k ln' := by
  cases k with
  | zero => exact ⟨ln, close_none x τ ts ln⟩
  | succ k => exact close_ind (hs k) ln
theorem line_mid {x : ByteArray} {τ : Tau} {ts : List ByteArray} (hs : ∀ i, LCs (ts.getD i ⟨#[]⟩)) (k : Nat) (ln : Int) : lineBd (midB x τ ts k ln) (glyB (ts.getD k ⟨#[]⟩) 0) (4 + 2 * (k : Int)) = lstB x τ ts k ln := by
  unfold lineBd
  by_cases h : ts.getD k ⟨#[]⟩ = ⟨#[]⟩
  · have hg : glyB (ts.getD k ⟨#[]⟩) 0 = [] := by rw [h]; rfl
    rw [hg, if_pos (by rfl), end_mid h]
  · have hb := lc_blank (hs k) 0
    have hg := gly_ne h 0
    have htr : trimG (glyB (ts.getD k ⟨#[]⟩) 0) ≠ [] := by
      generalize glyB (ts.getD k ⟨#[]⟩) 0 = G at *
      cases G with
      | nil => exact absurd rfl hg
      | cons g G => exact trim_ne (g := g) (by simp) (hb g (by simp))
    rw [if_neg htr, text_mid h]
inductive Stg (x kind : ByteArray) (ts : List ByteArray) (n : Nat) (closed : Bool) : Nat → Heap → Prop
  | a0 {H : Heap} {t : FV} : RIn H 2 1 t Bd.zero Mr.zero → Stg x kind ts n closed 0 H
  | a1 {H : Heap} {t : FV} : RIn H 2 1 t (titleBd x) (listM x) → Stg x kind ts n closed 1 H
  | a2 {H : Heap} {t : FV} {ro : Option (Nat × Nat)} {r g c k : Nat} {ln : Int} : k ≤ n → SIn H 2 1 ro t (prevB x (tauK kind) ts k ln) (listM x) r g 1 c ⟨2, kind, 7, k, decide (0 < k)⟩ → Stg x kind ts n closed (2 + 2 * k) H
  | a3 {H : Heap} {t : FV} {ro : Option (Nat × Nat)} {r g c k : Nat} {ln : Int} : k < n → SIn H 2 1 ro t (midB x (tauK kind) ts k ln) (listM x) r g 1 c ⟨2, kind, 7, k + 1, true⟩ → Stg x kind ts n closed (3 + 2 * k) H
  | a4 {H : Heap} {t : FV} {ro : Option (Nat × Nat)} {r g c : Nat} {ln : Int} {K : Bk} : closed = true → SIn H 2 1 ro t (finB x (tauK kind) ts n ln) (listM x) r g 0 c K → Stg x kind ts n closed (3 + 2 * n) H
theorem SIn.doc {H H' : Heap} {p b r g k c : Nat} {ro ro' : Option (Nat × Nat)} {t : FV} {B : Bd} {M : Mr} {K : Bk} (h : SIn H p b ro t B M r g k c K) (hd : H[0]? = some docZ) (hb : b ≠ 0) (hp : p ≠ 0) (ho : OthS H H' p b c ro ro') : H'[0]? = some docZ := by
  have hc0 : c ≠ 0 := fun hc => by
    have := h.blk
    rw [hc, hd] at this
    simp [docZ, kC] at this
  rw [ho.same 0 (by have := h.blt; omega) (fun hh => hb hh.symm) (fun hh => hp hh.symm) (fun hh => hc0 hh.symm) (fun q g' hq => fun hh => by
    have hr := h.bin.row
    subst hq
    obtain ⟨_, rest, _, h2⟩ := hr
    rw [← hh, hd] at h2
    simp [docZ] at h2)]
  exact hd
set_option linter.unusedSimpArgs false in
set_option maxRecDepth 20000 in
set_option maxHeartbeats 8000000 in
theorem stg_row {x kind : ByteArray} {ts : List ByteArray} {n : Nat} {closed : Bool} (hk : kind ∈ listS) (hn : n ≤ 20) (hs : ∀ i, LCs (ts.getD i ⟨#[]⟩)) (hz : ∀ i, (ts.getD i ⟨#[]⟩).size ≤ 1000) {i : Nat} {H : Heap} (h : Stg x kind ts n closed i H) (hd : H[0]? = some docZ) (hi : i < (listR x kind ts n closed).length) :
    ∃ (mac : ByteArray) (args : List ByteArray) (txt : ByteArray) (ln : Int) (H' : Heap), (listR x kind ts n closed)[i]? = some (.agg [.int .i64 ln, .str mac, .sl (args.map .str), .str txt]) ∧ Con C0 38 [.ptr 2 0, .agg (rowB ln mac args txt)] (H ++ [rowB ln mac args txt]) (.tup []) H' ∧ Stg x kind ts n closed (i + 1) H' ∧ H'[0]? = some docZ := by
  have hτ := tau_ok hk
  have hL0 : kind ≠ ⟨#[]⟩ := by
    intro h0
    rw [h0] at hk
    simp [listS, tagS, bulS, enuS, iteS] at hk
  rw [listR_len] at hi
  cases h with
  | a0 h =>
    obtain ⟨H1, c1, r1, o1⟩ := rowDt (h.more (fs := rowB 1 dtS [x] ByteArray.empty) (rowB_und _ _ _ _ _)) 1 x ByteArray.empty
    exact ⟨dtS, [x], ByteArray.empty, 1, H1, rfl, c1, .a1 r1, by rw [o1.2 0 (by decide) (by decide), heap_old (by have := h.plt; omega)]; exact hd⟩
  | a1 h =>
    obtain ⟨H1, t1, ro1, r, c, c1, r1, o1, o2⟩ := rowBl (h.more (fs := rowB 2 blS [kind] ByteArray.empty) (rowB_und _ _ _ _ _)) 2 kind hk ByteArray.empty (show (titleBd x).long ≤ 200000000 from Nat.zero_le _) (show (endBd (titleBd x)).opens.length < 20 from (by decide : 0 < 20))
    refine ⟨blS, [kind], ByteArray.empty, 2, H1, rfl, c1, .a2 (k := 0) (ln := 0) (Nat.zero_le _) r1, ?_⟩
    rw [o1.2 0 (by have := h.plt; simp) (by decide) (by decide), heap_old (by have := h.plt; omega)]; exact hd
  | @a2 _ t ro r g c k ln hkn h =>
    by_cases hlt : k < n
    · obtain ⟨ln', hC⟩ := prev_close (x := x) (τ := tauK kind) hs k ln
      have h2 := h.more (fs := rowB (3 + 2 * (k : Int)) itS [] ByteArray.empty) (rowB_und _ _ _ _ _)
      have l1 := long_prev (x := x) hτ (show k ≤ 20 by omega) hz ln
      have l2 := long_out (x := x) hτ (show k ≤ 20 by omega) hz ln'
      have tk := (hτ k (by omega)).2.2.2
      obtain ⟨H1, t1, ro1, c1, r1, o1⟩ := rowIt h2 hL0 (3 + 2 * (k : Int)) ByteArray.empty (tau_item hk (by omega)) (by show (0 : Int) ≤ k; omega) (by show (k : Int) ≤ 1000; omega) (by show (ByteArray.empty).size ≤ 4096; decide) hC.symm (by omega) (by omega) (by omega) (by show 1 < 20; decide)
      have hd1 := h2.doc (by rw [heap_old (by have := h.plt; omega)]; exact hd) (by decide) (by decide) o1
      refine ⟨itS, [], ByteArray.empty, 3 + 2 * (k : Int), H1, (listR_item x kind ts n closed hlt).1, c1, ?_, hd1⟩
      have he : 2 + 2 * k + 1 = 3 + 2 * k := by omega
      rw [he]
      exact .a3 (ln := ln') hlt r1
    · obtain rfl : k = n := by omega
      have hcl : closed = true := by
        cases closed
        · simp at hi
        · rfl
      subst hcl
      obtain ⟨ln', hC⟩ := prev_end (x := x) (τ := tauK kind) hs k ln
      have h2 := h.more (fs := rowB 90 elS [] ByteArray.empty) (rowB_und _ _ _ _ _)
      have l1 := long_prev (x := x) hτ (show k ≤ 20 by omega) hz ln
      obtain ⟨H1, t1, c1, r1, o1⟩ := rowEl h2 hL0 90 ByteArray.empty (by omega)
      rw [hC] at r1
      have hd1 := h2.doc (by rw [heap_old (by have := h.plt; omega)]; exact hd) (by decide) (by decide) o1
      refine ⟨elS, [], ByteArray.empty, 90, H1, listR_end x kind ts k, c1, ?_, hd1⟩
      have he : 2 + 2 * k + 1 = 3 + 2 * k := by omega
      rw [he]
      exact .a4 rfl r1
  | @a3 _ t ro r g c k ln hkn h =>
    have h2 := h.more (fs := rowB (4 + 2 * (k : Int)) ⟨#[]⟩ [] (ts.getD k ⟨#[]⟩)) (rowB_und _ _ _ _ _)
    have l1 := long_mid (x := x) hτ (show k < 20 by omega) hz ln
    have hpl : ∀ b ∈ (ts.getD k ⟨#[]⟩).data.toList, Pln b := fun b hb => by
      have := hs k b hb
      unfold LCb at this; unfold Pln; omega
    obtain ⟨H1, t1, c1, r1, o1⟩ := rowTx h2 (4 + 2 * (k : Int)) (ts.getD k ⟨#[]⟩) (by have := hz k; omega) (lineD_pln hpl) (lineG_pln hpl ⟨0, 0⟩) (by omega)
    rw [line_mid hs] at r1
    have hd1 := h2.doc (by rw [heap_old (by have := h.plt; omega)]; exact hd) (by decide) (by decide) o1
    refine ⟨⟨#[]⟩, [], ts.getD k ⟨#[]⟩, 4 + 2 * (k : Int), H1, (listR_item x kind ts n closed hkn).2, c1, ?_, hd1⟩
    have he : 3 + 2 * k + 1 = 2 + 2 * (k + 1) := by omega
    rw [he]
    have e1 : ((k + 1 : Nat) : Int) = (k : Int) + 1 := by omega
    have e2 : SIn H1 2 1 ro t1 (prevB x (tauK kind) ts (k + 1) ln) (listM x) r g 1 c ⟨2, kind, 7, ((k + 1 : Nat) : Int), decide (0 < k + 1)⟩ := by
      rw [e1, decide_eq_true (show 0 < k + 1 by omega)]
      exact r1
    exact .a2 (k := k + 1) (ln := ln) (by omega) e2
  | a4 hcl h =>
    subst hcl
    simp at hi
    omega
end Go.Proofs.YtkjgkhgklkdbjaaGreatDoor.Ev
end
section
namespace Go.Proofs.YtkjgkhgklkdbjaaGreatDoor.Ev
open Go
def listBad (closed : Bool) : List Dg := if closed = true then [] else [⟨7, 2, 0⟩]
theorem stg_end {x kind : ByteArray} {ts : List ByteArray} {n : Nat} {closed : Bool} (hk : kind ∈ listS) (hn : n ≤ 20) (hs : ∀ i, LCs (ts.getD i ⟨#[]⟩)) (hz : ∀ i, (ts.getD i ⟨#[]⟩).size ≤ 1000) {H : Heap} (h : Stg x kind ts n closed (listR x kind ts n closed).length H) (hd : H[0]? = some docZ) :
    ∃ H' t ro r g c K ln, Con C0 39 [.ptr 2 0] H (.tup []) H' ∧ SIn H' 2 1 ro t (finB x (tauK kind) ts n ln) { listM x with bad := listBad closed } r g 0 c K ∧ H'[0]? = some docZ := by
  have hτ := tau_ok hk
  rw [listR_len] at h
  generalize hi : 2 + 2 * n + (if closed = true then 1 else 0) = i at h
  cases h with
  | a0 h => omega
  | a1 h => omega
  | @a2 _ t ro r g c k ln hkn h =>
    have hc : closed = false ∧ k = n := by
      cases closed
      · simp at hi; exact ⟨rfl, by omega⟩
      · simp at hi; omega
    obtain ⟨rfl, rfl⟩ := hc
    obtain ⟨ln', hC⟩ := prev_end (x := x) (τ := tauK kind) hs k ln
    have l1 := long_prev (x := x) hτ (show k ≤ 20 by omega) hz ln
    obtain ⟨H1, t1, c1, r1, o1⟩ := conEndAll1 h (by omega) (by show 0 ≤ 1073741824; decide)
    rw [hC] at r1
    exact ⟨H1, t1, ro, r, g, c, _, ln', c1, r1, h.doc hd (by decide) (by decide) o1⟩
  | @a3 _ t ro r g c k ln hkn h =>
    cases closed
    · simp at hi; omega
    · simp at hi; omega
  | @a4 _ t ro r g c ln K hcl h =>
    subst hcl
    exact ⟨H, t, ro, r, g, c, K, ln, conEndAllE h, h, hd⟩
set_option linter.unusedSimpArgs false in
set_option maxRecDepth 20000 in
set_option maxHeartbeats 8000000 in
theorem conParseL {x kind : ByteArray} {ts : List ByteArray} {n : Nat} {closed : Bool} (hk : kind ∈ listS) (hn : n ≤ 20) (hs : ∀ i, LCs (ts.getD i ⟨#[]⟩)) (hz : ∀ i, (ts.getD i ⟨#[]⟩).size ≤ 1000) :
    PCon C0 13 [.sc (.sl (listR x kind ts n closed))] (.tup [(docD (finB x (tauK kind) ts n 0)).pv.toFV, .sc (.sl ((listBad closed).map Dg.pv))]) := by
  have hlen := listR_len x kind ts n closed
  have hrow := fun {i : Nat} {H : Heap} (h : Stg x kind ts n closed i H) => stg_row hk hn hs hz h
  have hend := fun {H : Heap} (h : Stg x kind ts n closed (listR x kind ts n closed).length H) => stg_end hk hn hs hz h
  have hlm : (listR x kind ts n closed).length ≤ 50 := by rw [hlen]; split <;> omega
  clear hlen
  generalize listR x kind ts n closed = RS at *
  refine penter13 ?_
  have cn := fun H => conNew H
  simp [Tryz.f13]
  refine CallQ.mk (Call.shared callable37 (conNew _)) ?_
  simp
  have hok : HOk [docZ, bCells Bd.zero (.own []) (.own []), mC 1 Mr.zero] := fun fs hfs f hf => by
    simp only [List.mem_cons, List.not_mem_nil, or_false] at hfs
    rcases hfs with rfl | rfl | rfl
    · simp only [docZ, body, List.mem_cons, List.not_mem_nil, or_false] at hf
      rcases hf with rfl | rfl | rfl | rfl | rfl <;> rfl
    · exact HOk.build ⟨rfl, rfl⟩ f hf
    · exact mC_und (by simp) _ f hf
  have hR0 : RIn [docZ, bCells Bd.zero (.own []) (.own []), mC 1 Mr.zero] 2 1 (.own []) Bd.zero Mr.zero := ⟨⟨rfl, rfl, .inr ⟨rfl, rfl⟩, hok⟩, rfl, by decide⟩
  refine loopC (fun d e H' => ∃ (i : Nat) (x6 x13 : FV), d = RS.length - i ∧ i ≤ RS.length ∧ Stg x kind ts n closed i H' ∧ H'[0]? = some docZ ∧ e = [(0, .sc (.sl RS)), (2, .ptr 0 0), (3, .own []), (4, .ptr 2 0), (6, x6), (10, .sc (.sl RS)), (11, .sc (.int .i64 RS.length)), (12, .sc (.int .i64 i)), (13, x13), (26, .undef)]) (d := RS.length) ⟨0, .undef, .undef, rfl, by omega, .a0 hR0, rfl, rfl⟩ ?_
  rintro d e H' ⟨i, x6, x13, rfl, hi, hS, hdz, rfl⟩
  simp
  refine CondC.mk (fun hlt => ?_) (fun hlt => ?_)
  · simp at hlt
    obtain ⟨mac, args, txt, ln, H1, q1, c1, s1, d1⟩ := hrow hS hdz hlt
    have hw : IntKind.i64.wrap ((i : Int) + 1) = ((i + 1 : Nat) : Int) := by rw [wrap64 (by omega) (by omega)]; omega
    obtain ⟨RP, hRP⟩ : ∃ RP, RS[i] = RP := ⟨_, rfl⟩
    rw [List.getElem?_eq_getElem hlt, hRP] at q1
    obtain rfl := Option.some.inj q1
    simp only [rowB] at c1
    simp [hlt, hRP]
    refine CallQ.mk (Call.shared callable38 c1) ?_
    simp [hw]
    exact ⟨RS.length - (i + 1), by omega, i + 1, rfl, by omega, s1, d1, by omega⟩
  · simp at hlt
    obtain rfl : i = RS.length := by omega
    obtain ⟨H1, t1, ro1, r, g, c, K, ln, c1, r1, d1⟩ := hend hS hdz
    have hbx := r1.box
    have hlong : (finB x (tauK kind) ts n ln).long ≤ 300000000 := by
      have h1 := long_tags (tau_ok hk) hz n hn
      unfold finB lB Bd.long
      simp only [sumBy, long_ind, List.length_nil]
      omega
    have cd := conDoc r1.bin hlong
    have hD : docD (finB x (tauK kind) ts n ln) = docD (finB x (tauK kind) ts n 0) := rfl
    rw [hD] at cd
    generalize docD (finB x (tauK kind) ts n 0) = D at *
    obtain ⟨d1', d2, d3, d4, d5⟩ := D
    simp only [mG, listM, Mr.zero] at hbx
    simp only [docZ] at d1
    have hl0 : 0 < H1.length := by have := r1.plt; omega
    have hs0 : ∀ y : List FV, (H1.set 0 y)[0]? = some y := fun y => List.getElem?_set_self hl0
    have hs2 : ∀ y : List FV, (H1.set 0 y)[2]? = H1[2]? := fun y => List.getElem?_set_ne (by decide)
    simp
    refine CallQ.mk (Call.shared callable39 c1) ?_
    simp [hbx]
    simp only [Doc.pv, PV.toFV, List.map_cons, List.map_nil] at cd ⊢
    refine DrawC.two (fun _ _ => .agg [.sc (.str d1'), .sc (.str d2), .sc (.str d3), .sc (.str d4), .sc (.sl (d5.map Node.pv))]) ?_ ?_
    all_goals
      simp [hbx]
      refine CallQ.mk (CallD.reads callable41 cd rfl) ?_
      simp [hbx, d1, hs0, hs2]
end Go.Proofs.YtkjgkhgklkdbjaaGreatDoor.Ev
end
section
namespace Go.Proofs.YtkjgkhgklkdbjaaGreatDoor.Ev
open Go
set_option linter.unusedSimpArgs false in
set_option maxRecDepth 20000 in
set_option maxHeartbeats 4000000 in
theorem ref1Same (a b : List Dg) (ha : a.length ≤ 1073741824) : PCon C0 14 [.sc (.sl (a.map Dg.pv)), .sc (.sl (b.map Dg.pv))] (.sc (.bool (decide (a = b)))) := by
  refine penter14 ?_
  simp [Tryz.f14]
  refine CondC.mk (fun h => ?_) (fun h => ?_)
  · simp at h
    simp
    intro hab; subst hab; exact h rfl
  · simp at h
    simp
    refine loopC (fun d e H => ∃ i x14 x25, d = a.length - i ∧ i ≤ a.length ∧ a.take i = b.take i ∧ e = [(0, FV.sc (PV.sl (List.map Dg.pv a))), (1, FV.sc (PV.sl (List.map Dg.pv b))), (4, FV.sc (PV.bool false)),
      (5, FV.sc (.int .i64 (i : Nat))), (10, FV.sc (PV.bool !decide ((a.length : Int) = b.length))), (14, x14), (25, x25)]) (d := a.length) ⟨0, .undef, .undef, ?_⟩ ?_
    · simp [h]
    · rintro d e H ⟨i, x14, x25, rfl, hi, heq, rfl⟩
      simp
      refine CondC.mk (fun hlt => ?_) (fun hlt => ?_)
      · simp at hlt
        have hib : i < b.length := by omega
        simp [hlt, hib, Dg.pv]
        refine CondC.mk (fun hne => ?_) (fun hne => ?_)
        · simp at hne
          simp
          intro hab; subst hab
          simp at hne
        · simp at hne
          simp [wrapInc (i := i) (by omega)]
          refine ⟨a.length - (i + 1), by omega, i + 1, rfl, by omega, (take_succ_eq hlt hib).2 ⟨heq, ?_⟩, by simp⟩
          cases hx : a[i]; cases hy : b[i]; simp_all
      · simp at hlt
        simp
        rw [List.take_of_length_le hlt, List.take_of_length_le (by omega)] at heq
        exact heq
theorem lvs_par {s : ByteArray} (h : LCs s) (ln : Int) : Node.lvsL (parL s ln) = glyB s 0 := by
  have hb := lc_blank h 0
  unfold parL
  split
  · rename_i he
    rw [he]; rfl
  · generalize glyB s 0 = G at *
    rw [Node.lvsL, Node.lvs_eq, Node.lvsL]
    have hi : ink G = G := by
      unfold ink
      rw [List.filter_eq_self]
      intro g hg
      have := hb g hg
      simp [Glyph.blank, this]
    simp only [Node.text_mk, Node.kids_mk, Node.rows_mk, Node.grid_mk, noTbl, hi, Node.lvsL, ltr, List.flatMap_nil, List.append_nil]
theorem long_par {s : ByteArray} (h : s.size ≤ 1000) (ln : Int) : sumBy Node.long (parL s ln) ≤ 1003 := by
  unfold parL
  split
  · simp [sumBy]
  · rw [sumBy, sumBy, Node.long_eq]
    simp only [Node.text_mk, Node.kids_mk, Node.rows_mk, Node.grid_mk, noTbl, rowsLong, sumBy]
    have : (glyB s 0).length = s.size := glyB_len _ _
    have : (ByteArray.empty).size = 0 := rfl
    omega
theorem asc_lc {s : ByteArray} (h : LCs s) : ∀ g ∈ glyB s 0, Asc g.r := fun g hg => by
  unfold glyB at hg
  obtain ⟨c, hc, rfl⟩ := List.mem_map.1 hg
  obtain ⟨y, hy, rfl⟩ := bI_mem hc
  have := h y hy
  unfold LCb at this
  show Asc (y.toNat : Int)
  unfold Asc; omega
theorem tag_text {s : ByteArray} (h : LCs s) (hz : s.size ≤ 1000) (ln : Int) : PCon C0 16 [.sc (.sl ((parL s ln).map Node.pv))] (.own ((glyB s 0).map Glyph.pv)) ∧ PCon C0 15 [.sc (gl (glyB s 0))] (.sc (.str s)) := by
  have h1 := refLeaves _ (parL s ln) (Nat.lt_succ_self _) (by have := long_par hz ln; omega)
  rw [lvs_par h] at h1
  have h2 := refText (glyB s 0) (asc_lc h) (by have := glyB_len s 0; omega)
  rw [ascB_gly] at h2
  exact ⟨h1, h2⟩
theorem tag_pv (τ : Tau) (ts : List ByteArray) (i : Nat) : (tagI τ ts i).pv = .agg [.int .i64 4, .int .i64 (3 + 2 * (i : Int)), .int .i64 (τ i).1, gl (τ i).2, .sl ((parL (ts.getD i ⟨#[]⟩) (4 + 2 * (i : Int))).map Node.pv), .sl [], .str ByteArray.empty, .sl [], .bool false, .bool false] := by
  rw [Node.pv_eq]; rfl
theorem tags_pv (τ : Tau) (ts : List ByteArray) {n i : Nat} (h : i < n) : ((tags τ ts n).map Node.pv)[i]? = some (tagI τ ts i).pv := by
  unfold tags
  rw [List.map_map, List.getElem?_map, List.getElem?_range h]; rfl
theorem size_long {ts : List ByteArray} (h : long11 ts ≤ 500) (i : Nat) : (ts.getD i ⟨#[]⟩).size ≤ 1000 := by
  rw [List.getD_eq_getElem?_getD]
  by_cases hi : i < ts.length
  · rw [List.getElem?_eq_getElem hi]
    have : ∀ (l : List ByteArray) (s : ByteArray), s ∈ l → s.size ≤ long11 l := fun l s hs => by
      unfold long11
      induction l with
      | nil => cases hs
      | cons y l ih =>
        rcases List.mem_cons.1 hs with rfl | h
        · simp; omega
        · have := ih h; simp at this ⊢; omega
    have := this ts ts[i] (List.getElem_mem hi)
    simp; omega
  · rw [List.getElem?_eq_none (by omega)]
    show (⟨#[]⟩ : ByteArray).size ≤ 1000
    decide
theorem lcs_all {ts : List ByteArray} (h : ∀ (i : Nat) (hi : i < ts.length), LCs ts[i]) (i : Nat) : LCs (ts.getD i ⟨#[]⟩) := by
  rw [List.getD_eq_getElem?_getD]
  by_cases hi : i < ts.length
  · rw [List.getElem?_eq_getElem hi]; exact h i hi
  · rw [List.getElem?_eq_none (by omega)]
    intro b hb
    have : (⟨#[]⟩ : ByteArray).data.toList = [] := rfl
    simp [this] at hb
end Go.Proofs.YtkjgkhgklkdbjaaGreatDoor.Ev
end
section
namespace Go.Proofs.YtkjgkhgklkdbjaaGreatDoor.Ev
open Go
def lcB (b : UInt8) : Bool := decide (97 ≤ b.toNat) && decide (b.toNat ≤ 122)
theorem byte_at {s : ByteArray} {i : Nat} (hi : i < s.size) : ∃ b, s.data.toList[i]? = some b ∧ (∀ h : i < s.data.size, s.data[i]'h = b) := by
  have hl : i < s.data.toList.length := by rw [← Go.Lib.size_eq]; exact hi
  refine ⟨_, List.getElem?_eq_getElem hl, fun h => ?_⟩
  simp
end Go.Proofs.YtkjgkhgklkdbjaaGreatDoor.Ev
end
section
namespace Go.Proofs.YtkjgkhgklkdbjaaGreatDoor.Ev
open Go
theorem kind_at (kd : Int) (h0 : 0 ≤ kd) : ∃ K, K ∈ listS ∧ 0 ≤ kd.tmod 4 ∧ [PV.str ⟨#[45, 116, 97, 103]⟩, PV.str ⟨#[45, 98, 117, 108, 108, 101, 116]⟩, PV.str ⟨#[45, 101, 110, 117, 109]⟩, PV.str ⟨#[45, 105, 116, 101, 109]⟩][(kd.tmod 4).toNat]? = some (PV.str K) := by
  have e : kd.tmod 4 = ((kd.toNat % 4 : Nat) : Int) := by
    obtain ⟨n, rfl⟩ := Int.eq_ofNat_of_zero_le h0
    simp [Int.tmod]
  rw [e]
  have h4 : kd.toNat % 4 < 4 := Nat.mod_lt _ (by decide)
  generalize kd.toNat % 4 = j at h4
  refine ⟨listS.getD j ⟨#[]⟩, ?_, by omega, ?_⟩
  · match j, h4 with
    | 0, _ => simp [listS]
    | 1, _ => simp [listS]
    | 2, _ => simp [listS]
    | 3, _ => simp [listS]
  · match j, h4 with
    | 0, _ => rfl
    | 1, _ => rfl
    | 2, _ => rfl
    | 3, _ => rfl
def preR (K : ByteArray) : List PV := [rowP 1 dtS [⟨#[120]⟩], rowP 2 blS [K]]
theorem sizedR (K : ByteArray) (ts : List ByteArray) (i : Nat) : Sized 4 (preR K ++ itemsR ts i) := fun q hq => by
  rcases List.mem_append.1 hq with h | h
  · simp only [preR, List.mem_cons, List.not_mem_nil, or_false] at h
    rcases h with rfl | rfl <;> rfl
  · unfold itemsR at h
    obtain ⟨j, _, hj⟩ := List.mem_flatMap.1 h
    simp only [itemR, List.mem_cons, List.not_mem_nil, or_false] at hj
    rcases hj with rfl | rfl <;> rfl
def rowsAt (K : ByteArray) (ts : List ByteArray) (i : Nat) : List PV := preR K ++ itemsR ts i
theorem rowsAt_sized (K : ByteArray) (ts : List ByteArray) (i : Nat) : Sized 4 (rowsAt K ts i) := sizedR K ts i
theorem rowsAt_len (K : ByteArray) (ts : List ByteArray) (i : Nat) : (rowsAt K ts i).length = 2 + 2 * i := by
  unfold rowsAt
  rw [List.length_append, itemsR_len]; rfl
theorem rowsAt_succ (K : ByteArray) {ts : List ByteArray} {i : Nat} (hi : i < ts.length) : rowsAt K ts i ++ [PV.agg [.int .i64 (3 + 2 * (i : Int)), .str ⟨#[73, 116]⟩, .sl [], .str ByteArray.empty], PV.agg [.int .i64 (4 + 2 * (i : Int)), .str ByteArray.empty, .sl [], .str ts[i]]] = rowsAt K ts (i + 1) := by
  have hg : ts.getD i ⟨#[]⟩ = ts[i] := by rw [List.getD_eq_getElem?_getD, List.getElem?_eq_getElem hi]; rfl
  unfold rowsAt
  rw [itemsR_succ, List.append_assoc]
  unfold itemR
  rw [hg]; rfl
theorem rowsAt_end (K : ByteArray) (ts : List ByteArray) (i : Nat) : rowsAt K ts i ++ [PV.agg [.int .i64 90, .str ⟨#[69, 108]⟩, .sl [], .str ByteArray.empty]] = listR ⟨#[120]⟩ K ts i true := rfl
theorem rowsAt_open (K : ByteArray) (ts : List ByteArray) (i : Nat) : rowsAt K ts i = listR ⟨#[120]⟩ K ts i false := by
  unfold listR endR
  simp; rfl
theorem lcb_all {s : ByteArray} (h : s.data.toList.all lcB = true) : LCs s := fun b hb => by
  have := List.all_eq_true.1 h b hb
  simpa [lcB, LCb] using this
set_option linter.unusedSimpArgs false in
set_option maxRecDepth 20000 in
set_option maxHeartbeats 16000000 in
theorem lawLists (kd : Int) (ts : List ByteArray) (closed : Bool) (h0 : 0 ≤ kd) (hl : long11 ts ≤ 1073741824) : PCon C0 3 [.sc (.int .u8 kd), .sc (.sl (ts.map .str)), .sc (.bool closed)] (.sc (.bool true)) := by
  have kn := conKnown11
  have kl := conLong11 ts hl
  obtain ⟨K, hK, hm0, hmq⟩ := kind_at kd h0
  refine penter3 ?_
  simp [Tryz.f3]
  refine CallQ.mk (Call.pure callable11 (by simp) (by simp) kl) ?_
  by_cases g1 : 500 < long11 ts
  · simp [g1]
    refine CallQ.mk (Call.pure callable12 (by simp) (by simp) kn) ?_
    simp
  by_cases g2 : 20 < ts.length
  · have g2' : (20 : Int) < (ts.length : Int) := by omega
    simp [g1, g2, g2']
    refine CallQ.mk (Call.pure callable12 (by simp) (by simp) kn) ?_
    simp
  have g2' : ¬ (20 : Int) < (ts.length : Int) := by omega
  have hz := size_long (ts := ts) (by omega)
  have w4 : IntKind.u8.wrap 4 = 4 := by decide
  simp [g1, g2, g2', hm0, hmq, Sized]
  refine loopC (fun d e H' => ∃ (i : Nat) (x9 x35 x44 x62 : FV), d = ts.length - i ∧ i ≤ ts.length ∧ (∀ j (hj : j < ts.length), j < i → LCs ts[j]) ∧ H' = [] ∧ e = [(0, .sc (.int .u8 kd)), (1, .sc (.sl (ts.map .str))), (2, .sc (.bool closed)), (6, .sc (.bool false)), (7, .own (rowsAt K ts i)), (8, .sc (.int .i64 i)), (9, x9), (10, .undef), (11, .undef), (12, .undef), (13, .undef), (20, .sc (.bool false)), (35, x35), (44, x44), (62, x62), (79, .undef), (105, .undef), (108, .undef), (130, .undef), (134, .undef), (158, .undef)]) (d := ts.length) ⟨0, .undef, .undef, .undef, .undef, rfl, Nat.zero_le _, fun j _ h => by omega, rfl, rfl⟩ ?_
  rintro d e H' ⟨i, x9, x35, x44, x62, rfl, hi, hall, rfl, rfl⟩
  simp
  refine CondC.mk (fun hlt => ?_) (fun hlt => ?_)
  · simp at hlt
    have hlt' : (i : Int) < (ts.length : Int) := by omega
    have hadd := rowsAt_succ K hlt
    have hsz := rowsAt_sized K ts i
    have hrl := rowsAt_len K ts i
    have hrl2 : (rowsAt K ts i).length + 2 ≤ lenMax := by rw [hrl]; unfold lenMax; omega
    have hw : IntKind.i64.wrap ((i : Int) + 1) = ((i + 1 : Nat) : Int) := by rw [wrap64 (by omega) (by omega)]; omega
    have w1 : IntKind.i64.wrap (2 * (i : Int)) = 2 * (i : Int) := wrap64 (by omega) (by omega)
    have w2 : IntKind.i64.wrap (3 + 2 * (i : Int)) = 3 + 2 * (i : Int) := wrap64 (by omega) (by omega)
    have w3 : IntKind.i64.wrap (4 + 2 * (i : Int)) = 4 + 2 * (i : Int) := wrap64 (by omega) (by omega)
    have hsi := hz i
    have hgd : ts.getD i ⟨#[]⟩ = ts[i] := by rw [List.getD_eq_getElem?_getD, List.getElem?_eq_getElem hlt]; rfl
    rw [hgd] at hsi
    have fin : LCs ts[i] → ∀ j (hj : j < ts.length), j < i + 1 → LCs ts[j] := fun h1 j hj h2 => by
      by_cases hji : j = i
      · subst hji; exact h1
      · exact hall j hj (by omega)
    obtain ⟨s, hs⟩ : ∃ s, ts[i] = s := ⟨_, rfl⟩
    rw [hs] at hadd hsi fin
    simp
    refine loopC (fun d e H' => ∃ (k : Nat) (x44 x62 : FV), d = s.size - k ∧ k ≤ s.size ∧ (s.data.toList.take k).all lcB = true ∧ H' = [] ∧ e = [(0, .sc (.int .u8 kd)), (1, .sc (.sl (ts.map .str))), (2, .sc (.bool closed)), (6, .sc (.bool false)), (7, .own (rowsAt K ts i)), (8, .sc (.int .i64 i)), (9, .sc (.int .i64 k)), (10, .undef), (11, .undef), (12, .undef), (13, .undef), (20, .sc (.bool false)), (35, .sc (.bool (decide (i < ts.length)))), (44, x44), (62, x62), (79, .undef), (105, .undef), (108, .undef), (130, .undef), (134, .undef), (158, .undef)]) (d := s.size) ⟨0, x44, x62, rfl, Nat.zero_le _, rfl, rfl, by simp⟩ ?_
    rintro d e H' ⟨k, y44, y62, rfl, hk, hb, rfl, rfl⟩
    simp [hlt, hlt', hs]
    refine CondC.mk (fun hlt2 => ?_) (fun hlt2 => ?_)
    · simp at hlt2
      have hlt2' : (k : Int) < (s.size : Int) := by omega
      have hw2 : IntKind.i64.wrap ((k : Int) + 1) = ((k + 1 : Nat) : Int) := by rw [wrap64 (by omega) (by omega)]; omega
      obtain ⟨c, hc, hc'⟩ := byte_at hlt2
      have hdl : k < s.data.size := hlt2
      have hcc := hc' hdl
      have ht : s.data.toList.take (k + 1) = s.data.toList.take k ++ [c] := by rw [List.take_add_one, hc]; rfl
      by_cases q1 : c.toNat < 97
      · have q1' : (c.toNat : Int) < 97 := by omega
        simp [hlt, hlt', hs, hlt2, hlt2', hcc, q1, q1']
        refine CallQ.mk (Call.pure callable12 (by simp) (by simp) kn) ?_
        simp
      · have q1' : ¬ (c.toNat : Int) < 97 := by omega
        by_cases q2 : 122 < c.toNat
        · have q2' : (122 : Int) < (c.toNat : Int) := by omega
          simp [hlt, hlt', hs, hlt2, hlt2', hcc, q1, q1', q2, q2']
          refine CallQ.mk (Call.pure callable12 (by simp) (by simp) kn) ?_
          simp
        · have q2' : ¬ (122 : Int) < (c.toNat : Int) := by omega
          have hx : ((s.data.toList.take (k + 1)).all lcB) = true := by
            rw [ht, List.all_append, hb]
            simp [lcB]; omega
          simp [hlt, hlt', hs, hlt2, hlt2', hcc, q1, q1', q2, q2', hw2]
          exact ⟨s.size - (k + 1), by omega, k + 1, rfl, by omega, by simpa using hx, by omega⟩
    · simp at hlt2
      obtain rfl : k = s.size := by omega
      have hls : LCs s := lcb_all (by rw [Go.Lib.size_eq, List.take_length] at hb; exact hb)
      have s4 : ∀ (a b : List PV), a.length = 4 → b.length = 4 → Sized 4 [PV.agg a, PV.agg b] := fun a b ha hb q hq => by
        simp only [List.mem_cons, List.not_mem_nil, or_false] at hq
        rcases hq with rfl | rfl
        · exact ha
        · exact hb
      simp [hlt, hlt', hs, w1, w2, w3, hsz, s4, hrl2, hadd, hw]
      exact ⟨ts.length - (i + 1), by omega, i + 1, rfl, by omega, fin hls, rfl, by omega⟩
  · simp at hlt
    obtain rfl : i = ts.length := by omega
    have hall2 := lcs_all (ts := ts) fun j hj => hall j hj hj
    have cp := conParseL (x := ⟨#[120]⟩) (kind := K) (ts := ts) (n := ts.length) (closed := closed) hK (by omega) hall2 hz
    have hkd := fin_doc (x := ⟨#[120]⟩) (τ := tauK K) (ts := ts) (n := ts.length) (fun i hi => tau_ok hK i (by omega)) (by omega) hall2 0
    generalize docD (finB ⟨#[120]⟩ (tauK K) ts ts.length 0) = D at *
    obtain ⟨d1, d2, d3, d4, d5⟩ := D
    simp only at hkd
    have r1 := rowsAt_end K ts ts.length
    have r2 := rowsAt_open K ts ts.length
    have hsz := rowsAt_sized K ts ts.length
    have hrl := rowsAt_len K ts ts.length
    have hrl2 : (rowsAt K ts ts.length).length + 1 ≤ lenMax := by rw [hrl]; unfold lenMax; omega
    have s4 : ∀ (a : List PV), a.length = 4 → Sized 4 [PV.agg a] := fun a ha q hq => by rw [List.mem_singleton.1 hq]; exact ha
    have s3 : ∀ (a : List PV), a.length = 3 → Sized 3 [PV.agg a] := fun a ha q hq => by rw [List.mem_singleton.1 hq]; exact ha
    have cs := ref1Same [⟨7, 2, 0⟩] [⟨7, 2, 0⟩] (by decide)
    simp only [List.map_cons, List.map_nil, Dg.pv] at cs
    simp only [Doc.pv, PV.toFV, List.map_cons, List.map_nil] at cp
    by_cases hn : ts.length = 0
    · have htn : ts = [] := List.length_eq_zero_iff.1 hn
      rw [if_pos hn] at hkd
      subst hkd
      cases closed
      · rw [← r2] at cp
        simp only [listBad, Bool.false_eq_true, if_false, List.map_cons, List.map_nil, Dg.pv] at cp
        simp
        refine CallQ.mk (Call.pure callable13 (by simp) (by simp) cp) ?_
        simp [s3]
        refine CallQ.mk (Call.pure callable14 (by simp) (by simp) cs) ?_
        simp [hn, htn]
        refine CallQ.mk (Call.pure callable12 (by simp) (by simp) kn) ?_
        simp
      · rw [← r1] at cp
        simp only [listBad, if_true, List.map_nil] at cp
        simp [hsz, s4, hrl2]
        refine CallQ.mk (Call.pure callable13 (by simp) (by simp) cp) ?_
        simp [hn, htn]
        refine CallQ.mk (Call.pure callable12 (by simp) (by simp) kn) ?_
        simp
    · rw [if_neg hn] at hkd
      subst hkd
      have htn : ts ≠ [] := fun h => hn (by rw [h]; rfl)
      have hnn : ¬ (ts.length : Int) = 0 := by omega
      have htl := tags_len (tauK K) ts ts.length
      have hpv := fun {i : Nat} (h : i < ts.length) => tags_pv (tauK K) ts h
      have htx := fun i ln => tag_text (hall2 i) (hz i) ln
      have hti := fun i => tag_pv (tauK K) ts i
      generalize tags (tauK K) ts ts.length = T at *
      have hip : (indN T).pv = .agg [.int .i64 5, .int .i64 2, .int .i64 0, gl [], .sl (T.map Node.pv), .sl [], .str ByteArray.empty, .sl [], .bool false, .bool false] := by rw [Node.pv_eq]; rfl
      simp only [List.map_cons, List.map_nil, hip, gl] at cp
      have htli : (T.length : Int) = (ts.length : Int) := by omega
      cases closed
      rw [← r2] at cp
      simp only [listBad, Bool.false_eq_true, if_false, List.map_cons, List.map_nil, Dg.pv] at cp
      simp
      refine CallQ.mk (Call.pure callable13 (by simp) (by simp) cp) ?_
      simp [s3]
      refine CallQ.mk (Call.pure callable14 (by simp) (by simp) cs) ?_
      simp [hn, hnn, htn, htl, htli, Sized]
      rotate_left
      rw [← r1] at cp
      simp only [listBad, if_true, List.map_nil] at cp
      simp [hsz, s4, hrl2]
      refine CallQ.mk (Call.pure callable13 (by simp) (by simp) cp) ?_
      simp [hn, hnn, htn, htl, htli, Sized]
      all_goals
        refine loopC (fun d e H' => ∃ (i : Nat) (x2 x7 x8 x9 x11 x13 x44 x62 x79 x134 x158 : FV) (J : Heap), d = ts.length - i ∧ i ≤ ts.length ∧ H' = [.sc (.str d1), .sc (.str d2), .sc (.str d3), .sc (.str d4), .sc (.sl [.agg [.int .i64 5, .int .i64 2, .int .i64 0, .sl [], .sl (T.map Node.pv), .sl [], .str ByteArray.empty, .sl [], .bool false, .bool false]])] :: J ∧
          e = [(0, .sc (.int .u8 kd)), (1, .sc (.sl (ts.map .str))), (2, x2), (6, .sc (.bool false)), (7, x7), (8, x8), (9, x9), (10, .ptr 0 0), (11, x11), (12, .sc (.int .i64 i)), (13, x13), (20, .sc (.bool false)), (35, .sc (.bool false)), (44, x44), (62, x62), (79, x79), (105, .sc (.bool false)), (108, .sc (.bool false)), (130, .sc (.bool false)), (134, x134), (158, x158)]) (d := ts.length) ⟨0, _, _, _, _, _, _, _, _, _, _, _, _, rfl, Nat.zero_le _, rfl, rfl⟩ ?_
        rintro d e H' ⟨i, x2, x7, x8, x9, x11, x13, x44, x62, x79, x134, x158, J, rfl, hi, rfl, rfl⟩
        simp
        refine CondC.mk (fun hlt => ?_) (fun hlt => ?_)
        · simp at hlt
          have hlt' : (i : Int) < (ts.length : Int) := by omega
          have hTi : i < T.length := by omega
          have hTi' : (i : Int) < (T.length : Int) := by omega
          have hw : IntKind.i64.wrap ((i : Int) + 1) = ((i + 1 : Nat) : Int) := by rw [wrap64 (by omega) (by omega)]; omega
          obtain ⟨t1, t2⟩ := htx i (4 + 2 * (i : Int))
          have hy := hpv hlt
          rw [List.getElem?_map, List.getElem?_eq_getElem hTi, hti] at hy
          have hy := Option.some.inj hy
          have hgd : ts.getD i ⟨#[]⟩ = ts[i] := by rw [List.getD_eq_getElem?_getD, List.getElem?_eq_getElem hlt]; rfl
          rw [hgd] at t1 t2 hy
          obtain ⟨s, hs⟩ : ∃ s, ts[i] = s := ⟨_, rfl⟩
          obtain ⟨y, hyT⟩ : ∃ y, T[i] = y := ⟨_, rfl⟩
          rw [hs] at t1 t2 hy
          rw [hyT] at hy
          generalize parL s (4 + 2 * (i : Int)) = PL at *
          generalize glyB s 0 = G at *
          simp only [gl] at hy t2
          simp [hlt, hlt', hTi, hTi', hyT, hy]
          refine CallQ.mk (CallP.pure callable16 (by simp) (by simp) t1) ?_
          simp
          refine CallQ.mk (CallP.pure callable15 (by simp) (by simp) t2) ?_
          simp [hlt, hlt', hs, hw]
          exact ⟨ts.length - (i + 1), by omega, i + 1, by omega, by omega, by omega⟩
        · simp at hlt
          simp
          refine CallQ.mk (Call.pure callable12 (by simp) (by simp) kn) ?_
          simp
theorem lawLists1 (kd : Int) (ts : List ByteArray) (closed : Bool) (h : (Lit.int .u8 kd).wf = true) (hl : sumBy (fun s : ByteArray => s.size + 1) ts ≤ 67108864) : PCon C0 3 [.sc (.int .u8 kd), .sc (.sl (ts.map .str)), .sc (.bool closed)] (.sc (.bool true)) :=
  lawLists kd ts closed (by
    have h1 : 0 ≤ kd ∧ kd ≤ 255 := by simpa [Lit.wf, IntKind.min, IntKind.max, IntKind.signed, IntKind.bits] using h
    exact h1.1) (by
    have : ∀ l : List ByteArray, long11 l ≤ 2 * sumBy (fun s : ByteArray => s.size + 1) l := fun l => by
      unfold long11
      induction l with
      | nil => simp [sumBy]
      | cons s l ih => simp only [List.map_cons, List.sum_cons, sumBy]; omega
    have := this ts
    omega)
end Go.Proofs.YtkjgkhgklkdbjaaGreatDoor.Ev
end
