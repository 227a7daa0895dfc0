/- Of what the law MdocNames needs: part 14. -/
import Derived.Test.YtkjgkhgklkdbjaaGreatDoorBMN8
import Derived.Test.YtkjgkhgklkdbjaaGreatDoorBMN11
import Derived.Test.YtkjgkhgklkdbjaaGreatDoorBMN13
set_option linter.unusedSimpArgs false
set_option linter.unusedVariables false
section
namespace Go.Proofs.YtkjgkhgklkdbjaaGreatDoor.Ev
open Go
structure Bd where
  name : ByteArray
  part : ByteArray
  date : ByteArray
  source : ByteArray
  kids : List Node
  opens : List Node
  text : List Glyph
  line : Int
  has : Bool
def bCells (B : Bd) (o t : FV) : List FV := [.sc (.str B.name), .sc (.str B.part), .sc (.str B.date), .sc (.str B.source), .own (B.kids.map Node.pv), o, t, .sc (.int .i64 B.line), .sc (.bool B.has)]
theorem Node.toFV_eq (x : Node) : x.pv.toFV = .agg [.sc (.int .i64 x.kind), .sc (.int .i64 x.line), .sc (.int .i64 x.n), .sc (gl x.text), .sc (.sl (x.kids.map Node.pv)), .sc (.sl (x.rows.map gl)), .sc (.str x.grid.cols), .sc (.sl (x.grid.rows.map TRow.pv)), .sc (.bool x.grid.box), .sc (.bool x.grid.all)] := by
  rw [Node.pv_eq]; rfl
def HOk (H : Heap) : Prop := ∀ fs ∈ H, ∀ f ∈ body fs, f.und0 H.length = true
theorem HOk.set {H : Heap} {b : Nat} {fs : List FV} (h : HOk H) (hf : ∀ f ∈ body fs, f.und0 H.length = true) : ∀ gs ∈ H.set b fs, ∀ f ∈ body gs, f.und0 H.length = true := fun gs hg f hf' => by
  rcases List.mem_or_eq_of_mem_set hg with h' | rfl
  · exact h gs h' f hf'
  · exact hf f hf'
theorem HOk.set' {H : Heap} {b : Nat} {fs : List FV} (h : HOk H) (hf : ∀ f ∈ body fs, f.und0 H.length = true) : HOk (H.set b fs) := by
  unfold HOk
  rw [List.length_set]
  exact h.set hf
theorem HOk.cells {H : Heap} {b : Nat} {B : Bd} {o t : FV} (h : HOk H) (hb : H[b]? = some (bCells B o t)) : o.und0 H.length = true ∧ t.und0 H.length = true :=
  have h1 := h _ (List.mem_of_getElem? hb)
  ⟨h1 o (by simp [body, bCells]), h1 t (by simp [body, bCells])⟩
theorem HOk.build {n : Nat} {B : Bd} {o t : FV} (h : o.und0 n = true ∧ t.und0 n = true) : ∀ f ∈ body (bCells B o t), f.und0 n = true := fun f hf => by
  simp only [body, bCells, List.mem_cons, List.not_mem_nil, or_false] at hf
  rcases hf with rfl | rfl | rfl | rfl | rfl | rfl | rfl | rfl | rfl <;> first | rfl | exact h.1 | exact h.2
set_option linter.unusedSimpArgs false in
set_option maxRecDepth 20000 in
set_option maxHeartbeats 16000000 in
theorem conLay0 (B : Bd) (o t : FV) (x : Node) (H : Heap) (b : Nat) (hb : H[b]? = some (bCells B o t)) (ho : o = .own [] ∨ ∃ r g, o = .gr r g 10 0) (hk : B.kids.length ≤ 1073741824) (hH : HOk H) :
    Con C0 110 [.ptr b 0, x.pv.toFV] H (.tup []) (H.set b (bCells { B with kids := B.kids ++ [x] } o t)) := by
  have hbl : b < H.length := (List.getElem?_eq_some_iff.1 hb).1
  have hu := hH.set (b := b) (HOk.build (B := { B with kids := B.kids ++ [x] }) (hH.cells hb))
  obtain ⟨nm, pt, dt, so, kids, opens, text, line, has⟩ := B
  simp only [bCells] at hb hk hu ⊢
  rw [Node.toFV_eq]
  refine con_trimU (C := C0) (fn := Tryz.f110) Tryz.func110 rfl (by decide) mixed (mv := mv110) (vars := vars110) (c := Tryz.f110.body.getD .skip) (by kernel_rfl) rfl ?_ ?_
  · exact hu
  have sk := sizedN kids
  have hkk : (kids.length : Int) < (kids.length : Int) + 1 := by omega
  rcases ho with rfl | ⟨r, g, rfl⟩
  all_goals
    simp [Tryz.f110, gl, hb, heap_old hbl]
    refine DrawC.mk (fun _ _ => .undef) ?_
    simp [gl, hb, heap_old hbl, heap_old_set hbl, hs_b hbl, hs_set hbl, sk, sized1, lenMax, hkk, hs_at, hs_at0]
    refine ⟨by omega, ?_⟩
    rw [Node.pv_eq x]
    rfl
end Go.Proofs.YtkjgkhgklkdbjaaGreatDoor.Ev
end
section
namespace Go.Proofs.YtkjgkhgklkdbjaaGreatDoor.Ev
open Go
theorem splice_one {c : List FV} {p : Nat} {w : FV} (h : p < c.length) : splice c p [w] = c.set p w := by
  unfold splice
  rw [List.set_eq_take_append_cons_drop, if_pos h]
  simp
set_option linter.unusedSimpArgs false in
set_option maxRecDepth 20000 in
set_option maxHeartbeats 16000000 in
theorem conLay1 (B : Bd) (t : FV) (x : Node) (H : Heap) (b r g n : Nat) (c : List FV) (ks : List PV) (hb : H[b]? = some (bCells B (.gr r g 10 (n + 1)) t)) (hr : H[r]? = some [.row g c]) (hrb : r ≠ b)
    (hc : c[n * 10 + 4]? = some (.own ks)) (hs : Sized 10 ks) (hk : ks.length ≤ 1073741824) (hn : n ≤ 1073741824) (hH : HOk H) :
    Con C0 110 [.ptr b 0, x.pv.toFV] H (.tup []) (H.set r [.row g (c.set (n * 10 + 4) (.own (ks ++ [x.pv])))]) := by
  have hbl : b < H.length := (List.getElem?_eq_some_iff.1 hb).1
  have hrl : r < H.length := (List.getElem?_eq_some_iff.1 hr).1
  have hcl : n * 10 + 4 < c.length := (List.getElem?_eq_some_iff.1 hc).1
  have hu : ∀ fs ∈ H.set r [.row g (c.set (n * 10 + 4) (.own (ks ++ [x.pv])))], ∀ f ∈ body fs, f.und0 H.length = true := by
    refine hH.set fun f hf => ?_
    rcases List.mem_or_eq_of_mem_set (show f ∈ c.set (n * 10 + 4) (.own (ks ++ [x.pv])) from hf) with h | rfl
    · exact hH _ (List.mem_of_getElem? hr) f h
    · rfl
  obtain ⟨nm, pt, dt, so, kids, opens, text, line, has⟩ := B
  simp only [bCells] at hb
  have w1 : IntKind.i64.wrap (((n : Int) + 1) - 1) = n := by rw [wrap64 (by omega) (by omega)]; omega
  have n0 : (0 : Int) < (n : Int) + 1 := by omega
  have n1 : (n : Int) < (n : Int) + 1 := by omega
  have k1 : (ks.length : Int) < (ks.length : Int) + 1 := by omega
  rw [Node.toFV_eq]
  refine con_trimU (C := C0) (fn := Tryz.f110) Tryz.func110 rfl (by decide) mixed (mv := mv110) (vars := vars110) (c := Tryz.f110.body.getD .skip) (by kernel_rfl) rfl hu ?_
  simp [Tryz.f110, gl, hb, heap_old hbl, n0]
  have w2 : IntKind.i64.wrap (n : Int) = n := wrap64 (by omega) (by omega)
  have ho : ∀ (v : List FV) (L : Heap), (H.set r v ++ L)[b]? = H[b]? := fun v L => by
    rw [List.getElem?_append_left (by simpa using hbl), List.getElem?_set_ne hrb]
  have hc1 : ∀ v, (c.set (n * 10 + 4) v)[n * 10 + 4]? = some v := fun v => by simp [hcl]
  have hc2 : ∀ (v w : FV), splice (c.set (n * 10 + 4) v) (n * 10 + 4) [w] = c.set (n * 10 + 4) w := fun v w => by
    rw [splice_one (by simpa using hcl), List.set_set]
  have hc3 : ∀ v : FV, n * 10 + 4 + 1 ≤ (c.set (n * 10 + 4) v).length := fun v => by simp; omega
  have hc4 : ∀ v w : FV, (c.set (n * 10 + 4) v).set (n * 10 + 4) w = c.set (n * 10 + 4) w := fun v w => List.set_set ..
  have hcl' : n * 10 + 4 + 1 ≤ c.length := by omega
  have hs0 : ∀ a b : FV, splice [a] 0 [b] = [b] := fun _ _ => rfl
  refine DrawC.mk (fun _ _ => .undef) ?_
  simp [gl, hb, hr, heap_old hbl, heap_old hrl, heap_old_set hrl, hs_b hrl, hs_set hrl, hs_at, hs_at0, ho, w2, n1, hc, hc1, hc2, hcl', hs, sized1, lenMax, k1, hs0, -splice]
  refine ⟨⟨by omega, ?_⟩, DrawC.mk (fun _ _ => .undef) ?_⟩
  · rw [Node.pv_eq x]
    rfl
  · simp [gl, hb, hr, heap_old hbl, heap_old hrl, heap_old_set hrl, hs_b hrl, hs_set hrl, hs_at, hs_at0, ho, w2, n1, hc, hc1, hc2, hc3, hcl', hs, sized1, lenMax, k1, hs0, setBody, -splice]
    exact ⟨by omega, by rw [Node.pv_eq x]; rfl⟩
end Go.Proofs.YtkjgkhgklkdbjaaGreatDoor.Ev
end
section
namespace Go.Proofs.YtkjgkhgklkdbjaaGreatDoor.Ev
open Go
def rowC (l : List Node) : List FV := l.flatMap nodeO
theorem nodeO_len (x : Node) : (nodeO x).length = 10 := rfl
theorem rowC_app (a b : List Node) : rowC (a ++ b) = rowC a ++ rowC b := by simp [rowC]
theorem rowC_one (x : Node) : rowC [x] = nodeO x := by simp [rowC]
theorem rowC_len (l : List Node) : (rowC l).length = l.length * 10 := by
  induction l with
  | nil => rfl
  | cons x l ih => rw [rowC, List.flatMap_cons, List.length_append, nodeO_len, ← rowC, ih, List.length_cons]; omega
def oF (ro : Option (Nat × Nat)) (n : Nat) : FV := match ro with
  | none => .own []
  | some (r, g) => .gr r g 10 n
def Bd.long (B : Bd) : Nat := sumBy Node.long B.kids + sumBy Node.long B.opens + B.text.length
def RowIn (H : Heap) (b : Nat) (ro : Option (Nat × Nat)) (l : List Node) : Prop := match ro with
  | none => l = []
  | some (r, g) => r ≠ b ∧ ∃ rest, (∀ f ∈ rest, f.np0 = true) ∧ H[r]? = some [.row g (rowC l ++ rest)]
structure BIn (H : Heap) (b : Nat) (ro : Option (Nat × Nat)) (t : FV) (B : Bd) : Prop where
  box : H[b]? = some (bCells B (oF ro B.opens.length) t)
  row : RowIn H b ro B.opens
  txt : t = .sc (gl B.text) ∨ (B.text = [] ∧ t = .own [])
  ok : HOk H
structure Frm (H H' : Heap) (b : Nat) (ro : Option (Nat × Nat)) : Prop where
  len : H'.length = H.length
  same : ∀ i, i ≠ b → (∀ r g, ro = some (r, g) → i ≠ r) → H'[i]? = H[i]?
theorem Frm.refl (H : Heap) (b : Nat) (ro : Option (Nat × Nat)) : Frm H H b ro := ⟨rfl, fun _ _ _ => rfl⟩
theorem Frm.trans {A B C : Heap} {b : Nat} {ro : Option (Nat × Nat)} (h : Frm A B b ro) (k : Frm B C b ro) : Frm A C b ro :=
  ⟨k.len.trans h.len, fun i h1 h2 => (k.same i h1 h2).trans (h.same i h1 h2)⟩
def layBd (B : Bd) (x : Node) : Bd := match B.opens.reverse with
  | [] => { B with kids := B.kids ++ [x] }
  | y :: l => { B with opens := l.reverse ++ [y.withKids (y.kids ++ [x])] }
theorem layBd_nil {B : Bd} {x : Node} (h : B.opens = []) : layBd B x = { B with kids := B.kids ++ [x] } := by unfold layBd; rw [h]; rfl
theorem layBd_snoc {B : Bd} {x y : Node} {l : List Node} (h : B.opens = l ++ [y]) : layBd B x = { B with opens := l ++ [y.withKids (y.kids ++ [x])] } := by unfold layBd; rw [h]; simp
theorem withKids_long (y : Node) (l : List Node) : (y.withKids l).long + sumBy Node.long y.kids = y.long + sumBy Node.long l := by
  rw [Node.long_eq, Node.long_eq y]
  simp only [Node.text_wk, Node.kids_wk, Node.rows_wk, Node.grid_wk]
  omega
theorem layBd_long (B : Bd) (x : Node) : (layBd B x).long = B.long + x.long := by
  rcases List.eq_nil_or_concat B.opens with h | ⟨l, y, h⟩
  · rw [layBd_nil h]
    simp only [Bd.long, sumBy_append, sumBy]
    omega
  · rw [List.concat_eq_append] at h
    rw [layBd_snoc h]
    simp only [Bd.long, h, sumBy_append, sumBy]
    have := withKids_long y (y.kids ++ [x])
    rw [sumBy_append] at this
    simp only [sumBy] at this
    omega
theorem conLay {H : Heap} {b : Nat} {ro : Option (Nat × Nat)} {t : FV} {B : Bd} (h : BIn H b ro t B) (x : Node) (hl : B.long + x.long ≤ 1073741824) :
    ∃ H', Con C0 110 [.ptr b 0, x.pv.toFV] H (.tup []) H' ∧ BIn H' b ro t (layBd B x) ∧ Frm H H' b ro := by
  have hbl : b < H.length := (List.getElem?_eq_some_iff.1 h.box).1
  have hlen := len_le_long B.kids
  have hlen2 := len_le_long B.opens
  unfold Bd.long at hl
  rcases List.eq_nil_or_concat B.opens with ho | ⟨l, y, ho⟩
  · have hb := h.box
    rw [ho] at hb
    have hc := conLay0 B (oF ro 0) t x H b hb (by
      cases ro with
      | none => exact .inl rfl
      | some p => obtain ⟨r, g⟩ := p; exact .inr ⟨r, g, rfl⟩) (by omega) h.ok
    refine ⟨_, hc, ?_, ⟨by simp, fun i h1 _ => List.getElem?_set_ne (fun h => h1 h.symm)⟩⟩
    rw [layBd_nil ho]
    refine ⟨by rw [List.getElem?_set_self hbl]; simp only [ho]; rfl, ?_, h.txt, h.ok.set' (HOk.build (h.ok.cells hb))⟩
    have hr := h.row
    cases ro with
    | none => exact hr
    | some p =>
      obtain ⟨r, g⟩ := p
      obtain ⟨h1, rest, hnp, h2⟩ := hr
      exact ⟨h1, rest, hnp, by rw [List.getElem?_set_ne (fun h => h1 h.symm)]; exact h2⟩
  · rw [List.concat_eq_append] at ho
    have hr := h.row
    cases ro with
    | none =>
      have hr' : B.opens = [] := hr
      rw [ho] at hr'; simp at hr'
    | some p =>
      obtain ⟨r, g⟩ := p
      obtain ⟨h1, rest, hnp, h2⟩ := hr
      have hrl : r < H.length := (List.getElem?_eq_some_iff.1 h2).1
      have hb := h.box
      rw [ho] at hb h2
      simp only [List.length_append, List.length_singleton] at hb
      rw [rowC_app, rowC_one] at h2
      have hll : l.length ≤ B.opens.length := by rw [ho]; simp
      have hyl : y.long ≤ sumBy Node.long B.opens := long_mem (by rw [ho]; simp)
      have hys := long_sizes (x := y) (by omega)
      have hrc := rowC_len l
      have hat : (rowC l ++ nodeO y ++ rest)[l.length * 10 + 4]? = some (.own (y.kids.map Node.pv)) := by
        rw [List.append_assoc, List.getElem?_append_right (by omega), hrc, show l.length * 10 + 4 - l.length * 10 = 4 by omega]
        rfl
      have hc := conLay1 B t x H b r g l.length (rowC l ++ nodeO y ++ rest) (y.kids.map Node.pv) hb h2 h1 hat (sizedN _) (by simpa using hys.2.1) (by omega) h.ok
      have hset : (rowC l ++ nodeO y ++ rest).set (l.length * 10 + 4) (.own (y.kids.map Node.pv ++ [x.pv])) = rowC l ++ nodeO (y.withKids (y.kids ++ [x])) ++ rest := by
        rw [List.append_assoc, List.set_append_right _ _ (by omega), hrc, show l.length * 10 + 4 - l.length * 10 = 4 by omega, List.append_assoc]
        congr 1
        simp [nodeO]
      rw [hset] at hc
      refine ⟨_, hc, ?_, ⟨by simp, fun i _ h4 => List.getElem?_set_ne (fun h => h4 r g rfl h.symm)⟩⟩
      rw [layBd_snoc ho]
      refine ⟨?_, ⟨h1, rest, hnp, by rw [List.getElem?_set_self hrl, rowC_app, rowC_one]⟩, h.txt, h.ok.set' fun f hf => ?_⟩
      · rw [List.getElem?_set_ne h1, hb]
        simp only [List.length_append, List.length_singleton]
        rfl
      · have hf' : f ∈ rowC l ++ nodeO (y.withKids (y.kids ++ [x])) ++ rest := hf
        rw [← hset] at hf'
        rcases List.mem_or_eq_of_mem_set hf' with h' | rfl
        · exact h.ok _ (List.mem_of_getElem? h2) f h'
        · rfl
end Go.Proofs.YtkjgkhgklkdbjaaGreatDoor.Ev
end
section
namespace Go.Proofs.YtkjgkhgklkdbjaaGreatDoor.Ev
open Go
set_option linter.unusedSimpArgs false in
set_option maxRecDepth 20000 in
set_option maxHeartbeats 4000000 in
theorem conTrimG (l : List Glyph) (hl : l.length ≤ 1073741824) : PCon C0 73 [.sc (gl l)] (.own ((trimG l).map Glyph.pv)) := by
  refine penter73 ?_
  simp [Tryz.f73, gl]
  refine loopC (fun d e H => ∃ (n : Nat) (x2 x18 : FV), d = n ∧ ends l ≤ n ∧ n ≤ l.length ∧ e = [(0, .sc (.sl (l.map Glyph.pv))), (2, .own []), (3, .sc (.int .i64 n)), (18, x18)]) (d := l.length) ⟨l.length, .undef, .undef, rfl, ends_le l, Nat.le_refl _, rfl⟩ ?_
  rintro d e H ⟨n, x2, x18, hd, hn, hnl, rfl⟩
  have hd' := hd.symm
  subst hd'
  have hsb : sizedB 2 (l.map Glyph.pv) = true := by simp [sizedB]; exact fun g _ => rfl
  by_cases h0 : n = 0
  · subst h0
    have ht : trimG l = [] := List.eq_nil_of_length_eq_zero (by unfold ends at hn; omega)
    have cg := cloneG [] (by simp [lenMax])
    simp only [gl, List.map_nil] at cg
    simp [ht, hsb]
    refine CallQ.mk (Call.pure callable69 (by simp) (by simp) cg) ?_
    simp
  · obtain ⟨k, rfl⟩ : ∃ k, n = k + 1 := ⟨n - 1, by omega⟩
    have hk : k < l.length := by omega
    have w1 : IntKind.i64.wrap (((k + 1 : Nat) : Int) - 1) = (k : Nat) := by rw [wrap64 (by omega) (by omega)]; omega
    simp at w1
    have hq : (l.map Glyph.pv)[k]? = some (l[k]).pv := by simp [hk]
    by_cases h32 : l[k].r = 32
    · have hne : ¬ ends l = k + 1 := fun he => by
        have := ends_at (l := l) (by omega)
        simp [he, Glyph.blank, h32] at this
      simp [w1, hq, Glyph.pv, h32]
      exact ⟨k, by omega, by omega, by omega, .undef, rfl⟩
    · have he : ends l = k + 1 := by
        rcases Nat.lt_or_ge k (ends l) with h | h
        · omega
        · have := ends_behind hk h
          simp [Glyph.blank, h32] at this
      have hkl : (k : Int) + 1 ≤ l.length := by omega
      have hk0 : (0 : Int) ≤ (k : Int) + 1 := by omega
      have cg := cloneG (trimG l) (by show (trimG l).length ≤ 137438953472; have := ends_le l; unfold ends at this; omega)
      rw [trimG_take, he] at cg
      simp only [gl, List.map_take] at cg
      rw [trimG_take, he]
      simp [w1, hq, Glyph.pv, h32, hsb, hkl, hk0]
      refine CallQ.mk (Call.pure callable69 (by simp) (by simp) cg) ?_
      simp
end Go.Proofs.YtkjgkhgklkdbjaaGreatDoor.Ev
end
section
namespace Go.Proofs.YtkjgkhgklkdbjaaGreatDoor.Ev
open Go
def laid (out : List Block) (b : Block) : Block := match out.getLast? with
  | some x => { b with gap := decide (x.kind ≠ 1) && decide (x.kind ≠ 2) }
  | none => b
end Go.Proofs.YtkjgkhgklkdbjaaGreatDoor.Ev
end
section
namespace Go.Proofs.YtkjgkhgklkdbjaaGreatDoor.Ev
open Go
def FLe (f g : FV) : Prop := ∀ (W : Wd) (r : Option Root) (i : Nat) (v : Value), FRep W r i f v → FRep W r i g v
inductive FLes : List FV → List FV → Prop
  | nil : FLes [] []
  | cons {f g : FV} {l m : List FV} : FLe f g → FLes l m → FLes (f :: l) (g :: m)
theorem FLes.len {l m : List FV} (h : FLes l m) : l.length = m.length := by
  induction h with
  | nil => rfl
  | cons _ _ ih => simp [ih]
theorem FLes.get {l m : List FV} (h : FLes l m) : ∀ {j : Nat} {g : FV}, m[j]? = some g → ∃ f, l[j]? = some f ∧ FLe f g := by
  induction h with
  | nil => intro j g h; simp at h
  | cons h _ ih =>
    intro j g hg
    cases j with
    | zero => simp at hg; subst hg; exact ⟨_, rfl, h⟩
    | succ j => exact ih (by simpa using hg)
theorem FLe.refl (f : FV) : FLe f f := fun _ _ _ _ h => h
theorem FLe.emp : FLe .emp (.sc (.sl [])) := fun _ _ _ _ h => by
  cases h
  exact .sc rfl .nil
theorem FLe.agg {l m : List FV} (h : FLes l m) : FLe (.agg l) (.agg m) := fun W r i v hv => by
  cases hv with
  | agg hs hr =>
    refine .agg (hs.trans h.len) fun j g v hg hv => ?_
    obtain ⟨f, hf, hle⟩ := h.get hg
    exact hle _ _ _ _ (hr j f v hf hv)
end Go.Proofs.YtkjgkhgklkdbjaaGreatDoor.Ev
end
section
namespace Go.Proofs.YtkjgkhgklkdbjaaGreatDoor.Ev
open Go
theorem Con.les {C : Ctx} {f : FuncId} {args args' : List FV} {H : Heap} {r : FV} {H' : Heap} (h : Con C f args' H r H') (hl : FLes args args') : Con C f args H r H' := fun vs W h1 h2 h3 h4 =>
  h vs W (h1.trans hl.len) (fun j g v hg hv => by
    obtain ⟨f, hf, hle⟩ := hl.get hg
    exact hle _ _ _ _ (h2 j f v hf hv)) h3 h4
theorem hsetB {H : Heap} {b : Nat} (h : b < H.length) {x : List FV} : (H.set b x)[b]? = some x := List.getElem?_set_self h
def paraB (B : Bd) : Node := .mk 3 B.line 0 B.text [] [] noTbl
def endBd (B : Bd) : Bd := if B.has = false then B else { (if trimG B.text = [] then B else layBd B (paraB B)) with text := [], has := false }
theorem paraB_long (B : Bd) : (paraB B).long = 3 + B.text.length := by rw [Node.long_eq]; simp [paraB, noTbl, rowsLong, sumBy]
theorem layBd_text (B : Bd) (x : Node) : (layBd B x).text = B.text ∧ (layBd B x).has = B.has ∧ (layBd B x).line = B.line ∧ (layBd B x).name = B.name ∧ (layBd B x).part = B.part ∧ (layBd B x).date = B.date ∧ (layBd B x).source = B.source ∧ (layBd B x).opens.length = B.opens.length := by
  rcases List.eq_nil_or_concat B.opens with h | ⟨l, y, h⟩
  · rw [layBd_nil h]; simp
  · rw [List.concat_eq_append] at h
    rw [layBd_snoc h]; simp [h]
theorem endBd_long (B : Bd) : (endBd B).long ≤ B.long + 3 := by
  unfold endBd
  split
  · omega
  · split
    · simp only [Bd.long, List.length_nil]; omega
    · have h1 := layBd_long B (paraB B)
      have h2 := paraB_long B
      have h3 := (layBd_text B (paraB B)).1
      have h4 : ({ layBd B (paraB B) with text := [], has := false } : Bd).long + (layBd B (paraB B)).text.length = (layBd B (paraB B)).long := by simp only [Bd.long, List.length_nil]; omega
      rw [h3] at h4
      omega
theorem BIn.clear {H : Heap} {b : Nat} {ro : Option (Nat × Nat)} {t : FV} {B : Bd} (h : BIn H b ro t B) : BIn (H.set b (bCells { B with text := [], has := false } (oF ro B.opens.length) (.own []))) b ro (.own []) { B with text := [], has := false } ∧ Frm H (H.set b (bCells { B with text := [], has := false } (oF ro B.opens.length) (.own []))) b ro := by
  have hbl : b < H.length := (List.getElem?_eq_some_iff.1 h.box).1
  refine ⟨⟨by rw [List.getElem?_set_self hbl], ?_, .inr ⟨rfl, rfl⟩, h.ok.set' (HOk.build ⟨(h.ok.cells h.box).1, rfl⟩)⟩, by simp, fun i h1 _ => List.getElem?_set_ne (fun h => h1 h.symm)⟩
  have hr := h.row
  cases ro with
  | none => exact hr
  | some p =>
    obtain ⟨r, g⟩ := p
    obtain ⟨h1, rest, hnp, h2⟩ := hr
    exact ⟨h1, rest, hnp, by rw [List.getElem?_set_ne (fun h => h1 h.symm)]; exact h2⟩
set_option linter.unusedSimpArgs false in
set_option maxRecDepth 20000 in
set_option maxHeartbeats 16000000 in
theorem conEnd {H : Heap} {b : Nat} {ro : Option (Nat × Nat)} {t : FV} {B : Bd} (h : BIn H b ro t B) (hl : B.long ≤ 500000000) :
    ∃ H' t', Con C0 54 [.ptr b 0] H (.tup []) H' ∧ BIn H' b ro t' (endBd B) ∧ Frm H H' b ro := by
  have hbl : b < H.length := (List.getElem?_eq_some_iff.1 h.box).1
  cases hh : B.has with
  | false =>
    refine ⟨H, t, ?_, by unfold endBd; rw [if_pos hh]; exact h, Frm.refl _ _ _⟩
    have hb := h.box
    generalize oF ro B.opens.length = o at hb
    obtain ⟨nm, pt, dt, so, kids, opens, text, line, has⟩ := B
    simp only at hh
    subst hh
    simp only [bCells] at hb
    refine enter54 ?_
    simp [Tryz.f54, hb]
  | true =>
    have htl : B.text.length ≤ 1073741824 := by unfold Bd.long at hl; omega
    have ct := conTrimG B.text htl
    by_cases htr : trimG B.text = []
    · have hc := h.clear
      refine ⟨_, _, ?_, by unfold endBd; rw [if_neg (by simp [hh]), if_pos htr]; exact hc.1, hc.2⟩
      have hb := h.box
      have htx := h.txt
      generalize oF ro B.opens.length = o at hb ⊢
      obtain ⟨nm, pt, dt, so, kids, opens, text, line, has⟩ := B
      simp only at hh htr ct htx
      subst hh
      simp only [bCells] at hb ⊢
      rw [htr] at ct
      refine enter54 ?_
      rcases htx with rfl | ⟨rfl, rfl⟩
      all_goals
        simp only [gl, List.map_nil] at ct
        simp [Tryz.f54, hb, gl]
        refine CallQ.mk (Call.pure callable73 (by simp) (by simp) ct) ?_
        simp [hb, gl, hsetB hbl]
    · obtain ⟨H1, c1, c2, c3⟩ := conLay h (paraB B) (by rw [paraB_long]; unfold Bd.long at *; omega)
      have hc := c2.clear
      refine ⟨_, _, ?_, by unfold endBd; rw [if_neg (by simp [hh]), if_neg htr]; exact hc.1, c3.trans hc.2⟩
      have hb := h.box
      have hb2 := c2.box
      have hbl2 : b < H1.length := (List.getElem?_eq_some_iff.1 hb2).1
      have htx := h.txt
      have hlt := layBd_text B (paraB B)
      have hpos : 0 < (trimG B.text).length := List.length_pos_iff.2 htr
      generalize layBd B (paraB B) = L at *
      obtain ⟨l1, l2, l3, l4, l5, l6, l7, l8⟩ := hlt
      rw [Node.toFV_eq] at c1
      simp only [paraB, Node.kind_mk, Node.line_mk, Node.n_mk, Node.text_mk, Node.kids_mk, Node.rows_mk, Node.grid_mk, noTbl, List.map_nil] at c1
      rw [l8] at hb2 ⊢
      generalize oF ro B.opens.length = o at hb hb2 ⊢
      obtain ⟨nm, pt, dt, so, kids, opens, text, line, has⟩ := B
      obtain ⟨nm', pt', dt', so', kids', opens', text', line', has'⟩ := L
      simp only at hh htr ct htx l1 l2 l3 l4 l5 l6 l7 l8 hpos c1
      subst hh l1 l2 l3 l4 l5 l6 l7
      simp only [bCells] at hb hb2 ⊢
      have c1' : Con C0 110 [.ptr b 0, .agg [.sc (.int .i64 3), .sc (.int .i64 line'), .sc (.int .i64 0), .sc (.sl (text'.map Glyph.pv)), .emp, .emp, .sc (.str ByteArray.empty), .emp, .sc (.bool false), .sc (.bool false)]] H (.tup []) H1 :=
        c1.les (by repeat' first | exact FLes.nil | exact FLe.refl _ | exact FLe.emp | apply FLes.cons | apply FLe.agg)
      refine enter54 ?_
      simp only [gl] at ct
      rcases htx with rfl | ⟨rfl, rfl⟩
      · simp [Tryz.f54, hb, gl]
        refine CallQ.mk (Call.pure callable73 (by simp) (by simp) ct) ?_
        simp [hb, gl, hpos]
        refine CallQ.mk (CallP.shared callable110 c1') ?_
        simp [hb2, hsetB hbl2]
      · exact absurd rfl htr
end Go.Proofs.YtkjgkhgklkdbjaaGreatDoor.Ev
end
section
namespace Go.Proofs.YtkjgkhgklkdbjaaGreatDoor.Ev
open Go
theorem BIn.tell {H : Heap} {b : Nat} {ro : Option (Nat × Nat)} {t t' : FV} {B B' : Bd} (h : BIn H b ro t B) (ho : B'.opens = B.opens) (ht : t' = .sc (gl B'.text) ∨ (B'.text = [] ∧ t' = .own [])) :
    BIn (H.set b (bCells B' (oF ro B.opens.length) t')) b ro t' B' ∧ Frm H (H.set b (bCells B' (oF ro B.opens.length) t')) b ro := by
  have hbl : b < H.length := (List.getElem?_eq_some_iff.1 h.box).1
  refine ⟨⟨by rw [List.getElem?_set_self hbl, ho], ?_, ht, h.ok.set' (HOk.build ⟨(h.ok.cells h.box).1, by rcases ht with rfl | ⟨_, rfl⟩ <;> rfl⟩)⟩, by simp, fun i h1 _ => List.getElem?_set_ne (fun h => h1 h.symm)⟩
  have hr := h.row
  rw [ho]
  cases ro with
  | none => exact hr
  | some p =>
    obtain ⟨r, g⟩ := p
    obtain ⟨h1, rest, hnp, h2⟩ := hr
    exact ⟨h1, rest, hnp, by rw [List.getElem?_set_ne (fun h => h1 h.symm)]; exact h2⟩
set_option linter.unusedSimpArgs false in
set_option maxRecDepth 20000 in
set_option maxHeartbeats 4000000 in
theorem conTitle {H : Heap} {b : Nat} {ro : Option (Nat × Nat)} {t : FV} {B : Bd} (h : BIn H b ro t B) (n p d s : ByteArray) :
    ∃ H', Con C0 131 [.ptr b 0, .sc (.str n), .sc (.str p), .sc (.str d), .sc (.str s)] H (.tup []) H' ∧ BIn H' b ro t { B with name := n, part := p, date := d, source := s } ∧ Frm H H' b ro := by
  have hbl : b < H.length := (List.getElem?_eq_some_iff.1 h.box).1
  have hc := h.tell (B' := { B with name := n, part := p, date := d, source := s }) (t' := t) rfl h.txt
  refine ⟨_, ?_, hc⟩
  have hb := h.box
  generalize oF ro B.opens.length = o at hb ⊢
  obtain ⟨nm, pt, dt, so, kids, opens, text, line, has⟩ := B
  simp only [bCells] at hb ⊢
  refine enter131 ?_
  simp [Tryz.f131, hb, hsetB hbl]
def textBd (B : Bd) (l : List Glyph) (ln : Int) : Bd := { B with text := joinS B.text l, line := if B.has = true then B.line else ln, has := true }
set_option linter.unusedSimpArgs false in
set_option maxRecDepth 20000 in
set_option maxHeartbeats 8000000 in
theorem conText {H : Heap} {b : Nat} {ro : Option (Nat × Nat)} {t : FV} {B : Bd} (h : BIn H b ro t B) (l : List Glyph) (ln : Int) (hl : B.text.length + l.length ≤ 536870912) :
    ∃ H', Con C0 74 [.ptr b 0, .sc (gl l), .sc (.int .i64 ln)] H (.tup []) H' ∧ BIn H' b ro (.sc (gl (joinS B.text l))) (textBd B l ln) ∧ Frm H H' b ro := by
  have hbl : b < H.length := (List.getElem?_eq_some_iff.1 h.box).1
  have hc := h.tell (B' := textBd B l ln) (t' := .sc (gl (joinS B.text l))) rfl (.inl rfl)
  refine ⟨_, ?_, hc⟩
  have hb := h.box
  have htx := h.txt
  have cj := conJoinS B.text l hl
  generalize oF ro B.opens.length = o at hb ⊢
  obtain ⟨nm, pt, dt, so, kids, opens, text, line, has⟩ := B
  simp only [bCells, textBd] at hb htx cj ⊢
  refine enter74 ?_
  rcases htx with rfl | ⟨rfl, rfl⟩
  all_goals
    simp only [gl, List.map_nil] at cj hb
    cases has
    all_goals
      simp [Tryz.f74, hb, hsetB hbl, gl]
      refine CallQ.mk (Call.pure callable116 (by simp) (by simp) cj) ?_
      simp [hb, hsetB hbl]
def Bd.zero : Bd := ⟨ByteArray.empty, ByteArray.empty, ByteArray.empty, ByteArray.empty, [], [], [], 0, false⟩
set_option maxRecDepth 20000 in
theorem conNew (H : Heap) : Con C0 37 [] H (.ptr H.length 0) (H ++ [bCells Bd.zero (.own []) (.own [])]) := by
  refine enter37 ?_
  simp [Tryz.f37, bCells, Bd.zero]
end Go.Proofs.YtkjgkhgklkdbjaaGreatDoor.Ev
end
section
namespace Go.Proofs.YtkjgkhgklkdbjaaGreatDoor.Ev
open Go
theorem und0_mono {n m : Nat} (h : n ≤ m) {f : FV} (hf : f.und0 n = true) : f.und0 m = true := by
  cases f with
  | fn f a b => cases a <;> cases b <;> simp_all [FV.und0]
  | ptr b o => simp only [FV.und0, decide_eq_true_eq] at hf ⊢; omega
  | bs b o k => simp only [FV.und0, decide_eq_true_eq] at hf ⊢; omega
  | gr b g z k => simp only [FV.und0, decide_eq_true_eq] at hf ⊢; omega
  | gp b g o => simp only [FV.und0, decide_eq_true_eq] at hf ⊢; omega
  | _ => simp_all [FV.und0]
theorem HOk.more {H : Heap} (h : HOk H) {fs : List FV} (hf : ∀ f ∈ body fs, f.und0 (H.length + 1) = true) : HOk (H ++ [fs]) := fun gs hg f hf' => by
  rw [List.length_append, List.length_singleton]
  rcases List.mem_append.1 hg with h' | h'
  · exact und0_mono (Nat.le_succ _) (h gs h' f hf')
  · rw [List.mem_singleton.1 h'] at hf'; exact hf f hf'
theorem BIn.more {H : Heap} {b : Nat} {ro : Option (Nat × Nat)} {t : FV} {B : Bd} (h : BIn H b ro t B) {fs : List FV} (hf : ∀ f ∈ body fs, f.und0 (H.length + 1) = true) : BIn (H ++ [fs]) b ro t B := by
  have hbl : b < H.length := (List.getElem?_eq_some_iff.1 h.box).1
  refine ⟨by rw [heap_old hbl]; exact h.box, ?_, h.txt, h.ok.more hf⟩
  have hr := h.row
  cases ro with
  | none => exact hr
  | some p =>
    obtain ⟨r, g⟩ := p
    obtain ⟨h1, rest, hnp, h2⟩ := hr
    have hrl : r < H.length := (List.getElem?_eq_some_iff.1 h2).1
    exact ⟨h1, rest, hnp, by rw [heap_old hrl]; exact h2⟩
theorem nodeO_und (x : Node) (n : Nat) : ∀ f ∈ nodeO x, f.und0 n = true := fun f hf => by
  simp only [nodeO, List.mem_cons, List.not_mem_nil, or_false] at hf
  rcases hf with rfl | rfl | rfl | rfl | rfl | rfl | rfl | rfl | rfl | rfl <;> rfl
theorem rowC_und (l : List Node) (n : Nat) : ∀ f ∈ rowC l, f.und0 n = true := fun f hf => by
  simp only [rowC, List.mem_flatMap] at hf
  obtain ⟨x, _, hx⟩ := hf
  exact nodeO_und x n f hx
theorem BIn.take {H L H1 : Heap} {b : Nat} {ro : Option (Nat × Nat)} {t0 t : FV} {B0 B : Bd} (h0 : BIn H b ro t0 B0) (h : BIn H1 b ro t B) (hf : Frm (H ++ L) H1 b ro) : BIn (H1.take H.length) b ro t B ∧ Frm H (H1.take H.length) b ro := by
  have hbl : b < H.length := (List.getElem?_eq_some_iff.1 h0.box).1
  have hlen : (H1.take H.length).length = H.length := by rw [List.length_take, hf.len, List.length_append]; omega
  have hget : ∀ i, i < H.length → (H1.take H.length)[i]? = H1[i]? := fun i hi => List.getElem?_take_of_lt hi
  have hold : ∀ i, i < H.length → i ≠ b → (∀ r g, ro = some (r, g) → i ≠ r) → H1[i]? = H[i]? := fun i hi h1 h2 => by rw [hf.same i h1 h2, heap_old hi]
  have hrl : ∀ r g, ro = some (r, g) → r < H.length := fun r g hrg => by
    have hr := h0.row
    subst hrg
    obtain ⟨_, rest, _, h2⟩ := hr
    exact (List.getElem?_eq_some_iff.1 h2).1
  have hone : (oF ro B.opens.length).und0 H.length = true := by
    cases ro with
    | none => rfl
    | some p => obtain ⟨r, g⟩ := p; simp only [oF, FV.und0, decide_eq_true_eq]; exact hrl r g rfl
  refine ⟨⟨by rw [hget b hbl]; exact h.box, ?_, h.txt, fun gs hg f hf' => ?_⟩, hlen, fun i h1 h2 => ?_⟩
  · have hr := h.row
    cases ro with
    | none => exact hr
    | some p =>
      obtain ⟨r, g⟩ := p
      obtain ⟨h1, rest, hnp, h2⟩ := hr
      exact ⟨h1, rest, hnp, by rw [hget r (hrl r g rfl)]; exact h2⟩
  · rw [hlen]
    obtain ⟨i, hi⟩ := List.getElem?_of_mem hg
    have hil : i < H.length := by rw [← hlen]; exact (List.getElem?_eq_some_iff.1 hi).1
    rw [hget i hil] at hi
    by_cases hib : i = b
    · subst hib
      rw [h.box] at hi
      obtain rfl := Option.some.inj hi
      exact HOk.build ⟨hone, by rcases h.txt with rfl | ⟨_, rfl⟩ <;> rfl⟩ f hf'
    · by_cases hir : ∃ g, ro = some (i, g)
      · obtain ⟨g, rfl⟩ := hir
        obtain ⟨h1, rest, hnp, h2⟩ := h.row
        rw [h2] at hi
        obtain rfl := Option.some.inj hi
        rcases List.mem_append.1 (show f ∈ rowC B.opens ++ rest from hf') with h' | h'
        · exact rowC_und _ _ f h'
        · exact FV.und_np (hnp f h')
      · rw [hold i hil hib (fun r g hrg hh => hir ⟨g, by rw [hrg, hh]⟩)] at hi
        exact h0.ok gs (List.mem_of_getElem? hi) f hf'
  · by_cases hil : i < H.length
    · rw [hget i hil]; exact hold i hil h1 h2
    · rw [List.getElem?_eq_none (by omega), List.getElem?_eq_none (by omega)]
end Go.Proofs.YtkjgkhgklkdbjaaGreatDoor.Ev
end
section
namespace Go.Proofs.YtkjgkhgklkdbjaaGreatDoor.Ev
open Go
def nodeD (x : Node) : List FV := [.sc (.int .i64 x.kind), .sc (.int .i64 x.line), .sc (.int .i64 x.n), .sc (.sl (x.text.map Glyph.pv)), .sc (.sl (x.kids.map Node.pv)), .sc (.sl (x.rows.map gl)), .sc (.str x.grid.cols), .sc (.sl (x.grid.rows.map TRow.pv)), .sc (.bool x.grid.box), .sc (.bool x.grid.all)]
theorem row_at {l : List Node} {rest : List FV} {i : Nat} (h : i < l.length) : List.take 10 (List.drop (i * 10) (List.map demote1 (rowC l ++ rest))) = nodeD l[i] ∧ i * 10 + 10 ≤ (rowC l ++ rest).length := by
  have hs : l = l.take i ++ l[i] :: l.drop (i + 1) := by
    rw [← List.drop_eq_getElem_cons h, List.take_append_drop]
  have hc : rowC l = rowC (l.take i) ++ (nodeO l[i] ++ rowC (l.drop (i + 1))) := by
    conv => lhs; rw [hs]
    rw [rowC_app]
    congr 1
  have hl : (rowC (l.take i)).length = i * 10 := by rw [rowC_len, List.length_take]; congr 1; omega
  constructor
  · rw [← List.map_drop, ← List.map_take, hc, List.append_assoc, List.drop_left' hl, List.append_assoc, List.take_left' (nodeO_len _)]
    rfl
  · rw [List.length_append, rowC_len]; omega
theorem BIn.cut {H : Heap} {b r g : Nat} {t : FV} {B : Bd} {l : List Node} {x : Node} (h : BIn H b (some (r, g)) t B) (ho : B.opens = l ++ [x]) :
    BIn (H.set b (bCells { B with opens := l } (.gr r g 10 l.length) t)) b (some (r, g)) t { B with opens := l } ∧ Frm H (H.set b (bCells { B with opens := l } (.gr r g 10 l.length) t)) b (some (r, g)) := by
  have hbl : b < H.length := (List.getElem?_eq_some_iff.1 h.box).1
  obtain ⟨h1, rest, hnp, h2⟩ := h.row
  have hrl : r < H.length := (List.getElem?_eq_some_iff.1 h2).1
  refine ⟨⟨by rw [List.getElem?_set_self hbl]; rfl, ?_, h.txt, h.ok.set' (HOk.build ⟨by simp only [FV.und0, decide_eq_true_eq]; exact hrl, (h.ok.cells h.box).2⟩)⟩, by simp, fun i h1 _ => List.getElem?_set_ne (fun h => h1 h.symm)⟩
  refine ⟨h1, nodeO x ++ rest, fun f hf => ?_, ?_⟩
  · rcases List.mem_append.1 hf with hf | hf
    · simp only [nodeO, List.mem_cons, List.not_mem_nil, or_false] at hf
      rcases hf with rfl | rfl | rfl | rfl | rfl | rfl | rfl | rfl | rfl | rfl <;> rfl
    · exact hnp f hf
  · rw [List.getElem?_set_ne (fun h => h1 h.symm), h2, ho, rowC_app, rowC_one, List.append_assoc]
set_option linter.unusedSimpArgs false in
set_option maxRecDepth 20000 in
set_option maxHeartbeats 8000000 in
theorem conPop {H : Heap} {b : Nat} {ro : Option (Nat × Nat)} {t : FV} {B : Bd} (h : BIn H b ro t B) {l : List Node} {x : Node} (ho : B.opens = l ++ [x]) (hl : B.long ≤ 400000000) :
    ∃ H', Con C0 81 [.ptr b 0] H (.tup []) H' ∧ BIn H' b ro t (layBd { B with opens := l } x) ∧ Frm H H' b ro := by
  have hbl : b < H.length := (List.getElem?_eq_some_iff.1 h.box).1
  cases ro with
  | none =>
    have hr : B.opens = [] := h.row
    rw [ho] at hr; simp at hr
  | some p =>
    obtain ⟨r, g⟩ := p
    have hlong : ({ B with opens := l } : Bd).long + x.long = B.long := by simp only [Bd.long, ho, sumBy_append, sumBy]; omega
    obtain ⟨k1, k2⟩ := h.cut ho
    have k3 := k1.more (fs := nodeD x) (fun f hf => by
      simp only [body, nodeD, List.mem_cons, List.not_mem_nil, or_false] at hf
      rcases hf with rfl | rfl | rfl | rfl | rfl | rfl | rfl | rfl | rfl | rfl <;> rfl)
    obtain ⟨H1, c1, c2, c3⟩ := conLay k3 x (by omega)
    have hk := k1.take c2 c3
    have hlen : (H.set b (bCells { B with opens := l } (.gr r g 10 l.length) t)).length = H.length := by simp
    rw [hlen] at hk
    refine ⟨H1.take H.length, ?_, hk.1, k2.trans hk.2⟩
    obtain ⟨h1, rest, hnp, h2⟩ := h.row
    have hrl : r < H.length := (List.getElem?_eq_some_iff.1 h2).1
    have hol : l.length ≤ B.opens.length := by rw [ho]; simp
    have hob := len_le_long B.opens
    obtain ⟨ra, rb⟩ := row_at (l := B.opens) (rest := rest) (i := l.length) (by rw [ho]; simp)
    have hxo : B.opens[l.length]'(by rw [ho]; simp) = x := by simp [ho]
    rw [hxo] at ra
    have hb := h.box
    have hn : B.opens.length = l.length + 1 := by rw [ho]; simp
    simp only [oF, hn] at hb
    unfold Bd.long at hl
    have w1 : IntKind.i64.wrap (((l.length : Int) + 1) - 1) = l.length := by rw [wrap64 (by omega) (by omega)]; omega
    have w2 : IntKind.i64.wrap (l.length : Int) = l.length := wrap64 (by omega) (by omega)
    have n1 : (l.length : Int) < (l.length : Int) + 1 := by omega
    have n2 : (l.length : Int) ≤ (l.length : Int) + 1 := by omega
    generalize rowC B.opens ++ rest = c at h2 ra rb
    rw [Node.toFV_eq] at c1
    simp only [gl] at c1
    simp only [bCells, nodeD] at hb c1 ra
    refine con_trimU (C := C0) (fn := Tryz.f81) Tryz.func81 rfl (by decide) mixed (mv := mv81) (vars := vars81) (c := Tryz.f81.body.getD .skip) (by kernel_rfl) rfl (fun fs hfs f hf => by have := hk.1.ok fs hfs f hf; rw [hk.2.len, hlen] at this; exact this) ?_
    simp [Tryz.f81, hb, h2, heap_old hbl, heap_old hrl, heap_old_set hbl, hs_b hbl, hs_at, hs_at0, w1, w2, n1, n2, ra, rb]
    refine CallQ.mk (Call.shared callable110 c1) ?_
    simp
end Go.Proofs.YtkjgkhgklkdbjaaGreatDoor.Ev
end
section
namespace Go.Proofs.YtkjgkhgklkdbjaaGreatDoor.Ev
open Go
structure FrG (H H' : Heap) (b : Nat) (ro ro' : Option (Nat × Nat)) : Prop where
  le : H.length ≤ H'.length
  same : ∀ i, i < H.length → i ≠ b → (∀ r g, ro = some (r, g) → i ≠ r) → H'[i]? = H[i]?
  row : (∀ r g, ro = some (r, g) → ∃ g', ro' = some (r, g')) ∧ (ro = none → ∀ r g, ro' = some (r, g) → H.length ≤ r)
theorem Frm.toG {H H' : Heap} {b : Nat} {ro : Option (Nat × Nat)} (h : Frm H H' b ro) : FrG H H' b ro ro :=
  ⟨by rw [h.len]; exact Nat.le_refl _, fun i _ h1 h2 => h.same i h1 h2, fun r g hr => ⟨g, hr⟩, fun h0 r g hr => by rw [h0] at hr; simp at hr⟩
theorem FrG.trans {A B C : Heap} {b : Nat} {r1 r2 r3 : Option (Nat × Nat)} (h : FrG A B b r1 r2) (k : FrG B C b r2 r3) : FrG A C b r1 r3 where
  le := Nat.le_trans h.le k.le
  same i hi h1 h2 := by
    have hi' : i < B.length := Nat.lt_of_lt_of_le hi h.le
    refine (k.same i hi' h1 fun r g hr => ?_).trans (h.same i hi h1 h2)
    cases r1 with
    | none => have := h.row.2 rfl r g hr; omega
    | some p =>
      obtain ⟨r', g'⟩ := p
      obtain ⟨g2, hg2⟩ := h.row.1 r' g' rfl
      rw [hg2] at hr
      simp only [Option.some.injEq, Prod.mk.injEq] at hr
      have := h2 r' g' rfl
      omega
  row := ⟨fun r g hr => by
    obtain ⟨g', h1⟩ := h.row.1 r g hr
    exact k.row.1 r g' h1, fun h0 r g hr => by
    cases r2 with
    | none => exact Nat.le_trans h.le (k.row.2 rfl r g hr)
    | some p =>
      obtain ⟨r', g'⟩ := p
      have h3 := h.row.2 h0 r' g' rfl
      obtain ⟨g2, hg2⟩ := k.row.1 r' g' rfl
      rw [hg2] at hr
      simp only [Option.some.injEq, Prod.mk.injEq] at hr
      omega⟩
theorem hcm2 {H : Heap} {b r : Nat} (h : r ≠ b) {v w : List FV} : (H.set b v).set r w = (H.set r w).set b v := List.set_comm v w (fun h' => h h'.symm)
theorem splice_end {c : List FV} {n : Nat} {z v : List FV} (hz : z.length = v.length) (hn : c.length = n) : splice (c ++ z) n v = c ++ v := by
  unfold splice
  rw [List.take_left' hn, List.drop_of_length_le (by rw [List.length_append]; omega), List.append_nil]
end Go.Proofs.YtkjgkhgklkdbjaaGreatDoor.Ev
end
section
namespace Go.Proofs.YtkjgkhgklkdbjaaGreatDoor.Ev
open Go
def popBd (B : Bd) : Bd := match B.opens.reverse with
  | [] => B
  | x :: l => layBd { B with opens := l.reverse } x
theorem popBd_snoc {B : Bd} {l : List Node} {x : Node} (h : B.opens = l ++ [x]) : popBd B = layBd { B with opens := l } x := by unfold popBd; rw [h]; simp
def kinds (l : List Node) : List Int := l.map Node.kind
theorem layBd_kinds (B : Bd) (x : Node) : kinds (layBd B x).opens = kinds B.opens := by
  rcases List.eq_nil_or_concat B.opens with h | ⟨l, y, h⟩
  · rw [layBd_nil h]
  · rw [List.concat_eq_append] at h
    rw [layBd_snoc h]; simp [h, kinds]
theorem popBd_kinds {B : Bd} {l : List Node} {x : Node} (h : B.opens = l ++ [x]) : kinds (popBd B).opens = kinds l := by rw [popBd_snoc h, layBd_kinds]
theorem popBd_len {B : Bd} {l : List Node} {x : Node} (h : B.opens = l ++ [x]) : (popBd B).opens.length = l.length := by
  have := congrArg List.length (popBd_kinds h)
  simpa [kinds] using this
theorem popBd_long (B : Bd) : (popBd B).long = B.long := by
  rcases List.eq_nil_or_concat B.opens with h | ⟨l, y, h⟩
  · unfold popBd; rw [h]; rfl
  · rw [List.concat_eq_append] at h
    rw [popBd_snoc h, layBd_long]
    simp only [Bd.long, h, sumBy_append, sumBy]; omega
end Go.Proofs.YtkjgkhgklkdbjaaGreatDoor.Ev
end
section
namespace Go.Proofs.YtkjgkhgklkdbjaaGreatDoor.Ev
open Go
def emptyN : Nat → Bd → Bd
  | 0, B => B
  | n + 1, B => emptyN n (popBd B)
inductive Emptying (b : Nat) (ro : Option (Nat × Nat)) (t : FV) : Heap → Bd → Heap → Prop
  | none {H : Heap} {B : Bd} : BIn H b ro t B → B.opens = [] → Emptying b ro t H B H
  | step {H H1 H2 : Heap} {B : Bd} {l : List Node} {x : Node} : BIn H b ro t B → B.opens = l ++ [x] → Con C0 81 [.ptr b 0] H (.tup []) H1 → Emptying b ro t H1 (popBd B) H2 → Emptying b ro t H B H2
theorem emptying {b : Nat} {ro : Option (Nat × Nat)} {t : FV} : ∀ (n : Nat) {H : Heap} {B : Bd}, B.opens.length = n → BIn H b ro t B → B.long ≤ 400000000 →
    ∃ H', Emptying b ro t H B H' ∧ BIn H' b ro t (emptyN n B) ∧ Frm H H' b ro := by
  intro n
  induction n with
  | zero => intro H B hn h hl; exact ⟨H, .none h (List.length_eq_zero_iff.1 hn), h, .refl _ _ _⟩
  | succ n ih =>
    intro H B hn h hl
    rcases List.eq_nil_or_concat B.opens with ho | ⟨l, x, ho⟩
    · rw [ho] at hn; simp at hn
    rw [List.concat_eq_append] at ho
    obtain ⟨H1, c1, c2, c3⟩ := conPop h ho hl
    rw [← popBd_snoc ho] at c2
    obtain ⟨H2, d1, d2, d3⟩ := ih (H := H1) (B := popBd B) (by rw [popBd_len ho]; rw [ho] at hn; simpa using hn) c2 (by rw [popBd_long]; exact hl)
    exact ⟨H2, .step h ho c1 d1, d2, c3.trans d3⟩
def docBd (B : Bd) : Bd := emptyN (endBd B).opens.length (endBd B)
theorem emptyN_long (n : Nat) : ∀ B : Bd, (emptyN n B).long = B.long := by
  induction n with
  | zero => intro B; rfl
  | succ n ih => intro B; rw [emptyN, ih, popBd_long]
def docD (B : Bd) : Doc := tidyD ⟨(docBd B).name, (docBd B).part, (docBd B).date, (docBd B).source, (docBd B).kids⟩
def docZ : List FV := [.sc (.str ByteArray.empty), .sc (.str ByteArray.empty), .sc (.str ByteArray.empty), .sc (.str ByteArray.empty), .own []]
structure CIn (H H' : Heap) (ro : Option (Nat × Nat)) (t : FV) (B : Bd) : Prop where
  bin : BIn H' (H.length + 1) ro t B
  fr : FrG (H ++ [docZ]) H' (H.length + 1) none ro
theorem CIn.lt {H H' : Heap} {ro : Option (Nat × Nat)} {t : FV} {B : Bd} (h : CIn H H' ro t B) : H.length + 1 < H'.length := (List.getElem?_eq_some_iff.1 h.bin.box).1
theorem CIn.old {H H' : Heap} {ro : Option (Nat × Nat)} {t : FV} {B : Bd} (h : CIn H H' ro t B) {i : Nat} (hi : i < H.length) : H'[i]? = H[i]? := by
  rw [h.fr.same i (by simp; omega) (by omega) (fun r g hr => by simp at hr), heap_old hi]
theorem CIn.doc {H H' : Heap} {ro : Option (Nat × Nat)} {t : FV} {B : Bd} (h : CIn H H' ro t B) : H'[H.length]? = some docZ := by
  rw [h.fr.same _ (by simp) (by omega) (fun r g hr => by simp at hr), heap_at0]; rfl
theorem CIn.first {H : Heap} {t : FV} {B : Bd} (hok : HOk H) (ht : t = .sc (gl B.text)) (ho : B.opens = []) : CIn H (H ++ [docZ, bCells B (.own []) t]) none t B where
  bin := ⟨by
      simp [oF], ho, .inl ht, by
      have h1 := hok.more (fs := docZ) (fun f hf => by
        simp only [body, docZ, List.mem_cons, List.not_mem_nil, or_false] at hf
        rcases hf with rfl | rfl | rfl | rfl | rfl <;> rfl)
      have h2 := h1.more (fs := bCells B (.own []) t) (HOk.build ⟨rfl, by rw [ht]; rfl⟩)
      simpa using h2⟩
  fr := ⟨by simp, fun i hi _ _ => by
      have := heap_old (H := H ++ [docZ]) (L := [bCells B (.own []) t]) hi
      simpa using this, fun r g hr => by simp at hr, fun _ r g hr => by simp at hr⟩
theorem nodeD_und (x : Node) (n : Nat) : ∀ f ∈ body (nodeD x), f.und0 n = true := fun f hf => by
  simp only [body, nodeD, List.mem_cons, List.not_mem_nil, or_false] at hf
  rcases hf with rfl | rfl | rfl | rfl | rfl | rfl | rfl | rfl | rfl | rfl <;> rfl
theorem FrG.more {A H : Heap} {b : Nat} {r1 r2 : Option (Nat × Nat)} (h : FrG A H b r1 r2) (L : Heap) : FrG A (H ++ L) b r1 r2 :=
  ⟨by have := h.le; simp; omega, fun i hi h1 h2 => by rw [heap_old (Nat.lt_of_lt_of_le hi h.le)]; exact h.same i hi h1 h2, h.row⟩
theorem FrG.put {A H : Heap} {b : Nat} {r1 r2 : Option (Nat × Nat)} (h : FrG A H b r1 r2) (w : List FV) : FrG A (H.set b w) b r1 r2 :=
  ⟨by rw [List.length_set]; exact h.le, fun i hi h1 h2 => by rw [List.getElem?_set_ne (fun hh => h1 hh.symm)]; exact h.same i hi h1 h2, h.row⟩
theorem CIn.kid {H H' : Heap} {t : FV} {B : Bd} (h : CIn H H' none t B) (y : Node) :
    CIn H (H'.set (H.length + 1) (bCells { B with kids := B.kids ++ [y] } (.own []) t) ++ [nodeD y]) none t { B with kids := B.kids ++ [y] } where
  bin := by
    have hb : BIn (H'.set (H.length + 1) (bCells { B with kids := B.kids ++ [y] } (.own []) t)) (H.length + 1) none t { B with kids := B.kids ++ [y] } :=
      ⟨by rw [List.getElem?_set_self h.lt]; rfl, h.bin.row, h.bin.txt, h.bin.ok.set' (HOk.build ⟨rfl, (h.bin.ok.cells h.bin.box).2⟩)⟩
    exact hb.more (nodeD_und y _)
  fr := (h.fr.put _).more _
theorem CIn.row0 {H H' : Heap} {t : FV} {B : Bd} (h : CIn H H' none t B) (y : Node) :
    CIn H (H'.set (H.length + 1) (bCells { B with opens := [y] } (.gr (H'.length + 1) 0 10 1) t) ++ [nodeD y, [.row 0 (nodeO y)]]) (some (H'.length + 1, 0)) t { B with opens := [y] } where
  bin := by
    have hlt := h.lt
    have hl : (H'.set (H.length + 1) (bCells { B with opens := [y] } (.gr (H'.length + 1) 0 10 1) t)).length = H'.length := by simp
    refine ⟨?_, ⟨by omega, [], by simp, ?_⟩, h.bin.txt, ?_⟩
    · rw [heap_old (by rw [hl]; exact hlt), List.getElem?_set_self hlt]; rfl
    · rw [List.getElem?_append_right (by omega), hl, rowC_one, List.append_nil, Nat.add_sub_cancel_left]; rfl
    · intro gs hg f hf
      have hu := fun (m : Nat) (hm : H'.length + 1 < m) => HOk.build (n := m) (B := { B with opens := [y] }) (o := .gr (H'.length + 1) 0 10 1) (t := t) ⟨by simpa [FV.und0] using hm, und0_mono (by omega) (h.bin.ok.cells h.bin.box).2⟩
      rw [List.length_append, hl]
      simp only [List.length_cons, List.length_nil]
      rcases List.mem_append.1 hg with h' | h'
      · rcases List.mem_or_eq_of_mem_set h' with h' | rfl
        · exact und0_mono (by omega) (h.bin.ok gs h' f hf)
        · exact hu _ (by omega) f hf
      · simp only [List.mem_cons, List.not_mem_nil, or_false] at h'
        rcases h' with rfl | rfl
        · exact nodeD_und y _ f hf
        · exact nodeO_und y _ f hf
  fr := by
    have h1 := (h.fr.put (bCells { B with opens := [y] } (.gr (H'.length + 1) 0 10 1) t)).more [nodeD y, [.row 0 (nodeO y)]]
    have hlt := h.lt
    exact ⟨h1.le, h1.same, fun r g hr => by simp at hr, fun _ r g hr => by
      simp only [Option.some.injEq, Prod.mk.injEq] at hr
      rw [List.length_append]; simp; omega⟩
theorem CIn.rowS {H H' : Heap} {t : FV} {B : Bd} {r g : Nat} (h : CIn H H' (some (r, g)) t B) (y : Node) :
    CIn H ((H'.set r [.row (g + 1) (rowC B.opens ++ nodeO y)]).set (H.length + 1) (bCells { B with opens := B.opens ++ [y] } (.gr r (g + 1) 10 (B.opens.length + 1)) t) ++ [nodeD y]) (some (r, g + 1)) t { B with opens := B.opens ++ [y] } where
  bin := by
    have hlt := h.lt
    obtain ⟨k1, rest, hnp, k2⟩ := h.bin.row
    have hrl : r < H'.length := (List.getElem?_eq_some_iff.1 k2).1
    have hb : BIn ((H'.set r [.row (g + 1) (rowC B.opens ++ nodeO y)]).set (H.length + 1) (bCells { B with opens := B.opens ++ [y] } (.gr r (g + 1) 10 (B.opens.length + 1)) t)) (H.length + 1) (some (r, g + 1)) t { B with opens := B.opens ++ [y] } := by
      refine ⟨?_, ⟨k1, [], by simp, ?_⟩, h.bin.txt, ?_⟩
      · rw [List.getElem?_set_self (by simpa using hlt)]; simp [oF]
      · rw [List.getElem?_set_ne (fun h => k1 h.symm), List.getElem?_set_self hrl, rowC_app, rowC_one, List.append_nil]
      · have hcell : ∀ f ∈ body (bCells { B with opens := B.opens ++ [y] } (.gr r (g + 1) 10 (B.opens.length + 1)) t), f.und0 H'.length = true := HOk.build ⟨by simpa [FV.und0] using hrl, (h.bin.ok.cells h.bin.box).2⟩
        have h5 := h.bin.ok.set' (b := r) (fs := [.row (g + 1) (rowC B.opens ++ nodeO y)]) (fun f hf => by
          rcases List.mem_append.1 (show f ∈ rowC B.opens ++ nodeO y from hf) with h' | h'
          · exact rowC_und _ _ f h'
          · exact nodeO_und y _ f h')
        exact h5.set' (by simpa using hcell)
    exact hb.more (nodeD_und y _)
  fr := by
    have hr := h.fr.row.2 rfl r g rfl
    have h0 : FrG (H ++ [docZ]) (H'.set r [.row (g + 1) (rowC B.opens ++ nodeO y)]) (H.length + 1) none (some (r, g)) :=
      ⟨by rw [List.length_set]; exact h.fr.le, fun i hi h1 h2 => by rw [List.getElem?_set_ne (by omega)]; exact h.fr.same i hi h1 h2, h.fr.row⟩
    have h1 := (h0.put (bCells { B with opens := B.opens ++ [y] } (.gr r (g + 1) 10 (B.opens.length + 1)) t)).more [nodeD y]
    exact ⟨h1.le, h1.same, fun r g hr => by simp at hr, fun _ r' g' hr' => by
      simp only [Option.some.injEq, Prod.mk.injEq] at hr'
      omega⟩
def oL (ro : Option (Nat × Nat)) (n : Nat) : FV := match ro with
  | none => .sc (.sl [])
  | some (r, g) => .gr r g 10 n
theorem CIn.cut {H H' : Heap} {ro : Option (Nat × Nat)} {t : FV} {B : Bd} (h : CIn H H' ro t B) (w : List FV) : (H'.set H.length w).take H.length = H := by
  have hlt := h.lt
  apply List.ext_getElem?
  intro i
  by_cases hi : i < H.length
  · rw [List.getElem?_take_of_lt hi, List.getElem?_set_ne (by omega), h.old hi]
  · rw [List.getElem?_eq_none (by rw [List.length_take]; omega), List.getElem?_eq_none (by omega)]
set_option linter.unusedSimpArgs false in
set_option maxRecDepth 20000 in
set_option maxHeartbeats 16000000 in
theorem conDoc {H : Heap} {b : Nat} {ro : Option (Nat × Nat)} {t : FV} {B : Bd} (h : BIn H b ro t B) (hl : B.long ≤ 300000000) :
    Con C0 41 [.ptr b 0] H (docD B).pv.toFV H := by
  have hbl : b < H.length := (List.getElem?_eq_some_iff.1 h.box).1
  generalize hR : (docD B).pv.toFV = R
  refine con_trimU (C := C0) (fn := Tryz.f41) Tryz.func41 rfl (by decide) mixed (mv := mv41) (vars := vars41) (c := Tryz.f41.body.getD .skip) (by kernel_rfl) (by subst hR; rfl) h.ok ?_
  have hb := h.box
  have hr := h.row
  simp only [bCells] at hb
  generalize hoF : oF ro B.opens.length = o at hb
  have c0 : ∀ p : FV, p = .sc (gl B.text) → CIn H (H ++ [docZ, bCells { B with kids := [], opens := [] } (.own []) p]) none (.sc (gl B.text)) { B with kids := [], opens := [] } := fun p hp => by subst hp; exact .first h.ok rfl rfl
  have hkl := len_le_long B.kids
  have hol := len_le_long B.opens
  unfold Bd.long at hl
  rcases h.txt with rfl | ⟨htn, rfl⟩
  all_goals
    simp [Tryz.f41, hb, heap_old hbl, gl]
    refine loopC (fun d e H' => ∃ (i : Nat) (x5 x40 : FV), CIn H H' none (.sc (gl B.text)) { B with kids := B.kids.take i, opens := [] } ∧ d = B.kids.length - i ∧ i ≤ B.kids.length ∧ e = [(0, .ptr b 0), (2, .ptr H.length 0), (3, .ptr (H.length + 1) 0), (5, x5), (7, .undef), (9, .sc (.bool false)), (37, .sc (.sl (B.kids.map Node.pv))), (38, .sc (.int .i64 B.kids.length)), (39, .sc (.int .i64 i)), (40, x40), (61, .undef), (62, .undef), (63, .undef), (64, .undef), (87, .undef)]) (d := B.kids.length) ⟨0, .undef, .undef, c0 _ (by first | rfl | (rw [htn]; rfl)), rfl, Nat.zero_le _, rfl⟩ ?_
    rintro d e H' ⟨i, x5, x40, hC, rfl, hi, rfl⟩
    simp
    refine CondC.mk (fun hlt => ?_) (fun hlt => ?_)
    · simp at hlt
      have hq : (B.kids.map Node.pv)[i]? = some (B.kids[i]).pv := by simp [hlt]
      have ht := takeMap hq
      have hK := hC.kid B.kids[i]
      have hkk : B.kids.take i ++ [B.kids[i]] = B.kids.take (i + 1) := by rw [List.take_add_one, List.getElem?_eq_getElem hlt]; rfl
      rw [hkk] at hK
      have hyl := sumBy_mem' Node.long (List.getElem_mem hlt)
      have sr := sizedTake (sizedN B.kids) i
      have hw : IntKind.i64.wrap ((i : Int) + 1) = ((i + 1 : Nat) : Int) := by rw [wrap64 (by omega) (by omega)]; omega
      generalize B.kids[i] = y at hq hyl hK ht
      have cc := conCopied (SizeOf.sizeOf y + 1) y (Nat.lt_succ_self _) (by omega)
      rw [Node.toFV_eq] at cc
      rw [Node.pv_eq] at hq ht
      simp only [gl] at cc hq ht
      have hbx := hC.bin.box
      have hcl := hC.lt
      simp only [bCells, oF] at hbx
      simp only [bCells, nodeD] at hK
      have s1 : ∀ (v w : List FV) (L : Heap), (H'.set (H.length + 1) v ++ L).set (H.length + 1) w = H'.set (H.length + 1) w ++ L := fun v w L => hs_set hcl
      have hlen : min i B.kids.length = i := Nat.min_eq_left hi
      have n1 : (i : Int) < (i : Int) + 1 := by omega
      simp [hq]
      refine DrawC.mk (fun _ _ => .oagg (nodeO y)) ?_
      simp [hbx, heap_old hcl, heap_old_set hcl, hs_at, hs_at0, hs_b hcl, s1]
      refine ⟨?_, ?_, ?_⟩
      all_goals
        refine CallQ.mk (CallD.pure callable80 (by simp) (by simp [nodeO]) cc rfl) ?_
        simp [hbx, heap_old hcl, heap_old_set hcl, hs_at, hs_at0, hs_b hcl, s1, hsetB hcl, nodeO, sized1, lenMax, sr, hw, ht, hlen, n1]
        rw [List.map_take] at hK
        exact ⟨by omega, B.kids.length - (i + 1), by omega, i + 1, hK, rfl, by omega, by omega⟩
    · simp at hlt
      obtain rfl : i = B.kids.length := by omega
      rw [List.take_length] at hC
      have hbo := (hC.old hbl).trans hb
      obtain ⟨o61, ho61⟩ : ∃ o61, o61 = oL ro B.opens.length := ⟨_, rfl⟩
      rcases ro with _ | ⟨r, g⟩
      all_goals
        subst hoF
        simp only [oF] at hbo
        first
          | (have hr' : B.opens = [] := hr
             simp [hbo, hr'])
          | simp [hbo]
        refine loopC (fun d e H'' => ∃ (j : Nat) (ro' : Option (Nat × Nat)) (x7 x64 : FV), CIn H H'' ro' (.sc (gl B.text)) { B with opens := B.opens.take j } ∧ d = B.opens.length - j ∧ j ≤ B.opens.length ∧ e = [(0, .ptr b 0), (2, .ptr H.length 0), (3, .ptr (H.length + 1) 0), (5, x5), (7, x7), (9, .sc (.bool false)), (37, .sc (.sl (B.kids.map Node.pv))), (38, .sc (.int .i64 B.kids.length)), (39, .sc (.int .i64 B.kids.length)), (40, .sc (.bool false)), (61, o61), (62, .sc (.int .i64 B.opens.length)), (63, .sc (.int .i64 j)), (64, x64), (87, .undef)]) (d := B.opens.length) ⟨0, none, .undef, .undef, hC, rfl, Nat.zero_le _, by first | simp [ho61, oL, hr'] | simp [ho61, oL]⟩ ?_
        rintro d e H2 ⟨j, ro', x7, x64, hD, rfl, hj, rfl⟩
        simp
        refine CondC.mk (fun hlt2 => ?_) (fun hlt2 => ?_)
        · simp at hlt2
          first
            | (rw [hr'] at hlt2; exact absurd hlt2 (by simp))
            | (obtain ⟨h1, rest, hnp, k2⟩ := hr
               have hrl : r < H.length := (List.getElem?_eq_some_iff.1 k2).1
               have k3 := (hD.old hrl).trans k2
               obtain ⟨ra, rb⟩ := row_at (l := B.opens) (rest := rest) hlt2
               have hyl := sumBy_mem' Node.long (List.getElem_mem hlt2)
               have hw : IntKind.i64.wrap ((j : Int) + 1) = ((j + 1 : Nat) : Int) := by rw [wrap64 (by omega) (by omega)]; omega
               have hkk : B.opens.take j ++ [B.opens[j]] = B.opens.take (j + 1) := by rw [List.take_add_one, List.getElem?_eq_getElem hlt2]; rfl
               have hlt3 : (j : Int) < (B.opens.length : Int) := by omega
               generalize B.opens[j] = y at ra hyl hkk
               have cc := conCopied (SizeOf.sizeOf y + 1) y (Nat.lt_succ_self _) (by omega)
               rw [Node.toFV_eq] at cc
               simp only [gl] at cc
               generalize rowC B.opens ++ rest = cs at k3 ra rb
               simp only [nodeD] at ra
               have hcl := hD.lt
               have hcl2 : H2.length ≠ H.length + 1 := by omega
               simp only [oL] at ho61
               have hbx := hD.bin.box
               rcases ro' with _ | ⟨r', g'⟩
               · have hj0 : B.opens.take j = [] := hD.bin.row
                 obtain rfl : j = 0 := by
                   rcases List.take_eq_nil_iff.1 hj0 with h | h
                   · exact h
                   · rw [h] at hlt2; exact absurd hlt2 (by simp)
                 simp only [Nat.zero_mul, List.drop_zero, Nat.zero_add] at ra rb
                 have hK := hD.row0 y
                 rw [hj0, List.nil_append] at hkk
                 rw [hkk] at hK
                 simp only [bCells, oF] at hbx
                 simp only [bCells, nodeD] at hK
                 have s1 : ∀ (v w : List FV) (L : Heap), (H2.set (H.length + 1) v ++ L).set (H.length + 1) w = H2.set (H.length + 1) w ++ L := fun v w L => hs_set hcl
                 simp [hlt2, k3, ra, rb, ho61]
                 refine DrawC.mk (fun _ _ => .oagg (nodeO y)) ?_
                 simp [hbx, heap_old hcl, heap_old_set hcl, hs_at, hs_at0, hs_b hcl, s1]
                 refine ⟨?_, ?_, ?_⟩
                 all_goals
                   refine CallQ.mk (CallD.pure callable80 (by simp) (by simp [nodeO]) cc rfl) ?_
                   simp [hbx, heap_old hcl, heap_old_set hcl, hs_at, hs_at0, hs_b hcl, s1, hsetB hcl, nodeO, sized1, lenMax]
                   exact ⟨B.opens.length - 1, by omega, 1, ⟨_, hK⟩, rfl, by omega, by decide⟩
               · have hK := hD.rowS y
                 obtain ⟨k1, rest', hnp', kr⟩ := hD.bin.row
                 have hrl' : r' < H2.length := (List.getElem?_eq_some_iff.1 kr).1
                 have k1s : H.length + 1 ≠ r' := fun h => k1 h.symm
                 have hjl : (B.opens.take j).length = j := by rw [List.length_take]; omega
                 simp only [hkk, hjl] at hK hbx kr
                 simp only [bCells, oF] at hbx
                 simp only [bCells, nodeD] at hK
                 have hcl3 : (rowC (B.opens.take j)).length = j * 10 := by rw [rowC_len, hjl]
                 generalize rowC (B.opens.take j) = rc at kr hK hcl3
                 have hk0 : j * 10 ≤ (rc ++ rest').length := by rw [List.length_append]; omega
                 have kr2 : H2[r'] = [.row g' (rc ++ rest')] := (List.getElem?_eq_some_iff.1 kr).2
                 have tk : List.take (j * 10) (rc ++ rest') = rc := List.take_left' hcl3
                 have hsp : ∀ z v : List FV, z.length = v.length → splice (rc ++ z) (j * 10) v = rc ++ v := fun z v hz => splice_end hz hcl3
                 have n1 : (j : Int) < (j : Int) + 1 := by omega
                 have hs9 : ∀ a0 a1 a2 a3 a4 a5 a6 a7 a8 v : FV, splice [a0, a1, a2, a3, a4, a5, a6, a7, a8] 5 [v] = [a0, a1, a2, a3, a4, v, a6, a7, a8] := fun _ _ _ _ _ _ _ _ _ _ => rfl
                 have hsb : ∀ v : List FV, (H2.set r' v)[H.length + 1]? = H2[H.length + 1]? := fun v => List.getElem?_set_ne k1
                 have hsr : ∀ v : List FV, (H2.set (H.length + 1) v)[r']? = H2[r']? := fun v => List.getElem?_set_ne (fun h => k1 h.symm)
                 have hcm : ∀ v w : List FV, (H2.set (H.length + 1) v).set r' w = (H2.set r' w).set (H.length + 1) v := fun v w => List.set_comm v w (fun h => k1 h.symm)
                 have hbb : ∀ v : List FV, (H2.set (H.length + 1) v)[H.length + 1]? = some v := fun v => hsetB hcl
                 have hrr : ∀ v : List FV, (H2.set r' v)[r']? = some v := fun v => hsetB hrl'
                 have hbr : ∀ v w : List FV, ((H2.set r' v).set (H.length + 1) w)[r']? = some v := fun v w => by rw [List.getElem?_set_ne (fun h => k1 h.symm)]; exact hrr v
                 have hbw : ∀ v w : List FV, ((H2.set r' v).set (H.length + 1) w)[H.length + 1]? = some w := fun v w => hsetB (by simpa using hcl)
                 have hcw : ∀ v w u : List FV, ((H2.set r' v).set (H.length + 1) w).set r' u = (H2.set r' u).set (H.length + 1) w := fun v w u => by rw [hcm2 k1, List.set_set]
                 simp [hlt2, k3, ra, rb, ho61]
                 refine DrawC.mk (fun _ _ => .oagg (nodeO y)) ?_
                 simp [hbx, heap_old hcl, heap_old_set hcl, hs_at, hs_at0, hs_b hcl, -splice]
                 refine ⟨?_, ?_, ?_⟩
                 all_goals
                   refine CallQ.mk (CallD.pure callable80 (by simp) (by simp [nodeO]) cc rfl) ?_
                   simp [hbx, kr, List.set_append_left, List.getElem?_append_left, hcl, hrl', kr2, List.getElem_set_ne k1, List.getElem_set_ne k1s, hbb, hsr, hcm, hbr, hbw, hcw, hs9, hsp, tk, hk0, hcl3, n1, nodeO, sized1, lenMax, hw, -splice]
                   exact ⟨by omega, B.opens.length - (j + 1), by omega, j + 1, ⟨_, hK⟩, rfl, by omega, by omega⟩)
        · simp at hlt2
          obtain rfl : j = B.opens.length := by omega
          rw [List.take_length] at hD
          obtain ⟨H3, t3, e1, e2, e3⟩ := conEnd hD.bin (by show Bd.long B ≤ _; unfold Bd.long; omega)
          obtain ⟨H4, f1, f2, f3⟩ := emptying (endBd B).opens.length rfl e2 (by have := endBd_long B; unfold Bd.long at this ⊢; omega)
          have hE : CIn H H4 ro' t3 (docBd B) := ⟨f2, (hD.fr.trans e3.toG).trans f3.toG⟩
          have hlg : (docBd B).long ≤ 400000000 := by
            show Bd.long (emptyN _ _) ≤ _
            rw [emptyN_long]; have := endBd_long B; unfold Bd.long at this ⊢; omega
          have hsk : sumBy Node.long (docBd B).kids ≤ 1073741824 := by unfold Bd.long at hlg; omega
          have hkl := len_le_long (docBd B).kids
          have ct := treeTidy' fitS ⟨(docBd B).name, (docBd B).part, (docBd B).date, (docBd B).source, (docBd B).kids⟩ (small_of hsk) (by show (docBd B).kids.length ≤ _; omega)
          have hEb := hE.bin.box
          have hEd := hE.doc
          have hEl := hE.lt
          have hcut := fun w => hE.cut w
          have hlen0 : (endBd B).opens.length ≤ 400000000 := by
            have h1 := endBd_long B
            have h2 := len_le_long (endBd B).opens
            unfold Bd.long at h1; omega
          have hR' : R = .agg [.sc (.str (docBd B).name), .sc (.str (docBd B).part), .sc (.str (docBd B).date), .sc (.str (docBd B).source), .sc (.sl ((tidyL 0 0 20000 (docBd B).kids).1.map Node.pv))] := by rw [← hR]; simp [docD, tidyD, Doc.pv]
          simp only [docZ] at hEd
          simp only [bCells] at hEb
          generalize docBd B = F at *
          simp
          refine CallQ.mk (Call.shared callable54 e1) ?_
          simp
          refine loopC (fun d e H'' => ∃ (E : Bd) (x87 : FV), Emptying (H.length + 1) ro' t3 H'' E H4 ∧ d = E.opens.length ∧ E.opens.length ≤ 400000000 ∧ e = [(0, .ptr b 0), (2, .ptr H.length 0), (3, .ptr (H.length + 1) 0), (5, x5), (7, x7), (9, .sc (.bool false)), (37, .sc (.sl (B.kids.map Node.pv))), (38, .sc (.int .i64 B.kids.length)), (39, .sc (.int .i64 B.kids.length)), (40, .sc (.bool false)), (61, o61), (62, .sc (.int .i64 B.opens.length)), (63, .sc (.int .i64 B.opens.length)), (64, .sc (.bool false)), (87, x87)]) (d := (endBd B).opens.length) ⟨endBd B, .undef, f1, rfl, hlen0, by first | rfl | simp⟩ ?_
          rintro d e H5 ⟨E, x87, hF, rfl, hel, rfl⟩
          cases hF with
          | none hb5 ho =>
            have hq : oF ro' F.opens.length = oF ro' 0 := by
              have h1 := hEb.symm.trans hb5.box
              rw [ho] at h1
              have h2 := congrArg (fun o => (o.getD [])[5]?) h1
              simpa [bCells] using h2
            rw [hq] at hEb
            rcases ro' with _ | ⟨r', g'⟩
            all_goals
              simp only [oF] at hEb
              simp [hEb]
              refine CallQ.mk (Call.pure callable82 (by simp) (by simp) ct) ?_
              simp [hEd, hcut, hR', hsetB (Nat.lt_trans (Nat.lt_succ_self _) hEl)]
          | @step _ H6 _ _ l x hb5 ho hp hr2 =>
            have hpl := popBd_len ho
            have hn : E.opens.length = l.length + 1 := by rw [ho]; simp
            have hbx := hb5.box
            have n1 : (0 : Int) < (l.length : Int) + 1 := by omega
            rcases ro' with _ | ⟨r', g'⟩
            · have h9 : E.opens = [] := hb5.row
              rw [h9] at hn; simp at hn
            · simp only [bCells, oF, hn] at hbx
              simp [hbx, n1, hn]
              refine CallQ.mk (Call.shared callable81 hp) ?_
              simp
              exact ⟨l.length, by omega, popBd E, hr2, hpl.symm, by omega⟩
end Go.Proofs.YtkjgkhgklkdbjaaGreatDoor.Ev
end
section
namespace Go.Proofs.YtkjgkhgklkdbjaaGreatDoor.Ev
open Go
structure Mr where
  bad : List Dg
  name : ByteArray
  t0 : ByteArray
  t1 : ByteArray
  t2 : ByteArray
  t3 : ByteArray
  titled : Bool
def mC (b : Nat) (M : Mr) : List FV := [.ptr b 0, .own (M.bad.map Dg.pv), .sc (.str M.name), .sc (.str M.t0), .sc (.str M.t1), .sc (.str M.t2), .sc (.str M.t3), .sc (.bool M.titled), .own []]
theorem mC_und {b n : Nat} (h : b < n) (M : Mr) : ∀ f ∈ body (mC b M), f.und0 n = true := fun f hf => by
  simp only [body, mC, List.mem_cons, List.not_mem_nil, or_false] at hf
  rcases hf with rfl | rfl | rfl | rfl | rfl | rfl | rfl | rfl | rfl <;> first | rfl | simpa [FV.und0] using h
def rowF (ln : Int) (mac : ByteArray) (args : List ByteArray) (txt : ByteArray) : FV := .agg [.sc (.int .i64 ln), .sc (.str mac), .sc (.sl (args.map .str)), .sc (.str txt)]
set_option linter.unusedSimpArgs false in
set_option maxRecDepth 20000 in
set_option maxHeartbeats 4000000 in
theorem conNoteNil (H : Heap) (p : Nat) (ln : Int) : Con C0 127 [.ptr p 0, .sc (.sl []), .sc (.int .i64 ln)] H (.tup []) H := by
  refine enter127 ?_
  simp [Tryz.f127]
  refine loopC (fun d e H' => H' = H ∧ d = 0 ∧ ∃ x11 : FV, e = [(0, .ptr p 0), (1, .sc (.sl [])), (2, .sc (.int .i64 ln)), (7, .undef), (8, .sc (.sl [])), (9, .sc (.int .i64 0)), (10, .sc (.int .i64 0)), (11, x11)]) (d := 0) ⟨rfl, rfl, _, rfl⟩ ?_
  rintro d e H' ⟨rfl, rfl, x11, rfl⟩
  simp
set_option linter.unusedSimpArgs false in
set_option maxRecDepth 20000 in
set_option maxHeartbeats 4000000 in
theorem conPiecesR {H : Heap} {p b : Nat} {M : Mr} (hp : H[p]? = some (mC b M)) (hH : HOk H) (ln : Int) (mac : ByteArray) (args : List ByteArray) (txt : ByteArray) (words : List ByteArray) (hx : ∀ s ∈ words, s ≠ xrS) (hn : M.name.size ≤ 4096) (hl : wLen words ≤ 4096) (hbad : (pcsW M.name words).bad = []) (hj : (pcsL M.name words).length ≤ 1073741824 ∧ pcsLen (pcsL M.name words) ≤ 1073741824) :
    Con C0 128 [.ptr p 0, rowF ln mac args txt, .sc (.sl (words.map .str))] H (.own ((joinL (pcsL M.name words)).1.map Glyph.pv)) (H.set p (mC b { M with name := (pcsW M.name words).name })) := by
  have hpl : p < H.length := (List.getElem?_eq_some_iff.1 hp).1
  have hbl : b < H.length := by
    have := hH _ (List.mem_of_getElem? hp) (.ptr b 0) (by simp [body, mC])
    simpa [FV.und0] using this
  have cp := conPieces M.name words hx hn hl
  rw [hbad] at cp
  have cj := conJoin (pcsL M.name words) hj.1 hj.2
  generalize pcsL M.name words = L at *
  generalize (pcsW M.name words).name = N at *
  obtain ⟨bad, name, t0, t1, t2, t3, titled⟩ := M
  simp only [mC, rowF] at *
  refine con_trimU (C := C0) (fn := Tryz.f128) Tryz.func128 rfl (by decide) mixed (mv := mv128) (vars := vars128) (c := Tryz.f128.body.getD .skip) (by kernel_rfl) rfl ?_ ?_
  · exact hH.set (mC_und hbl ⟨bad, N, t0, t1, t2, t3, titled⟩)
  have hpo : ∀ L : Heap, (H ++ L)[p]? = some [.ptr b 0, .own (bad.map Dg.pv), .sc (.str name), .sc (.str t0), .sc (.str t1), .sc (.str t2), .sc (.str t3), .sc (.bool titled), .own []] := fun L => by rw [heap_old hpl]; exact hp
  have hsa : ∀ (L : Heap) (c : List FV), (H ++ L).set p c = H.set p c ++ L := fun L c => List.set_append_left p c hpl
  have hrow : ∀ (c x : List FV), (H.set p c ++ [x])[H.length]? = some x := fun c x => by
    rw [List.getElem?_append_right (by simp)]; simp
  have htk : ∀ (c : List FV) (L : Heap), (H.set p c ++ L).take H.length = H.set p c := fun c L => by
    rw [List.take_left' (by simp)]
  simp [Tryz.f128, hpo]
  refine CallQ.mk (Call.pure callable34 (by simp) (by simp) cp) ?_
  simp [hpo, hsa, hrow]
  refine CallQ.mk (Call.shared callable127 (conNoteNil _ p ln)) ?_
  simp
  refine CallQ.mk (Call.pure callable35 (by simp) (by simp) cj) ?_
  simp [htk]
end Go.Proofs.YtkjgkhgklkdbjaaGreatDoor.Ev
end
section
namespace Go.Proofs.YtkjgkhgklkdbjaaGreatDoor.Ev
open Go
theorem sizedStrq (l : List ByteArray) : Sized 1 (l.map PV.str) := fun p hp => by
  simp only [List.mem_map] at hp; obtain ⟨x, _, rfl⟩ := hp; rfl
theorem sizedStr1q (s : ByteArray) : Sized 1 [PV.str s] := fun p hp => by rw [List.mem_singleton.1 hp]; rfl
set_option linter.unusedSimpArgs false in
set_option maxRecDepth 20000 in
set_option maxHeartbeats 4000000 in
theorem conLast0 {H : Heap} {p b : Nat} {M : Mr} (hp : H[p]? = some (mC b M)) : Con C0 70 [.ptr p 0] H .nilp H := by
  simp only [mC] at hp
  refine enter70 ?_
  simp [Tryz.f70, hp]
set_option linter.unusedSimpArgs false in
set_option maxRecDepth 20000 in
set_option maxHeartbeats 4000000 in
theorem conArg (ln : Int) (mac : ByteArray) (args : List ByteArray) (txt : ByteArray) (k : Nat) (hk : k ≤ 1073741824) (hl : args.length ≤ 1073741824) : PCon C0 130 [rowF ln mac args txt, .sc (.int .i64 k)] (.sc (.str (args[k]?.getD ⟨#[]⟩))) := by
  refine penter130 ?_
  simp only [rowF]
  by_cases h : k < args.length
  · have h' : ¬ (args.length : Int) ≤ (k : Int) := by omega
    have h'' : ¬ args.length ≤ k := by omega
    obtain ⟨w, hw⟩ : ∃ w, args[k] = w := ⟨_, rfl⟩
    simp [Tryz.f130, h, h', h'', hw]
  · have h' : (args.length : Int) ≤ (k : Int) := by omega
    have h'' : args.length ≤ k := by omega
    simp [Tryz.f130, h', h'']
set_option linter.unusedSimpArgs false in
set_option maxRecDepth 20000 in
set_option maxHeartbeats 4000000 in
theorem conInlineNo {H : Heap} {p b : Nat} {M : Mr} (hp : H[p]? = some (mC b M)) (hH : HOk H) (ln : Int) (mac : ByteArray) (args : List ByteArray) (txt : ByteArray) (h0 : mac ≠ ⟨#[]⟩) (hc : callE mac = false) (hm : mac.size ≤ 1073741824) :
    Con C0 71 [.ptr p 0, rowF ln mac args txt] H (.tup [.own [], .sc (.bool false)]) H := by
  have cc := conCallable mac hm
  rw [hc] at cc
  simp only [rowF]
  refine con_trimU (C := C0) (fn := Tryz.f71) Tryz.func71 rfl (by decide) mixed (mv := mv71) (vars := vars71) (c := Tryz.f71.body.getD .skip) (by kernel_rfl) rfl hH ?_
  simp [Tryz.f71, h0]
  refine CallQ.mk (Call.pure callable36 (by simp) (by simp) cc) ?_
  simp
set_option linter.unusedSimpArgs false in
set_option maxRecDepth 20000 in
set_option maxHeartbeats 4000000 in
theorem conInlineCall {H : Heap} {p b : Nat} {M : Mr} (hp : H[p]? = some (mC b M)) (hH : HOk H) (ln : Int) (mac : ByteArray) (args : List ByteArray) (txt : ByteArray) (h0 : mac ≠ ⟨#[]⟩) (hc : callE mac = true) (hm : mac.size ≤ 1073741824) (ha : args.length ≤ 1073741824)
    (hx : ∀ s ∈ mac :: args, s ≠ xrS) (hn : M.name.size ≤ 4096) (hl : wLen (mac :: args) ≤ 4096) (hbad : (pcsW M.name (mac :: args)).bad = []) (hj : (pcsL M.name (mac :: args)).length ≤ 1073741824 ∧ pcsLen (pcsL M.name (mac :: args)) ≤ 1073741824) :
    Con C0 71 [.ptr p 0, rowF ln mac args txt] H (.tup [.own ((joinL (pcsL M.name (mac :: args))).1.map Glyph.pv), .sc (.bool true)]) (H.set p (mC b { M with name := (pcsW M.name (mac :: args)).name })) := by
  have cc := conCallable mac hm
  rw [hc] at cc
  have hpl : p < H.length := (List.getElem?_eq_some_iff.1 hp).1
  have hbl : b < H.length := by
    have := hH _ (List.mem_of_getElem? hp) (.ptr b 0) (by simp [body, mC])
    simpa [FV.und0] using this
  have hp2 : (H ++ [[FV.sc (.int .i64 ln), .sc (.str mac), .sc (.sl (args.map .str)), .sc (.str txt)]])[p]? = some (mC b M) := by rw [heap_old hpl]; exact hp
  have hH2 : HOk (H ++ [[FV.sc (.int .i64 ln), .sc (.str mac), .sc (.sl (args.map .str)), .sc (.str txt)]]) := by
    have := hH.more (fs := [FV.sc (.int .i64 ln), .sc (.str mac), .sc (.sl (args.map .str)), .sc (.str txt)]) (fun f hf => by
      simp only [body, List.mem_cons, List.not_mem_nil, or_false] at hf
      rcases hf with rfl | rfl | rfl | rfl <;> rfl)
    exact this
  have cp := conPiecesR hp2 hH2 ln mac args txt (mac :: args) hx hn hl hbad hj
  have hsa : ∀ (L : Heap) (c : List FV), (H ++ L).set p c = H.set p c ++ L := fun L c => List.set_append_left p c hpl
  rw [hsa] at cp
  have htk : ∀ (c : List FV) (L : Heap), (H.set p c ++ L).take H.length = H.set p c := fun c L => by
    rw [List.take_left' (by simp)]
  have hu := hH.set (b := p) (mC_und hbl { M with name := (pcsW M.name (mac :: args)).name })
  generalize mC b { M with name := (pcsW M.name (mac :: args)).name } = C1 at *
  generalize (joinL (pcsL M.name (mac :: args))).1 = J at *
  have s1 := sizedStr1q mac
  have s2 := sizedStrq args
  simp only [rowF, List.map_cons] at cp ⊢
  refine con_trimU (C := C0) (fn := Tryz.f71) Tryz.func71 rfl (by decide) mixed (mv := mv71) (vars := vars71) (c := Tryz.f71.body.getD .skip) (by kernel_rfl) rfl hu ?_
  simp [Tryz.f71, h0]
  refine CallQ.mk (Call.pure callable36 (by simp) (by simp) cc) ?_
  simp [s1, s2, lenMax]
  refine ⟨by omega, CallQ.mk (CallP.shared callable128 cp) ?_⟩
  simp [htk]
set_option linter.unusedSimpArgs false in
set_option maxRecDepth 20000 in
set_option maxHeartbeats 4000000 in
theorem conEntitle {H : Heap} {p b : Nat} {M : Mr} {t : FV} {B : Bd} (hp : H[p]? = some (mC b M)) (hB : BIn H b none t B) (hpb : p ≠ b) (ln : Int) (x : ByteArray) (txt : ByteArray) :
    ∃ H', Con C0 75 [.ptr p 0, rowF ln ⟨#[68, 116]⟩ [x] txt] H (.tup []) H' ∧ BIn H' b none t { B with name := x, part := ⟨#[]⟩, date := M.t2, source := M.t3 } ∧ H'[p]? = some (mC b { M with t0 := x, t1 := ⟨#[]⟩, titled := true }) ∧ H'.length = H.length ∧ ∀ i, i ≠ b → i ≠ p → H'[i]? = H[i]? := by
  have hpl : p < H.length := (List.getElem?_eq_some_iff.1 hp).1
  have hbl : b < H.length := (List.getElem?_eq_some_iff.1 hB.box).1
  obtain ⟨H0, hH0⟩ : ∃ H0, H0 = H.set p (mC b { M with t0 := x, t1 := ⟨#[]⟩, titled := true }) := ⟨_, rfl⟩
  obtain ⟨RB, hRB⟩ : ∃ RB : List FV, RB = [.sc (.int .i64 ln), .sc (.str ⟨#[68, 116]⟩), .sc (.sl [.str x]), .sc (.str txt)] := ⟨_, rfl⟩
  have hl0 : H0.length = H.length := by rw [hH0, List.length_set]
  have hB0 : BIn H0 b none t B := ⟨by rw [hH0, List.getElem?_set_ne hpb]; exact hB.box, hB.row, hB.txt, by rw [hH0]; exact hB.ok.set' (mC_und hbl _)⟩
  have hB1 : BIn (H0 ++ [RB]) b none t B := hB0.more (fun f hf => by
    rw [hRB] at hf
    simp only [body, List.mem_cons, List.not_mem_nil, or_false] at hf
    rcases hf with rfl | rfl | rfl | rfl <;> rfl)
  obtain ⟨H1, c1, c2, c3⟩ := conTitle hB1 x ⟨#[]⟩ M.t2 M.t3
  obtain ⟨k1, k2⟩ := hB0.take c2 c3
  have hp0 : H0[p]? = some (mC b { M with t0 := x, t1 := ⟨#[]⟩, titled := true }) := by rw [hH0]; exact List.getElem?_set_self hpl
  refine ⟨H1.take H0.length, ?_, k1, ?_, by rw [k2.len, hl0], fun i h1 h2 => ?_⟩
  · have ca0 := conArg ln ⟨#[68, 116]⟩ [x] txt 0 (by omega) (by simp)
    have ca1 := conArg ln ⟨#[68, 116]⟩ [x] txt 1 (by omega) (by simp)
    obtain ⟨bad, name, t0, t1, t2, t3, titled⟩ := M
    simp only [rowF, mC] at *
    refine con_trimU (C := C0) (fn := Tryz.f75) Tryz.func75 rfl (by decide) mixed (mv := mv75) (vars := vars75) (c := Tryz.f75.body.getD .skip) (by kernel_rfl) rfl (by rw [hl0]; have := k1.ok; unfold HOk at this; rw [k2.len, hl0] at this; exact this) ?_
    have hpo : ∀ L : Heap, (H ++ L)[p]? = some [.ptr b 0, .own (bad.map Dg.pv), .sc (.str name), .sc (.str t0), .sc (.str t1), .sc (.str t2), .sc (.str t3), .sc (.bool titled), .own []] := fun L => by rw [heap_old hpl]; exact hp
    have hsa : ∀ (L : Heap) (c : List FV), (H ++ L).set p c = H.set p c ++ L := fun L c => List.set_append_left p c hpl
    have hrow : ∀ (c x : List FV), (H.set p c ++ [x])[H.length]? = some x := fun c x => by
      rw [List.getElem?_append_right (by simp)]; simp
    have hsp : ∀ (c : List FV) (L : Heap), (H.set p c ++ L)[p]? = some c := fun c L => by
      rw [List.getElem?_append_left (by rw [List.length_set]; exact hpl), List.getElem?_set_self hpl]
    have hss : ∀ (c c' : List FV) (L : Heap), (H.set p c ++ L).set p c' = H.set p c' ++ L := fun c c' L => by
      rw [List.set_append_left p c' (by rw [List.length_set]; exact hpl), List.set_set]
    simp [Tryz.f75, hpo, hsa, hrow, hsp, hss]
    refine CallQ.mk (CallP.pure callable130 (by simp) (by simp) ca0) ?_
    simp [hrow]
    refine CallQ.mk (CallP.pure callable130 (by simp) (by simp) ca1) ?_
    simp [hsp, hss]
    rw [← hRB, ← hH0]
    refine CallQ.mk (CallP.shared callable131 c1) ?_
    simp [hl0]
  · rw [k2.same p hpb (fun r g hr => by simp at hr)]
    exact hp0
  · rw [k2.same i h1 (fun r g hr => by simp at hr), hH0, List.getElem?_set_ne (fun h => h2 h.symm)]
end Go.Proofs.YtkjgkhgklkdbjaaGreatDoor.Ev
end
section
namespace Go.Proofs.YtkjgkhgklkdbjaaGreatDoor.Ev
open Go
def NoBlank (l : List Glyph) : Prop := ∀ g ∈ l, g.r ≠ 32
def gap0 : Glyph := ⟨32, 0⟩
theorem sq_word : ∀ (l out : List Glyph), NoBlank l → l.foldl sqStep (out, false) = (out ++ l, false)
  | [], out, _ => by simp
  | g :: l, out, h => by
    have hg := h g (by simp)
    rw [List.foldl_cons]
    have : sqStep (out, false) g = (out ++ [g], false) := by simp [sqStep, hg]
    rw [this, sq_word l _ fun x hx => h x (by simp [hx])]
    simp
theorem sq_gap {out l : List Glyph} (ho : out ≠ []) (hl : l ≠ []) (h : NoBlank l) : (gap0 :: l).foldl sqStep (out, false) = (out ++ gap0 :: l, false) := by
  cases l with
  | nil => exact absurd rfl hl
  | cons g l =>
    have hg := h g (by simp)
    have e1 : sqStep (out, false) gap0 = (out, true) := by simp [sqStep, gap0]
    have e2 : sqStep (out, true) g = (out ++ [gap0] ++ [g], false) := by simp [sqStep, hg, ho, gap0]
    rw [List.foldl_cons, List.foldl_cons, e1, e2, sq_word l _ fun x hx => h x (by simp [hx])]
    simp
def names3 (A B : List Glyph) : List Glyph := A ++ gap0 :: B ++ gap0 :: A
theorem sq_names {A B : List Glyph} (hA : NoBlank A) (hB : NoBlank B) (h1 : A ≠ []) (h2 : B ≠ []) : squeeze (names3 A B) = names3 A B := by
  unfold squeeze sqAll names3
  rw [List.foldl_append, List.foldl_append, sq_word A [] hA, List.nil_append, sq_gap h1 h2 hB, sq_gap (by simp [h1]) h1 hA]
theorem dw_nil {α : Type} {p : α → Bool} : ∀ {l : List α}, l.dropWhile p = [] → ∀ x ∈ l, p x = true
  | [], _, x, hx => by cases hx
  | y :: l, h, x, hx => by
    rw [List.dropWhile_cons] at h
    split at h
    · rename_i hy
      rcases List.mem_cons.1 hx with rfl | hx
      · exact hy
      · exact dw_nil h x hx
    · cases h
theorem trim_ne {l : List Glyph} {g : Glyph} (hm : g ∈ l) (hg : g.r ≠ 32) : trimG l ≠ [] := fun h => by
  unfold trimG at h
  have h1 := dw_nil (List.reverse_eq_nil_iff.1 h) g (List.mem_reverse.2 hm)
  unfold Glyph.blank at h1
  simp at h1
  exact hg h1
def titleBd (x : ByteArray) : Bd := { Bd.zero with name := x }
def namesBd (x : ByteArray) (A B : List Glyph) : Bd := textBd (textBd (textBd (titleBd x) A 2) B 3) A 4
theorem names_text {x : ByteArray} {A B : List Glyph} (h1 : A ≠ []) (h2 : B ≠ []) : namesBd x A B = { titleBd x with text := names3 A B, line := 2, has := true } := by
  have j1 : joinS ([] : List Glyph) A = A := by unfold joinS; rw [if_pos rfl]
  have j2 : joinS A B = A ++ gap0 :: B := by unfold joinS; rw [if_neg h1, if_neg h2]; rfl
  have j3 : joinS (A ++ gap0 :: B) A = names3 A B := by unfold joinS; rw [if_neg (by simp), if_neg h1]; rfl
  have t1 : (titleBd x).text = [] := rfl
  unfold namesBd textBd
  simp only [t1, j1, j2, j3]
  rfl
theorem tidy_para {T : List Glyph} {ln : Int} (h0 : 0 ≤ ln) (h1 : ln ≤ 1099511627775) (hs : squeeze T = T) (hT : T ≠ []) : (tidyL 0 0 20000 [.mk 3 ln 0 T [] [] noTbl]).1 = [.mk 3 ln 0 T [] [] noTbl] := by
  have ho : ownN (.mk 3 ln 0 T [] [] noTbl) 3 = .mk 3 ln 0 T [] [] noTbl := by
    have hc : clamp 1099511627775 ln = ln := by unfold clamp; omega
    unfold ownN
    have e1 : hasN 3 = false := by decide
    have e2 : hasText 3 = true := by decide
    simp [e1, e2, hc, hs]
  have hw : wholeN (.mk 3 ln 0 T [] [] noTbl) = true := by
    unfold wholeN
    cases T with
    | nil => exact absurd rfl hT
    | cons g T => simp
  have hN : tidyN 0 0 20000 (.mk 3 ln 0 T [] [] noTbl) = ([.mk 3 ln 0 T [] [] noTbl], 19999) := by
    obtain ⟨p, hp⟩ : ∃ p : Node, p = .mk 3 ln 0 T [] [] noTbl := ⟨_, rfl⟩
    have hk : p.kind = 3 := by rw [hp]; rfl
    rw [← hp] at ho hw ⊢
    rw [tidyN_eq, if_neg (by rw [hk]; simp), if_neg (by rw [hk]; decide)]
    simp only [hk, ho, hw, if_true]
  rw [tidyL, if_neg (by decide), if_neg (by decide), hN]
  rw [tidyL]
  rfl
theorem names_doc {x : ByteArray} {A B : List Glyph} (hA : NoBlank A) (hB : NoBlank B) (h1 : A ≠ []) (h2 : B ≠ []) : (docD (namesBd x A B)).kids = [.mk 3 2 0 (names3 A B) [] [] noTbl] := by
  have hn := names_text (x := x) h1 h2
  have htr : trimG (names3 A B) ≠ [] := by
    cases A with
    | nil => exact absurd rfl h1
    | cons g A => exact trim_ne (g := g) (by unfold names3; simp) (hA g (by simp))
  have he : endBd (namesBd x A B) = { titleBd x with kids := [.mk 3 2 0 (names3 A B) [] [] noTbl], line := 2 } := by
    rw [hn]
    unfold endBd
    simp only [Bool.true_eq_false, if_false]
    rw [if_neg htr, layBd_nil rfl]
    rfl
  have hd : docBd (namesBd x A B) = { titleBd x with kids := [.mk 3 2 0 (names3 A B) [] [] noTbl], line := 2 } := by
    unfold docBd
    rw [he]
    rfl
  unfold docD tidyD
  rw [hd]
  exact tidy_para (by decide) (by decide) (sq_names hA hB h1 h2) (by unfold names3; simp)
end Go.Proofs.YtkjgkhgklkdbjaaGreatDoor.Ev
end
section
namespace Go.Proofs.YtkjgkhgklkdbjaaGreatDoor.Ev
open Go
structure RIn (H : Heap) (p b : Nat) (t : FV) (B : Bd) (M : Mr) : Prop where
  bin : BIn H b none t B
  box : H[p]? = some (mC b M)
  ne : p ≠ b
theorem RIn.plt {H : Heap} {p b : Nat} {t : FV} {B : Bd} {M : Mr} (h : RIn H p b t B M) : p < H.length := (List.getElem?_eq_some_iff.1 h.box).1
theorem RIn.blt {H : Heap} {p b : Nat} {t : FV} {B : Bd} {M : Mr} (h : RIn H p b t B M) : b < H.length := (List.getElem?_eq_some_iff.1 h.bin.box).1
theorem RIn.more {H : Heap} {p b : Nat} {t : FV} {B : Bd} {M : Mr} (h : RIn H p b t B M) {fs : List FV} (hf : ∀ f ∈ body fs, f.und0 (H.length + 1) = true) : RIn (H ++ [fs]) p b t B M :=
  ⟨h.bin.more hf, by rw [heap_old h.plt]; exact h.box, h.ne⟩
def Oth (H H' : Heap) (p b : Nat) : Prop := H'.length = H.length ∧ ∀ i, i ≠ b → i ≠ p → H'[i]? = H[i]?
theorem RIn.take {H H1 : Heap} {p b : Nat} {t t0 : FV} {B B0 : Bd} {M M0 : Mr} {fs : List FV} (h0 : RIn H p b t0 B0 M0) (h : RIn H1 p b t B M) (ho : Oth (H ++ [fs]) H1 p b) : RIn (H1.take H.length) p b t B M ∧ Oth H (H1.take H.length) p b := by
  have hlen : H1.length = H.length + 1 := by rw [ho.1]; simp
  have hl2 : (H1.take H.length).length = H.length := by rw [List.length_take]; omega
  have hget : ∀ i, i < H.length → (H1.take H.length)[i]? = H1[i]? := fun i hi => List.getElem?_take_of_lt hi
  have hold : ∀ i, i < H.length → i ≠ b → i ≠ p → H1[i]? = H[i]? := fun i hi h1 h2 => by rw [ho.2 i h1 h2, heap_old hi]
  refine ⟨⟨⟨by rw [hget b h0.blt]; exact h.bin.box, h.bin.row, h.bin.txt, ?_⟩, by rw [hget p h0.plt]; exact h.box, h.ne⟩, hl2, fun i h1 h2 => ?_⟩
  · intro gs hg f hf
    rw [hl2]
    obtain ⟨i, hi, hge⟩ := List.getElem_of_mem hg
    have hi' : i < H.length := by rw [hl2] at hi; exact hi
    have hg? : (H1.take H.length)[i]? = some gs := by rw [List.getElem?_eq_getElem hi, hge]
    rw [hget i hi'] at hg?
    by_cases hb : i = b
    · subst hb
      rw [h.bin.box] at hg?
      obtain rfl := Option.some.inj hg?
      have ht : t.und0 H.length = true := by
        rcases h.bin.txt with hh | ⟨_, hh⟩ <;> rw [hh] <;> rfl
      exact HOk.build ⟨rfl, ht⟩ f hf
    · by_cases hp : i = p
      · subst hp
        rw [h.box] at hg?
        obtain rfl := Option.some.inj hg?
        exact mC_und h0.blt M f hf
      · rw [hold i hi' hb hp] at hg?
        exact h0.bin.ok gs (List.mem_of_getElem? hg?) f hf
  · by_cases hi : i < H.length
    · rw [hget i hi, hold i hi h1 h2]
    · rw [List.getElem?_eq_none (by omega), List.getElem?_eq_none (by omega)]
def rowB (ln : Int) (mac : ByteArray) (args : List ByteArray) (txt : ByteArray) : List FV := [.sc (.int .i64 ln), .sc (.str mac), .sc (.sl (args.map .str)), .sc (.str txt)]
theorem rowB_und (ln : Int) (mac : ByteArray) (args : List ByteArray) (txt : ByteArray) (n : Nat) : ∀ f ∈ body (rowB ln mac args txt), f.und0 n = true := fun f hf => by
  simp only [rowB, body, List.mem_cons, List.not_mem_nil, or_false] at hf
  rcases hf with rfl | rfl | rfl | rfl <;> rfl
def dtS : ByteArray := ⟨#[68, 116]⟩
theorem dt_call : callE dtS = false := by rfl
set_option linter.unusedSimpArgs false in
set_option maxRecDepth 20000 in
set_option maxHeartbeats 8000000 in
theorem rowDt {H : Heap} {p b : Nat} {t : FV} {B : Bd} {M : Mr} (h : RIn H p b t B M) (ln : Int) (x : ByteArray) (txt : ByteArray) :
    ∃ H', Con C0 38 [.ptr p 0, .agg (rowB ln dtS [x] txt)] H (.tup []) H' ∧ RIn H' p b t { B with name := x, part := ⟨#[]⟩, date := M.t2, source := M.t3 } { M with t0 := x, t1 := ⟨#[]⟩, titled := true } ∧ Oth H H' p b := by
  have h2 := h.more (fs := rowB ln dtS [x] txt) (rowB_und _ _ _ _ _)
  obtain ⟨H1, e1, e2, e3, e4, e5⟩ := conEntitle h2.box h2.bin h2.ne ln x txt
  obtain ⟨k1, k2⟩ := h.take (H1 := H1) (fs := rowB ln dtS [x] txt) ⟨e2, e3, h.ne⟩ ⟨e4, e5⟩
  refine ⟨H1.take H.length, ?_, k1, k2⟩
  have cl := conLast0 h2.box
  have ci := conInlineNo h2.box h2.bin.ok ln dtS [x] txt (by decide) dt_call (by decide)
  simp only [rowF, rowB, dtS, List.map_cons, List.map_nil] at *
  refine con_trimU (C := C0) (fn := Tryz.f38) Tryz.func38 rfl (by decide) mixed (mv := mv38) (vars := vars38) (c := Tryz.f38.body.getD .skip) (by kernel_rfl) rfl (by have := k1.bin.ok; unfold HOk at this; rw [k2.1] at this; exact this) ?_
  simp [Tryz.f38]
  refine CallQ.mk (Call.shared callable70 cl) ?_
  simp
  refine CallQ.mk (Call.shared callable71 ci) ?_
  simp
  refine CallQ.mk (Call.shared callable75 e1) ?_
  simp
theorem RIn.put {H : Heap} {p b : Nat} {t : FV} {B : Bd} {M : Mr} (h : RIn H p b t B M) (M' : Mr) : RIn (H.set p (mC b M')) p b t B M' where
  bin := ⟨by rw [List.getElem?_set_ne h.ne]; exact h.bin.box, h.bin.row, h.bin.txt, h.bin.ok.set' (mC_und h.blt M')⟩
  box := List.getElem?_set_self h.plt
  ne := h.ne
theorem nm_ne : nmS ≠ ⟨#[]⟩ := by decide
set_option linter.unusedSimpArgs false in
set_option maxRecDepth 20000 in
set_option maxHeartbeats 8000000 in
theorem rowNm {H : Heap} {p b : Nat} {t : FV} {B : Bd} {M : Mr} (h : RIn H p b t B M) (ln : Int) (args : List ByteArray) (txt : ByteArray) (ha : args.length ≤ 1073741824)
    (hx : ∀ s ∈ nmS :: args, s ≠ xrS) (hn : M.name.size ≤ 4096) (hl : wLen (nmS :: args) ≤ 4096) (hbad : (pcsW M.name (nmS :: args)).bad = []) (hj : (pcsL M.name (nmS :: args)).length ≤ 1073741824 ∧ pcsLen (pcsL M.name (nmS :: args)) ≤ 1073741824)
    {J : List Glyph} (hJ : (joinL (pcsL M.name (nmS :: args))).1 = J) (hT : B.text.length + J.length ≤ 536870912) :
    ∃ H', Con C0 38 [.ptr p 0, .agg (rowB ln nmS args txt)] H (.tup []) H' ∧ RIn H' p b (.sc (gl (joinS B.text J))) (textBd B J ln) { M with name := (pcsW M.name (nmS :: args)).name } ∧ Oth H H' p b := by
  have h2 := h.more (fs := rowB ln nmS args txt) (rowB_und _ _ _ _ _)
  have ci := conInlineCall h2.box h2.bin.ok ln nmS args txt nm_ne nm_call (by decide) ha hx hn hl hbad hj
  rw [hJ] at ci
  have h3 := h2.put { M with name := (pcsW M.name (nmS :: args)).name }
  obtain ⟨H1, e1, e2, e3⟩ := conText h3.bin J ln hT
  have hl3 : ((H ++ [rowB ln nmS args txt]).set p (mC b { M with name := (pcsW M.name (nmS :: args)).name })).length = (H ++ [rowB ln nmS args txt]).length := List.length_set
  have ho : Oth (H ++ [rowB ln nmS args txt]) H1 p b := ⟨by rw [e3.len, hl3], fun i i1 i2 => by
    rw [e3.same i i1 (fun r g hr => by simp at hr), List.getElem?_set_ne (fun hh => i2 hh.symm)]⟩
  have hb1 : H1[p]? = some (mC b { M with name := (pcsW M.name (nmS :: args)).name }) := by
    rw [e3.same p h.ne (fun r g hr => by simp at hr)]
    exact h3.box
  obtain ⟨k1, k2⟩ := h.take (H1 := H1) (fs := rowB ln nmS args txt) ⟨e2, hb1, h.ne⟩ ho
  refine ⟨H1.take H.length, ?_, k1, k2⟩
  have cl := conLast0 h2.box
  have hok : ∀ fs ∈ H1.take H.length, ∀ f ∈ body fs, f.und0 H.length = true := by have := k1.bin.ok; unfold HOk at this; rw [k2.1] at this; exact this
  have hrow : ((H ++ [rowB ln nmS args txt]).set p (mC b { M with name := (pcsW M.name (nmS :: args)).name }))[H.length]? = some (rowB ln nmS args txt) := by
    rw [List.getElem?_set_ne (by have := h.plt; omega), List.getElem?_append_right (Nat.le_refl _)]; simp
  have hbx := h3.box
  generalize hC : mC b { M with name := (pcsW M.name (nmS :: args)).name } = C1 at *
  generalize hH3 : (H ++ [rowB ln nmS args txt]).set p C1 = H3 at *
  rw [← hC] at hbx
  simp only [mC] at hbx
  simp only [rowF, rowB, nmS, gl] at *
  refine con_trimU (C := C0) (fn := Tryz.f38) Tryz.func38 rfl (by decide) mixed (mv := mv38) (vars := vars38) (c := Tryz.f38.body.getD .skip) (by kernel_rfl) rfl hok ?_
  simp [Tryz.f38]
  refine CallQ.mk (Call.shared callable70 cl) ?_
  simp
  refine CallQ.mk (Call.shared callable71 ci) ?_
  simp [hrow, hbx]
  trace_state
  refine CallQ.mk (CallP.shared callable74 e1) ?_
  simp
end Go.Proofs.YtkjgkhgklkdbjaaGreatDoor.Ev
end
section
namespace Go.Proofs.YtkjgkhgklkdbjaaGreatDoor.Ev
open Go
set_option linter.unusedSimpArgs false in
set_option maxRecDepth 20000 in
set_option maxHeartbeats 4000000 in
theorem conEndAll0 {H : Heap} {p b : Nat} {M : Mr} (hp : H[p]? = some (mC b M)) : Con C0 39 [.ptr p 0] H (.tup []) H := by
  have cl := conLast0 hp
  refine enter39 ?_
  simp [Tryz.f39]
  refine CallQ.mk (Call.shared callable70 cl) ?_
  simp
  refine loopC (fun d e H' => H' = H ∧ d = 0 ∧ ∃ x6 : FV, e = [(0, .ptr p 0), (2, .nilp), (6, x6)]) (d := 0) ⟨rfl, rfl, _, rfl⟩ ?_
  rintro d e H' ⟨rfl, rfl, x6, rfl⟩
  simp
theorem lc_xr {s : ByteArray} (h : LC s) : s ≠ xrS := fun he => by
  have := h.2 88 (by rw [he]; decide)
  unfold LCb at this
  exact absurd this.1 (by decide)
theorem glyB_len (s : ByteArray) (n : Int) : (glyB s n).length = s.size := by unfold glyB; rw [List.length_map, bI_len]
theorem rowNm1 {H : Heap} {p b : Nat} {t : FV} {B : Bd} {M : Mr} (h : RIn H p b t B M) (ln : Int) (args : List ByteArray) {g : List Glyph} {N : ByteArray} (hw : pcsW M.name (nmS :: args) = ⟨[⟨g, false, false⟩], [], N, 0⟩) (ha : ∀ s ∈ args, LC s) (hg : g.length ≤ 1000) (hn : M.name.size ≤ 4096) (hl : wLen (nmS :: args) ≤ 4096) (hal : args.length ≤ 1000) (hT : B.text.length ≤ 1000) :
    ∃ H', Con C0 38 [.ptr p 0, .agg (rowB ln nmS args ByteArray.empty)] H (.tup []) H' ∧ RIn H' p b (.sc (gl (joinS B.text g))) (textBd B g ln) { M with name := N } ∧ Oth H H' p b := by
  have hL : pcsL M.name (nmS :: args) = [⟨g, false, false⟩] := by unfold pcsL; rw [hw]; rfl
  have hN : (pcsW M.name (nmS :: args)).name = N := by rw [hw]
  have := rowNm h ln args ByteArray.empty (by omega) (fun s hs => by
    rcases List.mem_cons.1 hs with rfl | hs
    · decide
    · exact lc_xr (ha s hs)) hn hl (by rw [hw]) (by rw [hL]; exact ⟨by simp, by simp [pcsLen]; omega⟩) (J := g) (by rw [hL, join_one]) (by omega)
  rw [hN] at this
  exact this
theorem wLen2 {s : ByteArray} (h : s.size ≤ 4000) : wLen [nmS, s] ≤ 4096 := by
  have h2 : nmS.size = 2 := rfl
  unfold wLen
  simp only [List.map_cons, List.map_nil, List.sum_cons, List.sum_nil]
  omega
def Mr.zero : Mr := ⟨[], ByteArray.empty, ByteArray.empty, ByteArray.empty, ByteArray.empty, ByteArray.empty, false⟩
def rowP (ln : Int) (mac : ByteArray) (args : List ByteArray) : PV := .agg [.int .i64 ln, .str mac, .sl (args.map .str), .str ByteArray.empty]
def nB (x : ByteArray) (A B : List Glyph) : Nat → Bd
  | 0 => Bd.zero
  | 1 => titleBd x
  | 2 => textBd (titleBd x) A 2
  | 3 => textBd (textBd (titleBd x) A 2) B 3
  | _ => namesBd x A B
def nM (x a : ByteArray) : Nat → Mr
  | 0 => Mr.zero
  | 1 => { Mr.zero with t0 := x, titled := true }
  | _ => { Mr.zero with t0 := x, titled := true, name := a }
def nRows (x a b : ByteArray) : List PV := [rowP 1 dtS [x], rowP 2 nmS [a], rowP 3 nmS [b], rowP 4 nmS []]
set_option linter.unusedSimpArgs false in
set_option maxRecDepth 20000 in
set_option maxHeartbeats 8000000 in
theorem conParse4 (x a b : ByteArray) (ha : LC a) (hb : LC b) (hl : a.size + b.size ≤ 200) :
    PCon C0 13 [.sc (.sl (nRows x a b))] (.tup [(docD (namesBd x (glyB a 1) (glyB b 1))).pv.toFV, .sc (.sl [])]) := by
  refine penter13 ?_
  have cn := fun H => conNew H
  simp only [nRows, rowP, dtS, nmS, List.map_cons, List.map_nil]
  simp [Tryz.f13]
  refine CallQ.mk (Call.shared callable37 (conNew _)) ?_
  simp
  have hok : HOk [docZ, bCells Bd.zero (.own []) (.own []), mC 1 Mr.zero] := fun fs hfs f hf => by
    simp only [List.mem_cons, List.not_mem_nil, or_false] at hfs
    rcases hfs with rfl | rfl | rfl
    · simp only [docZ, body, List.mem_cons, List.not_mem_nil, or_false] at hf
      rcases hf with rfl | rfl | rfl | rfl | rfl <;> rfl
    · exact HOk.build ⟨rfl, rfl⟩ f hf
    · exact mC_und (by simp) _ f hf
  have hR0 : RIn [docZ, bCells Bd.zero (.own []) (.own []), mC 1 Mr.zero] 2 1 (.own []) Bd.zero Mr.zero := ⟨⟨rfl, rfl, .inr ⟨rfl, rfl⟩, hok⟩, rfl, by decide⟩
  obtain ⟨RS, hRS⟩ : ∃ RS : List PV, RS = [PV.agg [.int .i64 1, .str ⟨#[68, 116]⟩, .sl [.str x], .str ByteArray.empty], PV.agg [.int .i64 2, .str ⟨#[78, 109]⟩, .sl [.str a], .str ByteArray.empty], PV.agg [.int .i64 3, .str ⟨#[78, 109]⟩, .sl [.str b], .str ByteArray.empty], PV.agg [.int .i64 4, .str ⟨#[78, 109]⟩, .sl [], .str ByteArray.empty]] := ⟨_, rfl⟩
  refine loopC (fun d e H' => ∃ (i : Nat) (t x6 x13 : FV), d = 4 - i ∧ i ≤ 4 ∧ RIn H' 2 1 t (nB x (glyB a 1) (glyB b 1) i) (nM x a i) ∧ H'[0]? = some docZ ∧ e = [(0, .sc (.sl RS)), (2, .ptr 0 0), (3, .own []), (4, .ptr 2 0), (6, x6), (10, .sc (.sl RS)), (11, .sc (.int .i64 4)), (12, .sc (.int .i64 i)), (13, x13), (26, .undef)]) (d := 4) ⟨0, .own [], .undef, .undef, rfl, by omega, hR0, rfl, by rw [hRS]; rfl⟩ ?_
  rintro d e H' ⟨i, t, x6, x13, rfl, hi, hR, hdz, rfl⟩
  simp
  refine CondC.mk (fun hlt => ?_) (fun hlt => ?_)
  · simp at hlt
    match i, hlt with
    | 0, _ =>
      obtain ⟨H1, c1, r1, o1⟩ := rowDt (hR.more (fs := rowB 1 dtS [x] ByteArray.empty) (rowB_und _ _ _ _ _)) 1 x ByteArray.empty
      have hd1 : H1[0]? = some docZ := by rw [o1.2 0 (by decide) (by decide), heap_old (by have := hR.plt; omega)]; exact hdz
      simp only [rowB, dtS, List.map_cons, List.map_nil] at c1
      simp [hRS]
      refine CallQ.mk (Call.shared callable38 c1) ?_
      simp
      exact ⟨3, by omega, 1, rfl, by omega, ⟨_, r1⟩, hd1, by decide⟩
    | 1, _ =>
      have hw : pcsW (nM x a 1).name [nmS, a] = ⟨[⟨glyB a 1, false, false⟩], [], a, 0⟩ := nm_two (name := ByteArray.empty) ha
      obtain ⟨H1, c1, r1, o1⟩ := rowNm1 (hR.more (fs := rowB 2 nmS [a] ByteArray.empty) (rowB_und _ _ _ _ _)) 2 [a] hw (by simpa using ha) (by rw [glyB_len]; omega) (by show (ByteArray.empty).size ≤ 4096; decide) (wLen2 (by omega)) (by simp) (by show ([] : List Glyph).length ≤ 1000; decide)
      have hd1 : H1[0]? = some docZ := by rw [o1.2 0 (by decide) (by decide), heap_old (by have := hR.plt; omega)]; exact hdz
      simp only [rowB, nmS, List.map_cons, List.map_nil] at c1
      simp [hRS]
      refine CallQ.mk (Call.shared callable38 c1) ?_
      simp
      exact ⟨2, by omega, 2, rfl, by omega, ⟨_, r1⟩, hd1, by decide⟩
    | 2, _ =>
      have hw : pcsW (nM x a 2).name [nmS, b] = ⟨[⟨glyB b 1, false, false⟩], [], a, 0⟩ := by
        have := nm_two (name := a) hb
        rw [if_neg ha.1] at this
        exact this
      obtain ⟨H1, c1, r1, o1⟩ := rowNm1 (hR.more (fs := rowB 3 nmS [b] ByteArray.empty) (rowB_und _ _ _ _ _)) 3 [b] hw (by simpa using hb) (by rw [glyB_len]; omega) (by show a.size ≤ 4096; omega) (wLen2 (by omega)) (by simp) (by have := joinS_len ([] : List Glyph) (glyB a 1); show (joinS [] (glyB a 1)).length ≤ 1000; rw [glyB_len] at this; simp at this; omega)
      have hd1 : H1[0]? = some docZ := by rw [o1.2 0 (by decide) (by decide), heap_old (by have := hR.plt; omega)]; exact hdz
      simp only [rowB, nmS, List.map_cons, List.map_nil] at c1
      simp [hRS]
      refine CallQ.mk (Call.shared callable38 c1) ?_
      simp
      exact ⟨1, by omega, 3, rfl, by omega, ⟨_, r1⟩, hd1, by decide⟩
    | 3, _ =>
      have hw : pcsW (nM x a 3).name [nmS] = ⟨[⟨glyB a 1, false, false⟩], [], a, 0⟩ := nm_one ha
      obtain ⟨H1, c1, r1, o1⟩ := rowNm1 (hR.more (fs := rowB 4 nmS [] ByteArray.empty) (rowB_und _ _ _ _ _)) 4 [] hw (by simp) (by rw [glyB_len]; omega) (by show a.size ≤ 4096; omega) (by decide) (by simp) (by have h1 := joinS_len ([] : List Glyph) (glyB a 1); have h2 := joinS_len (joinS [] (glyB a 1)) (glyB b 1); show (joinS (joinS [] (glyB a 1)) (glyB b 1)).length ≤ 1000; rw [glyB_len] at h1 h2; simp at h1; omega)
      have hd1 : H1[0]? = some docZ := by rw [o1.2 0 (by decide) (by decide), heap_old (by have := hR.plt; omega)]; exact hdz
      simp only [rowB, nmS, List.map_cons, List.map_nil] at c1
      simp [hRS]
      refine CallQ.mk (Call.shared callable38 c1) ?_
      simp
      exact ⟨4, by omega, by omega, ⟨_, r1⟩, hd1, by decide⟩
  · simp at hlt
    have hie : i = 4 := by omega
    subst hie
    have ce := conEndAll0 hR.box
    have hbx := hR.box
    have hlong : (namesBd x (glyB a 1) (glyB b 1)).long ≤ 300000000 := by
      have h1 := joinS_len ([] : List Glyph) (glyB a 1)
      have h2 := joinS_len (joinS [] (glyB a 1)) (glyB b 1)
      have h3 := joinS_len (joinS (joinS [] (glyB a 1)) (glyB b 1)) (glyB a 1)
      rw [glyB_len] at h1 h2 h3
      simp only [List.length_nil] at h1
      show 0 + 0 + (joinS (joinS (joinS [] (glyB a 1)) (glyB b 1)) (glyB a 1)).length ≤ 300000000
      omega
    have cd := conDoc (B := namesBd x (glyB a 1) (glyB b 1)) hR.bin hlong
    simp only [mC, nM, Mr.zero] at hbx
    simp only [docZ] at hdz
    have hs0 : ∀ y : List FV, (H'.set 0 y)[0]? = some y := fun y => List.getElem?_set_self (by have := hR.plt; omega)
    have hs2 : ∀ y : List FV, (H'.set 0 y)[2]? = H'[2]? := fun y => List.getElem?_set_ne (by decide)
    simp
    refine CallQ.mk (Call.shared callable39 ce) ?_
    simp [hbx]
    generalize docD (namesBd x (glyB a 1) (glyB b 1)) = D at *
    obtain ⟨d1, d2, d3, d4, d5⟩ := D
    simp only [Doc.pv, PV.toFV, List.map_cons, List.map_nil] at cd ⊢
    refine DrawC.two (fun _ _ => .agg [.sc (.str d1), .sc (.str d2), .sc (.str d3), .sc (.str d4), .sc (.sl (d5.map Node.pv))]) ?_ ?_
    all_goals
      simp [hbx]
      refine CallQ.mk (CallD.reads callable41 cd rfl) ?_
      simp [hbx, hdz, hs0, hs2]
end Go.Proofs.YtkjgkhgklkdbjaaGreatDoor.Ev
end
section
namespace Go.Proofs.YtkjgkhgklkdbjaaGreatDoor.Ev
open Go
set_option linter.unusedSimpArgs false in
set_option maxRecDepth 20000 in
set_option maxHeartbeats 8000000 in
theorem ref3Join (a b : List Glyph) (hn : a.length + b.length ≤ 1073741824) : PCon C0 18 [.sc (gl a), .sc (gl b)] (.own ((a ++ b).map Glyph.pv)) := by
  have s1 := sized_gl a
  have s2 := sized_gl b
  refine penter18 ?_
  simp only [gl]
  simp [Tryz.f18, lenMax, s1, s2]
  exact ⟨by omega, by omega⟩
end Go.Proofs.YtkjgkhgklkdbjaaGreatDoor.Ev
end
section
namespace Go.Proofs.YtkjgkhgklkdbjaaGreatDoor.Ev
open Go
theorem ofS_gly (s : ByteArray) (n : Int) : ofS s n = glyB s n := by
  unfold ofS glyB bI
  rw [List.map_map]; rfl
theorem LC.low {s : ByteArray} (h : LC s) : ∀ b ∈ s.data.toList, b.toNat < 128 := fun b hb => by
  have := h.2 b hb; unfold LCb at this; omega
theorem size_zero {s : ByteArray} (h : s.size = 0) : s = ⟨#[]⟩ := by
  obtain ⟨d⟩ := s
  have : d.size = 0 := h
  rw [Array.eq_empty_of_size_eq_zero this]
def lcB (b : UInt8) : Bool := decide (97 ≤ b.toNat) && decide (b.toNat ≤ 122)
theorem lc_all {s : ByteArray} (h0 : s ≠ ⟨#[]⟩) (h : s.data.toList.all lcB = true) : LC s := ⟨h0, fun b hb => by
  have := List.all_eq_true.1 h b hb
  simpa [lcB, LCb] using this⟩
theorem byte_at {s : ByteArray} {i : Nat} (hi : i < s.size) : ∃ b, s.data.toList[i]? = some b ∧ (∀ h : i < s.data.size, s.data[i]'h = b) := by
  have hl : i < s.data.toList.length := by rw [← Go.Lib.size_eq]; exact hi
  refine ⟨_, List.getElem?_eq_getElem hl, fun h => ?_⟩
  simp
set_option linter.unusedSimpArgs false in
set_option maxRecDepth 20000 in
set_option maxHeartbeats 8000000 in
theorem lawNames (a b : ByteArray) (hsa : a.size ≤ 1073741824) (hsb : b.size ≤ 1073741824) : PCon C0 4 [.sc (.str a), .sc (.str b)] (.sc (.bool true)) := by
  have kn := conKnown11
  refine penter4 ?_
  simp [Tryz.f4]
  refine loopC (fun d e H' => ∃ (i : Nat) (x12 x24 : FV), d = a.size - i ∧ i ≤ a.size ∧ (a.data.toList.take i).all lcB = true ∧ H' = [] ∧ e = [(0, .sc (.str a)), (1, .sc (.str b)), (4, .sc (.bool false)), (5, .sc (.int .i64 i)), (6, .undef), (7, .undef), (8, .undef), (12, x12), (24, x24), (29, .undef), (41, .undef), (56, .undef)]) (d := a.size) ⟨0, .undef, .undef, rfl, Nat.zero_le _, rfl, rfl, rfl⟩ ?_
  rintro d e H' ⟨i, x12, x24, rfl, hi, hall, rfl, rfl⟩
  simp
  refine CondC.mk (fun hlt => ?_) (fun hlt => ?_)
  · simp at hlt
    have hlt' : (i : Int) < (a.size : Int) := by omega
    have hw : IntKind.i64.wrap ((i : Int) + 1) = ((i + 1 : Nat) : Int) := by rw [wrap64 (by omega) (by omega)]; omega
    obtain ⟨c, hc, hc'⟩ := byte_at hlt
    have hdl : i < a.data.size := hlt
    have hcc := hc' hdl
    have ht : a.data.toList.take (i + 1) = a.data.toList.take i ++ [c] := by rw [List.take_add_one, hc]; rfl
    by_cases g1 : c.toNat < 97
    · have g1' : (c.toNat : Int) < 97 := by omega
      simp [hlt, hlt', hcc, g1, g1']
      refine CallQ.mk (Call.pure callable12 (by simp) (by simp) kn) ?_
      simp
    · have g1' : ¬ (c.toNat : Int) < 97 := by omega
      by_cases g2 : 122 < c.toNat
      · have g2' : (122 : Int) < (c.toNat : Int) := by omega
        simp [hlt, hlt', hcc, g1, g1', g2, g2']
        refine CallQ.mk (Call.pure callable12 (by simp) (by simp) kn) ?_
        simp
      · have g2' : ¬ (122 : Int) < (c.toNat : Int) := by omega
        have hx : ((a.data.toList.take (i + 1)).all lcB) = true := by
          rw [ht, List.all_append, hall]
          simp [lcB]; omega
        simp [hlt, hlt', hcc, g1, g1', g2, g2', hw]
        exact ⟨a.size - (i + 1), by omega, i + 1, rfl, by omega, by simpa using hx, by omega⟩
  · simp at hlt
    have hie : i = a.size := by omega
    subst hie
    have hA : a.data.toList.all lcB = true := by
      rw [Go.Lib.size_eq, List.take_length] at hall; exact hall
    simp
    refine loopC (fun d e H' => ∃ (i : Nat) (x29 x41 : FV), d = b.size - i ∧ i ≤ b.size ∧ (b.data.toList.take i).all lcB = true ∧ H' = [] ∧ e = [(0, .sc (.str a)), (1, .sc (.str b)), (4, .sc (.bool false)), (5, .sc (.int .i64 a.size)), (6, .sc (.int .i64 i)), (7, .undef), (8, .undef), (12, .sc (.bool false)), (24, x24), (29, x29), (41, x41), (56, .undef)]) (d := b.size) ⟨0, .undef, .undef, rfl, Nat.zero_le _, rfl, rfl, rfl⟩ ?_
    rintro d e H' ⟨i, x29, x41, rfl, hi, hall2, rfl, rfl⟩
    simp
    refine CondC.mk (fun hlt => ?_) (fun hlt => ?_)
    · simp at hlt
      have hlt' : (i : Int) < (b.size : Int) := by omega
      have hw : IntKind.i64.wrap ((i : Int) + 1) = ((i + 1 : Nat) : Int) := by rw [wrap64 (by omega) (by omega)]; omega
      obtain ⟨c, hc, hc'⟩ := byte_at hlt
      have hdl : i < b.data.size := hlt
      have hcc := hc' hdl
      have ht : b.data.toList.take (i + 1) = b.data.toList.take i ++ [c] := by rw [List.take_add_one, hc]; rfl
      by_cases g1 : c.toNat < 97
      · have g1' : (c.toNat : Int) < 97 := by omega
        simp [hlt, hlt', hcc, g1, g1']
        refine CallQ.mk (Call.pure callable12 (by simp) (by simp) kn) ?_
        simp
      · have g1' : ¬ (c.toNat : Int) < 97 := by omega
        by_cases g2 : 122 < c.toNat
        · have g2' : (122 : Int) < (c.toNat : Int) := by omega
          simp [hlt, hlt', hcc, g1, g1', g2, g2']
          refine CallQ.mk (Call.pure callable12 (by simp) (by simp) kn) ?_
          simp
        · have g2' : ¬ (122 : Int) < (c.toNat : Int) := by omega
          have hx : ((b.data.toList.take (i + 1)).all lcB) = true := by
            rw [ht, List.all_append, hall2]
            simp [lcB]; omega
          simp [hlt, hlt', hcc, g1, g1', g2, g2', hw]
          exact ⟨b.size - (i + 1), by omega, i + 1, rfl, by omega, by simpa using hx, by omega⟩
    · simp at hlt
      have hie : i = b.size := by omega
      subst hie
      have hBl : b.data.toList.all lcB = true := by
        rw [Go.Lib.size_eq, List.take_length] at hall2; exact hall2
      by_cases ha0 : a = ⟨#[]⟩
      · simp [ha0]
        refine CallQ.mk (Call.pure callable12 (by simp) (by simp) kn) ?_
        simp
      by_cases hb0 : b = ⟨#[]⟩
      · simp [ha0, hb0]
        refine CallQ.mk (Call.pure callable12 (by simp) (by simp) kn) ?_
        simp
      have hwl : IntKind.i64.wrap ((a.size : Int) + b.size) = (a.size : Int) + b.size := wrap64 (by omega) (by omega)
      by_cases hl : 200 < a.size + b.size
      · have hl' : (200 : Int) < (a.size : Int) + b.size := by omega
        simp [ha0, hb0, hwl, hl']
        refine CallQ.mk (Call.pure callable12 (by simp) (by simp) kn) ?_
        simp
      have hl' : ¬ (200 : Int) < (a.size : Int) + b.size := by omega
      have la := lc_all ha0 hA
      have lb := lc_all hb0 hBl
      have cp := conParse4 ⟨#[120]⟩ a b la lb (by omega)
      have hga : glyB a 1 ≠ [] := fun h => by
        have := congrArg List.length h
        rw [glyB_len] at this
        exact ha0 (size_zero (by simpa using this))
      have hgb : glyB b 1 ≠ [] := fun h => by
        have := congrArg List.length h
        rw [glyB_len] at this
        exact hb0 (size_zero (by simpa using this))
      have hnb : ∀ s : ByteArray, LC s → NoBlank (glyB s 1) := fun s hs g hg => by
        unfold glyB at hg
        obtain ⟨c, hc, rfl⟩ := List.mem_map.1 hg
        obtain ⟨y, hy, rfl⟩ := bI_mem hc
        have := hs.2 y hy
        unfold LCb at this
        show (y.toNat : Int) ≠ 32
        omega
      have hk := names_doc (x := ⟨#[120]⟩) (hnb a la) (hnb b lb) hga hgb
      simp only [nRows, rowP, dtS, nmS, List.map_cons, List.map_nil] at cp
      generalize docD (namesBd ⟨#[120]⟩ (glyB a 1) (glyB b 1)) = D at *
      obtain ⟨d1, d2, d3, d4, d5⟩ := D
      simp only at hk
      subst hk
      simp only [Doc.pv, PV.toFV, List.map_cons, List.map_nil, Node.pv_eq] at cp
      have sp := sizedStr1q
      have s4 : ∀ l : List PV, (∀ q ∈ l, q.leaves.length = 4) → Sized 4 l := fun l h => h
      simp [ha0, hb0, hwl, hl']
      refine ⟨sp _, sp _, sp _, ?_, ?_⟩
      · intro q hq
        simp at hq
        rcases hq with rfl | rfl | rfl | rfl <;> rfl
      refine CallQ.mk (Call.pure callable13 (by simp) (by simp) cp) ?_
      have ga := glyB_len a 1
      have gb := glyB_len b 1
      have oa := refOf a 1 la.low hsa
      have ob := refOf b 1 lb.low hsb
      have os := refOf ⟨#[32]⟩ 0 (by decide) (by decide)
      rw [ofS_gly] at oa ob
      have e32 : ofS ⟨#[32]⟩ 0 = [gap0] := rfl
      rw [e32] at os
      generalize glyB a 1 = A at *
      generalize glyB b 1 = B at *
      obtain ⟨G, hG⟩ : ∃ G : List Glyph, G = [gap0] := ⟨_, rfl⟩
      have hGl : G.length = 1 := by rw [hG]; rfl
      rw [← hG] at os
      obtain ⟨X1, hX1⟩ : ∃ X, X = G ++ A := ⟨_, rfl⟩
      obtain ⟨X2, hX2⟩ : ∃ X, X = B ++ X1 := ⟨_, rfl⟩
      obtain ⟨X3, hX3⟩ : ∃ X, X = G ++ X2 := ⟨_, rfl⟩
      have l1 : X1.length = 1 + A.length := by rw [hX1, List.length_append, hGl]
      have l2 : X2.length = B.length + X1.length := by rw [hX2, List.length_append]
      have l3 : X3.length = 1 + X2.length := by rw [hX3, List.length_append, hGl]
      have j1 := ref3Join G A (by omega)
      have j2 := ref3Join B X1 (by omega)
      have j3 := ref3Join G X2 (by omega)
      have j4 := ref3Join A X3 (by omega)
      have hsame : A ++ X3 = names3 A B := by rw [hX3, hX2, hX1, hG]; simp [names3]
      rw [← hX1] at j1
      rw [← hX2] at j2
      rw [← hX3] at j3
      rw [hsame] at j4
      have hn3 : (names3 A B).length ≤ 4611686018427387904 := by rw [← hsame, List.length_append]; omega
      have cs := refSame (names3 A B) (names3 A B) hn3
      rw [decide_eq_true (rfl : names3 A B = names3 A B)] at cs
      simp only [gl] at j1 j2 j3 j4 cs
      simp [gl]
      refine CallQ.mk (CallP.pure callable19 (by simp) (by simp) oa) ?_
      simp
      refine CallQ.mk (CallP.pure callable19 (by simp) (by simp) os) ?_
      simp
      refine CallQ.mk (CallP.pure callable19 (by simp) (by simp) ob) ?_
      simp
      refine CallQ.mk (CallP.pure callable19 (by simp) (by simp) os) ?_
      simp
      refine CallQ.mk (CallP.pure callable19 (by simp) (by simp) oa) ?_
      simp
      refine CallQ.mk (CallP.pure callable18 (by simp) (by simp) j1) ?_
      simp
      refine CallQ.mk (CallP.pure callable18 (by simp) (by simp) j2) ?_
      simp
      refine CallQ.mk (CallP.pure callable18 (by simp) (by simp) j3) ?_
      simp
      refine CallQ.mk (CallP.pure callable18 (by simp) (by simp) j4) ?_
      simp
      refine CallQ.mk (CallP.pure callable17 (by simp) (by simp) cs) ?_
      simp
      refine CallQ.mk (CallP.pure callable12 (by simp) (by simp) kn) ?_
      simp
end Go.Proofs.YtkjgkhgklkdbjaaGreatDoor.Ev
end
