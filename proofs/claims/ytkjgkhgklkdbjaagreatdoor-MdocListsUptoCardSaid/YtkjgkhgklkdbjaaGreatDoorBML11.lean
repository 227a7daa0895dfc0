/- Of what the law MdocLists needs: part 11. -/
import Derived.Test.YtkjgkhgklkdbjaaGreatDoorBML7
import Derived.Test.YtkjgkhgklkdbjaaGreatDoorBML9
set_option linter.unusedSimpArgs false
set_option linter.unusedVariables false
section
namespace Go.Proofs.YtkjgkhgklkdbjaaGreatDoor.Ev
open Go
theorem HInv.gl {H : Heap} {W : Wd} (h : HInv C0 H W) : GL W.w := by
  obtain ⟨w0, h1, h2, h3⟩ := h.kept
  exact GL.ext h1 fun b hb => (h3 b hb).1
def contE (s t : ByteArray) : Bool := Go.Lib.contains s.data.toList t.data.toList
theorem conContS (s t : ByteArray) (hs : s.size < 4294967281) : PCon C0 56 [.sc (.str s), .sc (.str t)] (.sc (.bool (contE s t))) :=
  pcon_below rfl (fun _ _ => .bool) fun vs W hl ha hH => by
    obtain ⟨u, v, rfl, hu, hv⟩ := args2 hl ha
    obtain ⟨m, hm⟩ := hH.gl.maxlen
    rw [hu.str, hv.str]
    exact (Tryz.strings_Contains s t m W.w hs hm).mono fun e w' ⟨he, hw⟩ => ⟨he, by rw [hw]; exact RowKit.Below.refl _ _⟩
def callS : ByteArray := ⟨#[32, 65, 114, 32, 67, 109, 32, 69, 109, 32, 70, 108, 32, 76, 105, 32, 78, 109, 32, 78, 111, 32, 79, 112, 32, 83, 121, 32, 88, 114, 32]⟩
def callE (s : ByteArray) : Bool := !decide (s = ⟨#[]⟩) && (!contE s ⟨#[32]⟩ && contE callS (⟨#[32]⟩ ++ s ++ ⟨#[32]⟩))
set_option maxRecDepth 20000 in
theorem conCallable (s : ByteArray) (hs : s.size ≤ 1073741824) : PCon C0 36 [.sc (.str s)] (.sc (.bool (callE s))) := by
  refine penter36 ?_
  by_cases h0 : s = ⟨#[]⟩
  · simp [Tryz.f36, callE, h0]
  simp [Tryz.f36, callE, h0]
  refine CallQ.mk (Call.pure callable56 (by simp) (by simp) (conContS s ⟨#[32]⟩ (by omega))) ?_
  cases hc : contE s ⟨#[32]⟩
  · have z1 : (⟨#[32]⟩ : ByteArray).size = 1 := rfl
    have a1 : (⟨#[32]⟩ : ByteArray).size + s.size ≤ 1099511627776 := by omega
    have a2 : (⟨#[32]⟩ : ByteArray).size + s.size + (⟨#[32]⟩ : ByteArray).size ≤ 1099511627776 := by omega
    simp [a1, a2]
    refine CallQ.mk (Call.pure callable56 (by simp) (by simp) (conContS callS _ (by decide))) ?_
    simp
  · simp
structure Pc where
  text : List Glyph
  left : Bool
  right : Bool
def Pc.pv (p : Pc) : PV := .agg [gl p.text, .bool p.left, .bool p.right]
def signS : ByteArray := ⟨#[46, 44, 58, 59, 41, 93, 63, 33, 40, 91]⟩
def isSign (s : ByteArray) : Bool := decide (s.size = 1) && contE signS s
def isLeft (s : ByteArray) : Bool := decide (s = ⟨#[40]⟩) || decide (s = ⟨#[91]⟩)
def signP (s : ByteArray) : Pc := if isSign s = true then ⟨ofG s 0, !isLeft s, isLeft s⟩ else ⟨[], false, false⟩
def Pc.cells (p : Pc) : List FV := [.sc (gl p.text), .sc (.bool p.left), .sc (.bool p.right)]
set_option maxRecDepth 20000 in
theorem conSign (s : ByteArray) (hs : s.size ≤ 1073741824) : PCon C0 68 [.sc (.str s)] (.tup [.agg (signP s).cells, .sc (.bool (isSign s))]) := by
  refine penter68 ?_
  by_cases h1 : s.size = 1
  · simp [Tryz.f68, h1]
    refine CallQ.mk (Call.pure callable56 (by simp) (by simp) (conContS signS s (by decide))) ?_
    cases hc : contE signS s
    · simp [signP, isSign, h1, hc, Pc.cells, gl]
    · by_cases h2 : s = ⟨#[40]⟩
      · subst h2
        simp
        refine CallQ.mk (Call.pure callable126 (by simp) (by simp) (conOf _ 0 hs)) ?_
        simp [signP, isSign, isLeft, h1, hc, Pc.cells, gl]
      · by_cases h3 : s = ⟨#[91]⟩
        · subst h3
          simp
          refine CallQ.mk (Call.pure callable126 (by simp) (by simp) (conOf _ 0 hs)) ?_
          simp [signP, isSign, isLeft, h1, hc, Pc.cells, gl]
        · simp [h2, h3]
          refine CallQ.mk (Call.pure callable126 (by simp) (by simp) (conOf s 0 hs)) ?_
          simp [signP, isSign, isLeft, h1, h2, h3, hc, Pc.cells, gl]
  · have h1' : ¬ (s.size : Int) = 1 := by omega
    simp [Tryz.f68, h1, h1', signP, isSign, Pc.cells, gl]
def kindS (k : ByteArray) : Int := if k = ⟨#[65, 114]⟩ ∨ k = ⟨#[69, 109]⟩ then 2 else if k = ⟨#[67, 109]⟩ ∨ k = ⟨#[83, 121]⟩ ∨ k = ⟨#[70, 108]⟩ ∨ k = ⟨#[78, 109]⟩ then 1 else 0
set_option maxRecDepth 20000 in
theorem conKind (k : ByteArray) : PCon C0 166 [.sc (.str k)] (.sc (.int .u8 (kindS k))) := by
  refine penter166 ?_
  by_cases h1 : k = ⟨#[65, 114]⟩
  · simp [Tryz.f166, kindS, h1]
  by_cases h2 : k = ⟨#[69, 109]⟩
  · simp [Tryz.f166, kindS, h2]
  by_cases h3 : k = ⟨#[67, 109]⟩
  · simp [Tryz.f166, kindS, h3]
  by_cases h4 : k = ⟨#[83, 121]⟩
  · simp [Tryz.f166, kindS, h4]
  by_cases h5 : k = ⟨#[70, 108]⟩
  · simp [Tryz.f166, kindS, h5]
  by_cases h6 : k = ⟨#[78, 109]⟩
  · simp [Tryz.f166, kindS, h6]
  simp [Tryz.f166, kindS, h1, h2, h3, h4, h5, h6]
def joinE : List Glyph × Bool → Pc → List Glyph × Bool := fun s p =>
  if p.text = [] then s else ((if s.2 = false ∧ p.left = false then s.1 ++ [⟨32, 0⟩] else s.1) ++ p.text, p.right)
def joinL (l : List Pc) : List Glyph × Bool := l.foldl joinE ([], true)
theorem joinL_take {l : List Pc} {i : Nat} (h : i < l.length) : joinL (l.take (i + 1)) = joinE (joinL (l.take i)) l[i] := by
  rw [List.take_succ_eq_append_getElem h, joinL, List.foldl_append]; rfl
def pcsLen (l : List Pc) : Nat := (l.map fun p => p.text.length + 1).sum
theorem joinL_len (l : List Pc) : (joinL l).1.length ≤ pcsLen l := by
  have : ∀ (l : List Pc) (s : List Glyph × Bool), (l.foldl joinE s).1.length ≤ s.1.length + pcsLen l := by
    intro l
    induction l with
    | nil => intro s; simp [pcsLen]
    | cons p l ih =>
      intro s
      have h1 := ih (joinE s p)
      have h2 : (joinE s p).1.length ≤ s.1.length + (p.text.length + 1) := by
        unfold joinE; split
        · omega
        · split <;> simp <;> omega
      have h3 : pcsLen (p :: l) = p.text.length + 1 + pcsLen l := by simp [pcsLen]
      rw [List.foldl_cons]; omega
  have := this l ([], true)
  simpa [joinL] using this
theorem pcsLen_take (l : List Pc) (i : Nat) : pcsLen (l.take i) ≤ pcsLen l := by
  unfold pcsLen
  induction l generalizing i with
  | nil => simp
  | cons p l ih =>
    cases i with
    | zero => simp
    | succ i => have := ih i; simp at this ⊢; omega
theorem pcsLen_get {l : List Pc} {i : Nat} (h : i < l.length) : pcsLen (l.take i) + (l[i].text.length + 1) ≤ pcsLen l := by
  have := pcsLen_take l (i + 1)
  rw [List.take_succ_eq_append_getElem h] at this
  unfold pcsLen at this ⊢
  rw [List.map_append, List.sum_append] at this
  simpa using this
set_option maxRecDepth 20000 in
set_option maxHeartbeats 4000000 in
theorem conJoin (l : List Pc) (hn : l.length ≤ 1073741824) (hl : pcsLen l ≤ 1073741824) : PCon C0 35 [.sc (.sl (l.map Pc.pv))] (.own ((joinL l).1.map Glyph.pv)) := by
  refine penter35 ?_
  simp [Tryz.f35]
  refine loopC (fun d e H' => ∃ (i : Nat) (J : Heap) (x2 x6 x10 x16 x23 : FV), H' = J ∧ d = l.length - i ∧ i ≤ l.length ∧ e = [(0, .sc (.sl (l.map Pc.pv))), (2, x2), (3, .own ((joinL (l.take i)).1.map Glyph.pv)), (4, .sc (.bool (joinL (l.take i)).2)), (6, x6), (7, .sc (.sl (l.map Pc.pv))), (8, .sc (.int .i64 l.length)), (9, .sc (.int .i64 i)), (10, x10), (16, x16), (23, x23)]) (d := l.length) ⟨0, [], .own [], .undef, .undef, .undef, .undef, rfl, rfl, Nat.zero_le _, ?_⟩ ?_
  · simp [joinL]
  · rintro d e H' ⟨i, J, x2, x6, x10, x16, x23, rfl, rfl, hi, rfl⟩
    simp
    refine CondC.mk (fun hlt => ?_) (fun hlt => ?_)
    · simp at hlt
      have hw : IntKind.i64.wrap ((i : Int) + 1) = ((i + 1 : Nat) : Int) := by rw [wrap64 (by omega) (by omega)]; omega
      have hlen := joinL_len (l.take i)
      have hpg := pcsLen_get hlt
      have ht := joinL_take hlt
      have hq : (l.map Pc.pv)[i]? = some (l[i]).pv := by simp [hlt]
      generalize hS : joinL (l.take i) = Q at *
      obtain ⟨out, st⟩ := Q
      generalize l[i] = p at hq ht hpg
      simp only at hlen
      have so := sized_gl out
      have sp := sized_gl p.text
      have s1 : ∀ a b : Int, Sized 2 [PV.agg [PV.int .i32 a, PV.int .u8 b]] := fun a b p hp => by simp at hp; subst hp; rfl
      have fin : ∀ (o' : List Glyph) (b' : Bool) (q : List PV), joinE (out, st) p = (o', b') → q = o'.map Glyph.pv → ∃ d', d' < l.length - i ∧ ∃ k, d' = l.length - k ∧ k ≤ l.length ∧
          q = List.map Glyph.pv (joinL (List.take k l)).fst ∧ b' = (joinL (List.take k l)).snd ∧ (i : Int) + 1 = (k : Nat) := by
        intro o' b' q h1 h2
        refine ⟨l.length - (i + 1), by omega, i + 1, rfl, by omega, ?_, ?_, by omega⟩
        · rw [ht, h1, h2]
        · rw [ht, h1]
      by_cases h0 : p.text = []
      · simp [hq, Pc.pv, gl, h0, hw]
        exact fin out st _ (by simp [joinE, h0]) rfl
      cases st
      · cases hL : p.left
        · have so1 : Sized 2 (List.map Glyph.pv out ++ [PV.agg [PV.int IntKind.i32 32, PV.int IntKind.u8 0]]) := sized_gl (out ++ [⟨32, 0⟩]) |> fun h => by simpa [Glyph.pv] using h
          simp [hq, Pc.pv, gl, h0, hL, hw, so, sp, s1, so1, lenMax]
          exact ⟨by omega, by omega, fin (out ++ [⟨32, 0⟩] ++ p.text) p.right _ (by simp [joinE, h0, hL]) (by simp [Glyph.pv])⟩
        · simp [hq, Pc.pv, gl, h0, hL, hw, so, sp, s1, lenMax]
          exact ⟨by omega, fin (out ++ p.text) p.right _ (by simp [joinE, h0, hL]) (by simp)⟩
      · simp [hq, Pc.pv, gl, h0, hw, so, sp, s1, lenMax]
        exact ⟨by omega, fin (out ++ p.text) p.right _ (by simp [joinE, h0]) (by simp)⟩
    · simp at hlt
      simp [List.take_of_length_le hlt]
end Go.Proofs.YtkjgkhgklkdbjaaGreatDoor.Ev
end
section
namespace Go.Proofs.YtkjgkhgklkdbjaaGreatDoor.Ev
open Go
structure Wr where
  out : List Pc
  bad : List Dg
  name : ByteArray
  ops : Nat
def Wr.cells (w : Wr) : List FV := [.own (w.out.map Pc.pv), .own (w.bad.map Dg.pv), .sc (.str w.name), .sc (.int .i64 w.ops)]
theorem lineD_len (s : ByteArray) : (lineD s).length ≤ s.size := (scan_len s).2
theorem wr_np (w : Wr) : ∀ f ∈ w.cells, f.np0 = true := by simp [Wr.cells]
theorem set_np {H : Heap} {b : Nat} {x : List FV} (h : NP H) (hx : ∀ f ∈ x, f.np0 = true) : NP (H.set b x) := by
  intro fs hf
  rcases List.mem_or_eq_of_mem_set hf with h' | h'
  · exact h fs h'
  · exact h' ▸ hx
set_option maxRecDepth 20000 in
set_option maxHeartbeats 4000000 in
theorem conGlyphs (w : Wr) (s : ByteArray) (n : Int) (hs : s.size ≤ 1073741824) (hd : w.bad.length ≤ 1073741824) (H : Heap) (b : Nat) (hb : H[b]? = some w.cells) (hnp : NP H) :
    Con C0 167 [.ptr b 0, .sc (.str s), .sc (.int .u8 n)] H (.sc (gl (lineG ⟨n, n⟩ s))) (H.set b { w with bad := w.bad ++ lineD s }.cells) := by
  have hlt := (List.getElem?_eq_some_iff.1 hb).1
  have hb' := hb
  simp only [Wr.cells] at hb'
  have so := sized_dg w.bad
  have sl := sized_dg (lineD s)
  have hl := lineD_len s
  refine con_trim (C := C0) (fn := Tryz.f167) Tryz.func167 rfl (by decide) mixed (mv := mv167) (vars := vars167) (c := Tryz.f167.body.getD .skip) rfl rfl (set_np hnp (wr_np _)) ?_
  simp [Tryz.f167]
  refine CallQ.mk (Call.pure callable55 (by simp) (by simp [gl, Face.cells]) (conLine ⟨n, n⟩ s hs)) ?_
  simp [Face.cells, hb', so, sl, lenMax, heap_old hlt, heap_old_set hlt, hs_b hlt, hs_set hlt, heap_old_take_set, Wr.cells, gl]
  omega
def wordP (k s : ByteArray) : Pc := ⟨(if k = ⟨#[70, 108]⟩ then ofG ⟨#[45]⟩ (kindS k) else []) ++ lineG ⟨kindS k, kindS k⟩ s, false, false⟩
def wordW (k s : ByteArray) (w : Wr) : Wr := { w with bad := w.bad ++ lineD s, name := if k = ⟨#[78, 109]⟩ ∧ w.name = ⟨#[]⟩ then s else w.name }
def xrS : ByteArray := ⟨#[88, 114]⟩
set_option linter.unusedSimpArgs false in
set_option maxRecDepth 20000 in
set_option maxHeartbeats 4000000 in
theorem conWord (w : Wr) (k s : ByteArray) (n : Int) (hk : k ≠ xrS) (hs : s.size ≤ 1073741824) (hd : w.bad.length ≤ 1073741824) (H : Heap) (b : Nat) (hb : H[b]? = some w.cells) (hnp : NP H) :
    Con C0 124 [.ptr b 0, .sc (.str k), .sc (.str s), .sc (.int .i64 n)] H (.agg (wordP k s).cells) (H.set b (wordW k s w).cells) := by
  have hlt := (List.getElem?_eq_some_iff.1 hb).1
  have hb' := hb
  simp only [Wr.cells] at hb'
  have hx : ¬ k = ⟨#[88, 114]⟩ := hk
  have hall : ∀ m, (lineG ⟨m, m⟩ s).length ≤ 1073741824 := fun m => Nat.le_trans (line_len _ s) hs
  have sg : ∀ m, Sized 2 ((lineG ⟨m, m⟩ s).map Glyph.pv) := fun m => sized_gl _
  have np1 : ∀ fs : List FV, (∀ f ∈ fs, f.np0 = true) → NP (H ++ [fs]) := fun fs h => np_app hnp (np_cons h np_nil)
  refine con_trim (C := C0) (fn := Tryz.f124) Tryz.func124 rfl (by decide) mixed (mv := mv124) (vars := vars124) (c := Tryz.f124.body.getD .skip) rfl rfl (set_np hnp (wr_np _)) ?_
  simp [Tryz.f124]
  refine CallQ.mk (Call.pure callable166 (by simp) (by simp) (conKind k)) ?_
  by_cases h1 : k = ⟨#[78, 109]⟩
  · subst h1
    by_cases h0 : w.name = ⟨#[]⟩
    · simp [heap_old hlt, heap_old_set hlt, hs_b hlt, hs_set hlt, hb', h0]
      refine CallQ.mk (Call.shared callable167 (conGlyphs { w with name := s } s (kindS _) hs hd _ b (by rw [hs_b hlt]; rfl) (np_app (set_np hnp (wr_np { w with name := s })) (np_cons (by simp) np_nil)))) ?_
      simp [heap_old hlt, heap_old_set hlt, hs_b hlt, hs_set hlt, heap_old_take_set, hb', wordP, wordW, Pc.cells, Wr.cells, gl, h0]
    · simp [heap_old hlt, heap_old_set hlt, hs_b hlt, hs_set hlt, hb', h0]
      refine CallQ.mk (Call.shared callable167 (conGlyphs w s (kindS _) hs hd _ b (by rw [heap_old hlt]; exact hb) (np1 _ (by simp)))) ?_
      simp [heap_old hlt, heap_old_set hlt, hs_b hlt, hs_set hlt, heap_old_take_set, hb', wordP, wordW, Pc.cells, Wr.cells, gl, h0]
  by_cases h2 : k = ⟨#[70, 108]⟩
  · subst h2
    simp [heap_old hlt, heap_old_set hlt, hs_b hlt, hs_set hlt, hb']
    refine CallQ.mk (Call.pure callable126 (by simp) (by simp) (conOf ⟨#[45]⟩ _ (by decide))) ?_
    simp
    refine CallQ.mk (Call.shared callable167 (conGlyphs w s (kindS _) hs hd _ b (by rw [heap_old hlt]; exact hb) (np1 _ (by simp)))) ?_
    have e45 : (ofG ⟨#[45]⟩ (kindS ⟨#[70, 108]⟩)).length ≤ 1 := by
      rw [ofG, List.length_map]; exact Nat.le_trans decR_len (by rw [bI_len]; decide)
    have ha := hall (kindS ⟨#[70, 108]⟩)
    have s45 : Sized 2 ((ofG ⟨#[45]⟩ (kindS ⟨#[70, 108]⟩)).map Glyph.pv) := sized_gl _
    simp [heap_old hlt, heap_old_set hlt, hs_b hlt, hs_set hlt, heap_old_take_set, hb', wordP, wordW, Pc.cells, Wr.cells, gl, sg, s45, lenMax]
    omega
  simp [h1, h2, hx]
  refine CallQ.mk (Call.shared callable167 (conGlyphs w s (kindS k) hs hd _ b (by rw [heap_old hlt]; exact hb) (np1 _ (by simp)))) ?_
  simp [heap_old hlt, heap_old_set hlt, hs_b hlt, hs_set hlt, heap_old_take_set, hb', wordP, wordW, Pc.cells, Wr.cells, h1, h2, gl]
end Go.Proofs.YtkjgkhgklkdbjaaGreatDoor.Ev
end
section
namespace Go.Proofs.YtkjgkhgklkdbjaaGreatDoor.Ev
open Go
def fileS : ByteArray := ⟨#[102, 105, 108, 101]⟩
def dotsS : ByteArray := ⟨#[46, 46, 46]⟩
def bareL (k : ByteArray) (name : ByteArray) : List Pc :=
  if k = ⟨#[70, 108]⟩ then [⟨ofG ⟨#[45]⟩ (kindS k), false, false⟩]
  else if k = ⟨#[65, 114]⟩ then [⟨ofG fileS (kindS k), false, false⟩, ⟨ofG dotsS (kindS k), false, false⟩]
  else if k = ⟨#[78, 109]⟩ then [⟨lineG ⟨kindS k, kindS k⟩ name, false, false⟩] else []
def bareW (k : ByteArray) (w : Wr) : Wr := if k = ⟨#[78, 109]⟩ then { w with bad := w.bad ++ lineD w.name } else w
theorem sized_pc (l : List Pc) : Sized 3 (l.map Pc.pv) := fun p hp => by
  simp only [List.mem_map] at hp; obtain ⟨x, _, rfl⟩ := hp; rfl
set_option linter.unusedSimpArgs false in
set_option maxRecDepth 20000 in
set_option maxHeartbeats 4000000 in
theorem conBare (w : Wr) (k : ByteArray) (hs : w.name.size ≤ 1073741824) (hd : w.bad.length ≤ 1073741824) (H : Heap) (b : Nat) (hb : H[b]? = some w.cells) (hnp : NP H) :
    Con C0 125 [.ptr b 0, .sc (.str k)] H (.own ((bareL k w.name).map Pc.pv)) (H.set b (bareW k w).cells) := by
  have hlt := (List.getElem?_eq_some_iff.1 hb).1
  have hb' := hb
  simp only [Wr.cells] at hb'
  have hsame : H.set b w.cells = H := set_sameX hb
  refine enter125 ?_
  simp [Tryz.f125]
  refine CallQ.mk (Call.pure callable166 (by simp) (by simp) (conKind k)) ?_
  by_cases h1 : k = ⟨#[70, 108]⟩
  · subst h1
    simp
    refine CallQ.mk (Call.pure callable126 (by simp) (by simp) (conOf ⟨#[45]⟩ _ (by decide))) ?_
    simp [bareL, bareW, hsame, Pc.pv, gl]
    exact sized_pc [⟨ofG ⟨#[45]⟩ (kindS ⟨#[70, 108]⟩), false, false⟩]
  by_cases h2 : k = ⟨#[65, 114]⟩
  · subst h2
    simp
    refine CallQ.mk (Call.pure callable126 (by simp) (by simp) (conOf fileS _ (by decide))) ?_
    simp
    refine CallQ.mk (Call.pure callable126 (by simp) (by simp) (conOf dotsS _ (by decide))) ?_
    simp [bareL, bareW, hsame, Pc.pv, gl]
    exact ⟨rfl, sized_pc [⟨ofG fileS (kindS ⟨#[65, 114]⟩), false, false⟩, ⟨ofG dotsS (kindS ⟨#[65, 114]⟩), false, false⟩]⟩
  by_cases h3 : k = ⟨#[78, 109]⟩
  · subst h3
    simp [hb']
    refine CallQ.mk (Call.shared callable167 (conGlyphs w w.name (kindS _) hs hd _ b hb hnp)) ?_
    simp [bareL, bareW, Pc.pv, gl]
    exact sized_pc [⟨lineG ⟨kindS ⟨#[78, 109]⟩, kindS ⟨#[78, 109]⟩⟩ w.name, false, false⟩]
  simp [h1, h2, h3, bareL, bareW, hsame]
structure El where
  o : List Pc
  k : Nat
  w : Wr
def elE (k : ByteArray) : El → ByteArray → El := fun e s =>
  if isSign s = true then { e with o := e.o ++ [signP s] } else ⟨e.o ++ [wordP k s], e.k + 1, wordW k s e.w⟩
def elL (k : ByteArray) (w : Wr) (l : List ByteArray) : El := l.foldl (elE k) ⟨[], 0, w⟩
def opW (k : ByteArray) (w : Wr) : Wr := if k = ⟨#[79, 112]⟩ then { w with ops := w.ops + 1, out := w.out ++ [signP ⟨#[91]⟩] } else w
def elemW (k : ByteArray) (w : Wr) (l : List ByteArray) : Wr :=
  if (elL k (opW k w) l).k = 0 then { bareW k (elL k (opW k w) l).w with out := (elL k (opW k w) l).w.out ++ (bareL k (elL k (opW k w) l).w.name ++ (elL k (opW k w) l).o) }
  else { (elL k (opW k w) l).w with out := (elL k (opW k w) l).w.out ++ (elL k (opW k w) l).o }
theorem elL_take {k : ByteArray} {w : Wr} {l : List ByteArray} {i : Nat} (h : i < l.length) : elL k w (l.take (i + 1)) = elE k (elL k w (l.take i)) l[i] := by
  rw [List.take_succ_eq_append_getElem h, elL, List.foldl_append]; rfl
def wLen (l : List ByteArray) : Nat := (l.map fun s => s.size + 1).sum
theorem wLen_take (l : List ByteArray) (i : Nat) : wLen (l.take i) ≤ wLen l := by
  unfold wLen
  induction l generalizing i with
  | nil => simp
  | cons p l ih =>
    cases i with
    | zero => simp
    | succ i => have := ih i; simp at this ⊢; omega
theorem wLen_get {l : List ByteArray} {i : Nat} (h : i < l.length) : wLen (l.take i) + (l[i].size + 1) ≤ wLen l := by
  have := wLen_take l (i + 1)
  rw [List.take_succ_eq_append_getElem h] at this
  unfold wLen at this ⊢
  rw [List.map_append, List.sum_append] at this
  simpa using this
theorem elL_ok (k : ByteArray) (w : Wr) (l : List ByteArray) : (elL k w l).o.length ≤ wLen l ∧ (elL k w l).k ≤ wLen l ∧ (elL k w l).w.bad.length ≤ w.bad.length + wLen l ∧ (elL k w l).w.name.size ≤ max w.name.size (wLen l) ∧ (elL k w l).w.out = w.out ∧ (elL k w l).w.ops = w.ops := by
  have : ∀ (l : List ByteArray) (e : El), (l.foldl (elE k) e).o.length ≤ e.o.length + wLen l ∧ (l.foldl (elE k) e).k ≤ e.k + wLen l ∧ (l.foldl (elE k) e).w.bad.length ≤ e.w.bad.length + wLen l ∧ (l.foldl (elE k) e).w.name.size ≤ max e.w.name.size (wLen l) ∧ (l.foldl (elE k) e).w.out = e.w.out ∧ (l.foldl (elE k) e).w.ops = e.w.ops := by
    intro l
    induction l with
    | nil => intro e; simp [wLen]
    | cons s l ih =>
      intro e
      have h1 := ih (elE k e s)
      have h2 : (elE k e s).o.length ≤ e.o.length + 1 ∧ (elE k e s).k ≤ e.k + 1 ∧ (elE k e s).w.bad.length ≤ e.w.bad.length + s.size ∧ (elE k e s).w.name.size ≤ max e.w.name.size s.size ∧ (elE k e s).w.out = e.w.out ∧ (elE k e s).w.ops = e.w.ops := by
        have := lineD_len s
        unfold elE; split
        · simp; omega
        · simp only [wordW, List.length_append, List.length_singleton]
          refine ⟨by omega, by omega, by omega, ?_, trivial, trivial⟩
          split
          · exact Nat.le_max_right _ _
          · exact Nat.le_max_left _ _
      have h3 : wLen (s :: l) = s.size + 1 + wLen l := by simp [wLen]
      rw [List.foldl_cons]
      obtain ⟨a1, a2, a3, a4, a5, a6⟩ := h1
      obtain ⟨b1, b2, b3, b4, b5, b6⟩ := h2
      exact ⟨by omega, by omega, by omega, by omega, a5.trans b5, a6.trans b6⟩
  have h := this l ⟨[], 0, w⟩
  simpa [elL] using h
theorem bareW_out (k : ByteArray) (w : Wr) : (bareW k w).out = w.out := by unfold bareW; split <;> rfl
theorem bareL_len (k n : ByteArray) : (bareL k n).length ≤ 2 := by
  unfold bareL; repeat' split
  all_goals simp
theorem hll_aux (l : List ByteArray) : l.length ≤ wLen l := by
  induction l with
  | nil => simp [wLen]
  | cons s l ih => unfold wLen at ih ⊢; simp only [List.length_cons, List.map_cons, List.sum_cons]; omega
set_option linter.unusedSimpArgs false in
set_option maxRecDepth 20000 in
set_option maxHeartbeats 4000000 in
theorem conElem (w : Wr) (k : ByteArray) (l : List ByteArray) (hk : k ≠ xrS) (hn : w.name.size ≤ 1073741824) (hd : w.bad.length + wLen l ≤ 536870912) (ho : w.out.length + wLen l ≤ 536870912) (hops : w.ops ≤ 536870912) (H : Heap) (b : Nat) (hb : H[b]? = some w.cells) (hnp : NP H) :
    Con C0 67 [.ptr b 0, .sc (.str k), .sc (.sl (l.map PV.str))] H (.tup []) (H.set b (elemW k w l).cells) := by
  have hlt := (List.getElem?_eq_some_iff.1 hb).1
  have hb' := hb
  simp only [Wr.cells] at hb'
  have hll := hll_aux l
  have hokw : (opW k w).bad = w.bad ∧ (opW k w).name = w.name ∧ (opW k w).out.length ≤ w.out.length + 1 ∧ (opW k w).ops ≤ w.ops + 1 := by
    unfold opW; split
    · simp
    · simp
  have c1 : (opW k w).bad.length = w.bad.length := by rw [hokw.1]
  have c2 : (opW k w).name.size = w.name.size := by rw [hokw.2.1]
  obtain ⟨_, _, c3, c4⟩ := hokw
  refine con_trim (C := C0) (fn := Tryz.f67) Tryz.func67 rfl (by decide) mixed (mv := mv67) (vars := vars67) (c := Tryz.f67.body.getD .skip) rfl rfl (set_np hnp (wr_np _)) ?_
  by_cases hop : k = ⟨#[79, 112]⟩
  · have hop' := eq_true hop
    have so := sized_pc w.out
    have w1 : IntKind.i64.wrap ((w.ops : Int) + 1) = ((w.ops + 1 : Nat) : Int) := by rw [wrap64 (by omega) (by omega)]; omega
    simp [Tryz.f67, hb', w1, hop']
    refine CallQ.mk (Call.pure callable68 (by simp) (by simp [Pc.cells, gl]) (conSign ⟨#[91]⟩ (by decide))) ?_
    simp [Pc.cells, gl, heap_old hlt, heap_old_set hlt, hs_b hlt, hs_set hlt, so, lenMax]
    refine ⟨sized_pc [signP ⟨#[91]⟩], by omega, ?_⟩
    refine loopC (fun d e H' => ∃ (i : Nat) (X : Heap) (x6 x11 x12 x13 x15 x40 x48 x65 : FV), H' = H.set b (elL k (opW k w) (l.take i)).w.cells ++ X ∧ NP X ∧ d = l.length - i ∧ i ≤ l.length ∧ e = [(0, .ptr b 0), (1, .sc (.str k)), (2, .sc (.sl (l.map PV.str))), (6, x6), (8, .sc (.int .i64 (elL k (opW k w) (l.take i)).k)), (9, .own ((elL k (opW k w) (l.take i)).o.map Pc.pv)), (11, x11), (12, x12), (13, x13), (15, x15), (37, .sc (.sl (l.map PV.str))), (38, .sc (.int .i64 l.length)), (39, .sc (.int .i64 i)), (40, x40), (48, x48), (65, x65)]) (d := l.length) ⟨0, _, _, _, _, _, _, _, _, _, (by simp [elL, opW, Wr.cells, hop']; exact ⟨rfl, rfl⟩), np_cons (by simp) np_nil, rfl, Nat.zero_le _, rfl⟩ ?_
    rintro d e H' ⟨i, X, x6, x11, x12, x13, x15, x40, x48, x65, rfl, hX, rfl, hi, rfl⟩
    simp
    refine CondC.mk (fun hlt2 => ?_) (fun hlt2 => ?_)
    · simp at hlt2
      have hw : IntKind.i64.wrap ((i : Int) + 1) = ((i + 1 : Nat) : Int) := by rw [wrap64 (by omega) (by omega)]; omega
      have hok := elL_ok k (opW k w) (l.take i)
      have hwl := wLen_get hlt2
      have hsz : l[i].size ≤ 536870912 := by omega
      have hwt := wLen_take l i
      have ht := elL_take (k := k) (w := opW k w) hlt2
      have hq : (l.map PV.str)[i]? = some (.str l[i]) := by simp [hlt2]
      generalize elL k (opW k w) (l.take i) = Q at *
      obtain ⟨o, kk, w1⟩ := Q
      generalize l[i] = s at *
      simp only at hok
      obtain ⟨k1, k2, k3, k4, k5, k6⟩ := hok
      have so := sized_pc o
      have hwk : IntKind.i64.wrap ((kk : Int) + 1) = ((kk + 1 : Nat) : Int) := by rw [wrap64 (by omega) (by omega)]; omega
      have fin : ∀ (Y : Heap) (o' : List Pc) (kk' : Nat) (w' : Wr) (q : List PV) (z : Int), NP Y → elE k ⟨o, kk, w1⟩ s = ⟨o', kk', w'⟩ → q = o'.map Pc.pv → z = (kk' : Int) → ∃ d', d' < l.length - i ∧ ∃ a X', H.set b w'.cells ++ Y = H.set b (elL k (opW k w) (List.take a l)).w.cells ++ X' ∧ NP X' ∧ d' = l.length - a ∧ a ≤ l.length ∧
          z = ((elL k (opW k w) (List.take a l)).k : Int) ∧ q = (elL k (opW k w) (List.take a l)).o.map Pc.pv ∧ (i : Int) + 1 = (a : Nat) := by
        intro Y o' kk' w' q z hY h1 h2 h3
        refine ⟨l.length - (i + 1), by omega, i + 1, Y, ?_, hY, rfl, by omega, ?_, ?_, by omega⟩
        · rw [ht, h1]
        · rw [ht, h1, h3]
        · rw [ht, h1, h2]
      simp [hq]
      refine CallQ.mk (Call.pure callable68 (by simp) (by simp [Pc.cells, gl]) (conSign s (by omega))) ?_
      have sy : ∀ q : Pc, Sized 3 [PV.agg [PV.sl (List.map Glyph.pv q.text), PV.bool q.left, PV.bool q.right]] := fun q => sized_pc [q]
      have npq : ∀ q : Pc, NP (X ++ [[FV.sc (PV.sl (List.map Glyph.pv q.text)), FV.sc (PV.bool q.left), FV.sc (PV.bool q.right)]]) := fun q => np_app hX (np_cons (by simp) np_nil)
      cases hsg : isSign s
      · simp [Pc.cells, gl]
        refine CallQ.mk (Call.shared callable124 (conWord w1 k s kk hk (by omega) (by omega) _ b (hs_b hlt) (np_app (set_np hnp (wr_np w1)) (npq _)))) ?_
        simp [Pc.cells, gl, hs_b hlt, hs_set hlt, hwk, hw, so, sy, lenMax]
        exact ⟨by omega, fin _ (o ++ [wordP k s]) (kk + 1) (wordW k s w1) _ _ (npq _) (by simp [elE, hsg]) (by simp [Pc.pv, gl]) (by omega)⟩
      · simp [Pc.cells, gl, so, sy, lenMax, hw]
        exact ⟨by omega, fin _ (o ++ [signP s]) kk w1 _ _ (npq _) (by simp [elE, hsg]) (by simp [Pc.pv, gl]) rfl⟩
    · simp at hlt2
      obtain rfl : i = l.length := by omega
      have hok := elL_ok k (opW k w) (l.take l.length)
      rw [List.take_length] at hok ⊢
      have so := sized_pc (elL k (opW k w) l).o
      have sw := sized_pc (elL k (opW k w) l).w.out
      have ec : ∀ v : Wr, v.cells = [.own (v.out.map Pc.pv), .own (v.bad.map Dg.pv), .sc (.str v.name), .sc (.int .i64 v.ops)] := fun _ => rfl
      by_cases h0 : (elL k (opW k w) l).k = 0
      · simp [h0]
        refine CallQ.mk (Call.shared callable125 (conBare (elL k (opW k w) l).w k (by omega) (by omega) _ b (hs_b hlt) (np_app (set_np hnp (wr_np _)) hX))) ?_
        have sb := sized_pc (bareL k (elL k (opW k w) l).w.name)
        have sbo : Sized 3 (List.map Pc.pv (bareL k (elL k (opW k w) l).w.name) ++ List.map Pc.pv (elL k (opW k w) l).o) := by
          rw [← List.map_append]; exact sized_pc _
        have bl := bareL_len k (elL k (opW k w) l).w.name
        have hwo : (elL k (opW k w) l).w.out.length = (opW k w).out.length := by rw [hok.2.2.2.2.1]
        simp [hs_b hlt, hs_set hlt, heap_old_take_set, ec, so, sw, sb, sbo, bareW_out, lenMax]
        refine ⟨by omega, by omega, ?_⟩
        rw [elemW, if_pos h0]; simp
      · have hwo : (elL k (opW k w) l).w.out.length = (opW k w).out.length := by rw [hok.2.2.2.2.1]
        simp [h0, hs_b hlt, hs_set hlt, heap_old_take_set, ec, so, sw, lenMax]
        refine ⟨by omega, ?_⟩
        rw [elemW, if_neg h0]; simp
  · simp [Tryz.f67, hop]
    refine loopC (fun d e H' => ∃ (i : Nat) (X : Heap) (x6 x11 x12 x13 x15 x40 x48 x65 : FV), H' = H.set b (elL k (opW k w) (l.take i)).w.cells ++ X ∧ NP X ∧ d = l.length - i ∧ i ≤ l.length ∧ e = [(0, .ptr b 0), (1, .sc (.str k)), (2, .sc (.sl (l.map PV.str))), (6, x6), (8, .sc (.int .i64 (elL k (opW k w) (l.take i)).k)), (9, .own ((elL k (opW k w) (l.take i)).o.map Pc.pv)), (11, x11), (12, x12), (13, x13), (15, x15), (37, .sc (.sl (l.map PV.str))), (38, .sc (.int .i64 l.length)), (39, .sc (.int .i64 i)), (40, x40), (48, x48), (65, x65)]) (d := l.length) ⟨0, _, _, _, _, _, _, _, _, _, (by rw [show (elL k (opW k w) (l.take 0)).w = w from by simp [elL, opW, hop]]; rw [set_sameX hb]; exact (List.append_nil H).symm), np_nil, rfl, Nat.zero_le _, rfl⟩ ?_
    rintro d e H' ⟨i, X, x6, x11, x12, x13, x15, x40, x48, x65, rfl, hX, rfl, hi, rfl⟩
    simp
    refine CondC.mk (fun hlt2 => ?_) (fun hlt2 => ?_)
    · simp at hlt2
      have hw : IntKind.i64.wrap ((i : Int) + 1) = ((i + 1 : Nat) : Int) := by rw [wrap64 (by omega) (by omega)]; omega
      have hok := elL_ok k (opW k w) (l.take i)
      have hwl := wLen_get hlt2
      have hsz : l[i].size ≤ 536870912 := by omega
      have hwt := wLen_take l i
      have ht := elL_take (k := k) (w := opW k w) hlt2
      have hq : (l.map PV.str)[i]? = some (.str l[i]) := by simp [hlt2]
      generalize elL k (opW k w) (l.take i) = Q at *
      obtain ⟨o, kk, w1⟩ := Q
      generalize l[i] = s at *
      simp only at hok
      obtain ⟨k1, k2, k3, k4, k5, k6⟩ := hok
      have so := sized_pc o
      have hwk : IntKind.i64.wrap ((kk : Int) + 1) = ((kk + 1 : Nat) : Int) := by rw [wrap64 (by omega) (by omega)]; omega
      have fin : ∀ (Y : Heap) (o' : List Pc) (kk' : Nat) (w' : Wr) (q : List PV) (z : Int), NP Y → elE k ⟨o, kk, w1⟩ s = ⟨o', kk', w'⟩ → q = o'.map Pc.pv → z = (kk' : Int) → ∃ d', d' < l.length - i ∧ ∃ a X', H.set b w'.cells ++ Y = H.set b (elL k (opW k w) (List.take a l)).w.cells ++ X' ∧ NP X' ∧ d' = l.length - a ∧ a ≤ l.length ∧
          z = ((elL k (opW k w) (List.take a l)).k : Int) ∧ q = (elL k (opW k w) (List.take a l)).o.map Pc.pv ∧ (i : Int) + 1 = (a : Nat) := by
        intro Y o' kk' w' q z hY h1 h2 h3
        refine ⟨l.length - (i + 1), by omega, i + 1, Y, ?_, hY, rfl, by omega, ?_, ?_, by omega⟩
        · rw [ht, h1]
        · rw [ht, h1, h3]
        · rw [ht, h1, h2]
      simp [hq]
      refine CallQ.mk (Call.pure callable68 (by simp) (by simp [Pc.cells, gl]) (conSign s (by omega))) ?_
      have sy : ∀ q : Pc, Sized 3 [PV.agg [PV.sl (List.map Glyph.pv q.text), PV.bool q.left, PV.bool q.right]] := fun q => sized_pc [q]
      have npq : ∀ q : Pc, NP (X ++ [[FV.sc (PV.sl (List.map Glyph.pv q.text)), FV.sc (PV.bool q.left), FV.sc (PV.bool q.right)]]) := fun q => np_app hX (np_cons (by simp) np_nil)
      cases hsg : isSign s
      · simp [Pc.cells, gl]
        refine CallQ.mk (Call.shared callable124 (conWord w1 k s kk hk (by omega) (by omega) _ b (hs_b hlt) (np_app (set_np hnp (wr_np w1)) (npq _)))) ?_
        simp [Pc.cells, gl, hs_b hlt, hs_set hlt, hwk, hw, so, sy, lenMax]
        exact ⟨by omega, fin _ (o ++ [wordP k s]) (kk + 1) (wordW k s w1) _ _ (npq _) (by simp [elE, hsg]) (by simp [Pc.pv, gl]) (by omega)⟩
      · simp [Pc.cells, gl, so, sy, lenMax, hw]
        exact ⟨by omega, fin _ (o ++ [signP s]) kk w1 _ _ (npq _) (by simp [elE, hsg]) (by simp [Pc.pv, gl]) rfl⟩
    · simp at hlt2
      obtain rfl : i = l.length := by omega
      have hok := elL_ok k (opW k w) (l.take l.length)
      rw [List.take_length] at hok ⊢
      have so := sized_pc (elL k (opW k w) l).o
      have sw := sized_pc (elL k (opW k w) l).w.out
      have ec : ∀ v : Wr, v.cells = [.own (v.out.map Pc.pv), .own (v.bad.map Dg.pv), .sc (.str v.name), .sc (.int .i64 v.ops)] := fun _ => rfl
      by_cases h0 : (elL k (opW k w) l).k = 0
      · simp [h0]
        refine CallQ.mk (Call.shared callable125 (conBare (elL k (opW k w) l).w k (by omega) (by omega) _ b (hs_b hlt) (np_app (set_np hnp (wr_np _)) hX))) ?_
        have sb := sized_pc (bareL k (elL k (opW k w) l).w.name)
        have sbo : Sized 3 (List.map Pc.pv (bareL k (elL k (opW k w) l).w.name) ++ List.map Pc.pv (elL k (opW k w) l).o) := by
          rw [← List.map_append]; exact sized_pc _
        have bl := bareL_len k (elL k (opW k w) l).w.name
        have hwo : (elL k (opW k w) l).w.out.length = (opW k w).out.length := by rw [hok.2.2.2.2.1]
        simp [hs_b hlt, hs_set hlt, heap_old_take_set, ec, so, sw, sb, sbo, bareW_out, lenMax]
        refine ⟨by omega, by omega, ?_⟩
        rw [elemW, if_pos h0]; simp
      · have hwo : (elL k (opW k w) l).w.out.length = (opW k w).out.length := by rw [hok.2.2.2.2.1]
        simp [h0, hs_b hlt, hs_set hlt, heap_old_take_set, ec, so, sw, lenMax]
        refine ⟨by omega, ?_⟩
        rw [elemW, if_neg h0]; simp
end Go.Proofs.YtkjgkhgklkdbjaaGreatDoor.Ev
end
section
namespace Go.Proofs.YtkjgkhgklkdbjaaGreatDoor.Ev
open Go
def callI (l : List ByteArray) : Int := if l.findIdx callE < l.length then ((l.findIdx callE : Nat) : Int) else -1
set_option maxRecDepth 20000 in
theorem conIndexF (l : List ByteArray) (hl : l.length ≤ 1073741824) (hs : ∀ s ∈ l, s.size ≤ 1073741824) : PCon C0 66 [.sc (.sl (l.map PV.str)), .fn 36 [] []] (.sc (.int .i64 (callI l))) := by
  refine penter66 ?_
  simp [Tryz.f66]
  refine loopC (fun d e H' => ∃ (i : Nat) (x4 x5 x9 x16 : FV), H' = [] ∧ d = l.length - i ∧ i ≤ l.length ∧ (∀ j (hj : j < l.length), j < i → callE l[j] = false) ∧ e = [(0, .sc (.sl (l.map PV.str))), (1, .fn 36 [] []), (4, x4), (5, x5), (7, .sc (.int .i64 l.length)), (8, .sc (.int .i64 i)), (9, x9), (16, x16)]) (d := l.length) ⟨0, .sc (.int .i64 0), .undef, .undef, .undef, rfl, rfl, Nat.zero_le _, fun j _ h => by omega, ?_⟩ ?_
  · simp
  · rintro d e H' ⟨i, x4, x5, x9, x16, rfl, rfl, hi, hno, rfl⟩
    simp
    refine CondC.mk (fun hlt => ?_) (fun hlt => ?_)
    · simp at hlt
      have ht : (l.map PV.str)[i]? = some (.str l[i]) := by simp [hlt]
      have hw : IntKind.i64.wrap ((i : Int) + 1) = ((i + 1 : Nat) : Int) := by rw [wrap64 (by omega) (by omega)]; omega
      simp [ht]
      refine CallQ.mk (Call.pure callable36 (by simp) (by simp) (conCallable l[i] (hs _ (List.getElem_mem hlt)))) ?_
      cases hc : callE l[i]
      · simp [hw]
        exact ⟨l.length - (i + 1), by omega, i + 1, rfl, by omega, fun j h1 h2 => by
          by_cases hj : j = i
          · subst hj; exact hc
          · exact hno j h1 (by omega), by omega⟩
      · have hf : l.findIdx callE = i := (List.findIdx_eq hlt).2 ⟨hc, fun j hj => hno j (by omega) hj⟩
        have hfi : callI l = i := by unfold callI; rw [hf, if_pos hlt]
        simp [hfi]
    · simp at hlt
      have hf : ¬ l.findIdx callE < l.length := fun h => by
        have := List.findIdx_getElem (w := h)
        rw [hno _ h (by omega)] at this
        exact absurd this (by decide)
      simp [callI, hf]
def pcsK (k : ByteArray) (s : ByteArray) : ByteArray := if callE s = true then s else k
def pcsR (s : ByteArray) (l : List ByteArray) : List ByteArray := if callE s = true then l else s :: l
def pcsF : Nat → Wr → ByteArray → List ByteArray → Wr
  | 0, w, _, _ => w
  | _ + 1, w, _, [] => w
  | n + 1, w, k, s :: l => pcsF n (elemW (pcsK k s) w ((pcsR s l).take ((pcsR s l).findIdx callE))) (pcsK k s) ((pcsR s l).drop ((pcsR s l).findIdx callE))
theorem elemW_ok (k : ByteArray) (w : Wr) (l : List ByteArray) : (elemW k w l).out.length ≤ w.out.length + wLen l + 3 ∧ (elemW k w l).bad.length ≤ w.bad.length + wLen l + max w.name.size (wLen l) ∧ (elemW k w l).name.size ≤ max w.name.size (wLen l) ∧ (elemW k w l).ops ≤ w.ops + 1 := by
  have h := elL_ok k (opW k w) l
  have h1 : (opW k w).bad = w.bad ∧ (opW k w).name = w.name ∧ (opW k w).out.length ≤ w.out.length + 1 ∧ (opW k w).ops ≤ w.ops + 1 := by
    unfold opW; split
    · simp
    · simp
  obtain ⟨a1, a2, a3, a4⟩ := h1
  rw [a1, a2] at h
  obtain ⟨b1, b2, b3, b4, b5, b6⟩ := h
  have bl := bareL_len k (elL k (opW k w) l).w.name
  have hb5 : (elL k (opW k w) l).w.out.length = (opW k w).out.length := by rw [b5]
  unfold elemW
  split
  · have hbw : (bareW k (elL k (opW k w) l).w).bad.length ≤ (elL k (opW k w) l).w.bad.length + (elL k (opW k w) l).w.name.size ∧ (bareW k (elL k (opW k w) l).w).name = (elL k (opW k w) l).w.name ∧ (bareW k (elL k (opW k w) l).w).ops = (elL k (opW k w) l).w.ops := by
      unfold bareW; split
      · have := lineD_len (elL k (opW k w) l).w.name
        simp; omega
      · simp
    refine ⟨by simp; omega, by simp only; omega, by simp only; rw [hbw.2.1]; exact b4, by simp only; rw [hbw.2.2]; omega⟩
  · refine ⟨by simp; omega, by simp only; omega, by simp only; exact b4, by simp only; omega⟩
end Go.Proofs.YtkjgkhgklkdbjaaGreatDoor.Ev
end
section
namespace Go.Proofs.YtkjgkhgklkdbjaaGreatDoor.Ev
open Go
theorem wLen_split (l : List ByteArray) (m : Nat) : wLen (l.take m) + wLen (l.drop m) = wLen l := by
  conv => rhs; rw [← List.take_append_drop m l]
  unfold wLen; rw [List.map_append, List.sum_append]
theorem pcs_step (s : ByteArray) (l : List ByteArray) : ((pcsR s l).drop ((pcsR s l).findIdx callE)).length < (s :: l).length ∧ wLen ((pcsR s l).drop ((pcsR s l).findIdx callE)) + 1 ≤ wLen (s :: l) ∧
    wLen ((pcsR s l).take ((pcsR s l).findIdx callE)) + wLen ((pcsR s l).drop ((pcsR s l).findIdx callE)) ≤ wLen (s :: l) ∧ wLen (pcsR s l) ≤ wLen (s :: l) := by
  have hc : wLen (s :: l) = s.size + 1 + wLen l := by simp [wLen]
  have hs := wLen_split (pcsR s l) ((pcsR s l).findIdx callE)
  by_cases h : callE s = true
  · have hr : pcsR s l = l := by rw [pcsR, if_pos h]
    rw [hr] at hs ⊢
    simp only [List.length_drop, List.length_cons]
    omega
  · have hr : pcsR s l = s :: l := by rw [pcsR, if_neg h]
    rw [hr] at hs ⊢
    have hf : 1 ≤ (s :: l).findIdx callE := by
      rw [List.findIdx_cons]; simp [h]
    obtain ⟨m, hm⟩ : ∃ m, (s :: l).findIdx callE = m + 1 := ⟨(s :: l).findIdx callE - 1, by omega⟩
    rw [hm] at hs ⊢
    have ht : wLen ((s :: l).take (m + 1)) = s.size + 1 + wLen (l.take m) := by simp [wLen]
    simp only [List.length_drop, List.length_cons]
    omega
theorem pcsF_fuel : ∀ {n m : Nat} {w : Wr} {k : ByteArray} {l : List ByteArray}, l.length ≤ n → l.length ≤ m → pcsF n w k l = pcsF m w k l := by
  intro n
  induction n with
  | zero =>
    intro m w k l h1 h2
    obtain rfl : l = [] := List.length_eq_zero_iff.1 (by omega)
    cases m <;> rfl
  | succ n ih =>
    intro m w k l h1 h2
    cases l with
    | nil => cases m <;> rfl
    | cons s l =>
      cases m with
      | zero => simp at h2
      | succ m =>
        have h := (pcs_step s l).1
        simp only [pcsF]
        simp only [List.length_cons] at h1 h2 h
        exact ih (by omega) (by omega)
def noS : ByteArray := ⟨#[78, 111]⟩
def closeP : Pc := ⟨(signP ⟨#[93]⟩).text, true, false⟩
def pcsW (name : ByteArray) (l : List ByteArray) : Wr := pcsF l.length ⟨[], [], name, 0⟩ noS l
def pcsL (name : ByteArray) (l : List ByteArray) : List Pc := (pcsW name l).out ++ List.replicate (pcsW name l).ops closeP
theorem mem_pcsR {s x : ByteArray} {l : List ByteArray} (h : x ∈ pcsR s l) : x ∈ s :: l := by
  unfold pcsR at h; split at h
  · exact List.mem_cons_of_mem _ h
  · exact h
theorem pcs_next {s k K : ByteArray} {l' r : List ByteArray} {m T : Nat} {w F : Wr} (hR : pcsR s l' = r) (hK : pcsK k s = K) (hm : r.findIdx callE = m) (hF : pcsF (s :: l').length w k (s :: l') = F) (hxs : ∀ x ∈ s :: l', x ≠ xrS) (hk : k ≠ xrS) (hT : T ≤ 4096)
    (ho : w.out.length + 4 * wLen (s :: l') ≤ 4 * T) (hb : w.bad.length + 8192 * wLen (s :: l') ≤ 8192 * T) (hop : w.ops + wLen (s :: l') ≤ T) (hnm : w.name.size ≤ 4096) :
    ∃ d', d' < l'.length + 1 ∧ ∃ ws k_1 w_1, (elemW K w (r.take m)).cells = Wr.cells w_1 ∧ d' = ws.length ∧ pcsF ws.length w_1 k_1 ws = F ∧ (∀ s ∈ ws, s ≠ xrS) ∧ k_1 ≠ xrS ∧
      w_1.out.length + 4 * wLen ws ≤ 4 * T ∧ w_1.bad.length + 8192 * wLen ws ≤ 8192 * T ∧ w_1.ops + wLen ws ≤ T ∧ w_1.name.size ≤ 4096 ∧ List.drop m (r.map PV.str) = ws.map PV.str ∧ K = k_1 := by
  have hst := pcs_step s l'
  rw [hR, hm] at hst
  have hew := elemW_ok K w (r.take m)
  have hKx : K ≠ xrS := by
    rw [← hK]; unfold pcsK; split
    · exact hxs s (List.mem_cons_self ..)
    · exact hk
  obtain ⟨a1, a2, a3, a4⟩ := hst
  obtain ⟨b1, b2, b3, b4⟩ := hew
  refine ⟨(r.drop m).length, a1, r.drop m, K, elemW K w (r.take m), rfl, rfl, ?_, fun x hx => hxs x (mem_pcsR (hR ▸ List.mem_of_mem_drop hx)), hKx, by omega, by omega, by omega, by omega, by rw [List.map_drop], rfl⟩
  rw [← hF, List.length_cons, pcsF, hR, hK, hm]
  exact pcsF_fuel (Nat.le_refl _) (by simp only [List.length_cons] at a1; omega)
set_option linter.unusedSimpArgs false in
set_option maxRecDepth 20000 in
set_option maxHeartbeats 8000000 in
theorem conPieces (name : ByteArray) (l : List ByteArray) (hx : ∀ s ∈ l, s ≠ xrS) (hn : name.size ≤ 4096) (hl : wLen l ≤ 4096) :
    PCon C0 34 [.sc (.str name), .sc (.sl (l.map PV.str))] (.tup [.sc (.sl ((pcsL name l).map Pc.pv)), .sc (.str (pcsW name l).name), .sc (.sl ((pcsW name l).bad.map Dg.pv))]) := by
  refine penter34 ?_
  have ec : ∀ v : Wr, v.cells = [.own (v.out.map Pc.pv), .own (v.bad.map Dg.pv), .sc (.str v.name), .sc (.int .i64 v.ops)] := fun _ => rfl
  have szb : ∀ z : List ByteArray, sizedB 1 (z.map PV.str) = true := fun z => by simp [sizedB, PV.leaves]
  simp [Tryz.f34]
  refine loopC (fun d e H' => ∃ (ws : List ByteArray) (k : ByteArray) (w : Wr) (x9 x17 x21 x30 : FV), H' = [w.cells] ∧ d = ws.length ∧ pcsF ws.length w k ws = pcsW name l ∧ (∀ s ∈ ws, s ≠ xrS) ∧ k ≠ xrS ∧ w.out.length + 4 * wLen ws ≤ 4 * wLen l ∧ w.bad.length + 8192 * wLen ws ≤ 8192 * wLen l ∧ w.ops + wLen ws ≤ wLen l ∧ w.name.size ≤ 4096 ∧
      e = [(0, .sc (.str name)), (1, .sc (.sl (ws.map PV.str))), (4, .own []), (5, .sc (.str ⟨#[]⟩)), (6, .own []), (7, .ptr 0 0), (8, .sc (.str k)), (9, x9), (10, .undef), (17, x17), (21, x21), (30, x30), (49, .undef), (50, .undef), (51, .undef)]) (d := l.length) ⟨l, noS, ⟨[], [], name, 0⟩, .undef, .undef, .undef, .undef, rfl, rfl, rfl, hx, by decide, by simp, by simp, by simp, hn, ?_⟩ ?_
  · simp [noS]
  · rintro d e H' ⟨ws, k, w, x9, x17, x21, x30, rfl, rfl, hF, hxs, hk, ho, hb, hop, hnm, rfl⟩
    have hll := hll_aux ws
    simp
    refine CondC.mk (fun hlt => ?_) (fun hlt => ?_)
    · simp at hlt
      cases ws with
      | nil => simp at hlt
      | cons s l' =>
        have hst := pcs_step s l'
        have hew := elemW_ok (pcsK k s) w ((pcsR s l').take ((pcsR s l').findIdx callE))
        have hcs : wLen (s :: l') = s.size + 1 + wLen l' := by simp [wLen]
        have hl2 := hll_aux l'
        simp
        refine CallQ.mk (Call.pure callable36 (by simp) (by simp) (conCallable s (by omega))) ?_
        cases hcl : callE s
        · simp
          obtain ⟨r, hr⟩ : ∃ r, r = s :: l' := ⟨_, rfl⟩
          have hR : pcsR s l' = r := by rw [pcsR, if_neg (by rw [hcl]; decide), hr]
          have hK : pcsK k s = k := by rw [pcsK, if_neg (by rw [hcl]; decide)]
          rw [show PV.str s :: List.map PV.str l' = r.map PV.str from by rw [hr]; rfl]
          have hrw := (pcs_step s l').2.2.2
          rw [hR] at hrw
          have hrl : r.length ≤ 4096 := Nat.le_trans (hll_aux r) (by omega)
          have hrs : ∀ x ∈ r, x.size ≤ 1073741824 := fun x hx => by
            obtain ⟨i, hi, rfl⟩ := List.getElem_of_mem hx
            have := wLen_get hi; omega
          refine CallQ.mk (Call.pure callable66 (by simp) (by simp) (conIndexF r (by omega) hrs)) ?_
          have hri : r.findIdx callE ≤ r.length := List.findIdx_le_length
          have hcI : callI r = if r.findIdx callE < r.length then ((r.findIdx callE : Nat) : Int) else -1 := rfl
          obtain ⟨m, hm⟩ : ∃ m, r.findIdx callE = m := ⟨_, rfl⟩
          have fin := pcs_next hR hK hm hF hxs hk hl ho hb hop hnm
          rw [hm] at hri hcI
          have hmi : (m : Int) ≤ (r.length : Int) := by omega
          have hwt := wLen_take r m
          have cel := conElem w k (r.take m) hk (by omega) (by omega) (by omega) (by omega) [w.cells] 0 rfl (np_cons (wr_np w) np_nil)
          rw [List.map_take] at cel
          have tk : (r.map PV.str).take r.length = r.map PV.str := List.take_of_length_le (by rw [List.length_map]; exact Nat.le_refl _)
          have szr := szb r
          by_cases hml : m < r.length
          · rw [hcI, if_pos hml]
            have hge : ¬ (m : Int) < 0 := by omega
            simp [hge, szr, hmi, tk]
            refine CallQ.mk (Call.shared callable67 cel) ?_
            simp [szr, hmi, tk]
            exact fin
          · have hmr : m = r.length := by omega
            rw [hmr] at cel fin
            rw [hcI, if_neg hml]
            simp [szr, tk]
            rw [tk] at cel
            refine CallQ.mk (Call.shared callable67 cel) ?_
            simpa [szr, tk] using fin
        · have hR : pcsR s l' = l' := by rw [pcsR, if_pos hcl]
          have hK : pcsK k s = s := by rw [pcsK, if_pos hcl]
          have HK : s ≠ xrS := hxs s (List.mem_cons_self ..)
          have szs : sizedB 1 (PV.str s :: List.map PV.str l') = true := szb (s :: l')
          have one1 : (1 : Int) ≤ (l'.length : Int) + 1 := by omega
          have tk0 : (l'.map PV.str).take l'.length = l'.map PV.str := List.take_of_length_le (by rw [List.length_map]; exact Nat.le_refl _)
          simp [szs, one1, tk0]
          have hrw := (pcs_step s l').2.2.2
          rw [hR] at hrw
          have hrl : l'.length ≤ 4096 := Nat.le_trans (hll_aux l') (by omega)
          have hrs : ∀ x ∈ l', x.size ≤ 1073741824 := fun x hx => by
            obtain ⟨i, hi, rfl⟩ := List.getElem_of_mem hx
            have := wLen_get hi; omega
          refine CallQ.mk (Call.pure callable66 (by simp) (by simp) (conIndexF l' (by omega) hrs)) ?_
          have hri : l'.findIdx callE ≤ l'.length := List.findIdx_le_length
          have hcI : callI l' = if l'.findIdx callE < l'.length then ((l'.findIdx callE : Nat) : Int) else -1 := rfl
          obtain ⟨m, hm⟩ : ∃ m, l'.findIdx callE = m := ⟨_, rfl⟩
          have fin := pcs_next hR hK hm hF hxs hk hl ho hb hop hnm
          rw [hm] at hri hcI
          have hmi : (m : Int) ≤ (l'.length : Int) := by omega
          have hwt := wLen_take l' m
          have cel := conElem w s (l'.take m) HK (by omega) (by omega) (by omega) (by omega) [w.cells] 0 rfl (np_cons (wr_np w) np_nil)
          rw [List.map_take] at cel
          have tk : (l'.map PV.str).take l'.length = l'.map PV.str := List.take_of_length_le (by rw [List.length_map]; exact Nat.le_refl _)
          have szr := szb l'
          by_cases hml : m < l'.length
          · rw [hcI, if_pos hml]
            have hge : ¬ (m : Int) < 0 := by omega
            simp [hge, szr, hmi, tk]
            refine CallQ.mk (Call.shared callable67 cel) ?_
            simp [szr, hmi, tk]
            exact fin
          · have hmr : m = l'.length := by omega
            rw [hmr] at cel fin
            rw [hcI, if_neg hml]
            simp [szr, tk]
            rw [tk] at cel
            refine CallQ.mk (Call.shared callable67 cel) ?_
            simpa [szr, tk] using fin
    · simp at hlt
      obtain rfl : ws = [] := by simpa using hlt
      have hF' : w = pcsW name l := by rw [← hF]; rfl
      simp
      refine CallQ.mk (Call.pure callable68 (by simp) (by simp [Pc.cells, gl]) (conSign ⟨#[93]⟩ (by decide))) ?_
      simp [Pc.cells, gl, ec]
      have hop2 : w.ops ≤ 4096 := by omega
      have hol : w.out.length ≤ 16384 := by omega
      refine loopC (fun d e H' => ∃ (i : Nat) (x51 : FV), H' = [({ w with out := w.out ++ List.replicate i closeP } : Wr).cells, (signP ⟨#[93]⟩).cells] ∧ d = w.ops - i ∧ i ≤ w.ops ∧
        e = [(0, .sc (.str name)), (1, .sc (.sl [])), (4, .own []), (5, .sc (.str ⟨#[]⟩)), (6, .own []), (7, .ptr 0 0), (8, .sc (.str k)), (9, x9), (10, .ptr 1 0), (17, .sc (.bool false)), (21, x21), (30, x30), (49, .sc (.int .i64 w.ops)), (50, .sc (.int .i64 i)), (51, x51)]) (d := w.ops) ⟨0, .undef, (by simp [Wr.cells, Pc.cells, gl]), rfl, Nat.zero_le _, ?_⟩ ?_
      · simp
      · rintro d e H' ⟨i, x51, rfl, rfl, hi, rfl⟩
        simp
        refine CondC.mk (fun hlt2 => ?_) (fun hlt2 => ?_)
        · simp at hlt2
          have hw : IntKind.i64.wrap ((i : Int) + 1) = ((i + 1 : Nat) : Int) := by rw [wrap64 (by omega) (by omega)]; omega
          have s93 : (signP ⟨#[93]⟩).text.length ≤ 1 := by
            unfold signP; split
            · simp only [ofG, List.length_map]; exact Nat.le_trans decR_len (by rw [bI_len]; decide)
            · simp
          simp [ec, Pc.cells]
          refine CallQ.mk (CallP.pure callable69 (by simp [gl]) (by simp) (cloneG _ (by show _ ≤ 137438953472; omega))) ?_
          have so := sized_pc w.out
          have sr := sized_pc (List.replicate i closeP)
          have so2 := sized_pc (w.out ++ List.replicate i closeP)
          have sc := sized_pc [closeP]
          simp only [List.map_append, List.map_replicate] at so2 sr
          have e93 : closeP.pv = .agg [gl (signP ⟨#[93]⟩).text, .bool true, .bool false] := rfl
          simp only [List.map_cons, List.map_nil, e93, gl] at sc
          simp only [e93, gl] at so2
          simp [ec, gl, so2, sc, lenMax, hw, e93]
          exact ⟨by omega, w.ops - (i + 1), by omega, i + 1, by rw [List.replicate_succ'], rfl, by omega, by omega⟩
        · simp at hlt2
          obtain rfl : i = w.ops := by omega
          rw [hF']
          simp [pcsL, ec]
end Go.Proofs.YtkjgkhgklkdbjaaGreatDoor.Ev
end
section
namespace Go.Proofs.YtkjgkhgklkdbjaaGreatDoor.Ev
open Go
def ascB (l : List Glyph) : ByteArray := ⟨(l.map fun g => UInt8.ofNat g.r.toNat).toArray⟩
def u8g (l : List Glyph) : List PV := l.map fun g => PV.int .u8 g.r
theorem bytes_asc (l : List Glyph) (h : ∀ g ∈ l, Asc g.r) : bytesFrom (u8g l) = some (l.map fun g => UInt8.ofNat g.r.toNat) := by
  unfold u8g
  induction l with
  | nil => rfl
  | cons g l ih =>
    obtain ⟨h0, h1⟩ := h g (List.mem_cons_self ..)
    have hb : byteOf (.int .u8 g.r) = some (UInt8.ofNat g.r.toNat) := by
      simp only [byteOf]
      rw [if_pos]
      rw [UInt8.toNat_ofNat']; omega
    simp only [List.map_cons, bytesFrom, hb, ih fun x hx => h x (List.mem_cons_of_mem _ hx)]
theorem sized_u8g (l : List Glyph) : Sized 1 (u8g l) := fun p hp => by simp only [u8g, List.mem_map] at hp; obtain ⟨x, _, rfl⟩ := hp; rfl
theorem u8g_len (l : List Glyph) : (u8g l).length = l.length := by simp [u8g]
set_option maxRecDepth 20000 in
set_option maxHeartbeats 4000000 in
theorem refText (l : List Glyph) (h : ∀ g ∈ l, Asc g.r) (hl : l.length ≤ 1073741824) : PCon C0 15 [.sc (gl l)] (.sc (.str (ascB l))) := by
  refine penter15 ?_
  simp [Tryz.f15, gl]
  refine loopC (fun d e H' => ∃ (i : Nat) (x2 x8 : FV), d = l.length - i ∧ i ≤ l.length ∧ e = [(0, .sc (.sl (l.map Glyph.pv))), (2, x2), (3, .own (u8g (l.take i))), (4, .sc (.int .i64 i)), (8, x8)]) (d := l.length) ⟨0, .sc (.str ⟨#[]⟩), .undef, rfl, Nat.zero_le _, ?_⟩ ?_
  · simp [u8g]
  · rintro d e H' ⟨i, x2, x8, rfl, hi, rfl⟩
    simp
    refine CondC.mk (fun hlt => ?_) (fun hlt => ?_)
    · simp at hlt
      have hw : IntKind.i64.wrap ((i : Int) + 1) = ((i + 1 : Nat) : Int) := by rw [wrap64 (by omega) (by omega)]; omega
      have hq : (l.map Glyph.pv)[i]? = some (l[i]).pv := by simp [hlt]
      have hg := h _ (List.getElem_mem hlt)
      have so := sized_u8g (l.take i)
      have s1 : Sized 1 [PV.int .u8 l[i].r] := sized_u8g [l[i]]
      have ol := u8g_len (l.take i)
      have hadd : u8g (l.take i) ++ [PV.int .u8 l[i].r] = u8g (l.take (i + 1)) := by
        rw [List.take_succ_eq_append_getElem hlt]; unfold u8g; rw [List.map_append]; rfl
      simp [hq, Glyph.pv]
      refine CallQ.mk (Call.pure callable42 (by simp) (by simp) (one1 _ hg)) ?_
      simp [hw, lenMax, so, s1, ol, hadd]
      exact ⟨by omega, l.length - (i + 1), by omega, i + 1, rfl, by omega, rfl, by omega⟩
    · simp at hlt
      have hb := bytes_asc l h
      simp [List.take_of_length_le hlt, hb, ascB]
end Go.Proofs.YtkjgkhgklkdbjaaGreatDoor.Ev
end
section
namespace Go.Proofs.YtkjgkhgklkdbjaaGreatDoor.Ev
open Go
def kWords : List ByteArray := [⟨#[79, 112]⟩, ⟨#[70, 108]⟩, ⟨#[97]⟩, ⟨#[65, 114]⟩, ⟨#[120]⟩, ⟨#[44]⟩]
def kPcs : List Pc := [⟨[⟨91, 0⟩], false, true⟩, ⟨[⟨45, 1⟩, ⟨97, 1⟩], false, false⟩, ⟨[⟨120, 2⟩], false, false⟩, ⟨[⟨44, 0⟩], true, false⟩, ⟨[⟨93, 0⟩], true, false⟩]
def kGl : List Glyph := [⟨91, 0⟩, ⟨45, 1⟩, ⟨97, 1⟩, ⟨32, 0⟩, ⟨120, 2⟩, ⟨44, 0⟩, ⟨93, 0⟩]
set_option maxRecDepth 20000 in
theorem k1 : pcsL ⟨#[]⟩ kWords = kPcs := by rfl
set_option maxRecDepth 20000 in
theorem k2 : (pcsW ⟨#[]⟩ kWords).name = ⟨#[]⟩ := by rfl
set_option maxRecDepth 20000 in
theorem k3 : (pcsW ⟨#[]⟩ kWords).bad = [] := by rfl
theorem k4 : (joinL kPcs).1 = kGl := by rfl
theorem k5 : ascB kGl = ⟨#[91, 45, 97, 32, 120, 44, 93]⟩ := by rfl
theorem k6 : callE ⟨#[79, 112]⟩ = true := by rfl
set_option maxRecDepth 20000 in
set_option maxHeartbeats 4000000 in
theorem conKnown11 : PCon C0 12 [] (.sc (.bool true)) := by
  refine penter12 ?_
  have p := conPieces ⟨#[]⟩ kWords (by decide) (by decide) (by decide)
  rw [k1, k2, k3] at p
  have j := conJoin kPcs (by decide) (by decide)
  rw [k4] at j
  have t := refText kGl (by unfold Asc; decide) (by decide)
  rw [k5] at t
  simp [Tryz.f12, Sized]
  refine ⟨rfl, ?_⟩
  refine CallQ.mk (Call.pure callable34 (by simp) (by simp) p) ?_
  simp
  refine CallQ.mk (Call.pure callable35 (by simp) (by simp) j) ?_
  simp
  refine CallQ.mk (Call.pure callable15 (by simp) (by simp) t) ?_
  simp
  refine CallQ.mk (Call.pure callable36 (by simp) (by simp) (conCallable ⟨#[79, 112]⟩ (by decide))) ?_
  rw [k6]
  simp
def long11 (l : List ByteArray) : Nat := (l.map fun s => 2 + s.size).sum
set_option maxRecDepth 20000 in
set_option maxHeartbeats 4000000 in
theorem conLong11 (l : List ByteArray) (hl : long11 l ≤ 1073741824) : PCon C0 11 [.sc (.sl (l.map PV.str))] (.sc (.bool (decide (500 < long11 l)))) := by
  refine penter11 ?_
  have hsum : ∀ (l : List ByteArray) (i : Nat) (h : i < l.length), long11 (l.take (i + 1)) = long11 (l.take i) + 2 + l[i].size := fun l i h => by
    rw [List.take_succ_eq_append_getElem h]; unfold long11; rw [List.map_append, List.sum_append]; simp; omega
  have htk : ∀ (l : List ByteArray) (i : Nat), long11 (l.take i) ≤ long11 l := fun l i => by
    unfold long11
    induction l generalizing i with
    | nil => simp
    | cons p l ih =>
      cases i with
      | zero => simp
      | succ i => have := ih i; simp at this ⊢; omega
  have hlen : l.length ≤ long11 l := by
    clear hl
    induction l with
    | nil => simp
    | cons s l ih => unfold long11 at ih ⊢; simp only [List.length_cons, List.map_cons, List.sum_cons]; omega
  simp [Tryz.f11]
  refine loopC (fun d e H' => ∃ (i : Nat) (x2 x8 : FV), d = l.length - i ∧ i ≤ l.length ∧ e = [(0, .sc (.sl (l.map PV.str))), (2, x2), (3, .sc (.int .i64 (long11 (l.take i)))), (4, .sc (.int .i64 i)), (8, x8)]) (d := l.length) ⟨0, .sc (.bool false), .undef, rfl, Nat.zero_le _, ?_⟩ ?_
  · simp [long11]
  · rintro d e H' ⟨i, x2, x8, rfl, hi, rfl⟩
    simp
    refine CondC.mk (fun hlt => ?_) (fun hlt => ?_)
    · simp at hlt
      have hw : IntKind.i64.wrap ((i : Int) + 1) = ((i + 1 : Nat) : Int) := by rw [wrap64 (by omega) (by omega)]; omega
      have hq : (l.map PV.str)[i]? = some (.str l[i]) := by simp [hlt]
      have hs := hsum l i hlt
      have h1 := htk l (i + 1)
      have w1 : IntKind.i64.wrap ((long11 (l.take i) : Int) + 2) = (long11 (l.take i) : Int) + 2 := wrap64 (by omega) (by omega)
      have w2 : IntKind.i64.wrap ((long11 (l.take i) : Int) + 2 + l[i].size) = (long11 (l.take (i + 1)) : Int) := by rw [wrap64 (by omega) (by omega)]; omega
      simp [hq, hw, w1, w2]
      exact ⟨l.length - (i + 1), by omega, i + 1, rfl, by omega, rfl, by omega⟩
    · simp at hlt
      simp [List.take_of_length_le hlt]
      omega
end Go.Proofs.YtkjgkhgklkdbjaaGreatDoor.Ev
end
section
namespace Go.Proofs.YtkjgkhgklkdbjaaGreatDoor.Ev
open Go
def Pln (b : UInt8) : Prop := 33 ≤ b.toNat ∧ b.toNat ≤ 126 ∧ b.toNat ≠ 92
theorem firstR_asc (c : Int) (l : List Int) (h0 : 0 ≤ c) (h1 : c < 128) : firstR (c :: l) = (c, 1) := by
  have hw : IntKind.i32.wrap c = c := by simp [IntKind.wrap, IntKind.signed, IntKind.bits]; omega
  simp [firstR, h1, hw]
theorem decR_asc : ∀ (k : Nat) (l : List Int), (∀ c ∈ l, 0 ≤ c ∧ c < 128) → l.length ≤ k → decR k l = l
  | 0, l, _, hk => by
    obtain rfl : l = [] := List.length_eq_zero_iff.1 (by omega)
    rfl
  | k + 1, [], _, _ => by simp [decR]
  | k + 1, c :: l, h, hk => by
    have hc := h c (List.mem_cons_self ..)
    rw [decR, if_neg (by simp), firstR_asc c l hc.1 hc.2]
    simp only [List.drop_succ_cons, List.drop_zero]
    rw [decR_asc k l (fun x hx => h x (List.mem_cons_of_mem _ hx)) (by simpa using hk)]
theorem bI_mem {s : ByteArray} {c : Int} (h : c ∈ bI s) : ∃ b ∈ s.data.toList, c = (b.toNat : Int) := by
  simp only [bI, List.mem_map] at h
  obtain ⟨b, hb, rfl⟩ := h
  exact ⟨b, hb, rfl⟩
theorem dec_asc {s : ByteArray} (h : ∀ b ∈ s.data.toList, b.toNat < 128) : dec (bI s) = bI s :=
  decR_asc _ _ (fun c hc => by
    obtain ⟨b, hb, rfl⟩ := bI_mem hc
    have := h b hb; omega) (Nat.le_refl _)
def tokI (l : List Int) : List Tok := l.map fun c => ⟨1, c⟩
theorem scanF_pln {l : List Int} (h : ∀ c ∈ l, 33 ≤ c ∧ c ≤ 126 ∧ c ≠ 92) : ∀ {n p : Nat} {out : List Tok}, l.length < p + n → p ≤ l.length → scanF n l p out [] = (out ++ tokI (l.drop p), []) := by
  intro n
  induction n with
  | zero => intro p out h1 h2; omega
  | succ n ih =>
    intro p out h1 h2
    by_cases hp : p < l.length
    · have hc := h _ (List.getElem_mem hp)
      have hq : l[p]? = some l[p] := by simp [hp]
      have hs : stepE l p out [] l[p] = ⟨true, p + 1, out ++ [⟨1, l[p]⟩], []⟩ := by
        have hct : controlR l[p] = false := by
          simp only [controlR, Bool.or_eq_false_iff, Bool.and_eq_false_iff, decide_eq_false_iff_not]
          omega
        unfold stepE
        rw [if_neg (by omega), if_neg (by omega), if_neg (by rw [hct]; decide)]
      rw [scanF, hq]
      simp only [hs, if_true]
      rw [ih (by omega) hp]
      rw [List.drop_eq_getElem_cons hp]
      unfold tokI; rw [List.map_cons, List.append_assoc]; rfl
    · have hq : l[p]? = none := List.getElem?_eq_none_iff.2 (by omega)
      rw [scanF, hq, List.drop_of_length_le (by omega)]
      simp [tokI]
theorem setL_tok (f : Face) (l : List Int) : setL f (tokI l) = (l.map fun c => ⟨c, f.now⟩, f) := by
  have : ∀ (l : List Int) (g : List Glyph), (tokI l).foldl setE (g, f) = (g ++ l.map fun c => ⟨c, f.now⟩, f) := by
    intro l
    induction l with
    | nil => intro g; simp [tokI]
    | cons c l ih => intro g; simp only [tokI, List.map_cons, List.foldl_cons, setE, if_true] at ih ⊢; rw [ih]; simp
  simpa [setL] using this l []
def glyB (s : ByteArray) (n : Int) : List Glyph := (bI s).map fun c => ⟨c, n⟩
theorem pln_I {s : ByteArray} (h : ∀ b ∈ s.data.toList, Pln b) : ∀ c ∈ bI s, 33 ≤ c ∧ c ≤ 126 ∧ c ≠ 92 := fun c hc => by
  obtain ⟨b, hb, rfl⟩ := bI_mem hc
  have := h b hb; unfold Pln at this; omega
theorem scan_pln {s : ByteArray} (h : ∀ b ∈ s.data.toList, Pln b) : scanL (dec (bI s)) = (tokI (bI s), []) := by
  rw [dec_asc fun b hb => by have := h b hb; unfold Pln at this; omega]
  unfold scanL
  rw [scanF_pln (pln_I h) (by omega) (Nat.zero_le _)]
  simp
theorem lineG_pln {s : ByteArray} (h : ∀ b ∈ s.data.toList, Pln b) (f : Face) : lineG f s = glyB s f.now := by
  rw [lineG, scan_pln h, setL_tok]; rfl
theorem lineD_pln {s : ByteArray} (h : ∀ b ∈ s.data.toList, Pln b) : lineD s = [] := by
  rw [lineD, scan_pln h]
def LCb (b : UInt8) : Prop := 97 ≤ b.toNat ∧ b.toNat ≤ 122
end Go.Proofs.YtkjgkhgklkdbjaaGreatDoor.Ev
end
section
namespace Go.Proofs.YtkjgkhgklkdbjaaGreatDoor.Ev
open Go
theorem strs_of {w : World} {lim : Nat → Nat} {l : List ByteArray} {v : Value} (h : Rep w lim (.sl (l.map PV.str)) v) :
    (l = [] ∧ ∃ a c, v = .slice a 0 c) ∨ ∃ b off c, v = .slice (some ⟨b, off, none⟩) l.length c ∧ ∀ j, j < l.length → w.cell? ⟨b, off + j, none⟩ = some (.string (l.getD j ByteArray.empty)) := by
  generalize hq : PV.sl (l.map PV.str) = q at h
  cases h with
  | nil =>
    simp only [PV.sl.injEq, List.map_eq_nil_iff] at hq
    exact .inl ⟨hq, _, _, rfl⟩
  | @sl m A cap sz n c h0 h1 h2 h3 h4 h5 h6 h7 h8 =>
    simp only [PV.sl.injEq] at hq
    subst hq
    right
    obtain ⟨b, off, spot⟩ := A
    simp only at h1
    subst h1
    refine ⟨b, off, cap, by rw [h0]; simp, fun j hj => ?_⟩
    have he : (l.map PV.str)[j]? = some (.str (l.getD j ByteArray.empty)) := by
      rw [List.getElem?_map, List.getElem?_eq_getElem hj, List.getD_eq_getElem?_getD, List.getElem?_eq_getElem hj]; rfl
    have hs : sz = 1 := (h3 j _ he).symm
    subst hs
    have h := h5 j 0 _ _ he rfl
    have hr := h7 j 0 _ _ he rfl
    simp only [Nat.mul_one, Nat.add_zero] at h
    rw [h]
    generalize c j 0 = x at hr
    cases hr
    rfl
  | _ => cases hq
theorem conIdxS (l : List ByteArray) (x : ByteArray) (hl : l.length ≤ 1073741824) : PCon C0 134 [.sc (.sl (l.map .str)), .sc (.str x)] (.sc (.int .i64 (Go.Lib.idxOfS l x))) :=
  pcon_below rfl (fun _ _ => .int) fun vs W hv ha hH => by
    obtain ⟨u, v, rfl, hu, hw⟩ := args2 hv ha
    rw [hw.str]
    have hr : Rep W.w W.lim (.sl (l.map PV.str)) u := by cases hu with | sc _ h => exact h
    rcases strs_of hr with ⟨rfl, a, c, rfl⟩ | ⟨b, off, c, rfl, hc⟩
    · exact (Tryz.slices_Index_string_empty a c x W.w).mono fun e w' ⟨he, hw⟩ => ⟨he, by rw [hw]; exact RowKit.Below.refl _ _⟩
    · have h := Tryz.slices_Index_string b off l.length c l x W.w (Nat.le_refl _) (by omega) hc
      rw [List.take_length] at h
      exact h.mono fun e w' ⟨he, hw⟩ => ⟨he, by rw [hw]; exact RowKit.Below.refl _ _⟩
theorem conContL (l : List ByteArray) (x : ByteArray) (hl : l.length ≤ 1073741824) : PCon C0 133 [.sc (.sl (l.map .str)), .sc (.str x)] (.sc (.bool (Go.Lib.containsS l x))) :=
  pcon_below rfl (fun _ _ => .bool) fun vs W hv ha hH => by
    obtain ⟨u, v, rfl, hu, hw⟩ := args2 hv ha
    rw [hw.str]
    have hr : Rep W.w W.lim (.sl (l.map PV.str)) u := by cases hu with | sc _ h => exact h
    rcases strs_of hr with ⟨rfl, a, c, rfl⟩ | ⟨b, off, c, rfl, hc⟩
    · exact (Tryz.slices_Contains_string_empty a c x W.w).mono fun e w' ⟨he, hw⟩ => ⟨by rw [he]; rfl, by rw [hw]; exact RowKit.Below.refl _ _⟩
    · have h := Tryz.slices_Contains_string b off l.length c l x W.w (Nat.le_refl _) (by omega) hc
      rw [List.take_length] at h
      exact h.mono fun e w' ⟨he, hw⟩ => ⟨he, by rw [hw]; exact RowKit.Below.refl _ _⟩
def itoaB (i : Nat) : ByteArray := ⟨(Go.Lib.decDigits i).toArray⟩
theorem conItoa (i : Nat) (hi : i < 100) : PCon C0 136 [.sc (.int .i64 i)] (.sc (.str (itoaB i))) :=
  pcon_below rfl (fun _ _ => .str) fun vs W hv ha hH => by
    obtain ⟨u, rfl, hu⟩ := args1 hv ha
    rw [hu.int]
    exact (Tryz.strconv_Itoa_small i hi W.w).mono fun e w' ⟨he, hw⟩ => ⟨he, by rw [hw]; exact RowKit.Below.refl _ _⟩
end Go.Proofs.YtkjgkhgklkdbjaaGreatDoor.Ev
end
section
namespace Go.Proofs.YtkjgkhgklkdbjaaGreatDoor.Ev
open Go
theorem ascB_gly (s : ByteArray) (n : Int) : ascB (glyB s n) = s := by
  obtain ⟨d⟩ := s
  apply ByteArray.ext
  apply Array.toList_inj.1
  simp only [ascB, glyB, bI, List.map_map]
  conv => rhs; rw [← List.map_id d.toList]
  apply List.map_congr_left
  intro b _
  simp
end Go.Proofs.YtkjgkhgklkdbjaaGreatDoor.Ev
end
