/- Of what the law StylesLines needs: part 12. -/
import Derived.Test.YtkbknlcdinkokaaDoorBSL8
import Derived.Test.YtkbknlcdinkokaaDoorBSL9
import Derived.Test.YtkbknlcdinkokaaDoorBSL11
set_option linter.unusedSimpArgs false
set_option linter.unusedVariables false
section
namespace Go.Proofs.YtkbknlcdinkokaaDoor.Ev
open Go
def laid (out : List Block) (b : Block) : Block := match out.getLast? with
  | some x => { b with gap := decide (x.kind ≠ 1) && decide (x.kind ≠ 2) }
  | none => b
end Go.Proofs.YtkbknlcdinkokaaDoor.Ev
end
section
namespace Go.Proofs.YtkbknlcdinkokaaDoor.Ev
open Go
theorem setE_app (l : List Tok) : ∀ (g : List Glyph) (f : Face), l.foldl setE (g, f) = (g ++ (setL f l).1, (setL f l).2) := by
  have key : ∀ (l : List Tok) (g h : List Glyph) (f : Face), l.foldl setE (g ++ h, f) = (g ++ (l.foldl setE (h, f)).1, (l.foldl setE (h, f)).2) := by
    intro l
    induction l with
    | nil => intro g h f; rfl
    | cons t l ih =>
      intro g h f
      have h1 : setE (g ++ h, f) t = (g ++ (setE (h, f) t).1, (setE (h, f) t).2) := by
        unfold setE
        split
        · simp
        · split
          · simp
          · split <;> rfl
      rw [List.foldl_cons, List.foldl_cons, h1]
      exact ih g _ _
  intro g f
  have := key l g [] f
  rw [List.append_nil] at this
  exact this
theorem setL_app (f : Face) (a b : List Tok) : setL f (a ++ b) = ((setL f a).1 ++ (setL (setL f a).2 b).1, (setL (setL f a).2 b).2) := by
  rw [setL, List.foldl_append]
  exact setE_app b (setL f a).1 (setL f a).2
def Pn (b : UInt8) : Prop := 32 ≤ b.toNat ∧ b.toNat ≤ 126 ∧ b.toNat ≠ 92
def tokJ (l : List Int) : List Tok := l.map fun c => if c = 32 then ⟨2, 0⟩ else ⟨1, c⟩
theorem scanF_pn {l : List Int} (h : ∀ c ∈ l, 32 ≤ c ∧ c ≤ 126 ∧ c ≠ 92) : ∀ {n p : Nat} {out : List Tok}, l.length < p + n → p ≤ l.length → scanF n l p out [] = (out ++ tokJ (l.drop p), []) := by
  intro n
  induction n with
  | zero => intro p out h1 h2; omega
  | succ n ih =>
    intro p out h1 h2
    by_cases hp : p < l.length
    · have hc := h _ (List.getElem_mem hp)
      have hq : l[p]? = some l[p] := by simp [hp]
      have hs : stepE l p out [] l[p] = ⟨true, p + 1, out ++ [if l[p] = 32 then ⟨2, 0⟩ else ⟨1, l[p]⟩], []⟩ := by
        have hct : controlR l[p] = false := by
          simp only [controlR, Bool.or_eq_false_iff, Bool.and_eq_false_iff, decide_eq_false_iff_not]
          omega
        unfold stepE
        by_cases h32 : l[p] = 32
        · rw [if_pos (.inl h32), if_pos h32]
        · rw [if_neg (by omega), if_neg (by omega), if_neg (by rw [hct]; decide), if_neg h32]
      rw [scanF, hq]
      simp only [hs, if_true]
      rw [ih (by omega) hp]
      rw [List.drop_eq_getElem_cons hp]
      unfold tokJ; rw [List.map_cons, List.append_assoc]; rfl
    · have hq : l[p]? = none := List.getElem?_eq_none_iff.2 (by omega)
      rw [scanF, hq, List.drop_of_length_le (by omega)]
      simp [tokJ]
def glyJ (f : Face) (l : List Int) : List Glyph := l.map fun c => if c = 32 then ⟨32, 0⟩ else ⟨c, f.now⟩
theorem setL_tokJ (f : Face) (l : List Int) : setL f (tokJ l) = (glyJ f l, f) := by
  have : ∀ (l : List Int) (g : List Glyph), (tokJ l).foldl setE (g, f) = (g ++ glyJ f l, f) := by
    intro l
    induction l with
    | nil => intro g; simp [tokJ, glyJ]
    | cons c l ih =>
      intro g
      by_cases h : c = 32
      · simp only [tokJ, glyJ, List.map_cons, List.foldl_cons, h, if_true, setE] at ih ⊢
        rw [if_neg (by decide)]
        rw [ih]; simp
      · simp only [tokJ, glyJ, List.map_cons, List.foldl_cons, h, if_false, setE, if_true] at ih ⊢
        rw [ih]; simp
  simpa [setL] using this l []
theorem line_pn {s : ByteArray} (h : ∀ b ∈ s.data.toList, Pn b) (f : Face) : lineG f s = glyJ f (bI s) ∧ lineF f s = f ∧ lineD s = [] := by
  have hI : ∀ c ∈ bI s, 32 ≤ c ∧ c ≤ 126 ∧ c ≠ 92 := fun c hc => by
    obtain ⟨b, hb, rfl⟩ := bI_mem hc
    have := h b hb; unfold Pn at this; omega
  have hsc : scanL (dec (bI s)) = (tokJ (bI s), []) := by
    rw [dec_asc fun b hb => by have := h b hb; unfold Pn at this; omega]
    unfold scanL
    rw [scanF_pn hI (by omega) (Nat.zero_le _)]
    simp
  exact ⟨by rw [lineG, hsc, setL_tokJ], by rw [lineF, hsc, setL_tokJ], by rw [lineD, hsc]⟩
set_option maxRecDepth 20000 in
theorem conRefJoin (a b : List Glyph) (hn : a.length + b.length ≤ 1073741824) : PCon C0 10 [.sc (gl a), .sc (gl b)] (.own ((a ++ b).map Glyph.pv)) := by
  refine penter10 ?_
  have sa := sized_gl a
  have sb := sized_gl b
  simp [Tryd.f10, gl, sa, sb, lenMax]
  omega
set_option maxRecDepth 20000 in
theorem conRefTurn9 (f : Face) : PCon C0 12 [.agg f.cells, .sc (.int .i32 9)] (.agg f.cells) := by
  refine penter12 ?_
  simp [Tryd.f12, Face.cells]
end Go.Proofs.YtkbknlcdinkokaaDoor.Ev
end
section
namespace Go.Proofs.YtkbknlcdinkokaaDoor.Ev
open Go
set_option linter.unusedSimpArgs false in
set_option maxRecDepth 20000 in
set_option maxHeartbeats 8000000 in
theorem conStylesLines (f : Face) (a b : List Tok) (s : ByteArray) (hn : a.length + b.length ≤ 1073741824) (hs : s.size ≤ 1073741824) : PCon C0 3 [.agg f.cells, .sc (.sl (a.map Tok.pv)), .sc (.sl (b.map Tok.pv)), .sc (.str s)] (.sc (.bool true)) := by
  refine penter3 ?_
  have fin : ∀ {K : FV → Heap → Prop} {H : Heap}, K (.sc (.bool true)) H → CallQ (Call C0) 7 [] H K := fun h => CallQ.mk (Call.pure callable7 (by simp) (by simp) conKnown6) h
  have finP : ∀ {K : FV → Heap → Prop} {H : Heap}, K (.sc (.bool true)) H → CallQ (CallP C0) 7 [] H K := fun h => CallQ.mk (CallP.pure callable7 (by simp) (by simp) conKnown6) h
  have w0 : IntKind.i64.wrap ((a.length : Int) + (b.length : Int)) = (a.length : Int) + (b.length : Int) := wrap64 (by omega) (by omega)
  by_cases h1 : (300 : Int) < (a.length : Int) + (b.length : Int)
  · simp [Tryd.f3, Face.cells, w0, h1]
    refine fin ?_
    simp
  by_cases h2 : (500 : Int) < (s.size : Int)
  · simp [Tryd.f3, Face.cells, w0, h1, h2]
    refine fin ?_
    simp
  have sa := sized_tok a
  have sb := sized_tok b
  have gs : ∀ {K : FV → Heap → Prop} {H : Heap} {f : Face} {l : List Tok}, l.length ≤ 1073741824 → K (.tup [.own ((setL f l).1.map Glyph.pv), .agg (setL f l).2.cells]) H → CallQ (Call C0) 8 [.agg f.cells, .sc (.sl (l.map Tok.pv))] H K := fun h1 h2 => CallQ.mk (Call.pure callable8 (by simp [Face.cells]) (by simp [Face.cells]) (conSet _ _ h1)) h2
  have hap := setL_app f a b
  simp only [Face.cells] at gs
  simp [Tryd.f3, Face.cells, w0, h1, h2, sa, sb, lenMax]
  refine ⟨by omega, by omega, ?_⟩
  rw [← List.map_append]
  refine gs (by simp; omega) ?_
  simp
  refine gs (f := f) (l := a) (by omega) ?_
  simp
  refine gs (f := (setL f a).2) (l := b) (by omega) ?_
  simp
  have hA := setL_len f a
  have hB := setL_len (setL f a).2 b
  rw [hap]
  generalize setL f a = A at hA hB ⊢
  obtain ⟨A, fa⟩ := A
  simp only at hA hB ⊢
  generalize setL fa b = B at hB ⊢
  obtain ⟨B, fb⟩ := B
  simp only at hB ⊢
  refine CallQ.mk (Call.pure callable10 (by simp) (by simp) (conRefJoin A B (by omega))) ?_
  simp
  have sm := refSame (A ++ B) (A ++ B) (by simp; omega)
  simp only [gl, decide_true, List.map_append] at sm
  refine CallQ.mk (Call.pure callable9 (by simp) (by simp) sm) ?_
  simp
  refine loopC (fun d e H' => ∃ (i : Nat) (x71 x89 : FV), H' = [f.cells, fb.cells, fa.cells, fb.cells] ∧ d = s.size - i ∧ i ≤ s.size ∧ (∀ j (hj : j < s.data.size), j < i → Pn s.data[j]) ∧ e = [(0, .agg f.cells), (1, .sc (.sl (a.map Tok.pv))), (2, .sc (.sl (b.map Tok.pv))), (3, .sc (.str s)), (4, .ptr 0 0), (8, .sc (.bool false)), (9, .own (a.map Tok.pv ++ b.map Tok.pv)), (10, .sc (.sl ((A ++ B).map Glyph.pv))), (11, .ptr 1 0), (12, .sc (.sl (A.map Glyph.pv))), (13, .ptr 2 0), (14, .sc (.sl (B.map Glyph.pv))), (15, .ptr 3 0), (16, .sc (.int .i64 i)), (17, .undef), (18, .undef), (19, .undef), (20, .undef), (31, .sc (.bool false)), (67, .sc (.bool false)), (71, x71), (89, x89), (101, .undef), (147, .undef)]) (d := s.size) ⟨0, .undef, .undef, rfl, rfl, Nat.zero_le _, fun j _ h => by omega, ?_⟩ ?_
  · simp [Face.cells]
    done
  · rintro d e H' ⟨i, x71, x89, rfl, rfl, hi, hpn, rfl⟩
    have hds : s.data.size = s.size := rfl
    simp
    refine CondC.mk (fun hlt => ?_) (fun hlt => ?_)
    · simp at hlt
      have hlt' : i < s.data.size := by omega
      have hw : IntKind.i64.wrap ((i : Int) + 1) = ((i + 1 : Nat) : Int) := by rw [wrap64 (by omega) (by omega)]; omega
      have hq : s.data[i]? = some s.data[i] := by simp [hlt']
      have hpn' : Pn s.data[i] → ∀ j (hj : j < s.data.size), j < i + 1 → Pn s.data[j] := fun h j hj hji => by
        by_cases hjj : j = i
        · subst hjj; exact h
        · exact hpn j hj (by omega)
      generalize s.data[i] = c at hq hpn'
      by_cases c1 : c.toNat < 32
      · have c1' : (c.toNat : Int) < 32 := by omega
        simp [hq, c1, c1']
        refine fin ?_
        simp
      have c1' : ¬ (c.toNat : Int) < 32 := by omega
      by_cases c2 : 126 < c.toNat
      · have c2' : (126 : Int) < (c.toNat : Int) := by omega
        simp [hq, c1, c1', c2, c2']
        refine fin ?_
        simp
      have c2' : ¬ (126 : Int) < (c.toNat : Int) := by omega
      by_cases c3 : c.toNat = 92
      · have c3' : (c.toNat : Int) = 92 := by omega
        simp [hq, c1, c1', c2, c2', c3, c3']
        refine fin ?_
        simp
      have c3' : ¬ (c.toNat : Int) = 92 := by omega
      simp [hq, c1, c1', c2, c2', c3, c3', hw]
      exact ⟨s.size - (i + 1), by omega, i + 1, rfl, by omega, hpn' ⟨by omega, by omega, c3⟩, by omega⟩
    · simp at hlt
      obtain rfl : i = s.size := by omega
      have hall : ∀ b ∈ s.data.toList, Pn b := fun b hb => by
        obtain ⟨j, hj⟩ := List.getElem?_of_mem hb
        have hj' := (List.getElem?_eq_some_iff.1 hj)
        obtain ⟨hlt, rfl⟩ := hj'
        simp only [Array.getElem_toList]
        exact hpn j (by simpa using hlt) (by simpa using hlt)
      obtain ⟨g1, g2, g3⟩ := line_pn hall f
      have hl := conLine f s hs
      rw [g1, g2, g3] at hl
      simp only [Face.cells, gl] at hl
      simp
      refine CallQ.mk (Call.pure callable11 (by simp [Face.cells]) (by simp) hl) ?_
      simp
      have hbl := bI_len s
      have hgl : (glyJ f (bI s)).length = s.size := by simp only [glyJ, List.length_map]; exact hbl
      refine loopC (fun d e H' => ∃ (i : Nat) (x101 x147 : FV), H' = [f.cells, fb.cells, fa.cells, fb.cells, f.cells] ∧ d = s.size - i ∧ i ≤ s.size ∧ e = [(0, .agg f.cells), (1, .sc (.sl (a.map Tok.pv))), (2, .sc (.sl (b.map Tok.pv))), (3, .sc (.str s)), (4, .ptr 0 0), (8, .sc (.bool false)), (9, .own (a.map Tok.pv ++ b.map Tok.pv)), (10, .sc (.sl ((A ++ B).map Glyph.pv))), (11, .ptr 1 0), (12, .sc (.sl (A.map Glyph.pv))), (13, .ptr 2 0), (14, .sc (.sl (B.map Glyph.pv))), (15, .ptr 3 0), (16, .sc (.int .i64 s.size)), (17, .sc (.sl ((glyJ f (bI s)).map Glyph.pv))), (18, .ptr 4 0), (19, .sc (.sl [])), (20, .sc (.int .i64 i)), (31, .sc (.bool false)), (67, .sc (.bool false)), (71, .sc (.bool false)), (89, x89), (101, x101), (147, x147)]) (d := s.size) ⟨0, .undef, .undef, rfl, rfl, Nat.zero_le _, ?_⟩ ?_
      · simp
        done
      · rintro d e H' ⟨i, x101, x147, rfl, rfl, hi2, rfl⟩
        simp [hgl]
        refine CondC.mk (fun hlt2 => ?_) (fun hlt2 => ?_)
        · simp at hlt2
          have hlt' : i < s.data.size := by omega
          have hw : IntKind.i64.wrap ((i : Int) + 1) = ((i + 1 : Nat) : Int) := by rw [wrap64 (by omega) (by omega)]; omega
          have hq : s.data[i]? = some s.data[i] := by simp [hlt']
          have hg : (glyJ f (bI s))[i]? = some (if ((s.data[i]).toNat : Int) = 32 then ⟨32, 0⟩ else ⟨((s.data[i]).toNat : Int), f.now⟩) := by
            simp only [glyJ, bI, List.getElem?_map, Array.getElem?_toList, hq, Option.map_some]
          have hg2 : ((glyJ f (bI s)).map Glyph.pv)[i]? = some (if ((s.data[i]).toNat : Int) = 32 then (⟨32, 0⟩ : Glyph) else ⟨((s.data[i]).toNat : Int), f.now⟩).pv := by
            rw [List.getElem?_map, hg]; rfl
          have hc := s.data[i].toNat_lt
          generalize s.data[i] = c at hq hg hg2 hc
          have wi : IntKind.i32.wrap (c.toNat : Int) = c.toNat := by simp [IntKind.wrap, IntKind.signed, IntKind.bits]; omega
          by_cases h32 : c.toNat = 32
          · have h32' : (c.toNat : Int) = 32 := by omega
            rw [if_pos h32'] at hg2
            have w32 : IntKind.i32.wrap 32 = 32 := by decide
            simp [hq, hg2, Glyph.pv, wi, h32', h32, w32, hw, Face.cells]
            exact ⟨s.size - (i + 1), by omega, i + 1, rfl, by omega, by omega⟩
          · have h32' : ¬ (c.toNat : Int) = 32 := by omega
            rw [if_neg h32'] at hg2
            simp [hq, hg2, Glyph.pv, wi, h32', h32, hw, Face.cells]
            exact ⟨s.size - (i + 1), by omega, i + 1, rfl, by omega, by omega⟩
        · simp at hlt2
          obtain rfl : i = s.size := by omega
          have rt := conRefTurn9 f
          simp only [Face.cells] at rt
          simp [hgl, Face.cells]
          refine CallQ.mk (CallP.pure callable12 (by simp) (by simp) rt) ?_
          simp
          refine finP ?_
          simp
end Go.Proofs.YtkbknlcdinkokaaDoor.Ev
end
