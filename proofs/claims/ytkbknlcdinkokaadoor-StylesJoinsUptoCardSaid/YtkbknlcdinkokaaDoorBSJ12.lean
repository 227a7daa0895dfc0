/- Of what the law StylesJoins needs: part 12. -/
import Derived.Test.YtkbknlcdinkokaaDoorBSJ8
import Derived.Test.YtkbknlcdinkokaaDoorBSJ9
import Derived.Test.YtkbknlcdinkokaaDoorBSJ11
set_option linter.unusedSimpArgs false
set_option linter.unusedVariables false
section
namespace Go.Proofs.YtkbknlcdinkokaaDoor.Ev
open Go
def laid (out : List Block) (b : Block) : Block := match out.getLast? with
  | some x => { b with gap := decide (x.kind ≠ 1) && decide (x.kind ≠ 2) }
  | none => b
end Go.Proofs.YtkbknlcdinkokaaDoor.Ev
end
section
namespace Go.Proofs.YtkbknlcdinkokaaDoor.Ev
open Go
def FLe (f g : FV) : Prop := ∀ (W : Wd) (r : Option Root) (i : Nat) (v : Value), FRep W r i f v → FRep W r i g v
inductive FLes : List FV → List FV → Prop
  | nil : FLes [] []
  | cons {f g : FV} {l m : List FV} : FLe f g → FLes l m → FLes (f :: l) (g :: m)
theorem FLes.len {l m : List FV} (h : FLes l m) : l.length = m.length := by
  induction h with
  | nil => rfl
  | cons _ _ ih => simp [ih]
theorem FLes.get {l m : List FV} (h : FLes l m) : ∀ {j : Nat} {g : FV}, m[j]? = some g → ∃ f, l[j]? = some f ∧ FLe f g := by
  induction h with
  | nil => intro j g h; simp at h
  | cons h _ ih =>
    intro j g hg
    cases j with
    | zero => simp at hg; subst hg; exact ⟨_, rfl, h⟩
    | succ j => exact ih (by simpa using hg)
theorem FLe.refl (f : FV) : FLe f f := fun _ _ _ _ h => h
theorem FLe.emp : FLe .emp (.sc (.sl [])) := fun _ _ _ _ h => by
  cases h
  exact .sc rfl .nil
theorem PCon.les {C : Ctx} {f : FuncId} {args args' : List FV} {r : FV} (h : PCon C f args' r) (hl : FLes args args') : PCon C f args r := fun vs W h1 h2 h3 h4 =>
  h vs W (h1.trans hl.len) (fun j g v hg hv => by
    obtain ⟨f, hf, hle⟩ := hl.get hg
    exact hle _ _ _ _ (h2 j f v hf hv)) h3 h4
end Go.Proofs.YtkbknlcdinkokaaDoor.Ev
end
section
namespace Go.Proofs.YtkbknlcdinkokaaDoor.Ev
open Go
theorem joinS_size (a b : List Glyph) : (joinS a b).length = a.length + b.length + (if a ≠ [] ∧ b ≠ [] then 1 else 0) := by
  unfold joinS
  by_cases ha : a = [] <;> by_cases hb : b = [] <;> simp [ha, hb]
  omega
theorem joinS_nil_left (a : List Glyph) : joinS [] a = a := by simp [joinS]
theorem joinS_nil_right (a : List Glyph) : joinS a [] = a := by unfold joinS; split <;> simp_all
theorem joinS_assoc (a b c : List Glyph) : joinS (joinS a b) c = joinS a (joinS b c) := by
  unfold joinS
  by_cases ha : a = [] <;> by_cases hb : b = [] <;> by_cases hc : c = [] <;> simp [ha, hb, hc]
set_option linter.unusedSimpArgs false in
set_option maxRecDepth 20000 in
set_option maxHeartbeats 8000000 in
theorem conStylesJoins (a b c : List Glyph) (hn : a.length + b.length + c.length ≤ 1073741824) : PCon C0 4 [.sc (gl a), .sc (gl b), .sc (gl c)] (.sc (.bool true)) := by
  refine penter4 ?_
  have w0 : IntKind.i64.wrap ((a.length : Int) + (b.length : Int)) = ((a.length + b.length : Nat) : Int) := by rw [wrap64 (by omega) (by omega)]; omega
  have w1 : IntKind.i64.wrap (((a.length + b.length : Nat) : Int) + (c.length : Int)) = ((a.length + b.length + c.length : Nat) : Int) := by rw [wrap64 (by omega) (by omega)]; omega
  have w2 : IntKind.i64.wrap (((a.length + b.length : Nat) : Int) + 1) = ((a.length + b.length + 1 : Nat) : Int) := by rw [wrap64 (by omega) (by omega)]; omega
  have hG : gl = fun l : List Glyph => PV.sl (l.map Glyph.pv) := rfl
  by_cases hc : 500 < a.length + b.length + c.length
  · have hc' : (500 : Int) < ((a.length + b.length + c.length : Nat) : Int) := by omega
    simp only [gl]
    simp only [Int.natCast_add] at w0 w1 w2 hc'
    simp [Tryd.f4, w0, w1, w2, hc']
    refine CallQ.mk (Call.pure callable7 (by simp) (by simp) conKnown6) ?_
    simp
  have hc' : ¬ (500 : Int) < ((a.length + b.length + c.length : Nat) : Int) := by omega
  have jl := joinS_size a b
  have sa := refSame (joinS (joinS a b) c) (joinS a (joinS b c)) (by have := joinS_len (joinS a b) c; have := joinS_len a b; omega)
  rw [joinS_assoc] at sa
  have s1 := refSame a a (by omega)
  have j1 := conJoinS a b (by omega)
  have j2 := conJoinS (joinS a b) c (by have := joinS_len a b; omega)
  have j3 := conJoinS b c (by omega)
  have j4 := conJoinS a (joinS b c) (by have := joinS_len b c; omega)
  have j5 := conJoinS [] a (by simp; omega)
  have j6 := conJoinS a [] (by simp; omega)
  rw [joinS_assoc] at j2
  rw [joinS_nil_left] at j5
  rw [joinS_nil_right] at j6
  have j5' : PCon C0 13 [.emp, .sc (gl a)] (.sc (gl a)) := j5.les (.cons FLe.emp (.cons (FLe.refl _) .nil))
  have j6' : PCon C0 13 [.sc (gl a), .emp] (.sc (gl a)) := j6.les (.cons (FLe.refl _) (.cons FLe.emp .nil))
  simp only [gl, decide_true] at *
  generalize joinS a b = x at *
  generalize joinS b c = y at *
  generalize joinS a y = z at *
  simp only [Int.natCast_add] at w0 w1 w2 hc'
  have key : (a = [] ∨ b = []) ∧ (x.length : Int) = (a.length : Int) + (b.length : Int) ∨ a ≠ [] ∧ b ≠ [] ∧ (x.length : Int) = (a.length : Int) + (b.length : Int) + 1 := by
    by_cases ha : a = []
    · exact .inl ⟨.inl ha, by rw [jl]; simp [ha]⟩
    · by_cases hb : b = []
      · exact .inl ⟨.inr hb, by rw [jl]; simp [hb]⟩
      · exact .inr ⟨ha, hb, by rw [jl]; simp [ha, hb]⟩
  have fin : ∀ {K : FV → Heap → Prop} {H : Heap}, K (.sc (.bool true)) H → CallQ (Call C0) 7 [] H K := fun h => CallQ.mk (Call.pure callable7 (by simp) (by simp) conKnown6) h
  have go : ∀ {K : FV → Heap → Prop} {H : Heap} {u v r : FV}, PCon C0 13 [u, v] r → ([u, v].all FV.noPtr = true) → r.noPtr = true → K r H → CallQ (Call C0) 13 [u, v] H K := fun h h1 h2 h3 => CallQ.mk (Call.pure callable13 h1 h2 h) h3
  have gs : ∀ {K : FV → Heap → Prop} {H : Heap} {u v r : FV}, PCon C0 9 [u, v] r → ([u, v].all FV.noPtr = true) → r.noPtr = true → K r H → CallQ (Call C0) 9 [u, v] H K := fun h h1 h2 h3 => CallQ.mk (Call.pure callable9 h1 h2 h) h3
  rcases key with ⟨hk, hx⟩ | ⟨ha, hb, hx⟩
  · have hg : ¬ (0 < a.length ∧ 0 < b.length) := by rcases hk with rfl | rfl <;> simp
    by_cases ha : 0 < a.length
    · have hb : ¬ 0 < b.length := fun h => hg ⟨ha, h⟩
      simp [Tryd.f4, w0, w1, hc']
      refine go j1 (by simp) (by simp) ?_
      simp [ha, hb, w0, hx]
      refine go j2 (by simp) (by simp) ?_
      simp
      refine go j3 (by simp) (by simp) ?_
      simp
      refine go j4 (by simp) (by simp) ?_
      simp
      refine gs sa (by simp) (by simp) ?_
      simp
      refine go j5' (by simp) (by simp) ?_
      simp
      refine gs s1 (by simp) (by simp) ?_
      simp
      refine go j6' (by simp) (by simp) ?_
      simp
      refine gs s1 (by simp) (by simp) ?_
      simp
      refine fin ?_
      simp
    · simp [Tryd.f4, w0, w1, hc']
      refine go j1 (by simp) (by simp) ?_
      simp [ha, w0, hx]
      refine go j2 (by simp) (by simp) ?_
      simp
      refine go j3 (by simp) (by simp) ?_
      simp
      refine go j4 (by simp) (by simp) ?_
      simp
      refine gs sa (by simp) (by simp) ?_
      simp
      refine go j5' (by simp) (by simp) ?_
      simp
      refine gs s1 (by simp) (by simp) ?_
      simp
      refine go j6' (by simp) (by simp) ?_
      simp
      refine gs s1 (by simp) (by simp) ?_
      simp
      refine fin ?_
      simp
  · have ha' := List.length_pos_iff.2 ha
    have hb' := List.length_pos_iff.2 hb
    simp [Tryd.f4, w0, w1, hc']
    refine go j1 (by simp) (by simp) ?_
    simp [ha', hb', w0, w2, hx]
    refine go j2 (by simp) (by simp) ?_
    simp
    refine go j3 (by simp) (by simp) ?_
    simp
    refine go j4 (by simp) (by simp) ?_
    simp
    refine gs sa (by simp) (by simp) ?_
    simp
    refine go j5' (by simp) (by simp) ?_
    simp
    refine gs s1 (by simp) (by simp) ?_
    simp
    refine go j6' (by simp) (by simp) ?_
    simp
    refine gs s1 (by simp) (by simp) ?_
    simp
    refine fin ?_
    simp
end Go.Proofs.YtkbknlcdinkokaaDoor.Ev
end
