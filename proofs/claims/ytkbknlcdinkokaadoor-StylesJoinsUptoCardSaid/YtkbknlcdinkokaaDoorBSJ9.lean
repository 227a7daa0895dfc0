/- Of what the law StylesJoins needs: part 9. -/
import Derived.Shelf.LaysM
import Derived.Shelf.Strings.Search1
import Derived.Shelf.Strings.Search2
import Derived.Shelf.Strings.Search3
import Derived.Shelf.Strings.Shaped
import Derived.Test.YtkbknlcdinkokaaDoorBSJ7
set_option linter.unusedSimpArgs false
set_option linter.unusedVariables false
section
namespace Go.Proofs.YtkbknlcdinkokaaDoor.Ev
open Go
theorem sized_gl (l : List Glyph) : Sized 2 (l.map Glyph.pv) := fun p hp => by
  simp only [List.mem_map] at hp; obtain ⟨x, _, rfl⟩ := hp; rfl
end Go.Proofs.YtkbknlcdinkokaaDoor.Ev
end
section
namespace Go.Proofs.YtkbknlcdinkokaaDoor.Ev
open Go
set_option maxRecDepth 20000 in
theorem conTurns1 (a b i : Int) (hi : 0 ≤ i) (H : Heap) (p : Nat) (hp : H[p]? = some [.sc (.int .u8 a), .sc (.int .u8 b)]) :
    Con C0 30 [.sc (.int .i64 i), .ptr p 0] H (.sc (.int .u8 (if i % 2 = 0 then a else b))) H := by
  have hlt := (List.getElem?_eq_some_iff.1 hp).1
  refine enter30 ?_
  have hm : i.tmod 2 = i % 2 := Int.tmod_eq_emod_of_nonneg hi
  have w0 : IntKind.i64.wrap (i % 2) = i % 2 := wrap64 (by omega) (by omega)
  by_cases h : i % 2 = 0
  · simp [Tryd.f30, hm, h, hp, w0]
  · have h1 : i % 2 = 1 := by omega
    simp [Tryd.f30, hm, h1, hp, w0]
theorem cells_gl (l : List Glyph) : (l.map Glyph.pv).flatMap PV.leaves = l.flatMap fun g => [PV.int .i32 g.r, PV.int .u8 g.s] := by
  induction l with
  | nil => rfl
  | cons g l ih => simp only [List.map_cons, List.flatMap_cons, ih]; rfl
def rowG (l : List Glyph) : List FV := ((l.map Glyph.pv).flatMap PV.leaves).map .sc
theorem rowG_len (l : List Glyph) : (rowG l).length = l.length * 2 := by
  unfold rowG; rw [List.length_map, cells_gl]
  induction l with
  | nil => rfl
  | cons g l ih => simp at ih ⊢; omega
theorem rowG_app (a b : List Glyph) : rowG (a ++ b) = rowG a ++ rowG b := by simp [rowG]
set_option maxRecDepth 20000 in
theorem conTurns2a (l : List Glyph) (hl : l ≠ []) (hn : l.length ≤ 1073741824) (H : Heap) :
    Con C0 31 [.emp, .sc (gl l)] H (.gr H.length 0 2 l.length) (H ++ [[.row 0 (rowG l)]]) := by
  refine enter31 ?_
  have sl := sized_gl l
  simp [Tryd.f31, gl, hl, sl, lenMax, rowG]
  omega
set_option maxRecDepth 20000 in
theorem conTurns2b (l o : List Glyph) (g b : Nat) (hn : o.length + l.length ≤ 1073741824) (H : Heap) (hb : H[b]? = some [.row g (rowG o)]) :
    Con C0 31 [.gr b g 2 o.length, .sc (gl l)] H (.gr b (g + 1) 2 (o.length + l.length)) (H.set b [.row (g + 1) (rowG (o ++ l))]) := by
  refine enter31 ?_
  have sl := sized_gl l
  have ol := rowG_len o
  have tk : (rowG o).take (o.length * 2) = rowG o := List.take_of_length_le (by omega)
  simp [Tryd.f31, gl, sl, lenMax, hb, ol, tk, rowG_app]
  exact ⟨by omega, rfl⟩
def aS : ByteArray := ⟨#[97]⟩
def bS : ByteArray := ⟨#[98]⟩
theorem la : lineG ⟨1, 1⟩ aS = [⟨97, 1⟩] := by rfl
theorem lb : lineG ⟨0, 0⟩ bS = [⟨98, 0⟩] := by rfl
theorem fa : lineF ⟨1, 1⟩ aS = ⟨1, 1⟩ := by rfl
theorem fb : lineF ⟨0, 0⟩ bS = ⟨0, 0⟩ := by rfl
theorem da : lineD aS = [] := by rfl
theorem db : lineD bS = [] := by rfl
def kGl6 : List Glyph := [⟨97, 1⟩, ⟨98, 0⟩]
def pairC : List FV := [.sc (.int .u8 1), .sc (.int .u8 0)]
def faceC (n : Int) : List FV := [.sc (.int .u8 n), .sc (.int .u8 n)]
set_option linter.unusedSimpArgs false in
set_option maxRecDepth 20000 in
set_option maxHeartbeats 8000000 in
theorem conEach6 : Con C0 29 [.sc (.sl [.str aS, .str bS]), .fn 30 [] [.ptr 0 0], .fn 31 [] []] [pairC]
    (.tup [.gr 2 1 2 2, .sc (.sl [])]) [pairC, faceC 1, [.row 1 (rowG kGl6)], faceC 0] := by
  refine enter29 ?_
  simp [Tryd.f29]
  refine loopC (fun d e H' => ∃ (i : Nat) (r : FV) (x10 x11 x12 x13 x15 x19 : FV), d = 2 - i ∧ ((i = 0 ∧ r = .own [] ∧ H' = [pairC]) ∨ (i = 1 ∧ r = .gr 2 0 2 1 ∧ H' = [pairC, faceC 1, [.row 0 (rowG [⟨97, 1⟩])]]) ∨ (i = 2 ∧ r = .gr 2 1 2 2 ∧ H' = [pairC, faceC 1, [.row 1 (rowG kGl6)], faceC 0])) ∧
    e = [(0, .sc (.sl [.str aS, .str bS])), (1, .fn 30 [] [.ptr 0 0]), (2, .fn 31 [] []), (6, .own []), (7, .own []), (8, r), (9, .own []), (10, x10), (11, x11), (12, x12), (13, x13), (15, x15), (16, .sc (.sl [.str aS, .str bS])), (17, .sc (.int .i64 2)), (18, .sc (.int .i64 i)), (19, x19)]) (d := 2) ⟨0, .own [], .undef, .undef, .undef, .undef, .undef, .undef, rfl, .inl ⟨rfl, rfl, rfl⟩, ?_⟩ ?_
  · simp
  · rintro d e H' ⟨i, r, x10, x11, x12, x13, x15, x19, rfl, hst, rfl⟩
    have t1 := conTurns1 1 0
    rcases hst with ⟨rfl, rfl, rfl⟩ | ⟨rfl, rfl, rfl⟩ | ⟨rfl, rfl, rfl⟩
    · simp
      refine CallQ.mk (Call.shared callable30 (t1 0 (by omega) _ 0 rfl)) ?_
      simp
      refine CallQ.mk (Call.pure callable11 (by simp) (by simp [Face.cells, gl]) (conLine ⟨1, 1⟩ aS (by decide))) ?_
      simp [la, fa, da, Face.cells]
      refine CallQ.mk (Call.shared callable31 (conTurns2a [⟨97, 1⟩] (by decide) (by decide) _)) ?_
      simp
      exact ⟨fun p hp => by simp at hp, 1, by omega, 1, rfl, _, ⟨rfl, rfl, rfl⟩, rfl, by decide⟩
    · simp
      refine CallQ.mk (Call.shared callable30 (t1 1 (by omega) _ 0 rfl)) ?_
      simp
      refine CallQ.mk (Call.pure callable11 (by simp) (by simp [Face.cells, gl]) (conLine ⟨0, 0⟩ bS (by decide))) ?_
      simp [lb, fb, db, Face.cells]
      refine CallQ.mk (Call.shared callable31 (conTurns2b [⟨98, 0⟩] [⟨97, 1⟩] 0 2 (by decide) _ rfl)) ?_
      simp
      exact ⟨fun p hp => by simp at hp, 2, rfl, _, ⟨rfl, rfl, rfl, rfl⟩, rfl, by decide⟩
    · simp
set_option linter.unusedSimpArgs false in
set_option maxRecDepth 20000 in
set_option maxHeartbeats 8000000 in
theorem conTurns6 : PCon C0 19 [.sc (.int .u8 1), .sc (.int .u8 0), .sc (.sl [.str aS, .str bS])] (.tup [.sc (.sl (kGl6.map Glyph.pv)), .sc (.sl [])]) := by
  refine Con.pcon (H' := []) (con_freezeT (C := C0) (s := 2) (l := kGl6.map Glyph.pv) (fn := Tryd.f19) Tryd.func19 rfl (by decide) mixed (mv := mv19) (vars := vars19) (c := Tryd.f19.body.getD .skip) rfl ?_ ?_ ?_ ?_)
  · decide
  · exact sized_gl kGl6
  · intro fs h; simp at h
  simp [Tryd.f19]
  refine CallQ.mk (Call.shared callable29 conEach6) ?_
  simp
  refine ⟨2, 1, ⟨rfl, rfl, rfl⟩, rowG kGl6, rfl, ?_⟩
  intro k q hq
  refine ⟨.sc q, ?_, rfl⟩
  unfold rowG
  rw [List.getElem?_map]
  simp only [hq, Option.map_some]
set_option linter.unusedSimpArgs false in
set_option maxRecDepth 20000 in
set_option maxHeartbeats 8000000 in
theorem conKnown6 : PCon C0 7 [] (.sc (.bool true)) := by
  refine penter7 ?_
  have sm := refSame kGl6 kGl6 (by decide)
  simp only [gl, decide_true] at sm
  simp [Tryd.f7, Sized]
  refine ⟨rfl, ?_⟩
  refine CallQ.mk (Call.pure callable19 (by simp) (by simp) conTurns6) ?_
  simp
  refine ⟨rfl, sized_gl kGl6, ?_⟩
  refine CallQ.mk (Call.pure callable9 (by simp) (by simp) sm) ?_
  simp
end Go.Proofs.YtkbknlcdinkokaaDoor.Ev
end
section
namespace Go.Proofs.YtkbknlcdinkokaaDoor.Ev
open Go
set_option linter.unusedSimpArgs false in
set_option maxRecDepth 20000 in
theorem conGrow (n : Nat) (h0 : 0 < n) (hn : n ≤ 1073741824) (H : Heap) :
    Con C0 37 [.emp, .sc (.int .i64 n)] H (.gr H.length 0 2 0) (H ++ [[.row 0 []]]) := by
  refine enter37 ?_
  have w0 : IntKind.i64.wrap 0 = 0 := by decide
  have w1 : IntKind.i64.wrap (n : Int) = n := wrap64 (by omega) (by omega)
  have n0 : ¬ (n : Int) < 0 := by omega
  have n1 : (0 : Int) < n := by omega
  have n2 : (n : Int) ≤ 137438953472 := by omega
  simp [Tryd.f37, w0, w1, n0, n1, h0, n2, lenMax, hn]
def catG (l : List (List Glyph)) : List Glyph := l.flatten
theorem catG_take {l : List (List Glyph)} {i : Nat} (h : i < l.length) : catG (l.take (i + 1)) = catG (l.take i) ++ l[i] := by
  rw [List.take_succ_eq_append_getElem h]; unfold catG; rw [List.flatten_append]; simp
theorem catG_len (l : List (List Glyph)) (i : Nat) : (catG (l.take i)).length ≤ (catG l).length := by
  conv => rhs; rw [← List.take_append_drop i l]
  unfold catG; rw [List.flatten_append, List.length_append]; omega
set_option linter.unusedSimpArgs false in
set_option maxRecDepth 20000 in
set_option maxHeartbeats 8000000 in
theorem conConcat (l : List (List Glyph)) (h0 : 0 < (catG l).length) (hn : (catG l).length ≤ 1073741824) (hl : l.length ≤ 1073741824) :
    Con C0 23 [.sc (.sl (l.map gl))] [] (.sc (.sl ((catG l).map Glyph.pv))) [] := by
  refine con_freezeR (C := C0) (s := 2) (l := (catG l).map Glyph.pv) (fn := Tryd.f23) Tryd.func23 rfl (by decide) mixed (mv := mv23) (vars := vars23) (c := Tryd.f23.body.getD .skip) rfl ?_ ?_ ?_ ?_
  · decide
  · exact sized_gl (catG l)
  · intro fs h; simp at h
  simp [Tryd.f23]
  refine loopC (fun d e H' => ∃ (i : Nat) (x5 x12 x20 : FV), H' = [] ∧ d = l.length - i ∧ i ≤ l.length ∧ e = [(0, .sc (.sl (l.map gl))), (2, .own []), (3, .sc (.int .i64 (catG (l.take i)).length)), (5, x5), (6, .undef), (8, .undef), (9, .sc (.sl (l.map gl))), (10, .sc (.int .i64 l.length)), (11, .sc (.int .i64 i)), (12, x12), (20, x20), (25, .undef), (26, .undef), (27, .undef), (28, .undef)]) (d := l.length) ⟨0, .undef, .undef, .undef, rfl, rfl, Nat.zero_le _, ?_⟩ ?_
  · simp [catG]
  · rintro d e H' ⟨i, x5, x12, x20, rfl, rfl, hi, rfl⟩
    simp
    refine CondC.mk (fun hlt => ?_) (fun hlt => ?_)
    · simp at hlt
      have hw : IntKind.i64.wrap ((i : Int) + 1) = ((i + 1 : Nat) : Int) := by rw [wrap64 (by omega) (by omega)]; omega
      have hq : (l.map gl)[i]? = some (gl l[i]) := by simp [hlt]
      have ht := catG_take hlt
      have hle := catG_len l (i + 1)
      have hl2 : (catG (l.take (i + 1))).length = (catG (l.take i)).length + l[i].length := by rw [ht, List.length_append]
      have w1 : IntKind.i64.wrap (((catG (l.take i)).length : Int) + (l[i].length : Int)) = ((catG (l.take (i + 1))).length : Int) := by rw [wrap64 (by omega) (by omega)]; omega
      have n0 : ¬ ((catG (l.take (i + 1))).length : Int) < 0 := by omega
      simp [hq, gl, w1, n0, hw]
      exact ⟨l.length - (i + 1), by omega, i + 1, rfl, by omega, rfl, by omega⟩
    · simp at hlt
      obtain rfl : i = l.length := by omega
      rw [List.take_length]
      simp
      refine CallQ.mk (Call.shared callable37 (conGrow (catG l).length h0 hn [])) ?_
      simp
      refine loopC (fun d e H' => ∃ (i : Nat) (x8 x28 : FV), H' = [[.row i (rowG (catG (l.take i)))]] ∧ d = l.length - i ∧ i ≤ l.length ∧ e = [(0, .sc (.sl (l.map gl))), (2, .own []), (3, .sc (.int .i64 (catG l).length)), (5, x5), (6, .gr 0 i 2 (catG (l.take i)).length), (8, x8), (9, .sc (.sl (l.map gl))), (10, .sc (.int .i64 l.length)), (11, .sc (.int .i64 l.length)), (12, .sc (.bool false)), (20, x20), (25, .sc (.sl (l.map gl))), (26, .sc (.int .i64 l.length)), (27, .sc (.int .i64 i)), (28, x28)]) (d := l.length) ⟨0, .undef, .undef, rfl, rfl, Nat.zero_le _, ?_⟩ ?_
      · simp [catG]
      · rintro d e H'2 ⟨i, x8, x28, rfl, rfl, hi2, rfl⟩
        simp
        refine CondC.mk (fun hlt2 => ?_) (fun hlt2 => ?_)
        · simp at hlt2
          have hw : IntKind.i64.wrap ((i : Int) + 1) = ((i + 1 : Nat) : Int) := by rw [wrap64 (by omega) (by omega)]; omega
          have hq : (l.map gl)[i]? = some (gl l[i]) := by simp [hlt2]
          have ht := catG_take hlt2
          have hle := catG_len l (i + 1)
          have hl2 : (catG (l.take (i + 1))).length = (catG (l.take i)).length + l[i].length := by rw [ht, List.length_append]
          have ol := rowG_len (catG (l.take i))
          have tk : (rowG (catG (l.take i))).take ((catG (l.take i)).length * 2) = rowG (catG (l.take i)) := List.take_of_length_le (by omega)
          have sl := sized_gl l[i]
          simp [hq, gl, hw, ol, tk, sl, lenMax]
          exact ⟨by omega, l.length - (i + 1), by omega, i + 1, ⟨rfl, by rw [ht, rowG_app]; rfl⟩, rfl, by omega, ⟨rfl, by omega⟩, by omega⟩
        · simp at hlt2
          obtain rfl : i = l.length := by omega
          rw [List.take_length]
          simp
          refine ⟨0, l.length, ⟨rfl, rfl⟩, rowG (catG l), rfl, ?_⟩
          intro k q hq
          refine ⟨.sc q, ?_, rfl⟩
          unfold rowG
          rw [List.getElem?_map]
          simp only [hq, Option.map_some]
theorem PCon.demote {C : Ctx} {f : FuncId} {args : List FV} {l : List PV} (h : PCon C f args (.own l)) : PCon C f args (.sc (.sl l)) :=
  fun vs W a b c d => (h vs W a b c d).mono fun _ _ ⟨v, W', J, h1, h2, h3, h4, h5⟩ => ⟨v, W', J, h1, h2, by cases h3 with | own r _ => exact .sc rfl r, h4, h5⟩
def joinS (a b : List Glyph) : List Glyph := if a = [] then b else if b = [] then a else a ++ ⟨32, 0⟩ :: b
theorem joinS_len (a b : List Glyph) : (joinS a b).length ≤ a.length + b.length + 1 := by
  unfold joinS
  split
  · subst_vars; simp
  · split
    · subst_vars; simp
    · simp; omega
set_option linter.unusedSimpArgs false in
set_option maxRecDepth 20000 in
set_option maxHeartbeats 4000000 in
theorem conJoinS (a b : List Glyph) (hn : a.length + b.length ≤ 536870912) : PCon C0 13 [.sc (gl a), .sc (gl b)] (.sc (gl (joinS a b))) := by
  by_cases ha : a = []
  · subst ha
    refine PCon.demote ?_
    refine penter13 ?_
    simp [Tryd.f13, gl]
    refine CallQ.mk (Call.pure callable22 (by simp) (by simp) (cloneG b (by show b.length ≤ 137438953472; omega))) ?_
    simp [joinS]
  have ha0 : ¬ (a.length : Int) = 0 := by have := List.length_pos_iff.2 ha; omega
  by_cases hb : b = []
  · subst hb
    refine PCon.demote ?_
    refine penter13 ?_
    simp [Tryd.f13, gl, ha]
    refine CallQ.mk (Call.pure callable22 (by simp) (by simp) (cloneG a (by show a.length ≤ 137438953472; omega))) ?_
    simp [joinS, ha]
  refine penter13 ?_
  have hc : catG [a, [⟨32, 0⟩], b] = a ++ ⟨32, 0⟩ :: b := by simp [catG]
  have cc := conConcat [a, [⟨32, 0⟩], b] (by rw [hc]; simp; omega) (by rw [hc]; simp; omega) (by simp)
  rw [hc] at cc
  simp [Tryd.f13, gl, ha, hb]
  refine ⟨sized_gl [⟨32, 0⟩], rfl, fun p hp => ?_, ?_⟩
  · simp at hp; rcases hp with rfl | rfl | rfl <;> rfl
  refine CallQ.mk (Call.pure callable23 (by simp) (by simp) cc.pcon) ?_
  simp [joinS, ha, hb]
end Go.Proofs.YtkbknlcdinkokaaDoor.Ev
end
