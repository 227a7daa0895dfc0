/- Of what the law StylesLines needs: part 9. -/
import Derived.Shelf.LaysM
import Derived.Shelf.Strings.Search1
import Derived.Shelf.Strings.Search2
import Derived.Shelf.Strings.Search3
import Derived.Shelf.Strings.Shaped
import Derived.Test.YtkbknlcdinkokaaDoorBSL7
set_option linter.unusedSimpArgs false
set_option linter.unusedVariables false
section
namespace Go.Proofs.YtkbknlcdinkokaaDoor.Ev
open Go
def contE (s t : ByteArray) : Bool := Go.Lib.contains s.data.toList t.data.toList
def callS : ByteArray := ⟨#[32, 65, 114, 32, 67, 109, 32, 69, 109, 32, 70, 108, 32, 76, 105, 32, 78, 109, 32, 78, 111, 32, 79, 112, 32, 83, 121, 32, 88, 114, 32]⟩
def callE (s : ByteArray) : Bool := !decide (s = ⟨#[]⟩) && (!contE s ⟨#[32]⟩ && contE callS (⟨#[32]⟩ ++ s ++ ⟨#[32]⟩))
structure Pc where
  text : List Glyph
  left : Bool
  right : Bool
def signS : ByteArray := ⟨#[46, 44, 58, 59, 41, 93, 63, 33, 40, 91]⟩
def isSign (s : ByteArray) : Bool := decide (s.size = 1) && contE signS s
def isLeft (s : ByteArray) : Bool := decide (s = ⟨#[40]⟩) || decide (s = ⟨#[91]⟩)
def signP (s : ByteArray) : Pc := if isSign s = true then ⟨ofG s 0, !isLeft s, isLeft s⟩ else ⟨[], false, false⟩
def kindS (k : ByteArray) : Int := if k = ⟨#[65, 114]⟩ ∨ k = ⟨#[69, 109]⟩ then 2 else if k = ⟨#[67, 109]⟩ ∨ k = ⟨#[83, 121]⟩ ∨ k = ⟨#[70, 108]⟩ ∨ k = ⟨#[78, 109]⟩ then 1 else 0
def joinE : List Glyph × Bool → Pc → List Glyph × Bool := fun s p =>
  if p.text = [] then s else ((if s.2 = false ∧ p.left = false then s.1 ++ [⟨32, 0⟩] else s.1) ++ p.text, p.right)
def joinL (l : List Pc) : List Glyph × Bool := l.foldl joinE ([], true)
theorem sized_gl (l : List Glyph) : Sized 2 (l.map Glyph.pv) := fun p hp => by
  simp only [List.mem_map] at hp; obtain ⟨x, _, rfl⟩ := hp; rfl
end Go.Proofs.YtkbknlcdinkokaaDoor.Ev
end
section
namespace Go.Proofs.YtkbknlcdinkokaaDoor.Ev
open Go
set_option maxRecDepth 20000 in
theorem conTurns1 (a b i : Int) (hi : 0 ≤ i) (H : Heap) (p : Nat) (hp : H[p]? = some [.sc (.int .u8 a), .sc (.int .u8 b)]) :
    Con C0 30 [.sc (.int .i64 i), .ptr p 0] H (.sc (.int .u8 (if i % 2 = 0 then a else b))) H := by
  have hlt := (List.getElem?_eq_some_iff.1 hp).1
  refine enter30 ?_
  have hm : i.tmod 2 = i % 2 := Int.tmod_eq_emod_of_nonneg hi
  have w0 : IntKind.i64.wrap (i % 2) = i % 2 := wrap64 (by omega) (by omega)
  by_cases h : i % 2 = 0
  · simp [Tryd.f30, hm, h, hp, w0]
  · have h1 : i % 2 = 1 := by omega
    simp [Tryd.f30, hm, h1, hp, w0]
theorem cells_gl (l : List Glyph) : (l.map Glyph.pv).flatMap PV.leaves = l.flatMap fun g => [PV.int .i32 g.r, PV.int .u8 g.s] := by
  induction l with
  | nil => rfl
  | cons g l ih => simp only [List.map_cons, List.flatMap_cons, ih]; rfl
def rowG (l : List Glyph) : List FV := ((l.map Glyph.pv).flatMap PV.leaves).map .sc
theorem rowG_len (l : List Glyph) : (rowG l).length = l.length * 2 := by
  unfold rowG; rw [List.length_map, cells_gl]
  induction l with
  | nil => rfl
  | cons g l ih => simp at ih ⊢; omega
theorem rowG_app (a b : List Glyph) : rowG (a ++ b) = rowG a ++ rowG b := by simp [rowG]
set_option maxRecDepth 20000 in
theorem conTurns2a (l : List Glyph) (hl : l ≠ []) (hn : l.length ≤ 1073741824) (H : Heap) :
    Con C0 31 [.emp, .sc (gl l)] H (.gr H.length 0 2 l.length) (H ++ [[.row 0 (rowG l)]]) := by
  refine enter31 ?_
  have sl := sized_gl l
  simp [Tryd.f31, gl, hl, sl, lenMax, rowG]
  omega
set_option maxRecDepth 20000 in
theorem conTurns2b (l o : List Glyph) (g b : Nat) (hn : o.length + l.length ≤ 1073741824) (H : Heap) (hb : H[b]? = some [.row g (rowG o)]) :
    Con C0 31 [.gr b g 2 o.length, .sc (gl l)] H (.gr b (g + 1) 2 (o.length + l.length)) (H.set b [.row (g + 1) (rowG (o ++ l))]) := by
  refine enter31 ?_
  have sl := sized_gl l
  have ol := rowG_len o
  have tk : (rowG o).take (o.length * 2) = rowG o := List.take_of_length_le (by omega)
  simp [Tryd.f31, gl, sl, lenMax, hb, ol, tk, rowG_app]
  exact ⟨by omega, rfl⟩
def aS : ByteArray := ⟨#[97]⟩
def bS : ByteArray := ⟨#[98]⟩
theorem la : lineG ⟨1, 1⟩ aS = [⟨97, 1⟩] := by rfl
theorem lb : lineG ⟨0, 0⟩ bS = [⟨98, 0⟩] := by rfl
theorem fa : lineF ⟨1, 1⟩ aS = ⟨1, 1⟩ := by rfl
theorem fb : lineF ⟨0, 0⟩ bS = ⟨0, 0⟩ := by rfl
theorem da : lineD aS = [] := by rfl
theorem db : lineD bS = [] := by rfl
def kGl6 : List Glyph := [⟨97, 1⟩, ⟨98, 0⟩]
def pairC : List FV := [.sc (.int .u8 1), .sc (.int .u8 0)]
def faceC (n : Int) : List FV := [.sc (.int .u8 n), .sc (.int .u8 n)]
set_option linter.unusedSimpArgs false in
set_option maxRecDepth 20000 in
set_option maxHeartbeats 8000000 in
theorem conEach6 : Con C0 29 [.sc (.sl [.str aS, .str bS]), .fn 30 [] [.ptr 0 0], .fn 31 [] []] [pairC]
    (.tup [.gr 2 1 2 2, .sc (.sl [])]) [pairC, faceC 1, [.row 1 (rowG kGl6)], faceC 0] := by
  refine enter29 ?_
  simp [Tryd.f29]
  refine loopC (fun d e H' => ∃ (i : Nat) (r : FV) (x10 x11 x12 x13 x15 x19 : FV), d = 2 - i ∧ ((i = 0 ∧ r = .own [] ∧ H' = [pairC]) ∨ (i = 1 ∧ r = .gr 2 0 2 1 ∧ H' = [pairC, faceC 1, [.row 0 (rowG [⟨97, 1⟩])]]) ∨ (i = 2 ∧ r = .gr 2 1 2 2 ∧ H' = [pairC, faceC 1, [.row 1 (rowG kGl6)], faceC 0])) ∧
    e = [(0, .sc (.sl [.str aS, .str bS])), (1, .fn 30 [] [.ptr 0 0]), (2, .fn 31 [] []), (6, .own []), (7, .own []), (8, r), (9, .own []), (10, x10), (11, x11), (12, x12), (13, x13), (15, x15), (16, .sc (.sl [.str aS, .str bS])), (17, .sc (.int .i64 2)), (18, .sc (.int .i64 i)), (19, x19)]) (d := 2) ⟨0, .own [], .undef, .undef, .undef, .undef, .undef, .undef, rfl, .inl ⟨rfl, rfl, rfl⟩, ?_⟩ ?_
  · simp
  · rintro d e H' ⟨i, r, x10, x11, x12, x13, x15, x19, rfl, hst, rfl⟩
    have t1 := conTurns1 1 0
    rcases hst with ⟨rfl, rfl, rfl⟩ | ⟨rfl, rfl, rfl⟩ | ⟨rfl, rfl, rfl⟩
    · simp
      refine CallQ.mk (Call.shared callable30 (t1 0 (by omega) _ 0 rfl)) ?_
      simp
      refine CallQ.mk (Call.pure callable11 (by simp) (by simp [Face.cells, gl]) (conLine ⟨1, 1⟩ aS (by decide))) ?_
      simp [la, fa, da, Face.cells]
      refine CallQ.mk (Call.shared callable31 (conTurns2a [⟨97, 1⟩] (by decide) (by decide) _)) ?_
      simp
      exact ⟨fun p hp => by simp at hp, 1, by omega, 1, rfl, _, ⟨rfl, rfl, rfl⟩, rfl, by decide⟩
    · simp
      refine CallQ.mk (Call.shared callable30 (t1 1 (by omega) _ 0 rfl)) ?_
      simp
      refine CallQ.mk (Call.pure callable11 (by simp) (by simp [Face.cells, gl]) (conLine ⟨0, 0⟩ bS (by decide))) ?_
      simp [lb, fb, db, Face.cells]
      refine CallQ.mk (Call.shared callable31 (conTurns2b [⟨98, 0⟩] [⟨97, 1⟩] 0 2 (by decide) _ rfl)) ?_
      simp
      exact ⟨fun p hp => by simp at hp, 2, rfl, _, ⟨rfl, rfl, rfl, rfl⟩, rfl, by decide⟩
    · simp
set_option linter.unusedSimpArgs false in
set_option maxRecDepth 20000 in
set_option maxHeartbeats 8000000 in
theorem conTurns6 : PCon C0 19 [.sc (.int .u8 1), .sc (.int .u8 0), .sc (.sl [.str aS, .str bS])] (.tup [.sc (.sl (kGl6.map Glyph.pv)), .sc (.sl [])]) := by
  refine Con.pcon (H' := []) (con_freezeT (C := C0) (s := 2) (l := kGl6.map Glyph.pv) (fn := Tryd.f19) Tryd.func19 rfl (by decide) mixed (mv := mv19) (vars := vars19) (c := Tryd.f19.body.getD .skip) rfl ?_ ?_ ?_ ?_)
  · decide
  · exact sized_gl kGl6
  · intro fs h; simp at h
  simp [Tryd.f19]
  refine CallQ.mk (Call.shared callable29 conEach6) ?_
  simp
  refine ⟨2, 1, ⟨rfl, rfl, rfl⟩, rowG kGl6, rfl, ?_⟩
  intro k q hq
  refine ⟨.sc q, ?_, rfl⟩
  unfold rowG
  rw [List.getElem?_map]
  simp only [hq, Option.map_some]
set_option linter.unusedSimpArgs false in
set_option maxRecDepth 20000 in
set_option maxHeartbeats 8000000 in
theorem conKnown6 : PCon C0 7 [] (.sc (.bool true)) := by
  refine penter7 ?_
  have sm := refSame kGl6 kGl6 (by decide)
  simp only [gl, decide_true] at sm
  simp [Tryd.f7, Sized]
  refine ⟨rfl, ?_⟩
  refine CallQ.mk (Call.pure callable19 (by simp) (by simp) conTurns6) ?_
  simp
  refine ⟨rfl, sized_gl kGl6, ?_⟩
  refine CallQ.mk (Call.pure callable9 (by simp) (by simp) sm) ?_
  simp
end Go.Proofs.YtkbknlcdinkokaaDoor.Ev
end
section
namespace Go.Proofs.YtkbknlcdinkokaaDoor.Ev
open Go
structure Wr where
  out : List Pc
  bad : List Dg
  name : ByteArray
  ops : Nat
def wordP (k s : ByteArray) : Pc := ⟨(if k = ⟨#[70, 108]⟩ then ofG ⟨#[45]⟩ (kindS k) else []) ++ lineG ⟨kindS k, kindS k⟩ s, false, false⟩
def wordW (k s : ByteArray) (w : Wr) : Wr := { w with bad := w.bad ++ lineD s, name := if k = ⟨#[78, 109]⟩ ∧ w.name = ⟨#[]⟩ then s else w.name }
end Go.Proofs.YtkbknlcdinkokaaDoor.Ev
end
section
namespace Go.Proofs.YtkbknlcdinkokaaDoor.Ev
open Go
def fileS : ByteArray := ⟨#[102, 105, 108, 101]⟩
def dotsS : ByteArray := ⟨#[46, 46, 46]⟩
def bareL (k : ByteArray) (name : ByteArray) : List Pc :=
  if k = ⟨#[70, 108]⟩ then [⟨ofG ⟨#[45]⟩ (kindS k), false, false⟩]
  else if k = ⟨#[65, 114]⟩ then [⟨ofG fileS (kindS k), false, false⟩, ⟨ofG dotsS (kindS k), false, false⟩]
  else if k = ⟨#[78, 109]⟩ then [⟨lineG ⟨kindS k, kindS k⟩ name, false, false⟩] else []
def bareW (k : ByteArray) (w : Wr) : Wr := if k = ⟨#[78, 109]⟩ then { w with bad := w.bad ++ lineD w.name } else w
structure El where
  o : List Pc
  k : Nat
  w : Wr
def elE (k : ByteArray) : El → ByteArray → El := fun e s =>
  if isSign s = true then { e with o := e.o ++ [signP s] } else ⟨e.o ++ [wordP k s], e.k + 1, wordW k s e.w⟩
def elL (k : ByteArray) (w : Wr) (l : List ByteArray) : El := l.foldl (elE k) ⟨[], 0, w⟩
def opW (k : ByteArray) (w : Wr) : Wr := if k = ⟨#[79, 112]⟩ then { w with ops := w.ops + 1, out := w.out ++ [signP ⟨#[91]⟩] } else w
def elemW (k : ByteArray) (w : Wr) (l : List ByteArray) : Wr :=
  if (elL k (opW k w) l).k = 0 then { bareW k (elL k (opW k w) l).w with out := (elL k (opW k w) l).w.out ++ (bareL k (elL k (opW k w) l).w.name ++ (elL k (opW k w) l).o) }
  else { (elL k (opW k w) l).w with out := (elL k (opW k w) l).w.out ++ (elL k (opW k w) l).o }
end Go.Proofs.YtkbknlcdinkokaaDoor.Ev
end
section
namespace Go.Proofs.YtkbknlcdinkokaaDoor.Ev
open Go
def pcsK (k : ByteArray) (s : ByteArray) : ByteArray := if callE s = true then s else k
def pcsR (s : ByteArray) (l : List ByteArray) : List ByteArray := if callE s = true then l else s :: l
def pcsF : Nat → Wr → ByteArray → List ByteArray → Wr
  | 0, w, _, _ => w
  | _ + 1, w, _, [] => w
  | n + 1, w, k, s :: l => pcsF n (elemW (pcsK k s) w ((pcsR s l).take ((pcsR s l).findIdx callE))) (pcsK k s) ((pcsR s l).drop ((pcsR s l).findIdx callE))
end Go.Proofs.YtkbknlcdinkokaaDoor.Ev
end
section
namespace Go.Proofs.YtkbknlcdinkokaaDoor.Ev
open Go
def noS : ByteArray := ⟨#[78, 111]⟩
def closeP : Pc := ⟨(signP ⟨#[93]⟩).text, true, false⟩
def pcsW (name : ByteArray) (l : List ByteArray) : Wr := pcsF l.length ⟨[], [], name, 0⟩ noS l
def pcsL (name : ByteArray) (l : List ByteArray) : List Pc := (pcsW name l).out ++ List.replicate (pcsW name l).ops closeP
end Go.Proofs.YtkbknlcdinkokaaDoor.Ev
end
section
namespace Go.Proofs.YtkbknlcdinkokaaDoor.Ev
open Go
def ascB (l : List Glyph) : ByteArray := ⟨(l.map fun g => UInt8.ofNat g.r.toNat).toArray⟩
end Go.Proofs.YtkbknlcdinkokaaDoor.Ev
end
section
namespace Go.Proofs.YtkbknlcdinkokaaDoor.Ev
open Go
def kWords : List ByteArray := [⟨#[79, 112]⟩, ⟨#[70, 108]⟩, ⟨#[97]⟩, ⟨#[65, 114]⟩, ⟨#[120]⟩, ⟨#[44]⟩]
def kPcs : List Pc := [⟨[⟨91, 0⟩], false, true⟩, ⟨[⟨45, 1⟩, ⟨97, 1⟩], false, false⟩, ⟨[⟨120, 2⟩], false, false⟩, ⟨[⟨44, 0⟩], true, false⟩, ⟨[⟨93, 0⟩], true, false⟩]
def kGl : List Glyph := [⟨91, 0⟩, ⟨45, 1⟩, ⟨97, 1⟩, ⟨32, 0⟩, ⟨120, 2⟩, ⟨44, 0⟩, ⟨93, 0⟩]
set_option maxRecDepth 20000 in
theorem k1 : pcsL ⟨#[]⟩ kWords = kPcs := by rfl
set_option maxRecDepth 20000 in
theorem k2 : (pcsW ⟨#[]⟩ kWords).name = ⟨#[]⟩ := by rfl
set_option maxRecDepth 20000 in
theorem k3 : (pcsW ⟨#[]⟩ kWords).bad = [] := by rfl
theorem k4 : (joinL kPcs).1 = kGl := by rfl
theorem k5 : ascB kGl = ⟨#[91, 45, 97, 32, 120, 44, 93]⟩ := by rfl
theorem k6 : callE ⟨#[79, 112]⟩ = true := by rfl
end Go.Proofs.YtkbknlcdinkokaaDoor.Ev
end
section
namespace Go.Proofs.YtkbknlcdinkokaaDoor.Ev
open Go
theorem firstR_asc (c : Int) (l : List Int) (h0 : 0 ≤ c) (h1 : c < 128) : firstR (c :: l) = (c, 1) := by
  have hw : IntKind.i32.wrap c = c := by simp [IntKind.wrap, IntKind.signed, IntKind.bits]; omega
  simp [firstR, h1, hw]
theorem decR_asc : ∀ (k : Nat) (l : List Int), (∀ c ∈ l, 0 ≤ c ∧ c < 128) → l.length ≤ k → decR k l = l
  | 0, l, _, hk => by
    obtain rfl : l = [] := List.length_eq_zero_iff.1 (by omega)
    rfl
  | k + 1, [], _, _ => by simp [decR]
  | k + 1, c :: l, h, hk => by
    have hc := h c (List.mem_cons_self ..)
    rw [decR, if_neg (by simp), firstR_asc c l hc.1 hc.2]
    simp only [List.drop_succ_cons, List.drop_zero]
    rw [decR_asc k l (fun x hx => h x (List.mem_cons_of_mem _ hx)) (by simpa using hk)]
theorem bI_mem {s : ByteArray} {c : Int} (h : c ∈ bI s) : ∃ b ∈ s.data.toList, c = (b.toNat : Int) := by
  simp only [bI, List.mem_map] at h
  obtain ⟨b, hb, rfl⟩ := h
  exact ⟨b, hb, rfl⟩
theorem dec_asc {s : ByteArray} (h : ∀ b ∈ s.data.toList, b.toNat < 128) : dec (bI s) = bI s :=
  decR_asc _ _ (fun c hc => by
    obtain ⟨b, hb, rfl⟩ := bI_mem hc
    have := h b hb; omega) (Nat.le_refl _)
end Go.Proofs.YtkbknlcdinkokaaDoor.Ev
end
