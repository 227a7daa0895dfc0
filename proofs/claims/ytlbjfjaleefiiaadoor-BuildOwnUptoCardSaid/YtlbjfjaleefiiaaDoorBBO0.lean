/- Of what the law BuildOwn needs: part 0. -/
import Derived.Below
import Derived.Carry
import Derived.Laws.Cover4
import Derived.WalkKit
set_option linter.unusedSimpArgs false
set_option linter.unusedVariables false
section
namespace Go.Proofs.YtlbjfjaleefiiaaDoor.Ev
open Go
inductive PV where
  | int (k : IntKind) (n : Int)
  | bool (b : Bool)
  | str (s : ByteArray)
  | agg (l : List PV)
  | sl (l : List PV)
  | mp (g : Nat)
def PV.leaves : PV → List PV
  | .agg l => l
  | .int k n => [.int k n]
  | .bool b => [.bool b]
  | .str s => [.str s]
  | .sl l => [.sl l]
  | .mp g => [.mp g]
def PV.isLeaf : PV → Bool
  | .agg _ => false
  | _ => true
inductive Root where
  | tmp (t : Nat)
  | leaf (b i : Nat)
  | box (b : Nat)
  | res
  deriving DecidableEq
structure Wd where
  w : World
  lim : Nat → Nat
  β : Nat → Nat
  o : Nat → Option (Root × Nat)
  gen : Nat → Nat
inductive Rep (w : World) (lim : Nat → Nat) : PV → Value → Prop
  | int {k n} : Rep w lim (.int k n) (.int k n)
  | bool {b} : Rep w lim (.bool b) (.bool b)
  | str {s} : Rep w lim (.str s) (.string s)
  | agg {l : List PV} {cs : Array Value} : cs.size = l.length → (∀ (i : Nat) (p : PV), l[i]? = some p → p.isLeaf = true) → (∀ (i : Nat) (p : PV) (v : Value), l[i]? = some p → cs[i]? = some v → Rep w lim p v) → Rep w lim (.agg l) (.agg cs)
  | nil {a : Option Addr} {cap : Nat} : Rep w lim (.sl []) (.slice a 0 cap)
  | sl {l : List PV} {A : Addr} {cap sz n : Nat} (c : Nat → Nat → Value) : n = l.length → A.spot = none → 0 < sz →
      (∀ (i : Nat) (e : PV), l[i]? = some e → e.leaves.length = sz) →
      (∀ (i j : Nat) (e p : PV), l[i]? = some e → e.leaves[j]? = some p → A.off + (i * sz + j) < lim A.block) →
      (∀ (i j : Nat) (e p : PV), l[i]? = some e → e.leaves[j]? = some p → w.cell? ⟨A.block, A.off + (i * sz + j), none⟩ = some (c i j)) →
      (∀ (i j : Nat) (e p : PV), l[i]? = some e → e.leaves[j]? = some p → p.isLeaf = true) →
      (∀ (i j : Nat) (e p : PV), l[i]? = some e → e.leaves[j]? = some p → Rep w lim p (c i j)) →
      n ≤ cap → Rep w lim (.sl l) (.slice (some A) n cap)
  | mp {g b : Nat} : 0 < lim g → w.cell? ⟨g, 0, none⟩ = some (.map (some b)) → Rep w lim (.mp g) (.map (some b))
theorem Rep.mono {w w' : World} {lim lim' : Nat → Nat} (hc : ∀ b off, off < lim b → w'.cell? ⟨b, off, none⟩ = w.cell? ⟨b, off, none⟩)
    (hl : ∀ b, lim b ≤ lim' b) {p : PV} {v : Value} (h : Rep w lim p v) : Rep w' lim' p v := by
  induction h with
  | int => exact .int
  | bool => exact .bool
  | str => exact .str
  | agg h hl' _ ih => exact .agg h hl' ih
  | nil => exact .nil
  | mp h1 h2 => exact .mp (Nat.lt_of_lt_of_le h1 (hl _)) (by rw [hc _ _ h1]; exact h2)
  | sl c h0 h1 h2 h3 h4 h5 h6 _ h7 ih =>
    exact .sl c h0 h1 h2 h3 (fun i j e p he hp => Nat.lt_of_lt_of_le (h4 i j e p he hp) (hl _)) (fun i j e p he hp => by rw [hc _ _ (h4 i j e p he hp)]; exact h5 i j e p he hp) h6 ih h7
inductive FV where
  | sc (p : PV)
  | own (l : List PV)
  | emp
  | agg (l : List FV)
  | ptr (b off : Nat)
  | bs (b off n : Nat)
  | gr (b g z n : Nat)
  | gp (b g off : Nat)
  | row (g : Nat) (l : List FV)
  | oagg (l : List FV)
  | nilp
  | ea (l : List PV)
  | tup (l : List FV)
  | fn (f : FuncId) (first cap : List FV)
  | ext (k o z : Nat) (l : List PV)
  | exr (k o n : Nat) (r : Root)
  | exq (k o : Nat) (r : Root)
  | undef
def Free (fz : Nat × Nat) (n : Nat) : Prop := ∀ off, off < n → ¬ (fz.1 ≤ off ∧ off < fz.2)
def Spare (W : Wd) (q : Option (Root × Nat)) (l : List PV) (a : Option Addr) (len cap : Nat) : Prop :=
  cap = len ∨ ∃ (e : PV) (A : Addr) (c : Array Value) (T : TypeId) (fz : Nat × Nat), l[0]? = some e ∧ a = some A ∧ A.spot = none ∧ q ≠ none ∧ W.o A.block = q ∧
    W.w.heap[A.block]? = some (.cells c T fz) ∧ Free fz c.size ∧ A.off + cap * e.leaves.length ≤ c.size ∧ W.lim A.block = A.off + len * e.leaves.length
structure Pend (W : Wd) (q : Option (Root × Nat)) (k o z : Nat) (l : List PV) (cap : Nat) : Prop where
  held : q ≠ none
  own : W.o k = q
  room : l.length + 1 ≤ cap
  pos : 0 < z
  sized : ∀ p ∈ l, p.leaves.length = z
  lim : W.lim k = o + l.length * z
  obj : ∃ (c : Array Value) (T : TypeId) (fz : Nat × Nat), W.w.heap[k]? = some (.cells c T fz) ∧ Free fz c.size ∧ o + cap * z ≤ c.size
inductive FRep (W : Wd) : Option Root → Nat → FV → Value → Prop
  | undef {r i v} : FRep W r i .undef v
  | sc {r i p v} : p.isLeaf = true → Rep W.w W.lim p v → FRep W r i (.sc p) v
  | own {r : Option Root} {i : Nat} {l : List PV} {a : Option Addr} {len cap : Nat} : Rep W.w W.lim (.sl l) (.slice a len cap) → Spare W (r.map (·, i)) l a len cap → FRep W r i (.own l) (.slice a len cap)
  | emp {r i} {a : Option Addr} : FRep W r i .emp (.slice a 0 0)
  | agg {r i} {l : List FV} {cs : Array Value} : cs.size = l.length → (∀ (j : Nat) (f : FV) (v : Value), l[j]? = some f → cs[j]? = some v → FRep W none 0 f v) → FRep W r i (.agg l) (.agg cs)
  | ptr {r i b off} : W.o (W.β b) = some (.box b, 0) → FRep W r i (.ptr b off) (.pointer (some ⟨W.β b, off, none⟩))
  | bs {r i b off n cap} : W.o (W.β b) = some (.box b, 0) → n ≤ cap → FRep W r i (.bs b off n) (.slice (some ⟨W.β b, off, none⟩) n cap)
  | gr {r i b g z n cap} {A : Addr} : g ≤ W.gen b → n ≤ cap → (W.gen b = g → A = ⟨W.β b, 0, none⟩ ∧ W.o (W.β b) = some (.box b, 1) ∧ ∃ (c : Array Value) (T : TypeId) (fz : Nat × Nat), W.w.heap[W.β b]? = some (.cells c T fz) ∧ cap * z ≤ c.size) →
      FRep W r i (.gr b g z n) (.slice (some A) n cap)
  | gp {r i b g off} {A : Addr} : g ≤ W.gen b → (W.gen b = g → A = ⟨W.β b, off, none⟩ ∧ W.o (W.β b) = some (.box b, 1)) → FRep W r i (.gp b g off) (.pointer (some A))
  | nilp {r i} : FRep W r i .nilp (.pointer none)
  | oagg {r : Option Root} {i : Nat} {l : List FV} {cs : Array Value} : cs.size = l.length → (∀ (j : Nat) (f : FV) (v : Value), l[j]? = some f → cs[j]? = some v → FRep W r (i + j) f v) → FRep W r i (.oagg l) (.agg cs)
  | ea {r i} {l : List PV} {A : Addr} (c : Nat → Value) : A.spot = none → (∀ (j : Nat) (p : PV), l[j]? = some p → A.off + j < W.lim A.block) → (∀ (j : Nat) (p : PV), l[j]? = some p → W.w.cell? ⟨A.block, A.off + j, none⟩ = some (c j)) →
      (∀ (j : Nat) (p : PV), l[j]? = some p → p.isLeaf = true) → (∀ (j : Nat) (p : PV), l[j]? = some p → Rep W.w W.lim p (c j)) → FRep W r i (.ea l) (.pointer (some A))
  | tup {r i} {l : List FV} {vs : Array Value} : vs.size = l.length → (∀ (j : Nat) (f : FV) (v : Value), l[j]? = some f → vs[j]? = some v → FRep W r j f v) → FRep W r i (.tup l) (.tuple vs)
  | fn {r i f} {first cap : List FV} {fs cs : Array Value} : fs.size = first.length → cs.size = cap.length → (∀ (j : Nat) (f : FV) (v : Value), first[j]? = some f → fs[j]? = some v → FRep W none 0 f v) →
      (∀ (j : Nat) (f : FV) (v : Value), cap[j]? = some f → cs[j]? = some v → FRep W none 0 f v) → FRep W r i (.fn f first cap) (.func (.func f) fs cs)
  | ext {r : Option Root} {i k o z cap : Nat} {l : List PV} : Rep W.w W.lim (.sl l) (.slice (some ⟨k, o, none⟩) l.length cap) → Pend W (r.map (·, i)) k o z l cap → FRep W r i (.ext k o z l) (.slice (some ⟨k, o, none⟩) (l.length + 1) cap)
  | exr {r i k o n q cap} : FRep W r i (.exr k o n q) (.slice (some ⟨k, o, none⟩) n cap)
  | exq {r i k o q} : FRep W r i (.exq k o q) (.pointer (some ⟨k, o, none⟩))
structure Evo1 (A B : Wd) (keep : Root → Nat → Prop) : Prop where
  cell : ∀ b off, off < A.lim b → B.w.cell? ⟨b, off, none⟩ = A.w.cell? ⟨b, off, none⟩
  lim : ∀ b, A.lim b ≤ B.lim b
  shape : ∀ (b : Nat) (c : Array Value) (T : TypeId) (fz : Nat × Nat), A.w.heap[b]? = some (Obj.cells c T fz) → ∃ c' : Array Value, B.w.heap[b]? = some (Obj.cells c' T fz) ∧ c'.size = c.size
  hold : ∀ b r i, A.o b = some (r, i) → keep r i → B.o b = some (r, i) ∧ B.lim b = A.lim b
structure Evo0 (A B : Wd) (keep : Root → Nat → Prop) : Prop extends Evo1 A B keep where
  beta : ∀ b i, A.o b = some (.box i, 0) → A.β i = b → B.β i = b ∧ B.o b = some (.box i, 0)
  row : ∀ i, A.gen i ≤ B.gen i ∧ (B.gen i = A.gen i → A.o (A.β i) = some (.box i, 1) → B.β i = A.β i ∧ B.o (A.β i) = some (.box i, 1))
structure Evo (A B : Wd) (keep : Root → Nat → Prop) : Prop extends Evo0 A B keep where
  os : B.w.os = A.w.os
  tape : B.w.tape = A.w.tape
  output : B.w.output = A.w.output
  size : A.w.heap.size ≤ B.w.heap.size
  away : ∀ b, b < A.w.heap.size → A.o b = none → B.w.heap[b]? = A.w.heap[b]? ∧ B.lim b = A.lim b ∧ B.o b = none
theorem Evo.of {A B : Wd} {keep : Root → Nat → Prop} (os : B.w.os = A.w.os) (tape : B.w.tape = A.w.tape) (output : B.w.output = A.w.output) (size : A.w.heap.size ≤ B.w.heap.size)
    (cell : ∀ b off, off < A.lim b → B.w.cell? ⟨b, off, none⟩ = A.w.cell? ⟨b, off, none⟩) (lim : ∀ b, A.lim b ≤ B.lim b)
    (shape : ∀ (b : Nat) (c : Array Value) (T : TypeId) (fz : Nat × Nat), A.w.heap[b]? = some (Obj.cells c T fz) → ∃ c' : Array Value, B.w.heap[b]? = some (Obj.cells c' T fz) ∧ c'.size = c.size)
    (hold : ∀ b r i, A.o b = some (r, i) → keep r i → B.o b = some (r, i) ∧ B.lim b = A.lim b) (beta : ∀ b i, A.o b = some (.box i, 0) → A.β i = b → B.β i = b ∧ B.o b = some (.box i, 0))
    (row : ∀ i, A.gen i ≤ B.gen i ∧ (B.gen i = A.gen i → A.o (A.β i) = some (.box i, 1) → B.β i = A.β i ∧ B.o (A.β i) = some (.box i, 1)))
    (away : ∀ b, b < A.w.heap.size → A.o b = none → B.w.heap[b]? = A.w.heap[b]? ∧ B.lim b = A.lim b ∧ B.o b = none) : Evo A B keep :=
  { cell, lim, shape, hold, beta, row, os, tape, output, size, away }
theorem Spare.mono {A B : Wd} {keep : Root → Nat → Prop} (h : Evo1 A B keep) {r : Option Root} {i : Nat} (hr : ∀ q, r = some q → keep q i) {l : List PV} {a : Option Addr} {len cap : Nat}
    (hs : Spare A (r.map (·, i)) l a len cap) : Spare B (r.map (·, i)) l a len cap := by
  rcases hs with hs | ⟨e, x, c, T, fz, h0, h1, h2, h3, h4, h5, h6, h7, h8⟩
  · exact .inl hs
  · right
    obtain ⟨c', hc', hsz⟩ := h.shape _ _ _ _ h5
    cases r with
    | none => exact absurd rfl h3
    | some q =>
      obtain ⟨ho, hl⟩ := h.hold _ _ _ h4 (hr q rfl)
      exact ⟨e, x, c', T, fz, h0, h1, h2, h3, ho, hc', hsz ▸ h6, hsz ▸ h7, hl ▸ h8⟩
theorem Pend.mono {A B : Wd} {keep : Root → Nat → Prop} (h : Evo1 A B keep) {r : Option Root} {i : Nat} (hr : ∀ q, r = some q → keep q i) {k o z cap : Nat} {l : List PV}
    (hs : Pend A (r.map (·, i)) k o z l cap) : Pend B (r.map (·, i)) k o z l cap := by
  obtain ⟨h1, h2, h3, h4, h5, h6, c, T, fz, h7, h8, h9⟩ := hs
  obtain ⟨c', hc', hsz⟩ := h.shape _ _ _ _ h7
  cases r with
  | none => exact absurd rfl h1
  | some q =>
    obtain ⟨ho, hl⟩ := h.hold _ _ _ h2 (hr q rfl)
    exact ⟨h1, ho, h3, h4, h5, hl.trans h6, c', T, fz, hc', hsz ▸ h8, hsz ▸ h9⟩
theorem FRep.mono0 {A B : Wd} {keep : Root → Nat → Prop} (h : Evo0 A B keep) {r : Option Root} {i : Nat} {f : FV} {v : Value} (hf : FRep A r i f v) (hr : ∀ q j, r = some q → keep q j) : FRep B r i f v := by
  induction hf with
  | undef => exact .undef
  | sc hl hp => exact .sc hl (hp.mono h.cell h.lim)
  | emp => exact .emp
  | own hp hs => exact .own (hp.mono h.cell h.lim) (hs.mono h.toEvo1 fun q hq => hr q _ hq)
  | agg hs _ ih => exact .agg hs fun j f v hf hv => ih j f v hf hv (by simp)
  | @ptr _ _ b off hb =>
    obtain ⟨h1, h2⟩ := h.beta _ _ hb rfl
    rw [← h1]
    exact .ptr (by rw [h1]; exact h2)
  | @bs _ _ b off n cap hb hn =>
    obtain ⟨h1, h2⟩ := h.beta _ _ hb rfl
    rw [← h1]
    exact .bs (by rw [h1]; exact h2) hn
  | @gr _ _ b g z n cap A hg hn hc =>
    obtain ⟨h1, h2⟩ := h.row b
    refine .gr (Nat.le_trans hg h1) hn fun hB => ?_
    have hA := Nat.le_antisymm (hB ▸ h1) hg
    obtain ⟨q1, q2, c, T, fz, q3, q4⟩ := hc hA
    obtain ⟨h3, h4⟩ := h2 (hB.trans hA.symm) q2
    obtain ⟨c', hc', hsz⟩ := h.shape _ _ _ _ q3
    exact ⟨by rw [h3]; exact q1, by rw [h3]; exact h4, c', T, fz, by rw [h3]; exact hc', by rw [hsz]; exact q4⟩
  | @gp _ _ b g off A hg hc =>
    obtain ⟨h1, h2⟩ := h.row b
    refine .gp (Nat.le_trans hg h1) fun hB => ?_
    have hA := Nat.le_antisymm (hB ▸ h1) hg
    obtain ⟨q1, q2⟩ := hc hA
    obtain ⟨h3, h4⟩ := h2 (hB.trans hA.symm) q2
    exact ⟨by rw [h3]; exact q1, by rw [h3]; exact h4⟩
  | nilp => exact .nilp
  | oagg hs _ ih => exact .oagg hs fun j f v hf hv => ih j f v hf hv hr
  | ea c h1 h2 h3 h4 h5 => exact .ea c h1 (fun j p hp => Nat.lt_of_lt_of_le (h2 j p hp) (h.lim _)) (fun j p hp => by rw [h.cell _ _ (h2 j p hp)]; exact h3 j p hp) h4 (fun j p hp => (h5 j p hp).mono h.cell h.lim)
  | tup hs _ ih => exact .tup hs fun j f v hf hv => ih j f v hf hv hr
  | fn h1 h2 _ _ ih1 ih2 => exact .fn h1 h2 (fun j f v hf hv => ih1 j f v hf hv (by simp)) (fun j f v hf hv => ih2 j f v hf hv (by simp))
  | ext a b => exact .ext (a.mono h.cell h.lim) (b.mono h.toEvo1 fun q hq => hr q _ hq)
  | exr => exact .exr
  | exq => exact .exq
theorem FRep.mono {A B : Wd} {keep : Root → Nat → Prop} (h : Evo A B keep) {r : Option Root} {i : Nat} {f : FV} {v : Value} (hf : FRep A r i f v) (hr : ∀ q j, r = some q → keep q j) : FRep B r i f v := hf.mono0 h.toEvo0 hr
def FV.isTup : FV → Bool
  | .tup _ => true
  | .oagg _ => true
  | _ => false
theorem FRep.mono1 {A B : Wd} {keep : Root → Nat → Prop} (h : Evo A B keep) {r : Option Root} {i : Nat} {f : FV} {v : Value} (hf : FRep A r i f v) (ht : f.isTup = false) (hr : ∀ q, r = some q → keep q i) : FRep B r i f v := by
  cases hf with
  | undef => exact .undef
  | sc hl hp => exact .sc hl (hp.mono h.cell h.lim)
  | emp => exact .emp
  | own hp hs => exact .own (hp.mono h.cell h.lim) (hs.mono h.toEvo1 hr)
  | agg hs a => exact .agg hs fun j f v hf hv => (a j f v hf hv).mono h (by simp)
  | @ptr _ _ b off hb =>
    obtain ⟨h1, h2⟩ := h.beta _ _ hb rfl
    rw [← h1]
    exact .ptr (by rw [h1]; exact h2)
  | @bs _ _ b off n cap hb hn =>
    obtain ⟨h1, h2⟩ := h.beta _ _ hb rfl
    rw [← h1]
    exact .bs (by rw [h1]; exact h2) hn
  | @gr _ _ b g z n cap A hg hn hc =>
    obtain ⟨h1, h2⟩ := h.row b
    refine .gr (Nat.le_trans hg h1) hn fun hB => ?_
    have hA := Nat.le_antisymm (hB ▸ h1) hg
    obtain ⟨q1, q2, c, T, fz, q3, q4⟩ := hc hA
    obtain ⟨h3, h4⟩ := h2 (hB.trans hA.symm) q2
    obtain ⟨c', hc', hsz⟩ := h.shape _ _ _ _ q3
    exact ⟨by rw [h3]; exact q1, by rw [h3]; exact h4, c', T, fz, by rw [h3]; exact hc', by rw [hsz]; exact q4⟩
  | @gp _ _ b g off A hg hc =>
    obtain ⟨h1, h2⟩ := h.row b
    refine .gp (Nat.le_trans hg h1) fun hB => ?_
    have hA := Nat.le_antisymm (hB ▸ h1) hg
    obtain ⟨q1, q2⟩ := hc hA
    obtain ⟨h3, h4⟩ := h2 (hB.trans hA.symm) q2
    exact ⟨by rw [h3]; exact q1, by rw [h3]; exact h4⟩
  | nilp => exact .nilp
  | ea c h1 h2 h3 h4 h5 => exact .ea c h1 (fun j p hp => Nat.lt_of_lt_of_le (h2 j p hp) (h.lim _)) (fun j p hp => by rw [h.cell _ _ (h2 j p hp)]; exact h3 j p hp) h4 (fun j p hp => (h5 j p hp).mono h.cell h.lim)
  | tup => simp [FV.isTup] at ht
  | oagg => simp [FV.isTup] at ht
  | fn h1 h2 a b => exact .fn h1 h2 (fun j f v hf hv => (a j f v hf hv).mono h (by simp)) (fun j f v hf hv => (b j f v hf hv).mono h (by simp))
  | ext a b => exact .ext (a.mono h.cell h.lim) (b.mono h.toEvo1 hr)
  | exr => exact .exr
  | exq => exact .exq
def demote0 : FV → FV
  | .own l => .sc (.sl l)
  | .tup _ => .undef
  | .row _ _ => .undef
  | .oagg _ => .undef
  | .ext k o _ l => .exr k o (l.length + 1) .res
  | f => f
def demote1 : FV → FV
  | .own l => .sc (.sl l)
  | .tup _ => .undef
  | .row _ _ => .undef
  | .oagg l => .agg (l.map demote0)
  | .ext k o _ l => .exr k o (l.length + 1) .res
  | f => f
def demote : FV → FV
  | .tup l => .tup (l.map demote1)
  | .own l => .sc (.sl l)
  | .sc p => .sc p
  | .emp => .emp
  | .agg l => .agg l
  | .ptr b o => .ptr b o
  | .bs b o n => .bs b o n
  | .gr b g z n => .gr b g z n
  | .gp b g o => .gp b g o
  | .row g l => .row g l
  | .oagg l => .agg (l.map demote0)
  | .nilp => .nilp
  | .ea l => .ea l
  | .fn f a b => .fn f a b
  | .ext k o _ l => .exr k o (l.length + 1) .res
  | .exr k o n r => .exr k o n r
  | .exq k o r => .exq k o r
  | .undef => .undef
theorem FRep.weaken {W : Wd} {r r' : Option Root} {i i' : Nat} {f : FV} {v : Value} (hr : r = none) (h : FRep W r i f v) : FRep W r' i' f v := by
  induction h generalizing i' with
  | undef => exact .undef
  | sc a b => exact .sc a b
  | own a b =>
    subst hr
    refine .own a ?_
    rcases b with b | ⟨_, _, _, _, _, _, _, _, h, _⟩
    · exact .inl b
    · exact absurd rfl h
  | emp => exact .emp
  | agg a b => exact .agg a b
  | ptr a => exact .ptr a
  | bs a n => exact .bs a n
  | gr a n c => exact .gr a n c
  | gp a c => exact .gp a c
  | nilp => exact .nilp
  | ea c a b d e g => exact .ea c a b d e g
  | tup a _ ih => exact .tup a fun j f v hf hv => ih j f v hf hv hr
  | oagg a _ ih => exact .oagg a fun j f v hf hv => ih j f v hf hv hr
  | fn a b c d => exact .fn a b c d
  | ext a b =>
    subst hr
    exact absurd rfl b.held
  | exr => exact .exr
  | exq => exact .exq
theorem FRep.demote0 {W : Wd} {r r' : Option Root} {i i' : Nat} {f : FV} {v : Value} (h : FRep W r i f v) : FRep W r' i' (demote0 f) v := by
  cases h with
  | undef => exact .undef
  | sc a b => exact .sc a b
  | own a b => exact .sc rfl a
  | emp => exact .emp
  | agg a b => exact .agg a b
  | ptr a => exact .ptr a
  | bs a n => exact .bs a n
  | gr a n c => exact .gr a n c
  | gp a c => exact .gp a c
  | nilp => exact .nilp
  | ea c a b d e g => exact .ea c a b d e g
  | tup a _ => exact .undef
  | oagg a _ => exact .undef
  | fn a b c d => exact .fn a b c d
  | ext a b => exact .exr
  | exr => exact .exr
  | exq => exact .exq
theorem FRep.demoted {W : Wd} {r r' : Option Root} {i i' : Nat} {l : List FV} {cs : Array Value} (a : cs.size = l.length) (b : ∀ (j : Nat) (f : FV) (v : Value), l[j]? = some f → cs[j]? = some v → FRep W r (i + j) f v) : FRep W r' i' (.agg (l.map Ev.demote0)) (.agg cs) := by
  refine .agg (by simpa using a) fun j f v hf hv => ?_
  simp only [List.getElem?_map, Option.map_eq_some_iff] at hf
  obtain ⟨g, hg, rfl⟩ := hf
  exact (b j g v hg hv).demote0
theorem FRep.demote1 {W : Wd} {r r' : Option Root} {i i' : Nat} {f : FV} {v : Value} (h : FRep W r i f v) : FRep W r' i' (demote1 f) v := by
  cases h with
  | undef => exact .undef
  | sc a b => exact .sc a b
  | own a b => exact .sc rfl a
  | emp => exact .emp
  | agg a b => exact .agg a b
  | ptr a => exact .ptr a
  | bs a n => exact .bs a n
  | gr a n c => exact .gr a n c
  | gp a c => exact .gp a c
  | nilp => exact .nilp
  | ea c a b d e g => exact .ea c a b d e g
  | tup a _ => exact .undef
  | oagg a b => exact FRep.demoted a b
  | fn a b c d => exact .fn a b c d
  | ext a b => exact .exr
  | exr => exact .exr
  | exq => exact .exq
theorem FRep.demote {W : Wd} {r r' : Option Root} {i i' : Nat} {f : FV} {v : Value} (h : FRep W r i f v) : FRep W r' i' (demote f) v := by
  cases h with
  | undef => exact .undef
  | sc a b => exact .sc a b
  | own a b => exact .sc rfl a
  | emp => exact .emp
  | agg a b => exact .agg a b
  | ptr a => exact .ptr a
  | bs a n => exact .bs a n
  | gr a n c => exact .gr a n c
  | gp a c => exact .gp a c
  | nilp => exact .nilp
  | ea c a b d e g => exact .ea c a b d e g
  | tup a b =>
    refine .tup (by simpa using a) fun j f v hf hv => ?_
    simp only [List.getElem?_map, Option.map_eq_some_iff] at hf
    obtain ⟨g, hg, rfl⟩ := hf
    exact (b j g v hg hv).demote1
  | oagg a b => exact FRep.demoted a b
  | fn a b c d => exact .fn a b c d
  | ext a b => exact .exr
  | exr => exact .exr
  | exq => exact .exq
def Wd.rehome (W : Wd) (r r' : Root) : Wd := { W with o := fun b => match W.o b with | some (q, k) => some (if q = r then r' else q, k) | none => none }
theorem Evo.refl (A : Wd) (keep : Root → Nat → Prop) : Evo A A keep :=
  Evo.of rfl rfl rfl (Nat.le_refl _) (fun _ _ _ => rfl) (fun _ => Nat.le_refl _) (fun _ c _ _ h => ⟨c, h, rfl⟩) (fun _ _ _ h _ => ⟨h, rfl⟩) (fun _ _ h h' => ⟨h', h⟩) (fun _ => ⟨Nat.le_refl _, fun _ h => ⟨rfl, h⟩⟩) (fun _ _ h => ⟨rfl, rfl, h⟩)
theorem Evo.trans {A B C : Wd} {k k' : Root → Nat → Prop} (h : Evo A B k) (h' : Evo B C k') : Evo A C (fun r i => k r i ∧ k' r i) where
  os := h'.os.trans h.os
  tape := h'.tape.trans h.tape
  output := h'.output.trans h.output
  size := Nat.le_trans h.size h'.size
  cell b off hl := by rw [h'.cell b off (Nat.lt_of_lt_of_le hl (h.lim b)), h.cell b off hl]
  lim b := Nat.le_trans (h.lim b) (h'.lim b)
  shape b c T fz hb := by
    obtain ⟨c₁, h1, h2⟩ := h.shape b c T fz hb
    obtain ⟨c₂, h3, h4⟩ := h'.shape b c₁ T fz h1
    exact ⟨c₂, h3, h4.trans h2⟩
  hold b r i ho hk := by
    obtain ⟨h1, h2⟩ := h.hold b r i ho hk.1
    obtain ⟨h3, h4⟩ := h'.hold b r i h1 hk.2
    exact ⟨h3, h4.trans h2⟩
  beta b i ho hb := by
    obtain ⟨h1, h2⟩ := h.beta b i ho hb
    exact h'.beta b i h2 h1
  row i := by
    obtain ⟨h1, h2⟩ := h.row i
    obtain ⟨h3, h4⟩ := h'.row i
    refine ⟨Nat.le_trans h1 h3, fun hg ho => ?_⟩
    have e1 : B.gen i = A.gen i := Nat.le_antisymm (hg ▸ h3) h1
    obtain ⟨h5, h6⟩ := h2 e1 ho
    obtain ⟨h7, h8⟩ := h4 (hg.trans e1.symm) (by rw [h5]; exact h6)
    exact ⟨h7.trans h5, by rw [← h5]; exact h8⟩
  away b hs ho := by
    obtain ⟨h1, h2, h3⟩ := h.away b hs ho
    obtain ⟨h4, h5, h6⟩ := h'.away b (Nat.lt_of_lt_of_le hs h.size) h3
    exact ⟨h4.trans h1, h5.trans h2, h6⟩
theorem Evo.weaken {A B : Wd} {k k' : Root → Nat → Prop} (h : Evo A B k) (hk : ∀ r i, k' r i → k r i) : Evo A B k' :=
  { h with hold := fun b r i ho hr => h.hold b r i ho (hk r i hr) }
theorem Evo.rehome (W : Wd) {r r' : Root} (hr : ∀ b, r ≠ .box b) : Evo W (W.rehome r r') (fun q _ => q ≠ r) where
  os := rfl
  tape := rfl
  output := rfl
  size := Nat.le_refl _
  cell _ _ _ := rfl
  lim _ := Nat.le_refl _
  shape _ c _ _ h := ⟨c, h, rfl⟩
  hold b q i ho hq := ⟨by simp [Wd.rehome, ho, hq], rfl⟩
  beta b i ho hb := ⟨hb, by simp [Wd.rehome, ho, (hr i).symm]⟩
  row i := ⟨Nat.le_refl _, fun _ ho => ⟨rfl, by simp [Wd.rehome, ho, (hr i).symm]⟩⟩
  away b _ ho := ⟨rfl, rfl, by simp [Wd.rehome, ho]⟩
theorem FRep.rehome {W : Wd} {r r' : Root} (hr : ∀ b, r ≠ .box b) {q : Option Root} {i : Nat} {f : FV} {v : Value} (h : FRep W q i f v) :
    FRep (W.rehome r r') (q.map fun q => if q = r then r' else q) i f v := by
  induction h with
  | undef => exact .undef
  | sc a b => exact .sc a b
  | @own q i l a len cap hp b =>
    refine .own hp ?_
    rcases b with b | ⟨e, x, c, T, fz, h0, h1, h2, h3, h4, h5, h6, h7, h8⟩
    · exact .inl b
    · refine .inr ⟨e, x, c, T, fz, h0, h1, h2, ?_, ?_, h5, h6, h7, h8⟩
      · cases q <;> simp_all
      · cases q with
        | none => simp at h3
        | some q => simp [Wd.rehome, h4]
  | emp => exact .emp
  | agg a _ ih => exact .agg a fun j f v hf hv => by simpa using ih j f v hf hv
  | @ptr _ _ b off hb =>
    exact FRep.ptr (W := W.rehome r r') (by simp [Wd.rehome, hb, (hr b).symm])
  | @bs _ _ b off n cap hb hn =>
    exact FRep.bs (W := W.rehome r r') (by simp [Wd.rehome, hb, (hr b).symm]) hn
  | @gr _ _ b g z n cap A hg hn hc =>
    refine FRep.gr (W := W.rehome r r') hg hn fun hB => ?_
    obtain ⟨q1, q2, q3⟩ := hc hB
    exact ⟨q1, by simp [Wd.rehome, q2, (hr b).symm], q3⟩
  | @gp _ _ b g off A hg hc =>
    refine FRep.gp (W := W.rehome r r') hg fun hB => ?_
    obtain ⟨q1, q2⟩ := hc hB
    exact ⟨q1, by simp [Wd.rehome, q2, (hr b).symm]⟩
  | nilp => exact .nilp
  | ea c a b d e g => exact .ea c a b d e g
  | tup a _ ih => exact .tup a fun j f v hf hv => ih j f v hf hv
  | oagg a _ ih => exact .oagg a fun j f v hf hv => ih j f v hf hv
  | fn a b _ _ ih1 ih2 => exact .fn a b (fun j f v hf hv => by simpa using ih1 j f v hf hv) (fun j f v hf hv => by simpa using ih2 j f v hf hv)
  | @ext q i k o z cap l a b =>
    refine .ext a ?_
    obtain ⟨h1, h2, h3, h4, h5, h6, h7⟩ := b
    cases q with
    | none => exact absurd rfl h1
    | some q => exact ⟨by simp, by simp [Wd.rehome, h2], h3, h4, h5, h6, h7⟩
  | exr => exact .exr
  | exq => exact .exq
def Wd.rehome1 (W : Wd) (r : Root) (i : Nat) (r' : Root) (i' : Nat) : Wd := { W with o := fun b => if W.o b = some (r, i) then some (r', i') else W.o b }
theorem Evo.rehome1 (W : Wd) {r r' : Root} {i i' : Nat} (hr : ∀ b, r ≠ .box b) : Evo W (W.rehome1 r i r' i') (fun q j => ¬ (q = r ∧ j = i)) where
  os := rfl
  tape := rfl
  output := rfl
  size := Nat.le_refl _
  cell _ _ _ := rfl
  lim _ := Nat.le_refl _
  shape _ c _ _ h := ⟨c, h, rfl⟩
  hold b q j ho hq := ⟨by simp only [Wd.rehome1, ho, Option.some.injEq, Prod.mk.injEq]; rw [if_neg hq], rfl⟩
  beta b j ho hb := ⟨hb, by simp only [Wd.rehome1, ho, Option.some.injEq, Prod.mk.injEq]; rw [if_neg (fun h => (hr j) h.1.symm)]⟩
  row j := ⟨Nat.le_refl _, fun _ ho => ⟨rfl, by simp only [Wd.rehome1, ho, Option.some.injEq, Prod.mk.injEq]; rw [if_neg (fun h => (hr j) h.1.symm)]⟩⟩
  away b _ ho := ⟨rfl, rfl, by simp [Wd.rehome1, ho]⟩
theorem FRep.rehomed1 {W : Wd} {r r' : Root} {i i' : Nat} (hr : ∀ b, r ≠ .box b) {f : FV} {v : Value} (h : FRep W (some r) i f v) (ht : f.isTup = false) :
    FRep (W.rehome1 r i r' i') (some r') i' f v := by
  have hE := Evo.rehome1 W (r := r) (r' := r') (i := i) (i' := i') hr
  cases h with
  | undef => exact .undef
  | sc a b => exact .sc a b
  | @own _ _ l a len cap hp b =>
    refine .own hp ?_
    rcases b with b | ⟨e, x, c, T, fz, h0, h1, h2, h3, h4, h5, h6, h7, h8⟩
    · exact .inl b
    · exact .inr ⟨e, x, c, T, fz, h0, h1, h2, by simp, by simp [Wd.rehome1, h4], h5, h6, h7, h8⟩
  | emp => exact .emp
  | agg a b => exact .agg a fun j f v hf hv => (b j f v hf hv).mono hE (by simp)
  | @ptr _ _ b off hb =>
    refine FRep.ptr (W := W.rehome1 r i r' i') ?_
    have : ¬ (Root.box b = r ∧ 0 = i) := fun h => hr b h.1.symm
    simp [Wd.rehome1, hb, this]
  | @bs _ _ b off n cap hb hn =>
    refine FRep.bs (W := W.rehome1 r i r' i') ?_ hn
    have : ¬ (Root.box b = r ∧ 0 = i) := fun h => hr b h.1.symm
    simp [Wd.rehome1, hb, this]
  | gr a n c => exact (FRep.gr (r := none) (i := 0) a n c).mono hE (by simp) |>.weaken rfl
  | gp a c => exact (FRep.gp (r := none) (i := 0) a c).mono hE (by simp) |>.weaken rfl
  | nilp => exact .nilp
  | ea c a b d e g => exact .ea c a b d e g
  | tup => simp [FV.isTup] at ht
  | oagg => simp [FV.isTup] at ht
  | fn a b c d => exact .fn a b (fun j f v hf hv => (c j f v hf hv).mono hE (by simp)) (fun j f v hf hv => (d j f v hf hv).mono hE (by simp))
  | ext a b =>
    obtain ⟨h1, h2, h3, h4, h5, h6, h7⟩ := b
    exact .ext a ⟨by simp, by simp [Wd.rehome1, h2], h3, h4, h5, h6, h7⟩
  | exr => exact .exr
  | exq => exact .exq
theorem FRep.rehomed {W : Wd} {r r' : Root} (hr : ∀ b, r ≠ .box b) {i : Nat} {f : FV} {v : Value} (h : FRep W (some r) i f v) :
    FRep (W.rehome r r') (some r') i f v := by simpa using h.rehome (r' := r') hr
end Go.Proofs.YtlbjfjaleefiiaaDoor.Ev
end
section
namespace Go.Proofs.YtlbjfjaleefiiaaDoor.Ev
open Go
structure Ctx where
  P : Program
  laid : Nat → Option (List PV)
  keep : World → Prop
  mapT : TypeId
  maps : Nat → Option (ByteArray → Option Int)
  mapsOk : ∀ (w0 w : World) (g b : Nat) (T : ByteArray → Option Int) (s : ByteArray), keep w0 → (∀ b, b < w0.heap.size → w.heap[b]? = w0.heap[b]?) → maps g = some T → s.size ≤ 9223372036854775807 → w.cell? ⟨g, 0, none⟩ = some (.map (some b)) →
    (Instr.lookup mapT (.map (some b)) (.string s) true).run P w = .ok (.tuple #[.int .i32 ((T s).getD 0), .bool (T s).isSome]) w
abbrev Env := List (Nat × FV)
abbrev Heap := List (List FV)
def Env.get : Env → Nat → FV
  | [], _ => .undef
  | (s, f) :: e, t => if s = t then f else Env.get e t
def Env.put (e : Env) (d : Option Nat) (f : FV) : Env :=
  match d with
  | some d => (d, f) :: e
  | none => e
def keep (vars : List Nat) (e : Env) : Env := vars.map fun t => (t, e.get t)
def FV.isLeaf : FV → Bool
  | .sc p => p.isLeaf
  | .own _ | .emp | .ptr .. | .bs .. | .gr .. | .gp .. | .nilp | .ea _ | .fn .. | .ext .. | .exr .. | .exq .. => true
  | .agg _ | .tup _ | .row .. | .oagg _ | .undef => false
def FV.cells : FV → Option (List FV)
  | .agg l => some l
  | .sc p => some [.sc p]
  | .own l => some [.own l]
  | .emp => some [.own []]
  | .ptr b o => some [.ptr b o]
  | .bs b o n => some [.bs b o n]
  | .gr b g z n => some [.gr b g z n]
  | .gp b g o => some [.gp b g o]
  | .nilp => some [.nilp]
  | .ea l => some [.ea l]
  | .fn f a b => some [.fn f a b]
  | .ext k o z l => some [.ext k o z l]
  | .exr k o n r => some [.exr k o n r]
  | .exq k o r => some [.exq k o r]
  | _ => none
def FV.home : FV → FV
  | .emp => .own []
  | .sc p => .sc p
  | .own l => .own l
  | .agg l => .agg l
  | .ptr b o => .ptr b o
  | .bs b o n => .bs b o n
  | .gr b g z n => .gr b g z n
  | .gp b g o => .gp b g o
  | .row g l => .row g l
  | .oagg l => .oagg l
  | .nilp => .nilp
  | .ea l => .ea l
  | .tup l => .tup l
  | .fn f a b => .fn f a b
  | .ext k o z l => .ext k o z l
  | .exr k o n r => .exr k o n r
  | .exq k o r => .exq k o r
  | .undef => .undef
def FV.asList : FV → Option (List PV)
  | .own l => some l
  | .sc (.sl l) => some l
  | .emp => some []
  | _ => none
def FV.leafPV : FV → Option PV
  | .sc p => some p
  | .own l => some (.sl l)
  | .emp => some (.sl [])
  | _ => none
def allPV : List FV → Option (List PV)
  | [] => some []
  | f :: l => match f.leafPV, allPV l with
    | some p, some q => some (p :: q)
    | _, _ => none
def FV.toPV : FV → Option PV
  | .agg l => (allPV l).map .agg
  | f => f.leafPV
def PV.toFV : PV → FV
  | .agg l => .agg (l.map .sc)
  | .int k n => .sc (.int k n)
  | .bool b => .sc (.bool b)
  | .str s => .sc (.str s)
  | .sl l => .sc (.sl l)
  | .mp g => .sc (.mp g)
def FV.ofValue : Value → Option FV
  | .int k n => some (.sc (.int k n))
  | .bool b => some (.sc (.bool b))
  | .string s => some (.sc (.str s))
  | .slice none 0 0 => some .emp
  | .pointer none => some .nilp
  | _ => none
def FV.ofValues : List Value → Option (List FV)
  | [] => some []
  | v :: l => match FV.ofValue v, FV.ofValues l with
    | some f, some r => some (f :: r)
    | _, _ => none
def FV.ofConst (v : Value) : Option FV :=
  match v with
  | .agg cs => (FV.ofValues cs.toList).map .agg
  | v => FV.ofValue v
def rd (C : Ctx) (e : Env) : Operand → Option FV
  | .tmp t => some (e.get t)
  | .const v => FV.ofConst v
  | .func f => some (.fn f [] [])
  | .global g => (C.laid g).map .ea
def szOf (P : Program) (t : TypeId) : Option Nat := (P.info? t).map (·.size)
def zeroOf (P : Program) (t : TypeId) : Option Value := (P.info? t).bind (·.zero)
def bytesOf (P : Program) (t : TypeId) : Option Nat := (P.info? t).map (·.bytes)
def aggOf (P : Program) (t : TypeId) : Option Bool :=
  match P.underlying t with
  | some (.struct _) => some true
  | some (.array _ _) => some true
  | some _ => some false
  | none => none
def fieldOf (P : Program) (s : TypeId) (f : Nat) : Option Field :=
  match P.underlying s with
  | some (.struct fs) => fs[f]?
  | _ => none
def partOf (P : Program) (t : TypeId) (l : List FV) (off : Nat) : Option FV :=
  match aggOf P t, szOf P t with
  | some true, some n => if off + n ≤ l.length then some (.agg ((l.drop off).take n)) else none
  | some false, _ => l[off]?
  | _, _ => none
def intBin (op : BinOp) (k : IntKind) (a b : Int) : Option PV :=
  match op with
  | .add => some (.int k (k.wrap (a + b)))
  | .sub => some (.int k (k.wrap (a - b)))
  | .mul => some (.int k (k.wrap (a * b)))
  | .eql => some (.bool (decide (a = b)))
  | .neq => some (.bool (!decide (a = b)))
  | .lss => some (.bool (decide (a < b)))
  | .leq => some (.bool (decide (a ≤ b)))
  | .gtr => some (.bool (decide (b < a)))
  | .geq => some (.bool (decide (b ≤ a)))
  | .quo => if b = 0 then none else some (.int k (k.wrap (a.tdiv b)))
  | .rem => if b = 0 then none else some (.int k (a.tmod b))
  | .and => some (.int k (k.wrap (BitVec.ofInt k.bits a &&& BitVec.ofInt k.bits b).toNat))
  | .or => some (.int k (k.wrap (BitVec.ofInt k.bits a ||| BitVec.ofInt k.bits b).toNat))
  | .xor => some (.int k (k.wrap (BitVec.ofInt k.bits a ^^^ BitVec.ofInt k.bits b).toNat))
  | .andNot => some (.int k (k.wrap (BitVec.ofInt k.bits a &&& ~~~ BitVec.ofInt k.bits b).toNat))
  | _ => none
def strBin (op : BinOp) (a b : ByteArray) : Option PV :=
  match op with
  | .add => if a.size + b.size ≤ 1099511627776 then some (.str (a ++ b)) else none
  | .eql => some (.bool (decide (a = b)))
  | .neq => some (.bool (!decide (a = b)))
  | _ => none
inductive Tag where
  | int | bool | str
def tagsFrom (P : Program) : Nat → List Field → Option (List Tag)
  | _, [] => some []
  | i, f :: l => if f.offset = i ∧ f.name ≠ "_" then (match P.underlying f.type, tagsFrom P (i + 1) l with
    | some (.int _), some r => some (.int :: r)
    | some .bool, some r => some (.bool :: r)
    | some .string, some r => some (.str :: r)
    | _, _ => none) else none
def tagsOf (P : Program) (t : TypeId) : Option (List Tag) :=
  match P.underlying t with
  | some (.struct fs) => if P.stoodInHeld t = false ∧ P.eqGuardType P.depth t = false then tagsFrom P 0 fs.toList else none
  | _ => none
def eqAll : List Tag → List FV → List FV → Option Bool
  | [], [], [] => some true
  | .int :: ts, .sc (.int k a) :: l, .sc (.int k' b) :: m => if k = k' then (eqAll ts l m).map (decide (a = b) && ·) else none
  | .bool :: ts, .sc (.bool a) :: l, .sc (.bool b) :: m => (eqAll ts l m).map ((a == b) && ·)
  | .str :: ts, .sc (.str a) :: l, .sc (.str b) :: m => (eqAll ts l m).map (decide (a = b) && ·)
  | _, _, _ => none
def binOf (P : Program) (op : BinOp) (t : TypeId) : FV → FV → Option FV
  | .sc (.int k a), .sc (.int k' b) =>
    match op with
    | .shl => if 0 ≤ b then some (.sc (.int k (k.wrap (a * 2 ^ (min b.toNat k.bits))))) else none
    | .shr => if 0 ≤ b then some (.sc (.int k (a.fdiv (2 ^ (min b.toNat k.bits))))) else none
    | _ => if k = k' then (intBin op k a b).map .sc else none
  | .sc (.str a), .sc (.str b) => (strBin op a b).map .sc
  | .sc (.bool a), .sc (.bool b) =>
    match op, P.underlying t with
    | .eql, some .bool => some (.sc (.bool (a == b)))
    | .neq, some .bool => some (.sc (.bool (!(a == b))))
    | _, _ => none
  | .ptr _ _, .nilp =>
    match op, P.underlying t with
    | .eql, some (.pointer _) => some (.sc (.bool false))
    | .neq, some (.pointer _) => some (.sc (.bool true))
    | _, _ => none
  | .agg l, .agg m =>
    match tagsOf P t with
    | some ts => (match op, eqAll ts l m with
      | .eql, some b => some (.sc (.bool b))
      | .neq, some b => some (.sc (.bool (!b)))
      | _, _ => none)
    | none => none
  | .nilp, .nilp =>
    match op, P.underlying t with
    | .eql, some (.pointer _) => some (.sc (.bool true))
    | .neq, some (.pointer _) => some (.sc (.bool false))
    | _, _ => none
  | _, _ => none
def unOf (op : UnOp) : FV → Option FV
  | .sc (.bool b) => match op with
    | .not => some (.sc (.bool (!b)))
    | _ => none
  | .sc (.int k n) => match op with
    | .neg => some (.sc (.int k (k.wrap (0 - n))))
    | _ => none
  | _ => none
def byteOf : PV → Option UInt8
  | .int .u8 n => if n = ((UInt8.ofNat n.toNat).toNat : Int) then some (UInt8.ofNat n.toNat) else none
  | _ => none
def bytesFrom : List PV → Option (List UInt8)
  | [] => some []
  | p :: l => match byteOf p, bytesFrom l with
    | some b, some r => some (b :: r)
    | _, _ => none
def strOf (l : List PV) : Option ByteArray := (bytesFrom l).map fun b => ⟨b.toArray⟩
def runesOf : List PV → Option (List Int)
  | [] => some []
  | .int .i32 n :: l => (runesOf l).map (n :: ·)
  | _ :: _ => none
def convOf (P : Program) (src dst : TypeId) : FV → Option FV
  | .sc (.int _ n) => match P.underlying src, P.underlying dst with
    | some _, some (.int k) => some (.sc (.int k (k.wrap n)))
    | some (.int _), some .string => some (.sc (.str (Utf8.encode n)))
    | _, _ => none
  | .sc (.str s) => match P.underlying src, P.underlying dst with
    | some .string, some .string => some (.sc (.str s))
    | _, _ => none
  | f => match f.asList, P.underlying src, P.underlying dst with
    | some l, some (.slice el), some .string => match P.underlying el, strOf l, runesOf l with
      | some (.int .u8), some s, _ => some (.sc (.str s))
      | some (.int .i32), _, some ns => some (.sc (.str (runesBytes ns)))
      | _, _, _ => none
    | _, _, _ => none
def rowOf (H : Heap) (b : Nat) : Option (Nat × List FV) :=
  match H.getD b [] with
  | [.row g l] => some (g, l)
  | _ => none
def body : List FV → List FV
  | [.row _ l] => l
  | fs => fs
def rowK : List FV → Nat
  | [.row _ _] => 1
  | _ => 0
def loOf : Option FV → Nat → Option Nat
  | none, _ => some 0
  | some (.sc (.int _ i)), h => if 0 ≤ i ∧ i ≤ (h : Int) then some i.toNat else none
  | _, _ => none
def hiOf : Option FV → Nat → Option Nat
  | none, n => some n
  | some (.sc (.int _ i)), n => if 0 ≤ i ∧ i ≤ (n : Int) then some i.toNat else none
  | _, _ => none
def rdo (C : Ctx) (e : Env) : Option Operand → Option (Option FV)
  | none => some none
  | some x => (rd C e x).map some
def sizedB (n : Nat) (l : List PV) : Bool := l.all fun p => p.leaves.length == n
def sliceOf (P : Program) (t : TypeId) (x : FV) (lo hi : Option FV) : Option FV :=
  match P.underlying t with
  | some .string => match x with
    | .sc (.str s) => match hiOf hi s.size with
      | some h => match loOf lo h with
        | some l => some (.sc (.str (s.extract l h)))
        | none => none
      | none => none
    | _ => none
  | some (.slice el) => match x with
   | .bs b off len => match szOf P el, hiOf hi len with
     | some n, some h => match loOf lo h with
       | some i => if i = 0 then some (.bs b off h) else if i < h then some (.bs b (off + i * n) (h - i)) else some (.sc (.sl []))
       | none => none
     | _, _ => none
   | .gr b g z len => match szOf P el, hiOf hi len with
     | some _, some h => match loOf lo h with
       | some i => if i = 0 then some (.gr b g z h) else none
       | none => none
     | _, _ => none
   | .emp => match szOf P el, hiOf hi 0 with
     | some _, some h => match loOf lo h with
       | some _ => some .emp
       | none => none
     | _, _ => none
   | x => match x.asList, szOf P el with
    | some l, some n => if sizedB n l then match hiOf hi l.length with
      | some h => match loOf lo h with
        | some i => some (.sc (.sl ((l.take h).drop i)))
        | none => none
      | none => none
      else none
    | _, _ => none
  | _ => none
def fillOf (place : Nat → Option (Nat × Nat)) (cells : List FV) : List (Nat × FV) → Option (List FV)
  | [] => some cells
  | (i, f) :: rest => match place i, f.cells with
    | some (off, n), some l => if l.length = n ∧ off + n ≤ cells.length then fillOf place (cells.take off ++ l ++ cells.drop (off + n)) rest else none
    | _, _ => none
def rdParts (C : Ctx) (e : Env) : List (Nat × Operand) → Option (List (Nat × FV))
  | [] => some []
  | (i, x) :: l => match rd C e x, rdParts C e l with
    | some f, some r => some ((i, demote f) :: r)
    | _, _ => none
def fieldPlaces (P : Program) : List Field → Option (List (Nat × Nat))
  | [] => some []
  | f :: l => match szOf P f.type, fieldPlaces P l with
    | some n, some r => some ((f.offset, n) :: r)
    | _, _ => none
def buildOf (C : Ctx) (e : Env) (t : TypeId) (parts : List (Nat × Operand)) : Option FV :=
  match zeroOf C.P t, C.P.underlying t, rdParts C e parts with
  | some (.agg z), some (.struct fs), some ps => match FV.ofValues z.toList, fieldPlaces C.P fs.toList with
    | some zs, some pl => (fillOf (fun i => pl[i]?) zs ps).map .agg
    | _, _ => none
  | some (.agg z), some (.array _ el), some ps => match FV.ofValues z.toList, szOf C.P el with
    | some zs, some n => (fillOf (fun i => some (i * n, n)) zs ps).map .agg
    | _, _ => none
  | _, _, _ => none
def nilArg : Operand → Bool
  | .const (.slice none 0 0) => true
  | _ => false
def rdAll (C : Ctx) (e : Env) : List Operand → Option (List FV)
  | [] => some []
  | x :: l => match rd C e x, rdAll C e l with
    | some f, some r => some ((if nilArg x = true then .emp else demote f) :: r)
    | _, _ => none
def minFrom (k : IntKind) : Int → List FV → Option FV
  | a, [] => some (.sc (.int k a))
  | a, .sc (.int _ b) :: l => minFrom k (if b < a then b else a) l
  | _, _ => none
def maxFrom (k : IntKind) : Int → List FV → Option FV
  | a, [] => some (.sc (.int k a))
  | a, .sc (.int _ b) :: l => maxFrom k (if a < b then b else a) l
  | _, _ => none
def foldMin : List FV → Option FV
  | .sc (.int k a) :: l => minFrom k a l
  | _ => none
def foldMax : List FV → Option FV
  | .sc (.int k a) :: l => maxFrom k a l
  | _ => none
def lenOf (P : Program) (t : TypeId) (f : FV) : Option FV :=
  match P.underlying t with
  | some .string => match f with
    | .sc (.str s) => some (.sc (.int .i64 s.size))
    | _ => none
  | some (.slice _) => match f with
    | .bs _ _ n => some (.sc (.int .i64 n))
    | .gr _ _ _ n => some (.sc (.int .i64 n))
    | f => f.asList.map fun l => .sc (.int .i64 l.length)
  | _ => none
def valOp (C : Ctx) (e : Env) (H : Heap) : Op → Option FV
  | .move x => (rd C e x).map demote
  | .pick c x y => match rd C e c with
    | some (.sc (.bool true)) => (rd C e x).map demote
    | some (.sc (.bool false)) => (rd C e y).map demote
    | _ => none
  | .load t x => match rd C e x with
    | some (.ptr b off) => partOf C.P t ((H.getD b []).map demote1) off
    | some (.gp b g off) => match rowOf H b with
      | some (g', l) => if g' = g then partOf C.P t (l.map demote1) off else none
      | none => none
    | some (.ea l) => partOf C.P t (l.map .sc) 0
    | _ => none
  | .fieldAddr s x f => match fieldOf C.P s f with
    | some fd => match szOf C.P fd.type with
      | some (_ + 1) => match rd C e x with
        | some (.ptr b off) => some (.ptr b (off + fd.offset))
        | some (.gp b g off) => some (.gp b g (off + fd.offset))
        | some (.ea l) => some (.ea (l.drop fd.offset))
        | _ => none
      | _ => none
    | none => none
  | .field s x f => match fieldOf C.P s f, rd C e x with
    | some fd, some (.agg l) => partOf C.P fd.type l fd.offset
    | _, _ => none
  | .indexAddr t x ix => match C.P.underlying t, rd C e x, rd C e ix with
    | some (.slice el), some (.bs b off n), some (.sc (.int _ i)) => match szOf C.P el with
      | some (m + 1) => if 0 ≤ i ∧ i < (n : Int) then some (.ptr b (off + i.toNat * (m + 1))) else none
      | _ => none
    | some (.slice el), some (.gr b g z n), some (.sc (.int _ i)) => match szOf C.P el with
      | some (m + 1) => if z = m + 1 ∧ 0 ≤ i ∧ i < (n : Int) then some (.gp b g (i.toNat * (m + 1))) else none
      | _ => none
    | some (.slice el), some (.exr k o n _), some (.sc (.int _ i)) => match szOf C.P el, x with
      | some (m + 1), .tmp s => if 0 ≤ i ∧ i < (n : Int) then some (.exq k (o + i.toNat * (m + 1)) (.tmp s)) else none
      | _, _ => none
    | some (.slice el), some (.ext k o _ l), some (.sc (.int _ i)) => match szOf C.P el, x with
      | some (m + 1), .tmp s => if 0 ≤ i ∧ i < ((l.length + 1 : Nat) : Int) then some (.exq k (o + i.toNat * (m + 1)) (.tmp s)) else none
      | _, _ => none
    | some (.slice el), some f, some (.sc (.int _ i)) => match f.asList, szOf C.P el with
      | some l, some (n + 1) => if 0 ≤ i then match l[i.toNat]? with
        | some p => if p.leaves.length = n + 1 then some (.ea p.leaves) else none
        | none => none
        else none
      | _, _ => none
    | some (.array m el), some (.ea l), some (.sc (.int _ i)) => match szOf C.P el with
      | some n => if 0 ≤ i ∧ i < (m : Int) then some (.ea (l.drop (i.toNat * n))) else none
      | _ => none
    | some (.array m el), some (.ptr b off), some (.sc (.int _ i)) => match szOf C.P el with
      | some n => if 0 ≤ i ∧ i < (m : Int) then some (.ptr b (off + i.toNat * n)) else none
      | _ => none
    | _, _, _ => none
  | .index t x ix => match C.P.underlying t, rd C e x, rd C e ix with
    | some .string, some (.sc (.str s)), some (.sc (.int _ i)) => if 0 ≤ i then (s.data[i.toNat]?).map fun b => .sc (.int .u8 b.toNat) else none
    | _, _, _ => none
  | .lookup t x ix true => match rd C e x, rd C e ix with
    | some (.sc (.mp g)), some (.sc (.str s)) => match C.maps g with
      | some T => if t = C.mapT ∧ s.size ≤ 9223372036854775807 then some (.tup [.sc (.int .i32 ((T s).getD 0)), .sc (.bool (T s).isSome)]) else none
      | none => none
    | _, _ => none
  | .binOp op t x y _ => match rd C e x, rd C e y with
    | some f, some g => binOf C.P op t f g
    | _, _ => none
  | .unOp op _ x => match rd C e x with
    | some f => unOf op f
    | none => none
  | .convert s d x => match rd C e x with
    | some f => convOf C.P s d f
    | none => none
  | .slice t x lo hi none => match rd C e x, rdo C e lo, rdo C e hi with
    | some f, some l, some h => sliceOf C.P t f l h
    | _, _, _ => none
  | .build t parts => buildOf C e t parts.toList
  | .extract x i => match rd C e x with
    | some (.tup l) => (l[i]?).map demote
    | _ => none
  | .makeFunc (.func f) first cap => match rdAll C e first.toList, rdAll C e cap.toList with
    | some a, some b => some (.fn f a b)
    | _, _ => none
  | .nilCheck x => match rd C e x with
    | some (.ptr b o) => some (.ptr b o)
    | some (.gp b g o) => some (.gp b g o)
    | some (.ea l) => some (.ea l)
    | _ => none
  | .call { callee := .builtin b, args, argTypes } => match b with
    | .len => match args.toList, argTypes.toList with
      | [x], [t] => match rd C e x with
        | some f => lenOf C.P t f
        | none => none
      | _, _ => none
    | .min => match rdAll C e args.toList with
      | some l => foldMin l
      | none => none
    | .max => match rdAll C e args.toList with
      | some l => foldMax l
      | none => none
    | .cap => match args.toList, argTypes.toList with
      | [x], [t] => match C.P.underlying t, rd C e x with
        | some (.slice _), some .emp => some (.sc (.int .i64 0))
        | _, _ => none
      | _, _ => none
    | _ => none
  | _ => none
def give (C : Ctx) (e : Env) : Operand → Option (FV × Env)
  | .tmp t => some (e.get t, (t, demote (e.get t)) :: e)
  | x => (rd C e x).map (·, e)
def strip : FV → FV
  | .tup _ => .undef
  | .own l => .own l
  | .sc p => .sc p
  | .emp => .emp
  | .agg l => .agg l
  | .ptr b o => .ptr b o
  | .bs b o n => .bs b o n
  | .gr b g z n => .gr b g z n
  | .gp b g o => .gp b g o
  | .row g l => .row g l
  | .oagg l => .agg (l.map demote0)
  | .nilp => .nilp
  | .ea l => .ea l
  | .fn f a b => .fn f a b
  | .ext k o z l => .ext k o z l
  | .exr k o n r => .exr k o n r
  | .exq k o r => .exq k o r
  | .undef => .undef
def stripO : FV → FV
  | .oagg l => .oagg l
  | .tup _ => .undef
  | .own l => .own l
  | .sc p => .sc p
  | .emp => .emp
  | .agg l => .agg l
  | .ptr b o => .ptr b o
  | .bs b o n => .bs b o n
  | .gr b g z n => .gr b g z n
  | .gp b g o => .gp b g o
  | .row g l => .row g l
  | .nilp => .nilp
  | .ea l => .ea l
  | .fn f a b => .fn f a b
  | .ext k o z l => .ext k o z l
  | .exr k o n r => .exr k o n r
  | .exq k o r => .exq k o r
  | .undef => .undef
def Sized (n : Nat) (l : List PV) : Prop := ∀ p ∈ l, p.leaves.length = n
def lenMax : Nat := 137438953472
def bytesPV (s : ByteArray) : List PV := s.data.toList.map fun b => .int .u8 b.toNat
def FV.asRow : FV → Option (List PV)
  | .own l => some l
  | .sc (.sl l) => some l
  | .emp => some []
  | .sc (.str s) => some (bytesPV s)
  | _ => none
def splice (fs : List FV) (off : Nat) (l : List FV) : List FV := fs.take off ++ l ++ fs.drop (off + l.length)
def FV.np0 : FV → Bool
  | .sc _ | .own _ | .emp | .ea _ => true
  | .fn _ [] [] => true
  | _ => false
def FV.np1 : FV → Bool
  | .agg l => l.all FV.np0
  | .sc _ | .own _ | .emp | .ea _ => true
  | .fn _ [] [] => true
  | _ => false
def FV.noPtr : FV → Bool
  | .tup l => l.all FV.np1
  | .oagg l => l.all FV.np0
  | .agg l => l.all FV.np0
  | .sc _ | .own _ | .emp | .ea _ => true
  | .fn _ [] [] => true
  | _ => false
def dstOk (nt : Nat) : Option Nat → Prop
  | some d => d < nt
  | none => True
def mvOf (mv : List Nat) : Option Nat → Bool
  | some d => mv.contains d
  | none => false
def empd (mv : List Nat) : Option Nat → Bool
  | some d => mv.contains (d + 3000000)
  | none => false
def FV.homeE (b : Bool) (f : FV) : FV := if b = true then (match f with
    | .own [] => .emp
    | .emp => .emp
    | f => f.home) else f.home
def bytesConv (C : Ctx) (e : Env) (s d : TypeId) (x : Operand) : Option ByteArray :=
  match C.P.underlying s, C.P.underlying d, rd C e x with
  | some _, some (.slice el), some (.sc (.str t)) => match C.P.underlying el with
    | some (.int .u8) => some t
    | _ => none
  | _, _, _ => none
def boxed (mv : List Nat) : Option Nat → Bool
  | some d => mv.contains (d + 1000000)
  | none => false
def rowed (mv : List Nat) : Option Nat → Bool
  | some d => mv.contains (d + 2000000)
  | none => false
def KCall (e : Env) (dst : Option Nat) (K : Env → Heap → Prop) : FV → Heap → Prop := fun r H' => K (e.put dst r.home) H'
def NilQ (l : List PV) (sg : Bool) (e : Env) (dst : Option Nat) (H : Heap) (K : Env → Heap → Prop) : Prop := (l ≠ [] → K (e.put dst (.sc (.bool sg))) H) ∧ (l = [] → ∀ b, K (e.put dst (.sc (.bool b))) H)
def CallQ (call : FuncId → List FV → Heap → FV → Heap → Prop) (f : FuncId) (args : List FV) (H : Heap) (K : FV → Heap → Prop) : Prop := ∃ r H', call f args H r H' ∧ K r H'
def rowCells : FV → Option (List FV)
  | .oagg l => some l
  | f => f.cells
def scPV : FV → Option PV
  | .sc p => some p
  | _ => none
def scAll : List FV → Option (List PV)
  | [] => some []
  | f :: l => match scPV f, scAll l with
    | some p, some q => some (p :: q)
    | _, _ => none
def chunkPV (z : Nat) : Nat → List FV → Option (List PV)
  | 0, _ => some []
  | n + 1, c => match scAll (c.take z), chunkPV z n (c.drop z) with
    | some [p], some r => some (p :: r)
    | some ps, some r => some (.agg ps :: r)
    | _, _ => none
def copyd (mv : List Nat) : Option Nat → Bool
  | some d => mv.contains (d + 10000000)
  | none => false
def MoveQ (mv : List Nat) (dst : Option Nat) (m : Nat) (e : Env) (fh g : FV) (H : Heap) (K : Env → Heap → Prop) : Prop :=
  match g with
  | .gr b₂ g₂ z₂ n₂ => match rowOf H b₂ with
    | some (g₂', c) => if copyd mv dst = true then (g₂' = g₂ ∧ z₂ = m + 1 ∧ n₂ * (m + 1) ≤ c.length ∧ rowed mv dst = true ∧ (match fh with
      | .own l => (match chunkPV (m + 1) n₂ c with
        | some r => Sized (m + 1) l ∧ l.length + n₂ ≤ lenMax ∧ K (e.put dst (.own (l ++ r))) H
        | none => False)
      | _ => False))
      else (g₂' = g₂ ∧ z₂ = m + 1 ∧ c.length = n₂ * (m + 1) ∧ 0 < n₂ ∧ rowed mv dst = true ∧ (match fh with
      | .own l => l = [] ∧ n₂ ≤ lenMax ∧ K (e.put dst (.gr H.length 0 (m + 1) n₂)) (H.set b₂ [.row g₂' []] ++ [[.row 0 c]])
      | .gr b gb zb n => match rowOf H b with
        | some (g', l) => g' = gb ∧ zb = m + 1 ∧ b ≠ b₂ ∧ n * (m + 1) ≤ l.length ∧ n + n₂ ≤ lenMax ∧ K (e.put dst (.gr b (gb + 1) (m + 1) (n + n₂))) ((H.set b₂ [.row g₂' []]).set b [.row (gb + 1) (l.take (n * (m + 1)) ++ c)])
        | none => False
      | _ => False))
    | none => False
  | _ => False
def isAppend : Builtin → Bool
  | .append => true
  | _ => false
def isClear : Builtin → Bool
  | .clear => true
  | _ => false
def nilRow : Operand → Bool
  | .const (.slice none n m) => n == 0 && m == 0
  | _ => false
def zeroed (mv : List Nat) : Option Nat → Bool
  | some d => mv.contains (d + 4000000)
  | none => false
def ZerosQ (C : Ctx) (e : Env) (dst : Option Nat) (args : List Operand) (ts : List TypeId) (H : Heap) (K : Env → Heap → Prop) : Prop :=
  match args, ts with
  | [x, y], [t, u] => match C.P.underlying t, C.P.underlying u with
    | some (.slice el), some (.int _) => match szOf C.P el, zeroOf C.P el, bytesOf C.P el, rd C e x, rd C e y with
      | some (m + 1), some z, some bs, some f, some (.sc (.int _ k)) => f.home = .own [] ∧ z.cells.size = m + 1 ∧ 0 < k ∧ k ≤ (lenMax : Int) ∧ 0 < bs ∧ bs ≤ 256 ∧ K (e.put dst (.gr H.length 0 (m + 1) k.toNat)) (H ++ [[.row 0 []]])
      | _, _, _, _, _ => False
    | _, _ => False
  | _, _ => False
def pended (mv : List Nat) : Option Nat → Bool
  | some d => mv.contains (d + 5000000)
  | none => false
def PendQ (C : Ctx) (e : Env) (dst : Option Nat) (args : List Operand) (ts : List TypeId) (H : Heap) (K : Env → Heap → Prop) : Prop :=
  match args, ts with
  | [x, y], t :: u :: _ => match C.P.underlying t, C.P.underlying u with
    | some (.slice el), some ud => match szOf C.P el, zeroOf C.P el, bytesOf C.P el, give C e x, rd C e y with
      | some (m + 1), some z, some bs, some (f, e'), some g => match f.home, g.asRow with
        | .own l, some [p] => (∀ k, ud ≠ .int k) ∧ z.cells.size = m + 1 ∧ 0 < bs ∧ bs ≤ 256 ∧ Sized (m + 1) l ∧ p.leaves.length = m + 1 ∧ l.length + 1 ≤ lenMax ∧ ∀ k o, K (e'.put dst (.ext k o (m + 1) l)) H
        | _, _ => False
      | _, _, _, _, _ => False
    | _, _ => False
  | _, _ => False
def located (b off : Nat) (y : Operand) (f : FV) (e : Env) : Env :=
  match y, f with
  | .tmp t, .ext k o _ l => (t, .exr k o (l.length + 1) (.leaf b off)) :: e
  | _, _ => e
def pendSlots (mv : List Nat) (x : Operand) : List Nat :=
  match x with
  | .tmp i => mv.filterMap fun h => if 6000000 ≤ h ∧ h < 7000000 ∧ (h - 6000000) / 1000 = i then some (h % 1000) else none
  | _ => []
def setBody (fs : List FV) (off : Nat) (f : FV) : List FV :=
  match fs with
  | [.row g c] => [.row g (c.set off f)]
  | fs => fs.set off f
def callMode (mv : List Nat) : Option Nat → Nat
  | some d => if mv.contains (d + 8000000) = true then 1 else if mv.contains (d + 9000000) = true then 2 else 0
  | none => 0
def GenOk (W : Wd) (b : Nat) : List FV → Prop
  | [.row g _] => W.gen b = g
  | _ => True
def Own (W : Wd) (b : Nat) (fs : List FV) : Prop := W.o (W.β b) = some (.box b, rowK fs) ∧ GenOk W b fs
def Kept (C : Ctx) (W : Wd) : Prop := ∃ w0 : World, C.keep w0 ∧ w0.heap.size ≤ W.w.heap.size ∧ ∀ b, b < w0.heap.size → W.w.heap[b]? = w0.heap[b]? ∧ W.o b = none
structure HInv (C : Ctx) (H : Heap) (W : Wd) : Prop where
  box : ∀ (b : Nat) (fs : List FV), H[b]? = some fs → Own W b fs ∧ W.lim (W.β b) = 0 ∧ ∃ (c : Array Value) (T : TypeId) (fz : Nat × Nat),
    W.w.heap[W.β b]? = some (.cells c T fz) ∧ (body fs).length ≤ c.size ∧ Free fz c.size ∧ ∀ (i : Nat) (f : FV) (v : Value), (body fs)[i]? = some f → c[i]? = some v → f.isLeaf = true ∧ FRep W (some (.leaf b i)) 0 f v
  laid : ∀ (g : Nat) (ls : List PV), C.laid g = some ls → ∀ (j : Nat) (q : PV), ls[j]? = some q → q.isLeaf = true ∧ j < W.lim g ∧ ∃ v, W.w.cell? ⟨g, j, none⟩ = some v ∧ Rep W.w W.lim q v
  fresh : ∀ b, W.w.heap.size ≤ b → W.lim b = 0 ∧ W.o b = none
  boxes : ∀ b i k, W.o b = some (.box i, k) → i < H.length
  gen0 : ∀ b, H.length ≤ b → W.gen b = 0
  kept : Kept C W
def callable (P : Program) (f : FuncId) : Bool :=
  match P.funcs[f]? with
  | some fn => !(fn.name == "runtime.NumGoroutine") && fn.body.isSome
  | none => false
def PConH (C : Ctx) (f : FuncId) (args : List FV) (r : FV) : Prop :=
  ∀ (vs : List Value) (W : Wd), vs.length = args.length → (∀ (j : Nat) (g : FV) (v : Value), args[j]? = some g → vs[j]? = some v → FRep W (some (.tmp j)) 0 g v) → HInv C [] W →
    Calls C.P f vs.toArray W.w fun x w' => ∃ v W' J, x = .returned v ∧ W'.w = w' ∧ FRep W' (some .res) 0 r v ∧ HInv C J W' ∧ Evo W W' (fun _ _ => False)
def handed (mv : List Nat) : Option Nat → Bool
  | some d => mv.contains (d + 7000000)
  | none => false
def CallH (C : Ctx) (f : FuncId) (args : List FV) (K : FV → Prop) : Prop := ∃ r, callable C.P f = true ∧ args.all FV.noPtr = true ∧ r.noPtr = true ∧ PConH C f args r ∧ K r
def HandQ (C : Ctx) (e : Env) (dst : Option Nat) (x : Operand) (args : List Operand) (H : Heap) (K : Env → Heap → Prop) : Prop :=
  match rd C e x, args with
  | some (.fn f [] []), .tmp t :: ys => match rdAll C e ys with
    | some l => CallH C f (e.get t :: l) fun r => K (Env.put ((t, demote (e.get t)) :: e) dst r.home) H
    | none => False
  | _, _ => False
def wpOp (C : Ctx) (nt : Nat) (mv : List Nat) (call : Nat → FuncId → List FV → Heap → FV → Heap → Prop) (o : Oper) (e : Env) (H : Heap) (K : Env → Heap → Prop) : Prop :=
  dstOk nt o.dst ∧
  match o.op with
  | .assign x => match give C e x with
    | some (f, e') => K (e'.put o.dst f.home) H
    | none => False
  | .move x => if mvOf mv o.dst then (match give C e x with
      | some (f, e') => K (e'.put o.dst (f.homeE (empd mv o.dst))) H
      | none => False)
    else (match valOp C e H (.move x) with
      | some f => K (e.put o.dst f) H
      | none => False)
  | .extract x i => if mvOf mv o.dst then (match x, rd C e x with
      | .tmp t, some (.tup l) => match (l.map strip)[i]? with
        | some f => K ((Env.put ((t, .tup ((l.map strip).set i .undef)) :: e) o.dst f.home)) H
        | none => False
      | _, _ => False)
    else (match valOp C e H (.extract x i) with
      | some f => K (e.put o.dst f) H
      | none => False)
  | .load t x => if mvOf mv o.dst then (match rd C e x, aggOf C.P t with
      | some (.ptr b off), some false => match (H.getD b [])[off]? with
        | some f => K (e.put o.dst f) (H.set b ((H.getD b []).set off (demote f)))
        | none => False
      | some (.ptr b off), some true => match szOf C.P t with
        | some n => off + n ≤ (H.getD b []).length ∧ K (e.put o.dst (.oagg (((H.getD b []).drop off).take n))) (H.set b (splice (H.getD b []) off ((((H.getD b []).drop off).take n).map demote)))
        | none => False
      | some (.gp b g off), some false => match rowOf H b with
        | some (g', l) => g' = g ∧ (match l[off]? with
          | some f => K (e.put o.dst f) (H.set b [.row g (l.set off (demote f))])
          | none => False)
        | none => False
      | _, _ => False)
    else (match valOp C e H (.load t x) with
      | some f => K (e.put o.dst f) H
      | none => False)
  | .alloc t => match zeroOf C.P t with
    | some z => match FV.ofValues z.cells.toList with
      | some l => K (e.put o.dst (.ptr H.length 0)) (H ++ [l.map FV.home])
      | none => False
    | none => False
  | .box _ x => match give C e x with
    | some (f, e') => match f.cells with
      | some l => l.all FV.isLeaf = true ∧ K (e'.put o.dst (.ptr H.length 0)) (H ++ [l.map FV.home])
      | none => False
    | none => False
  | .store t x y => match rd C e x, give C e y, szOf C.P t with
    | some (.ptr b off), some (f, e'), some n => match rowCells f with
      | some l => l.all FV.isLeaf = true ∧ l.length = n ∧ off + n ≤ (H.getD b []).length ∧ K ((located b off y f e').put o.dst .undef) (H.set b (splice (H.getD b []) off (l.map FV.home)))
      | none => False
    | some (.gp b g off), some (f, e'), some n => match rowCells f, rowOf H b with
      | some l, some (g', c) => g' = g ∧ l.all FV.isLeaf = true ∧ l.length = n ∧ off + n ≤ c.length ∧ K ((located b off y f e').put o.dst .undef) (H.set b [.row g (splice c off (l.map FV.home))])
      | _, _ => False
    | some (.exq k q (.tmp s)), some (f, _), some n => s ∈ pendSlots mv x ∧ (match (demote f).toPV with
      | some p => (match e.get s with
        | .exr _ _ _ (.leaf b off) => (match (body (H.getD b []))[off]? with
          | some (.ext k' o' z l) => k' = k ∧ q = o' + l.length * z ∧ n = z ∧ p.leaves.length = z ∧ K (e.put o.dst .undef) (H.set b (setBody (H.getD b []) off (.own (l ++ [p]))))
          | _ => False)
        | .ext k' o' z l => k' = k ∧ q = o' + l.length * z ∧ n = z ∧ p.leaves.length = z ∧ K (Env.put ((s, .own (l ++ [p])) :: e) o.dst .undef) H
        | _ => False)
      | none => False)
    | _, _, _ => False
  | .buildSlice t n parts => if rowed mv o.dst = true then (match C.P.underlying t, parts.toList with
    | some (.slice el), [(0, x)] => match szOf C.P el, zeroOf C.P el, give C e x with
      | some (m + 1), some z, some (f, e') => match rowCells f with
        | some l => n = 1 ∧ m + 1 ≤ 16777216 ∧ z.cells.size = m + 1 ∧ l.all FV.isLeaf = true ∧ l.length = m + 1 ∧ K (e'.put o.dst (.gr H.length 0 (m + 1) 1)) (H ++ [[.row 0 (l.map FV.home)]])
        | none => False
      | _, _, _ => False
    | _, _ => False)
    else match C.P.underlying t with
    | some (.slice el) => match szOf C.P el, zeroOf C.P el, rdParts C e parts.toList with
      | some (m + 1), some z, some ps => n = ps.length ∧ ps.map (·.1) = List.range n ∧ n * (m + 1) ≤ 16777216 ∧ z.cells.size = m + 1 ∧ (match ps.mapM (fun p => p.2.toPV) with
        | some l => Sized (m + 1) l ∧ K (e.put o.dst (.own l)) H
        | none => False)
      | _, _, _ => False
    | _ => False
  | .binOp op t x y yt => if nilRow y = true then (match op, C.P.underlying t, rd C e x with
      | .eql, some (.slice _), some (.bs _ _ _) => K (e.put o.dst (.sc (.bool false))) H
      | .neq, some (.slice _), some (.bs _ _ _) => K (e.put o.dst (.sc (.bool true))) H
      | .eql, some (.slice _), some (.gr _ _ _ _) => K (e.put o.dst (.sc (.bool false))) H
      | .neq, some (.slice _), some (.gr _ _ _ _) => K (e.put o.dst (.sc (.bool true))) H
      | .eql, some (.slice _), some f => match f.asList with
        | some l => NilQ l false e o.dst H K
        | none => False
      | .neq, some (.slice _), some f => match f.asList with
        | some l => NilQ l true e o.dst H K
        | none => False
      | _, _, _ => False)
    else (match valOp C e H (.binOp op t x y yt) with
      | some f => K (e.put o.dst f) H
      | none => False)
  | .convert s d x => match bytesConv C e s d x with
    | some t => K (e.put o.dst (.sc (.sl (bytesPV t)))) H
    | none => (match valOp C e H (.convert s d x) with
      | some f => K (e.put o.dst f) H
      | none => False)
  | .call c => match c.callee with
    | .value x => if handed mv o.dst = true then HandQ C e o.dst x c.args.toList H K else (match rd C e x, rdAll C e c.args.toList with
      | some (.fn f first cap), some l => CallQ (call (callMode mv o.dst)) f (first ++ l ++ cap) H (KCall e o.dst K)
      | _, _ => False)
    | .builtin b => if (pended mv o.dst && isAppend b) = true then PendQ C e o.dst c.args.toList c.argTypes.toList H K else if (zeroed mv o.dst && isAppend b) = true then ZerosQ C e o.dst c.args.toList c.argTypes.toList H K else if isAppend b = true then (match c.args.toList, c.argTypes.toList with
      | [x, y], t :: u :: _ => match C.P.underlying t, C.P.underlying u with
        | some (.slice el), some ud => match szOf C.P el, zeroOf C.P el, bytesOf C.P el, give C e x, rd C e y with
          | some (m + 1), some z, some bs, some (f, e'), some g => match f.home, g.asRow with
            | .gr b gb zb n, some r => rowed mv o.dst = true ∧ (match rowOf H b with
              | some (g', l) => g' = gb ∧ zb = m + 1 ∧ n * (m + 1) ≤ l.length ∧ (∀ k, ud ≠ .int k) ∧ z.cells.size = m + 1 ∧ 0 < bs ∧ bs ≤ 256 ∧ Sized (m + 1) r ∧ n + r.length ≤ lenMax ∧ K (e'.put o.dst (.gr b (gb + 1) (m + 1) (n + r.length))) (H.set b [.row (gb + 1) (l.take (n * (m + 1)) ++ (r.flatMap PV.leaves).map .sc)])
              | none => False)
            | .own l, some r => if rowed mv o.dst = true then l = [] ∧ (if r.isEmpty = true then (∀ k, ud ≠ .int k) ∧ z.cells.size = m + 1 ∧ 0 < bs ∧ bs ≤ 256 ∧ K (e'.put o.dst (.own [])) H
              else (∀ k, ud ≠ .int k) ∧ z.cells.size = m + 1 ∧ 0 < bs ∧ bs ≤ 256 ∧ Sized (m + 1) r ∧ r.length ≤ lenMax ∧ K (e'.put o.dst (.gr H.length 0 (m + 1) r.length)) (H ++ [[.row 0 ((r.flatMap PV.leaves).map .sc)]]))
              else if boxed mv o.dst = true then l = [] ∧ r ≠ [] ∧ (∀ k, ud ≠ .int k) ∧ z.cells.size = m + 1 ∧ 0 < bs ∧ bs ≤ 256 ∧ Sized (m + 1) r ∧ r.length ≤ lenMax ∧ K (e'.put o.dst (.bs H.length 0 r.length)) (H ++ [(r.flatMap PV.leaves).map .sc])
              else (∀ k, ud ≠ .int k) ∧ z.cells.size = m + 1 ∧ 0 < bs ∧ bs ≤ 256 ∧ Sized (m + 1) l ∧ Sized (m + 1) r ∧ l.length + r.length ≤ lenMax ∧ K (e'.put o.dst (.own (l ++ r))) H
            | fh, none => (∀ k, ud ≠ .int k) ∧ z.cells.size = m + 1 ∧ 0 < bs ∧ bs ≤ 256 ∧ MoveQ mv o.dst m e' fh g H K
            | _, _ => False
          | _, _, _, _, _ => False
        | _, _ => False
      | _, _ => False)
      else if isClear b = true then (match c.args.toList, c.argTypes.toList with
      | [x], t :: _ => match C.P.underlying t, rd C e x with
        | some (.slice el), some (.bs b off n) => match szOf C.P el, zeroOf C.P el with
          | some (m + 1), some z => (FV.ofValues z.cells.toList).isSome = true ∧ z.cells.size = m + 1 ∧ off + n * (m + 1) ≤ (H.getD b []).length ∧ K (e.put o.dst .undef) (H.set b ((H.getD b []).take off))
          | _, _ => False
        | some (.slice _), some (.sc (.sl [])) => K (e.put o.dst .undef) H
        | _, _ => False
      | _, _ => False)
      else (match valOp C e H (.call c) with
        | some f => K (e.put o.dst f) H
        | none => False)
    | .invoke _ _ => False
  | op => match valOp C e H op with
    | some f => K (e.put o.dst f) H
    | none => False
def wanted (nt : Nat) (ops : Array Oper) (e : Env) (o : Oper) : Option Bool :=
  match o.guard with
  | none => some true
  | some (j, want) => match (ops[j]?).bind (·.dst) with
    | some d => if d < nt then (match e.get d with
      | .sc (.bool b) => some (b == want)
      | .tup [] => some false
      | _ => none) else none
    | none => none
def wpOps (C : Ctx) (nt : Nat) (mv : List Nat) (call : Nat → FuncId → List FV → Heap → FV → Heap → Prop) (ops : Array Oper) : List Oper → Env → Heap → (Env → Heap → Prop) → Prop
  | [], e, H, K => K e H
  | o :: l, e, H, K => match wanted nt ops e o with
    | some true => wpOp C nt mv call o e H (fun e' H' => wpOps C nt mv call ops l e' H' K)
    | some false => wpOps C nt mv call ops l (e.put o.dst (.tup [])) H K
    | none => False
inductive Ex where
  | normal
  | exit (id : Nat)
  | ret
def iterP (step : Env → Heap → (Ex → Env → Heap → Prop) → Prop) : Nat → Env → Heap → (Ex → Env → Heap → Prop) → Prop
  | 0, _, _, _ => False
  | k + 1, e, H, Q => step e H fun x e' H' => match x with
    | .normal => iterP step k e' H' Q
    | x => Q x e' H'
def resOf (C : Ctx) (e : Env) (H : Heap) : ResultVar → Option FV
  | .tmp t => some (strip (e.get t))
  | .cell t ty => match e.get t with
    | .ptr b off => partOf C.P ty ((H.getD b []).map demote1) off
    | _ => none
def resAll (C : Ctx) (e : Env) (H : Heap) : List ResultVar → Option (List FV)
  | [] => some []
  | r :: l => match resOf C e H r, resAll C e H l with
    | some f, some s => some (f :: s)
    | _, _ => none
def resultOf (C : Ctx) (e : Env) (H : Heap) (rs : List ResultVar) : Option FV :=
  match rs with
  | [.tmp t] => some (stripO (e.get t))
  | rs => match resAll C e H rs with
    | some [f] => some f
    | some l => some (.tup l)
    | none => none
def argsEnv : Nat → List FV → Env
  | _, [] => []
  | i, f :: l => (i, f) :: argsEnv (i + 1) l
end Go.Proofs.YtlbjfjaleefiiaaDoor.Ev
end
section
namespace Go.Proofs.YtlbjfjaleefiiaaDoor.Ev
open Go
theorem kind_cases (fs : List FV) : (rowK fs = 0 ∧ body fs = fs ∧ ∀ W b, GenOk W b fs) ∨ ∃ g l, fs = [.row g l] := by
  match fs with
  | [] => exact .inl ⟨rfl, rfl, fun _ _ => trivial⟩
  | f :: _ :: _ => cases f <;> exact .inl ⟨rfl, rfl, fun _ _ => trivial⟩
  | [f] => cases f <;> first | exact .inl ⟨rfl, rfl, fun _ _ => trivial⟩ | exact .inr ⟨_, _, rfl⟩
theorem Own.mono {A B : Wd} {keep : Root → Nat → Prop} (h : Evo0 A B keep) {b : Nat} {fs : List FV} (hg : B.gen b = A.gen b) (ho : Own A b fs) : Own B b fs ∧ B.β b = A.β b := by
  obtain ⟨h1, h2⟩ := ho
  rcases kind_cases fs with ⟨k1, k2, k3⟩ | ⟨g, l, rfl⟩
  · rw [k1] at h1
    obtain ⟨q1, q2⟩ := h.beta _ _ h1 rfl
    exact ⟨⟨by rw [q1, k1]; exact q2, k3 _ _⟩, q1⟩
  · obtain ⟨q1, q2⟩ := (h.row b).2 hg h1
    exact ⟨⟨by rw [q1]; exact q2, hg.trans h2⟩, q1⟩
theorem Kept.step {C : Ctx} {A B : Wd} (h : Kept C A) (hs : A.w.heap.size ≤ B.w.heap.size) (hh : ∀ b, b < A.w.heap.size → A.o b = none → B.w.heap[b]? = A.w.heap[b]? ∧ B.o b = none) : Kept C B := by
  obtain ⟨w0, h1, h2, h3⟩ := h
  exact ⟨w0, h1, Nat.le_trans h2 hs, fun b hb => by
    obtain ⟨q1, q2⟩ := h3 b hb
    obtain ⟨q3, q4⟩ := hh b (Nat.lt_of_lt_of_le hb h2) q2
    exact ⟨q3.trans q1, q4⟩⟩
theorem Kept.evo {C : Ctx} {A B : Wd} {keep : Root → Nat → Prop} (h : Kept C A) (hE : Evo A B keep) : Kept C B :=
  h.step hE.size fun b hb ho => let ⟨q1, _, q3⟩ := hE.away b hb ho; ⟨q1, q3⟩
theorem Kept.same {C : Ctx} {A B : Wd} (h : Kept C A) (hw : B.w.heap = A.w.heap) (ho : ∀ b, A.o b = none → B.o b = none) : Kept C B :=
  h.step (by rw [hw]; exact Nat.le_refl _) fun b _ hb => ⟨by rw [hw], ho b hb⟩
theorem HInv.box0 {C : Ctx} {H : Heap} {W : Wd} (h : HInv C H W) {b : Nat} {fs : List FV} (hfs : H[b]? = some fs) (ho : W.o (W.β b) = some (.box b, 0)) : rowK fs = 0 ∧ body fs = fs ∧ W.lim (W.β b) = 0 ∧ ∃ (c : Array Value) (T : TypeId) (fz : Nat × Nat),
    W.w.heap[W.β b]? = some (.cells c T fz) ∧ fs.length ≤ c.size ∧ Free fz c.size ∧ ∀ (i : Nat) (f : FV) (v : Value), fs[i]? = some f → c[i]? = some v → f.isLeaf = true ∧ FRep W (some (.leaf b i)) 0 f v := by
  obtain ⟨h1, h2, c, T, fz, h3, h4, h5, h6⟩ := h.box b fs hfs
  rcases kind_cases fs with ⟨k1, k2, k3⟩ | ⟨g, l, rfl⟩
  · rw [k2] at h4 h6
    exact ⟨k1, k2, h2, c, T, fz, h3, h4, h5, h6⟩
  · have := h1.1
    rw [ho] at this
    simp [rowK] at this
theorem HInv.row {C : Ctx} {H : Heap} {W : Wd} (h : HInv C H W) {b g : Nat} {l : List FV} (hr : rowOf H b = some (g, l)) : b < H.length ∧ H[b]? = some [.row g l] ∧ W.gen b = g ∧ W.o (W.β b) = some (.box b, 1) ∧ W.lim (W.β b) = 0 ∧ ∃ (c : Array Value) (T : TypeId) (fz : Nat × Nat),
    W.w.heap[W.β b]? = some (.cells c T fz) ∧ l.length ≤ c.size ∧ Free fz c.size ∧ ∀ (i : Nat) (f : FV) (v : Value), l[i]? = some f → c[i]? = some v → f.isLeaf = true ∧ FRep W (some (.leaf b i)) 0 f v := by
  have hfs : H[b]? = some [.row g l] := by
    unfold rowOf at hr
    split at hr
    · rename_i g' l' he
      simp at hr
      obtain ⟨rfl, rfl⟩ := hr
      rcases Nat.lt_or_ge b H.length with h' | h'
      · rw [List.getD_eq_getElem?_getD, List.getElem?_eq_getElem h'] at he
        rw [List.getElem?_eq_getElem h']
        exact congrArg some he
      · simp [List.getElem?_eq_none h'] at he
    · simp at hr
  obtain ⟨h1, h2, c, T, fz, h3, h4, h5, h6⟩ := h.box b _ hfs
  exact ⟨(List.getElem?_eq_some_iff.1 hfs).1, hfs, h1.2, h1.1, h2, c, T, fz, h3, h4, h5, h6⟩
structure Inv (C : Ctx) (nt : Nat) (e : Env) (H : Heap) (a : Act) (W : Wd) : Prop where
  heap : HInv C H W
  env : ∀ t, FRep W (some (.tmp t)) 0 (e.get t) (a.tmps.getD t undef)
  size : nt ≤ a.tmps.size
  defers : a.defers = []
section
variable {P : Program} {w : World}
theorem run_underlying' {t : TypeId} {d : TypeDesc} (h : P.underlying t = some d) : (underlying t).run P w = .ok d w := by simp [underlying, h]
theorem run_typeInfo' {t : TypeId} {d : TypeInfo} (h : P.info? t = some d) : (typeInfo t).run P w = .ok d w := by simp [typeInfo, h]
theorem run_sizeOf' {t : TypeId} {n : Nat} (h : szOf P t = some n) : (sizeOf t).run P w = .ok n w := by
  unfold szOf at h
  obtain ⟨i, hi, rfl⟩ := Option.map_eq_some_iff.1 h
  simp [sizeOf, run_typeInfo' hi]
theorem run_zeroValue' {t : TypeId} {v : Value} (h : zeroOf P t = some v) : (zeroValue t).run P w = .ok v w := by
  unfold zeroOf at h
  obtain ⟨i, hi, hz⟩ := Option.bind_eq_some_iff.1 h
  simp [zeroValue, run_typeInfo' hi, hz]
theorem run_isAgg' {t : TypeId} {b : Bool} (h : aggOf P t = some b) : (isAgg t).run P w = .ok b w := by
  unfold aggOf at h
  cases hu : P.underlying t with
  | none => simp [hu] at h
  | some d =>
    rw [hu] at h
    unfold isAgg
    simp only [Sem.run_bind, run_underlying' hu, Result.andThen_ok]
    cases d <;> simp_all
theorem Addr.add_none {A : Addr} (h : A.spot = none) (n : Nat) : A.add n = ⟨A.block, A.off + n, none⟩ := by
  unfold Addr.add
  split
  · subst_vars; cases A; simp_all
  · simp
theorem run_loadCellsFrom' {A : Addr} (g : Nat → Value) : ∀ (n i : Nat) (acc : Array Value), (∀ j, j < n → w.cell? (A.add (i + j)) = some (g (i + j))) →
    (loadCellsFrom A i n acc).run P w = .ok (acc ++ ((List.range' i n).map g).toArray) w := by
  intro n
  induction n with
  | zero => intro i acc _; simp [loadCellsFrom]
  | succ n ih =>
    intro i acc h
    have h0 := h 0 (by omega)
    simp only [Nat.add_zero] at h0
    have := ih (i + 1) (acc.push (g i)) (fun j hj => by have := h (j + 1) (by omega); rw [show i + 1 + j = i + (j + 1) by omega]; exact this)
    simp only [loadCellsFrom, Sem.run_bind, run_load, h0, Result.andThen_ok, this]
    simp [List.range'_succ]
theorem run_loadCells' {A : Addr} (g : Nat → Value) {n : Nat} (h : ∀ j, j < n → w.cell? (A.add j) = some (g j)) :
    (loadCells A n).run P w = .ok ((List.range n).map g).toArray w := by
  unfold loadCells
  rw [run_loadCellsFrom' g n 0 #[] (fun j hj => by simpa using h j hj)]
  simp [List.range_eq_range']
end
theorem Rep.leafValue {w : World} {lim : Nat → Nat} {p : PV} {v : Value} (h : Rep w lim p v) (hp : p.isLeaf = true) : v.oneCell' = true ∧ v.cells = #[v] := by
  cases h <;> simp_all [PV.isLeaf, Value.oneCell', Value.cells]
theorem FRep.leafValue {W : Wd} {r : Option Root} {i : Nat} {f : FV} {v : Value} (h : FRep W r i f v) (hf : f.isLeaf = true) : v.oneCell' = true ∧ v.cells = #[v] := by
  cases h with
  | sc a b => exact b.leafValue a
  | undef => simp [FV.isLeaf] at hf
  | agg => simp [FV.isLeaf] at hf
  | tup => simp [FV.isLeaf] at hf
  | oagg => simp [FV.isLeaf] at hf
  | _ => simp [Value.oneCell', Value.cells]
theorem cell_of_heap {w : World} {b : Nat} {c : Array Value} {T : TypeId} {fz : Nat × Nat} (h : w.heap[b]? = some (.cells c T fz)) (o : Nat) : w.cell? ⟨b, o, none⟩ = c[o]? := by
  simp [World.cell?, h]
theorem ofValue_rep {W : Wd} {v : Value} {f : FV} (h : FV.ofValue v = some f) : FRep W none 0 f v := by
  unfold FV.ofValue at h
  split at h <;> simp at h <;> subst h
  · exact .sc rfl .int
  · exact .sc rfl .bool
  · exact .sc rfl .str
  · exact .emp
  · exact .nilp
theorem ofValues_all {W : Wd} : ∀ {vs : List Value} {fs : List FV}, FV.ofValues vs = some fs → fs.length = vs.length ∧ ∀ (i : Nat) (f : FV) (v : Value), fs[i]? = some f → vs[i]? = some v → FRep W none 0 f v
  | [], fs, h => by simp [FV.ofValues] at h; subst h; simp
  | v :: vs, fs, h => by
    unfold FV.ofValues at h
    split at h
    · rename_i f r hf hr
      simp at h; subst h
      obtain ⟨h1, h2⟩ := ofValues_all (W := W) hr
      refine ⟨by simp [h1], fun i g u hg hu => ?_⟩
      cases i with
      | zero => simp at hg hu; subst hg hu; exact ofValue_rep hf
      | succ i => exact h2 i g u (by simpa using hg) (by simpa using hu)
    · simp at h
theorem ofConst_rep {W : Wd} {v : Value} {f : FV} (h : FV.ofConst v = some f) : FRep W none 0 f v := by
  unfold FV.ofConst at h
  split at h
  · rename_i cs
    rw [Option.map_eq_some_iff] at h
    obtain ⟨fs, hfs, rfl⟩ := h
    obtain ⟨h1, h2⟩ := ofValues_all (W := W) hfs
    exact .agg (by simpa using h1.symm) fun j f v hf hv => h2 j f v hf (by simpa using hv)
  · exact ofValue_rep h
theorem part_of {W : Wd} {P : Program} {t : TypeId} {l : List FV} {off : Nat} {f : FV} {c : Array Value} (hc : c.size = l.length)
    (hl : ∀ (i : Nat) (f : FV) (v : Value), l[i]? = some f → c[i]? = some v → FRep W none 0 f v) (h : partOf P t l off = some f) :
    ∃ v, (part t c off).run P W.w = .ok v W.w ∧ FRep W none 0 f v := by
  unfold partOf at h
  cases ha : aggOf P t with
  | none => simp [ha] at h
  | some b =>
    cases b with
    | false =>
      simp only [ha] at h
      have hlt : off < l.length := by
        rcases Nat.lt_or_ge off l.length with h' | h'
        · exact h'
        · simp [List.getElem?_eq_none h'] at h
      have hv : c[off]? = some c[off] := by simp [hc, hlt]
      refine ⟨c[off], ?_, hl off f _ h hv⟩
      unfold part
      simp [run_isAgg' ha, hc, hlt]
    | true =>
      cases hn : szOf P t with
      | none => simp [ha, hn] at h
      | some n =>
        simp only [ha, hn] at h
        split at h
        · rename_i hle
          simp at h; subst h
          refine ⟨.agg (c.extract off (off + n)), ?_, ?_⟩
          · unfold part; simp [run_isAgg' ha, run_sizeOf' hn]
          · refine .agg (by simp; omega) fun j f v hf hv => ?_
            have hj : j < n := by
              rcases Nat.lt_or_ge j n with h' | h'
              · exact h'
              · rw [List.getElem?_take_eq_none h'] at hf; simp at hf
            rw [List.getElem?_take_of_lt hj, List.getElem?_drop] at hf
            refine hl (off + j) f v hf ?_
            rw [Array.getElem?_extract] at hv
            split at hv
            · exact hv
            · simp at hv
        · simp at h
theorem loadVar_of {W : Wd} {P : Program} {t : TypeId} {l : List FV} {off : Nat} {f : FV} {A : Addr} {g : Nat → Value} (hs : A.spot = none)
    (hc : ∀ (i : Nat) (f : FV), l[i + off]? = some f → W.w.cell? ⟨A.block, A.off + i, none⟩ = some (g i))
    (hl : ∀ (i : Nat) (f : FV), l[i + off]? = some f → FRep W none 0 f (g i)) (h : partOf P t l off = some f) :
    ∃ v, (loadVar t A).run P W.w = .ok v W.w ∧ FRep W none 0 f v := by
  unfold partOf at h
  cases ha : aggOf P t with
  | none => simp [ha] at h
  | some b =>
    cases b with
    | false =>
      simp only [ha] at h
      have h0 := hc 0 f (by simpa using h)
      have h1 := hl 0 f (by simpa using h)
      refine ⟨g 0, ?_, h1⟩
      unfold loadVar
      have : W.w.cell? A = some (g 0) := by rw [← h0]; cases A; simp_all
      simp [run_isAgg' ha, this]
    | true =>
      cases hn : szOf P t with
      | none => simp [ha, hn] at h
      | some n =>
        simp only [ha, hn] at h
        split at h
        · rename_i hle
          simp at h; subst h
          have hget : ∀ j, j < n → ∃ f, l[j + off]? = some f := fun j hj => ⟨l[j + off], by simp⟩
          refine ⟨.agg ((List.range n).map g).toArray, ?_, ?_⟩
          · unfold loadVar
            have := run_loadCells' (P := P) (w := W.w) (A := A) g (n := n) (fun j hj => by
              obtain ⟨f, hf⟩ := hget j hj
              rw [Addr.add_none hs]; exact hc j f hf)
            simp [run_isAgg' ha, run_sizeOf' hn, this]
          · refine .agg (by simp; omega) fun j f v hf hv => ?_
            have hj : j < n := by
              rcases Nat.lt_or_ge j n with h' | h'
              · exact h'
              · rw [List.getElem?_take_eq_none h'] at hf; simp at hf
            rw [List.getElem?_take_of_lt hj, List.getElem?_drop, Nat.add_comm] at hf
            have : v = g j := by simpa [hj] using hv.symm
            subst this
            exact hl j f hf
        · simp at h
end Go.Proofs.YtlbjfjaleefiiaaDoor.Ev
end
section
namespace Go.Proofs.YtlbjfjaleefiiaaDoor.Ev
open Go
theorem rd_sound {C : Ctx} {nt : Nat} {e : Env} {H : Heap} {a : Act} {W : Wd} (hi : Inv C nt e H a W) {x : Operand} {f : FV} (h : rd C e x = some f) :
    ∃ r i, FRep W r i f (a.eval x) := by
  cases x with
  | tmp t => simp [rd] at h; subst h; exact ⟨_, _, hi.env t⟩
  | const v => exact ⟨_, _, ofConst_rep (show FV.ofConst v = some f from h)⟩
  | func f => simp [rd] at h; subst h; exact ⟨none, 0, .fn rfl rfl (by simp) (by simp)⟩
  | global g =>
    simp only [rd, Option.map_eq_some_iff] at h
    obtain ⟨ls, hl, rfl⟩ := h
    have hh := hi.heap.laid g ls hl
    refine ⟨none, 0, FRep.ea (fun j => (W.w.cell? ⟨g, j, none⟩).getD default) rfl (fun j p hp => by simpa using (hh j p hp).2.1) (fun j p hp => ?_) (fun j p hp => (hh j p hp).1) (fun j p hp => ?_)⟩
    · obtain ⟨_, _, v, hv, _⟩ := hh j p hp; simp [hv]
    · obtain ⟨_, _, v, hv, hr⟩ := hh j p hp; simpa [hv] using hr
theorem demote_rd {C : Ctx} {nt : Nat} {e : Env} {H : Heap} {a : Act} {W : Wd} (hi : Inv C nt e H a W) {x : Operand} {f : FV} (h : rd C e x = some f) :
    FRep W none 0 (demote f) (a.eval x) := by
  obtain ⟨r, i, h⟩ := rd_sound hi h; exact h.demote
theorem FRep.list {W : Wd} {r : Option Root} {i : Nat} {f : FV} {v : Value} {l : List PV} (h : FRep W r i f v) (hl : f.asList = some l) :
    ∃ A len cap, v = .slice A len cap ∧ Rep W.w W.lim (.sl l) v := by
  cases h with
  | own a b => simp [FV.asList] at hl; subst hl; exact ⟨_, _, _, rfl, a⟩
  | emp => simp [FV.asList] at hl; subst hl; exact ⟨_, _, _, rfl, .nil⟩
  | @sc _ _ p v hp hr =>
    cases p <;> simp [FV.asList] at hl
    subst hl
    cases hr with
    | nil => exact ⟨_, _, _, rfl, .nil⟩
    | sl c h0 h1 h2 h3 h4 h5 h6 h7 h8 => exact ⟨_, _, _, rfl, .sl c h0 h1 h2 h3 h4 h5 h6 h7 h8⟩
  | _ => simp [FV.asList] at hl
theorem Rep.length {w : World} {lim : Nat → Nat} {l : List PV} {A : Option Addr} {len cap : Nat} (h : Rep w lim (.sl l) (.slice A len cap)) : len = l.length := by
  cases h with
  | nil => rfl
  | sl c h0 => exact h0
theorem Rep.elem {W : Wd} {l : List PV} {A : Option Addr} {len cap i n : Nat} {p : PV} (h : Rep W.w W.lim (.sl l) (.slice A len cap)) (hi : l[i]? = some p) (hn : p.leaves.length = n + 1) :
    ∃ B, A = some B ∧ i < len ∧ FRep W none 0 (.ea p.leaves) (.pointer (some (B.add (i * (n + 1))))) := by
  cases h with
  | nil => simp at hi
  | @sl _ B _ sz _ c h0 h1 h2 h3 h4 h5 h6 h7 h8 =>
    have hz : sz = n + 1 := by rw [← h3 i p hi, hn]
    subst hz
    refine ⟨B, rfl, ?_, ?_⟩
    · rw [h0]
      rcases Nat.lt_or_ge i l.length with h' | h'
      · exact h'
      · simp [List.getElem?_eq_none h'] at hi
    · refine .ea (c i) (by rw [Addr.add_none h1]) (fun j q hq => ?_) (fun j q hq => ?_) (fun j q hq => h6 i j p q hi hq) (fun j q hq => h7 i j p q hi hq)
      · rw [Addr.add_none h1]; have := h4 i j p q hi hq; simp only; omega
      · rw [Addr.add_none h1]; have := h5 i j p q hi hq; simp only [Nat.add_assoc] at this ⊢; exact this
theorem FRep.int {W : Wd} {r : Option Root} {i : Nat} {k : IntKind} {n : Int} {v : Value} (h : FRep W r i (.sc (.int k n)) v) : v = .int k n := by
  cases h with | sc _ h => cases h; rfl
theorem FRep.bool {W : Wd} {r : Option Root} {i : Nat} {b : Bool} {v : Value} (h : FRep W r i (.sc (.bool b)) v) : v = .bool b := by
  cases h with | sc _ h => cases h; rfl
theorem FRep.str {W : Wd} {r : Option Root} {i : Nat} {b : ByteArray} {v : Value} (h : FRep W r i (.sc (.str b)) v) : v = .string b := by
  cases h with | sc _ h => cases h; rfl
theorem FRep.mkInt {W : Wd} {r : Option Root} {i : Nat} {k : IntKind} {n : Int} : FRep W r i (.sc (.int k n)) (.int k n) := .sc rfl .int
theorem FRep.mkBool {W : Wd} {r : Option Root} {i : Nat} {b : Bool} : FRep W r i (.sc (.bool b)) (.bool b) := .sc rfl .bool
theorem FRep.mkStr {W : Wd} {r : Option Root} {i : Nat} {b : ByteArray} : FRep W r i (.sc (.str b)) (.string b) := .sc rfl .str
section
variable {W : Wd} {P : Program} {w : World}
theorem list_beq (x y : ByteArray) : (x.toList == y.toList) = decide (x = y) := by
  rw [Bool.eq_iff_iff]
  simp only [beq_iff_eq, decide_eq_true_eq]
  constructor
  · intro h
    exact ByteArray.ext (by simpa [ByteArray.toList_eq] using h)
  · rintro rfl; rfl
theorem run_eqGuard_plain {op : BinOp} {t : TypeId} {x y : Operand} {v u : Value} (h : v.oneCell' = true) (h' : v ≠ .nilIface) : (eqGuard op t x y v u).run P w = .ok () w := by
  unfold eqGuard
  cases op <;> cases v <;> simp_all [Value.oneCell']
def PV.val : PV → Value
  | .int k n => .int k n
  | .bool b => .bool b
  | .str s => .string s
  | _ => undef
theorem intBin_sound {op : BinOp} {t : TypeId} {k : IntKind} {a b : Int} {p : PV} (h : intBin op k a b = some p) (h1 : op ≠ .shl) (h2 : op ≠ .shr) :
    (binOp op t (.int k a) (.int k b)).run P w = .ok p.val w ∧ FRep W none 0 (.sc p) p.val := by
  cases op <;> simp only [intBin, Option.some.injEq, reduceCtorEq] at h <;> first
    | (subst h; refine ⟨?_, by first | exact .mkInt | exact .mkBool⟩; simp [binOp, Op.intArith, Op.intCmp, Op.intBits, PV.val]; done)
    | (subst h; refine ⟨?_, by first | exact .mkInt | exact .mkBool⟩; simp only [binOp, ne_eq, not_true_eq_false, if_false, Op.intCmp, PV.val]; rfl)
    | (subst h; refine ⟨?_, by first | exact .mkInt | exact .mkBool⟩; simp [binOp, Op.intCmp, PV.val]; (try rw [Bool.eq_iff_iff]; simp); done)
    | (split at h
       · simp at h
       · rename_i hb
         simp only [Option.some.injEq] at h; subst h
         refine ⟨?_, .mkInt⟩
         simp [binOp, Op.intDiv, hb, PV.val])
    | (exact absurd rfl h1)
    | (exact absurd rfl h2)
theorem strBin_sound {op : BinOp} {t : TypeId} {a b : ByteArray} {p : PV} (h : strBin op a b = some p) :
    (binOp op t (.string a) (.string b)).run P w = .ok p.val w ∧ FRep W none 0 (.sc p) p.val := by
  cases op <;> simp only [strBin, Option.some.injEq, reduceCtorEq] at h
  case add =>
    split at h
    · simp at h; subst h
      refine ⟨?_, .mkStr⟩
      have : ¬ (((a.size + b.size : Nat) : Int) > IntKind.i64.max) := by simp [IntKind.max, IntKind.signed, IntKind.bits]; omega
      simp only [binOp, Op.stringOp]; rw [if_neg this]; rfl
    · simp at h
  case eql => subst h; refine ⟨?_, .mkBool⟩; simp [binOp, Op.stringOp, list_beq, PV.val]
  case neq => subst h; refine ⟨?_, .mkBool⟩; simp [binOp, Op.stringOp, list_beq, PV.val]
theorem run_equalIn_string' {P : Program} {w : World} {d : Nat} {t : TypeId} {a b : ByteArray} (h : P.underlying t = some .string) : (Op.equalIn (d + 1) t (.string a) (.string b)).run P w = .ok (decide (a = b)) w := by
  rw [run_equalIn_string w d t a b h, list_beq]
theorem eqAll_int {ts : List Tag} {l m : List FV} {b : Bool} (h : eqAll (.int :: ts) l m = some b) : ∃ k a a' l' m' b₀, l = .sc (.int k a) :: l' ∧ m = .sc (.int k a') :: m' ∧ eqAll ts l' m' = some b₀ ∧ b = (decide (a = a') && b₀) := by
  unfold eqAll at h
  split at h
  all_goals first
    | (simp at h; done)
    | (rename_i heq; cases heq; done)
    | skip
  rename_i k a l' k' b' m' heq
  cases heq
  split at h
  · subst_vars
    obtain ⟨b₀, hb, rfl⟩ := Option.map_eq_some_iff.1 h
    exact ⟨_, _, _, _, _, _, rfl, rfl, hb, rfl⟩
  · simp at h
theorem eqAll_bool {ts : List Tag} {l m : List FV} {b : Bool} (h : eqAll (.bool :: ts) l m = some b) : ∃ a a' l' m' b₀, l = .sc (.bool a) :: l' ∧ m = .sc (.bool a') :: m' ∧ eqAll ts l' m' = some b₀ ∧ b = ((a == a') && b₀) := by
  unfold eqAll at h
  split at h
  all_goals first
    | (simp at h; done)
    | (rename_i heq; cases heq; done)
    | skip
  rename_i a l' b' m' heq
  cases heq
  obtain ⟨b₀, hb, rfl⟩ := Option.map_eq_some_iff.1 h
  exact ⟨_, _, _, _, _, rfl, rfl, hb, rfl⟩
theorem eqAll_str {ts : List Tag} {l m : List FV} {b : Bool} (h : eqAll (.str :: ts) l m = some b) : ∃ a a' l' m' b₀, l = .sc (.str a) :: l' ∧ m = .sc (.str a') :: m' ∧ eqAll ts l' m' = some b₀ ∧ b = (decide (a = a') && b₀) := by
  unfold eqAll at h
  split at h
  all_goals first
    | (simp at h; done)
    | (rename_i heq; cases heq; done)
    | skip
  rename_i a l' b' m' heq
  cases heq
  obtain ⟨b₀, hb, rfl⟩ := Option.map_eq_some_iff.1 h
  exact ⟨_, _, _, _, _, rfl, rfl, hb, rfl⟩
theorem eqFields_sound {d : Nat} {xs ys : Array Value} : ∀ {fs : List Field} {i : Nat} {ts : List Tag} {l m : List FV} {b : Bool}, tagsFrom P i fs = some ts → (∀ (j : Nat) (f : FV) (v : Value), l[j]? = some f → xs[i + j]? = some v → FRep W none 0 f v) →
    (∀ (j : Nat) (f : FV) (v : Value), m[j]? = some f → ys[i + j]? = some v → FRep W none 0 f v) → xs.size = i + l.length → ys.size = i + m.length → eqAll ts l m = some b →
    (Op.eqFields (d + 1) xs ys fs).run P W.w = .ok b W.w
  | [], i, ts, l, m, b, ht, _, _, _, _, h => by
    simp [tagsFrom] at ht; subst ht
    cases l <;> cases m <;> simp [eqAll] at h
    subst h; rfl
  | f :: fs, i, ts, l, m, b, ht, hx, hy, hxs, hys, h => by
    unfold tagsFrom at ht
    split at ht
    · rename_i hon
      obtain ⟨hoff, hname⟩ := hon
      have step : ∀ {x y : FV} {l' m' : List FV} {r : List Tag}, l = x :: l' → m = y :: m' → tagsFrom P (i + 1) fs = some r → ∃ (hx' : i < xs.size) (hy' : i < ys.size), FRep W none 0 x xs[i] ∧ FRep W none 0 y ys[i] ∧
          ∀ b', eqAll r l' m' = some b' → (Op.eqFields (d + 1) xs ys fs).run P W.w = .ok b' W.w := by
        rintro x y l' m' r rfl rfl hr
        simp only [List.length_cons] at hxs hys
        have hxlt : i < xs.size := by omega
        have hylt : i < ys.size := by omega
        exact ⟨hxlt, hylt, hx 0 x xs[i] rfl (by simp [hxlt]), hy 0 y ys[i] rfl (by simp [hylt]), fun b' hb => eqFields_sound (i := i + 1) hr
          (fun j f v hf hv => hx (j + 1) f v (by simpa using hf) (by rw [← hv]; congr 1; omega)) (fun j f v hf hv => hy (j + 1) f v (by simpa using hf) (by rw [← hv]; congr 1; omega)) (by omega) (by omega) hb⟩
      have hpart : ∀ (cs : Array Value) (h : i < cs.size), aggOf P f.type = some false → (part f.type cs f.offset).run P W.w = .ok cs[i] W.w := fun cs h ha => by
        unfold part
        simp [run_isAgg' ha, hoff, h]
      unfold Op.eqFields
      rw [if_pos hname]
      split at ht
      · rename_i kk r hu hr
        simp only [Option.some.injEq] at ht; subst ht
        have ha : aggOf P f.type = some false := by simp [aggOf, hu]
        obtain ⟨k, a, a', l', m', b₀, e1, e2, hb₀, rfl⟩ := eqAll_int h
        obtain ⟨hxlt, hylt, h0, h1, ih⟩ := step e1 e2 hr
        have q0 := h0.int; have q1 := h1.int
        simp only [Sem.run_bind, hpart xs hxlt ha, hpart ys hylt ha, Result.andThen_ok, q0, q1, run_equalIn_int W.w d f.type _ _ _ _ hu]
        have := ih b₀ hb₀
        by_cases hab : a = a' <;> simp [hab, this]
      · rename_i r hu hr
        simp only [Option.some.injEq] at ht; subst ht
        have ha : aggOf P f.type = some false := by simp [aggOf, hu]
        obtain ⟨a, a', l', m', b₀, e1, e2, hb₀, rfl⟩ := eqAll_bool h
        obtain ⟨hxlt, hylt, h0, h1, ih⟩ := step e1 e2 hr
        have q0 := h0.bool; have q1 := h1.bool
        simp only [Sem.run_bind, hpart xs hxlt ha, hpart ys hylt ha, Result.andThen_ok, q0, q1, run_equalIn_bool' W.w d f.type _ _ hu]
        have := ih b₀ hb₀
        cases a <;> cases a' <;> simp [this]
      · rename_i r hu hr
        simp only [Option.some.injEq] at ht; subst ht
        have ha : aggOf P f.type = some false := by simp [aggOf, hu]
        obtain ⟨a, a', l', m', b₀, e1, e2, hb₀, rfl⟩ := eqAll_str h
        obtain ⟨hxlt, hylt, h0, h1, ih⟩ := step e1 e2 hr
        have q0 := h0.str; have q1 := h1.str
        simp only [Sem.run_bind, hpart xs hxlt ha, hpart ys hylt ha, Result.andThen_ok, q0, q1, run_equalIn_string' hu]
        have := ih b₀ hb₀
        by_cases hab : a = a' <;> simp [hab, this]
      · simp at ht
    · simp at ht
theorem binOf_sound {op : BinOp} {t : TypeId} {f g r : FV} {v u : Value} {rf rg : Option Root} {i j : Nat} {x y : Operand} (hf : FRep W rf i f v) (hg : FRep W rg j g u) (h : binOf P op t f g = some r) :
    ∃ z, (do eqGuard op t x y v u; binOp op t v u : Sem Value).run P W.w = .ok z W.w ∧ FRep W none 0 r z := by
  unfold binOf at h
  split at h
  · rename_i k a k' b
    obtain rfl := hf.int; obtain rfl := hg.int
    simp only [Sem.run_bind, run_eqGuard_plain (v := .int k a) rfl (by simp), Result.andThen_ok]
    split at h
    · split at h
      · simp at h; subst h
        exact ⟨.int k (k.wrap (a * 2 ^ (min b.toNat k.bits))), by simp only [binOp, Op.shift]; rw [if_neg (by omega)]; rfl, .mkInt⟩
      · simp at h
    · split at h
      · simp at h; subst h
        exact ⟨.int k (a.fdiv (2 ^ (min b.toNat k.bits))), by simp only [binOp, Op.shift]; rw [if_neg (by omega)]; rfl, .mkInt⟩
      · simp at h
    · split at h
      · subst_vars
        obtain ⟨p, hp, rfl⟩ := Option.map_eq_some_iff.1 h
        exact ⟨_, intBin_sound hp (by assumption) (by assumption)⟩
      · simp at h
  · rename_i a b
    obtain rfl := hf.str; obtain rfl := hg.str
    simp only [Sem.run_bind, run_eqGuard_plain (v := .string a) rfl (by simp), Result.andThen_ok]
    obtain ⟨p, hp, rfl⟩ := Option.map_eq_some_iff.1 h
    exact ⟨_, strBin_sound hp⟩
  · rename_i a b
    obtain rfl := hf.bool; obtain rfl := hg.bool
    simp only [Sem.run_bind, run_eqGuard_plain (v := .bool a) rfl (by simp), Result.andThen_ok]
    split at h
    · rename_i hu
      simp at h; subst h
      exact ⟨_, run_eql_bool _ _ _ _ hu, .mkBool⟩
    · rename_i hu
      simp at h; subst h
      exact ⟨_, run_neq_bool _ _ _ _ hu, .mkBool⟩
    · simp at h
  · rename_i b o
    cases hf; cases hg
    simp only [Sem.run_bind, run_eqGuard_plain (v := .pointer (some ⟨W.β b, o, none⟩)) rfl (by simp), Result.andThen_ok]
    split at h
    · rename_i hu
      simp at h; subst h
      exact ⟨.bool false, run_eql_pointer_nil W.w t (some _) (by rw [hu]; simp [Program.pointee, hu]), .mkBool⟩
    · rename_i hu
      simp at h; subst h
      exact ⟨.bool true, run_neq_pointer_nil W.w t (some _) (by rw [hu]; simp [Program.pointee, hu]), .mkBool⟩
    · simp at h
  · -- structs
    rename_i l m
    split at h
    · rename_i ts hts
      unfold tagsOf at hts
      split at hts
      · rename_i fs hu
        split at hts
        · rename_i hpg
          obtain ⟨hp, hg0⟩ := hpg
          generalize hv : v = v' at hf
          generalize hu' : u = u' at hg
          cases hf with
          | @agg _ _ _ xs hxs hxl =>
            cases hg with
            | @agg _ _ _ ys hys hyl =>
              have hguard : (eqGuard op t x y (.agg xs) (.agg ys)).run P W.w = .ok () W.w := by
                unfold eqGuard
                cases op <;> simp [hg0]
              have hfo : P.underlying t = some (.struct (P.fieldsOf t)) := by simp [Program.fieldsOf, hu]
              have heq : ∀ b, eqAll ts l m = some b → (Op.equal t (.agg xs) (.agg ys)).run P W.w = .ok b W.w := fun b hb => by
                have := run_equalIn_struct W.w 9999 t xs ys hfo hp
                unfold Op.equal
                rw [show Op.maxDepth = 9999 + 1 from rfl, this]
                have hfs : P.fieldsOf t = fs := by simp [Program.fieldsOf, hu]
                rw [hfs]
                exact eqFields_sound (i := 0) hts (fun j f v hf hv => hxl j f v hf (by simpa using hv)) (fun j f v hf hv => hyl j f v hf (by simpa using hv)) (by simpa using hxs) (by simpa using hys) hb
              simp only [Sem.run_bind, hguard, Result.andThen_ok]
              split at h
              · rename_i b hb
                simp at h; subst h
                exact ⟨.bool b, by simp [binOp, heq b hb], .mkBool⟩
              · rename_i b hb
                simp at h; subst h
                exact ⟨.bool (!b), by simp [binOp, heq b hb], .mkBool⟩
              · simp at h
        · simp at hts
      · simp at hts
    · simp at h
  · cases hf; cases hg
    simp only [Sem.run_bind, run_eqGuard_plain (v := .pointer none) rfl (by simp), Result.andThen_ok]
    split at h
    · rename_i hu
      simp at h; subst h
      exact ⟨.bool true, run_eql_pointer_nil W.w t none (by rw [hu]; simp [Program.pointee, hu]), .mkBool⟩
    · rename_i hu
      simp at h; subst h
      exact ⟨.bool false, run_neq_pointer_nil W.w t none (by rw [hu]; simp [Program.pointee, hu]), .mkBool⟩
    · simp at h
  · simp at h
end
end Go.Proofs.YtlbjfjaleefiiaaDoor.Ev
end
