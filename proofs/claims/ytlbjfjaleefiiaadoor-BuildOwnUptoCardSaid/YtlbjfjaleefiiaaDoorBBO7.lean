/- Of what the law BuildOwn needs: part 7. -/
import Derived.ChangeArms
import Derived.DataReads
import Derived.WideShapes
import GoSem.ClaimJoined
import Derived.Test.YtlbjfjaleefiiaaDoorBBO6
set_option linter.unusedSimpArgs false
set_option linter.unusedVariables false
section
namespace Go.Proofs.YtlbjfjaleefiiaaDoor.Ev
open Go
def limOf (w : World) (b : Nat) : Nat := match w.heap[b]? with
  | some (.cells c _ _) => c.size
  | _ => 0
theorem lt_limOf {w : World} {b off : Nat} {s} {v : Value} (h : w.cell? ⟨b, off, s⟩ = some v) : off < limOf w b := by
  unfold World.cell? at h
  unfold limOf
  split at h
  · rename_i c T fz hc
    simp only at hc
    rw [hc]
    split at h
    · simp at h
    · exact (Array.getElem?_eq_some_iff.1 h).1
  · simp at h
section
variable {H : Type} {enc : TypeId × Value → H} {P : Program} {w : World}
def LRep (w : World) (ls : List PV) (cs : List Value) : Prop := cs.length = ls.length ∧ ∀ (j : Nat) (p : PV) (v : Value), ls[j]? = some p → cs[j]? = some v → p.isLeaf = true ∧ Rep w (limOf w) p v
theorem LRep.one {p : PV} {v : Value} (hl : p.isLeaf = true) (h : Rep w (limOf w) p v) : LRep w [p] [v] := ⟨rfl, fun j q u hq hu => by
  cases j with
  | zero => simp at hq hu; subst hq; subst hu; exact ⟨hl, h⟩
  | succ j => simp at hq⟩
theorem LRep.app {l m : List PV} {cs ds : List Value} (h : LRep w l cs) (h' : LRep w m ds) : LRep w (l ++ m) (cs ++ ds) := ⟨by simp [h.1, h'.1], fun j p v hp hv => by
  by_cases hj : j < l.length
  · rw [List.getElem?_append_left hj] at hp
    rw [List.getElem?_append_left (by rw [h.1]; exact hj)] at hv
    exact h.2 j p v hp hv
  · rw [List.getElem?_append_right (by omega)] at hp
    rw [List.getElem?_append_right (by rw [h.1]; omega), h.1] at hv
    exact h'.2 _ p v hp hv⟩
structure BulkOk (B : DataW H → Nat) : Prop where
  one : ∀ d, 1 ≤ B d
  str : ∀ bs, bs.length + 1 ≤ B (.lit (.string bs))
  slice : ∀ es sp, sumBy B es + 1 ≤ B (.slice es sp)
  agg : ∀ ps, sumBy B ps + 1 ≤ B (.agg ps)
variable {B : DataW H → Nat}
def Reads (enc : TypeId × Value → H) (P : Program) (w : World) (B : DataW H → Nat) (k : Nat) (t : TypeId) {α : Type} (f : α → PV) (Q : α → Prop) (μ : α → Nat) : Prop :=
  ∀ fuel, fuel ≤ k → ∀ cs x, DataW.trod enc P w 0 (fun _ => true) true fuel t cs = some x → (x.1.weights P t).all (· ≤ reachBytes) = true → ∃ a, Q a ∧ LRep w (f a).leaves cs ∧ μ a ≤ B x.1
theorem Reads.le {k j : Nat} {t : TypeId} {α : Type} {f : α → PV} {Q : α → Prop} {μ : α → Nat} (h : Reads enc P w B k t f Q μ) (hj : j ≤ k) : Reads enc P w B j t f Q μ := fun fuel hf => h fuel (Nat.le_trans hf hj)
theorem Reads.zero {t : TypeId} {α : Type} {f : α → PV} {Q : α → Prop} {μ : α → Nat} : Reads enc P w B 0 t f Q μ := fun fuel hf cs x hx => by
  obtain rfl : fuel = 0 := by omega
  simp [DataW.trod] at hx
theorem Reads.to {k : Nat} {t : TypeId} {α β : Type} {f : α → PV} {g : β → PV} {Q : α → Prop} {R : β → Prop} {μ : α → Nat} {ν : β → Nat} (h : Reads enc P w B k t f Q μ) (he : ∀ a, Q a → ∃ b, (g b).leaves = (f a).leaves ∧ R b ∧ ν b ≤ μ a) : Reads enc P w B k t g R ν := fun fuel hf cs x hx hw => by
  obtain ⟨a, ha, hr, hm⟩ := h fuel hf cs x hx hw
  obtain ⟨b, hb, hR, hn⟩ := he a ha
  exact ⟨b, hR, hb ▸ hr, Nat.le_trans hn hm⟩
theorem reads_int (hB : BulkOk B) {k : Nat} {t : TypeId} {q : IntKind} (ht : P.underlying t = some (.int q)) : Reads enc P w B k t (PV.int q) (fun n => (Lit.int q n).wf = true) (fun _ => 1) := fun fuel _ cs x hx _ => by
  obtain ⟨n, rfl, rfl, hn⟩ := DataW.trod_int ht hx
  exact ⟨n, hn, .one rfl .int, hB.one _⟩
theorem reads_bool (hB : BulkOk B) {k : Nat} {t : TypeId} (ht : P.underlying t = some .bool) : Reads enc P w B k t PV.bool (fun _ => True) (fun _ => 1) := fun fuel _ cs x hx _ => by
  obtain ⟨n, rfl, rfl⟩ := DataW.trod_bool ht hx
  exact ⟨n, trivial, .one rfl .bool, hB.one _⟩
theorem reads_str (hB : BulkOk B) {k : Nat} {t : TypeId} (ht : P.underlying t = some .string) : Reads enc P w B k t PV.str (fun s => s.size ≤ reachBytes) (fun s => s.size + 1) := fun fuel _ cs x hx hw => by
  obtain ⟨s, rfl, rfl, hs⟩ := DataW.trod_string ht hx
  refine ⟨s, ?_, .one rfl .str, ?_⟩
  · simpa [DataW.weights] using hw
  · have := hB.str s.data.toList
    simpa using this
theorem weightsAll_mem {e : TypeId} {d : DataW H} : ∀ {l : List (DataW H)}, (DataW.weightsAll P e l).all (· ≤ reachBytes) = true → d ∈ l → (d.weights P e).all (· ≤ reachBytes) = true
  | [], _, h => by simp at h
  | x :: l, hw, h => by
    rw [DataW.weightsAll, List.all_append, Bool.and_eq_true] at hw
    rcases List.mem_cons.1 h with rfl | h
    · exact hw.1
    · exact weightsAll_mem hw.2 h
theorem sumBy_ofFn {α β : Type} {f : α → Nat} {g : β → Nat} : ∀ {n : Nat} (F : Fin n → α) (l : List β), l.length = n → (∀ (i : Fin n) (x : β), l[i.1]? = some x → f (F i) ≤ g x) → sumBy f (List.ofFn F) ≤ sumBy g l
  | 0, F, l, hl, h => by simp [sumBy]
  | n + 1, F, l, hl, h => by
    cases l with
    | nil => simp at hl
    | cons x l =>
      rw [List.ofFn_succ, sumBy, sumBy]
      have h0 := h 0 x rfl
      have h1 := sumBy_ofFn (fun i => F i.succ) l (by simpa using hl) (fun i y hy => h i.succ y (by simpa using hy))
      omega
theorem reads_slice (hB : BulkOk B) {k z m : Nat} {t e : TypeId} {α : Type} {f : α → PV} {Q : α → Prop} {μ : α → Nat} (ht : P.underlying t = some (.slice e)) (hz : P.cellsOf e = z) (hm : P.bytesOf e = m) (hc0 : 0 < z) (h : Reads enc P w B k e f Q μ) (hsz0 : ∀ a, (f a).leaves.length = z) :
    Reads enc P w B (k + 1) t (fun l : List α => .sl (l.map f)) (fun l => (∀ a ∈ l, Q a) ∧ l.length * m ≤ reachBytes) (fun l => sumBy μ l + 1) := fun fuel hf cs x hx hw => by
  have hc : 0 < P.cellsOf e := by rw [hz]; exact hc0
  have hsz : ∀ a, (f a).leaves.length = P.cellsOf e := fun a => by rw [hz]; exact hsz0 a
  rw [← hm]
  rcases DataW.trod_slice ht hx with ⟨rfl, rfl⟩ | ⟨a, len, cap, elems, rest, n, rfl, rfl, rfl, hb, hl, hcap, hlen, hel, _, _⟩
  · exact ⟨[], ⟨by simp, by simp⟩, .one rfl .nil, by simpa [sumBy] using hB.one _⟩
  · simp only [DataW.weights, ht, List.all_cons, List.all_append, Bool.and_eq_true, decide_eq_true_eq, List.length_map] at hw
    have key : ∀ i : Fin len, ∃ (b : α) (ds : List Value), w.cells? 0 (a.add (i * P.cellsOf e)) (P.cellsOf e) = some ds ∧ Q b ∧ LRep w (f b).leaves ds ∧ ∀ y, elems[i.1]? = some y → μ b ≤ B y.1 := by
      intro i
      have hi := hel i i.2
      have hlt : i.1 < elems.length := by omega
      rw [List.getElem?_eq_getElem hlt, Option.bind_eq_some_iff] at hi
      obtain ⟨ds, h1, h2⟩ := hi
      obtain ⟨b, hb1, hb2, hb3⟩ := h n (by omega) ds _ h2 (weightsAll_mem hw.2.1 (List.mem_map_of_mem (List.getElem_mem hlt)))
      exact ⟨b, ds, h1, hb1, hb2, fun y hy => by
        rw [List.getElem?_eq_getElem hlt] at hy
        obtain rfl := Option.some.inj hy
        exact hb3⟩
    obtain ⟨G, hG⟩ : ∃ G : Fin len → α, ∀ i : Fin len, ∃ ds : List Value, w.cells? 0 (a.add (i * P.cellsOf e)) (P.cellsOf e) = some ds ∧ Q (G i) ∧ LRep w (f (G i)).leaves ds ∧ ∀ y, elems[i.1]? = some y → μ (G i) ≤ B y.1 := ⟨fun i => Classical.choose (key i), fun i => Classical.choose_spec (key i)⟩
    clear key
    refine ⟨List.ofFn G, ⟨fun b hb => ?_, ?_⟩, ?_, ?_⟩
    · obtain ⟨i, rfl⟩ := List.mem_ofFn.1 hb
      obtain ⟨ds, _, hq, _⟩ := hG i
      exact hq
    · rw [List.length_ofFn, ← hlen]
      exact Nat.le_trans (Nat.mul_le_mul_right _ (Nat.le_add_right _ _)) hw.1
    · refine .one rfl ?_
      have hs : 0 < len → a.spot = none := fun h00 => by
        obtain ⟨ds, h1, _, h3, _⟩ := hG ⟨0, h00⟩
        unfold World.cells? at h1
        rw [if_pos (Nat.zero_le _)] at h1
        have hg := mapM_some_get h1 0 0 (by rw [List.getElem?_range hc])
        rw [List.getElem?_eq_getElem (by rw [h3.1, hsz]; exact hc)] at hg
        have := World.cell?_spot hg
        simpa [Addr.add] using this
      have hcell : ∀ (i j : Nat) (e' : PV) (p : PV), ((List.ofFn G).map f)[i]? = some e' → e'.leaves[j]? = some p → ∃ v, w.cell? ⟨a.block, a.off + (i * P.cellsOf e + j), none⟩ = some v ∧ a.spot = none ∧ p.isLeaf = true ∧ Rep w (limOf w) p v ∧ i < len := by
        intro i j e' p he hp
        rw [List.getElem?_map] at he
        obtain ⟨b, hb, rfl⟩ := Option.map_eq_some_iff.1 he
        rw [List.getElem?_ofFn] at hb
        split at hb
        · rename_i hi
          simp at hb
          obtain ⟨ds, h1, _, h3, _⟩ := hG ⟨i, hi⟩
          rw [hb] at h3
          have hj : j < (f b).leaves.length := (List.getElem?_eq_some_iff.1 hp).1
          have hjd : j < ds.length := by rw [h3.1]; exact hj
          unfold World.cells? at h1
          rw [if_pos (Nat.zero_le _)] at h1
          have hg := mapM_some_get h1 j j (by rw [List.getElem?_range (by rw [← hsz b]; exact hj)])
          rw [List.getElem?_eq_getElem hjd] at hg
          have hs := hs (by omega)
          have e0 : (a.add (i * P.cellsOf e)).add j = ⟨a.block, a.off + (i * P.cellsOf e + j), none⟩ := by
            cases a
            simp only [Addr.add] at hs ⊢
            subst hs
            generalize i * P.cellsOf e = z
            by_cases hz : z = 0
            · by_cases hj : j = 0 <;> simp [hz, hj]
            · by_cases hj : j = 0 <;> simp [hz, hj] <;> omega
          simp only at hg
          rw [e0] at hg
          have hr := h3.2 j p _ hp (List.getElem?_eq_getElem hjd)
          exact ⟨_, hg, hs, hr.1, hr.2, hi⟩
        · simp at hb
      by_cases h0 : len = 0
      · subst h0
        simp
        exact .nil
      · have h00 : 0 < len := by omega
        have hs := hs h00
        refine .sl (fun i j => (w.cell? ⟨a.block, a.off + (i * P.cellsOf e + j), none⟩).getD (.bool false)) (sz := P.cellsOf e) (by simp) hs hc (fun i e' he => ?_) (fun i j e' p he hp => ?_) (fun i j e' p he hp => ?_) (fun i j e' p he hp => ?_) (fun i j e' p he hp => ?_) hl
        · rw [List.getElem?_map] at he
          obtain ⟨b, hb, rfl⟩ := Option.map_eq_some_iff.1 he
          exact hsz b
        · obtain ⟨v, hv, _⟩ := hcell i j e' p he hp
          exact lt_limOf hv
        · obtain ⟨v, hv, _⟩ := hcell i j e' p he hp
          rw [hv]; rfl
        · obtain ⟨v, _, _, hv, _⟩ := hcell i j e' p he hp
          exact hv
        · obtain ⟨v, hv, _, _, hr, _⟩ := hcell i j e' p he hp
          rw [hv]; exact hr
    · refine Nat.le_trans (Nat.add_le_add_right (sumBy_ofFn (g := B) G (elems.map (·.1)) (by simpa using hlen) (fun i x hx => ?_)) 1) (hB.slice _ _)
      rw [List.getElem?_map] at hx
      obtain ⟨y, hy, rfl⟩ := Option.map_eq_some_iff.1 hx
      obtain ⟨_, _, _, _, hm⟩ := hG i
      exact hm y hy
def Fields (enc : TypeId × Value → H) (P : Program) (w : World) (B : DataW H → Nat) (k N off : Nat) (fs : List Field) {α : Type} (g : α → List PV) (Q : α → Prop) (μ : α → Nat) : Prop :=
  ∀ fuel, fuel ≤ k → ∀ (cs : List Value) (xs : List (DataW H × List MemPlace)), cs.length = N → xs.length = fs.length →
    (∀ (i : Nat) (f : Field), fs[i]? = some f → DataW.trod enc P w 0 (fun _ => true) true fuel f.type ((cs.drop f.offset).take (P.cellsOf f.type)) = xs[i]?) →
    (DataW.weightsEach P (fs.map (·.type)) (xs.map (·.1))).all (· ≤ reachBytes) = true → ∃ a, Q a ∧ LRep w (g a) (cs.drop off) ∧ μ a ≤ sumBy B (xs.map (·.1))
theorem fields_nil {k N : Nat} : Fields enc P w B k N N [] (fun _ : Unit => []) (fun _ => True) (fun _ => 0) := fun fuel _ cs xs hN _ _ _ => ⟨(), trivial, by
  rw [List.drop_eq_nil_of_le (by omega)]
  exact ⟨rfl, fun j p v hp => by simp at hp⟩, Nat.zero_le _⟩
theorem fields_cons {k N off z : Nat} {fd : Field} {fs : List Field} {α β : Type} {f : α → PV} {Q : α → Prop} {g : β → List PV} {R : β → Prop} {μ : α → Nat} {ν : β → Nat} (ho : fd.offset = off) (hz : P.cellsOf fd.type = z) (h : Reads enc P w B k fd.type f Q μ) (hs : Fields enc P w B k N (off + z) fs g R ν) :
    Fields enc P w B k N off (fd :: fs) (fun x : α × β => (f x.1).leaves ++ g x.2) (fun x => Q x.1 ∧ R x.2) (fun x => μ x.1 + ν x.2) := fun fuel hf cs xs hN hl hx hw => by
  subst hz
  cases xs with
  | nil => simp at hl
  | cons x xs =>
    simp only [List.map_cons, DataW.weightsEach, List.all_append, Bool.and_eq_true] at hw
    have h0 := hx 0 fd rfl
    rw [List.getElem?_cons_zero, ho] at h0
    obtain ⟨a, ha, hra, hma⟩ := h fuel hf _ _ h0 hw.1
    obtain ⟨b, hb, hrb, hmb⟩ := hs fuel hf cs xs hN (by simpa using hl) (fun i f' hf' => by simpa using hx (i + 1) f' (by simpa using hf')) hw.2
    refine ⟨(a, b), ⟨ha, hb⟩, ?_, ?_⟩
    · have : cs.drop off = (cs.drop off).take (P.cellsOf fd.type) ++ cs.drop (off + P.cellsOf fd.type) := by
        rw [← List.drop_drop, List.take_append_drop]
      rw [this]
      exact hra.app hrb
    · rw [List.map_cons, sumBy]
      exact Nat.add_le_add hma hmb
theorem reads_struct (hB : BulkOk B) {k N : Nat} {t : TypeId} {fs : Array Field} {α : Type} {g : α → List PV} {Q : α → Prop} {μ : α → Nat} (ht : P.underlying t = some (.struct fs)) (hz : P.cellsOf t = N) (h : Fields enc P w B k N 0 fs.toList g Q μ) :
    Reads enc P w B (k + 1) t (fun a => .agg (g a)) Q (fun a => μ a + 1) := fun fuel hf cs x hx hw => by
  subst hz
  obtain ⟨xs, n, rfl, rfl, hl, hxl, hx⟩ := DataW.trod_struct ht hx
  simp only [DataW.weights, ht] at hw
  obtain ⟨a, ha, hr, hm⟩ := h n (by omega) cs xs hl (by simpa using hxl) (fun i f hf => hx i f (by simpa using hf)) hw
  exact ⟨a, ha, by simpa [PV.leaves] using hr, Nat.le_trans (Nat.add_le_add_right hm 1) (hB.agg _)⟩
end
end Go.Proofs.YtlbjfjaleefiiaaDoor.Ev
end
section
namespace Go.Proofs.YtlbjfjaleefiiaaDoor.Ev
open Go
def Glyph.Good (g : Glyph) : Prop := (Lit.int .i32 g.r).wf = true ∧ (Lit.int .u8 g.s).wf = true
def GRow (l : List Glyph) : Prop := (∀ g ∈ l, g.Good) ∧ l.length * 8 ≤ 140737488355328
def GRows (l : List (List Glyph)) : Prop := (∀ r ∈ l, GRow r) ∧ l.length * 24 ≤ 140737488355328
def GTRow (r : TRow) : Prop := GRows r.cells
def GTbl (t : Tbl) : Prop := t.cols.size ≤ 140737488355328 ∧ (∀ r ∈ t.rows, GTRow r) ∧ t.rows.length * 32 ≤ 140737488355328
inductive Node.Good : Node → Prop
  | mk {kind line n : Int} {text : List Glyph} {kids : List Node} {rows : List (List Glyph)} {grid : Tbl} (h1 : (Lit.int .i64 kind).wf = true) (h2 : (Lit.int .i64 line).wf = true) (h3 : (Lit.int .i64 n).wf = true)
    (ht : GRow text) (hk : kids.length * 144 ≤ 140737488355328) (hks : ∀ x ∈ kids, Good x) (hr : GRows rows) (hg : GTbl grid) : Good (.mk kind line n text kids rows grid)
def GNodes (l : List Node) : Prop := (∀ x ∈ l, x.Good) ∧ l.length * 144 ≤ 140737488355328
section
variable {H : Type} {enc : TypeId × Value → H} {w : World}
theorem cells30 : Tryd.prog.cellsOf 30 = 2 := by kernel_rfl
theorem cells26 : Tryd.prog.cellsOf 26 = 1 := by kernel_rfl
theorem cells22 : Tryd.prog.cellsOf 22 = 1 := by kernel_rfl
theorem cells44 : Tryd.prog.cellsOf 44 = 1 := by kernel_rfl
theorem cells31 : Tryd.prog.cellsOf 31 = 1 := by kernel_rfl
theorem cells75 : Tryd.prog.cellsOf 75 = 2 := by kernel_rfl
theorem cells46 : Tryd.prog.cellsOf 46 = 4 := by kernel_rfl
theorem cells48 : Tryd.prog.cellsOf 48 = 10 := by kernel_rfl
theorem cells3 : Tryd.prog.cellsOf 3 = 1 := by kernel_rfl
theorem cells4 : Tryd.prog.cellsOf 4 = 1 := by kernel_rfl
theorem cells5 : Tryd.prog.cellsOf 5 = 1 := by kernel_rfl
theorem cells9 : Tryd.prog.cellsOf 9 = 1 := by kernel_rfl
theorem cells21 : Tryd.prog.cellsOf 21 = 1 := by kernel_rfl
theorem bytes30' : Tryd.prog.bytesOf 30 = 8 := by kernel_rfl
theorem bytes26' : Tryd.prog.bytesOf 26 = 24 := by kernel_rfl
theorem bytes75' : Tryd.prog.bytesOf 75 = 32 := by kernel_rfl
theorem bytes48' : Tryd.prog.bytesOf 48 = 144 := by kernel_rfl
variable {B : DataW H → Nat}
theorem reads30 (hB : BulkOk B) {k : Nat} : Reads enc Tryd.prog w B k 30 Glyph.pv Glyph.Good (fun _ => 1) := by
  have h := reads_struct hB (k := k) (N := 2) Tryd.underlying30 cells30 (fields_cons (enc := enc) (w := w) rfl cells21 (reads_int hB Tryd.underlying21) (fields_cons rfl cells5 (reads_int hB Tryd.underlying5) fields_nil))
  exact (h.le (Nat.le_succ k)).to fun a h => ⟨⟨a.1, a.2.1⟩, rfl, ⟨h.1, h.2.1⟩, by omega⟩
theorem sumBy_one {α : Type} (l : List α) : sumBy (fun _ => 1) l = l.length := by
  induction l with
  | nil => rfl
  | cons x l ih => rw [sumBy, ih, List.length_cons]; omega
theorem sumBy_le {α : Type} {f g : α → Nat} (l : List α) (h : ∀ x, f x ≤ g x) : sumBy f l ≤ sumBy g l := by
  induction l with
  | nil => exact Nat.le_refl _
  | cons x l ih => rw [sumBy, sumBy]; have := h x; omega
theorem sumBy_add {α : Type} (f : α → Nat) (l : List α) : sumBy (fun x => f x + 1) l = sumBy f l + l.length := by
  induction l with
  | nil => rfl
  | cons x l ih => rw [sumBy, sumBy, ih, List.length_cons]; omega
theorem reads26 (hB : BulkOk B) {k : Nat} : Reads enc Tryd.prog w B k 26 gl GRow (fun l => l.length + 1) := by
  have h := reads_slice hB Tryd.underlying26 cells30 bytes30' (by decide) (reads30 (enc := enc) (w := w) (k := k) hB) (fun a => rfl)
  exact (h.le (Nat.le_succ k)).to fun a h => ⟨a, rfl, ⟨h.1, Nat.le_trans h.2 (by decide)⟩, by rw [sumBy_one]; omega⟩
theorem reads22 (hB : BulkOk B) {k : Nat} : Reads enc Tryd.prog w B k 22 (fun l : List (List Glyph) => .sl (l.map gl)) GRows (fun l => rowsLong l + 1) := by
  have h := reads_slice hB Tryd.underlying22 cells26 bytes26' (by decide) (reads26 (enc := enc) (w := w) (k := k) hB) (fun a => rfl)
  exact (h.le (Nat.le_succ k)).to fun a h => ⟨a, rfl, ⟨h.1, Nat.le_trans h.2 (by decide)⟩, by
    have := sumBy_le (f := fun r : List Glyph => 1 + r.length) (g := fun r => r.length + 1) a (fun r => by omega)
    unfold rowsLong; omega⟩
theorem reads75 (hB : BulkOk B) {k : Nat} : Reads enc Tryd.prog w B k 75 TRow.pv GTRow trowLong := by
  have h := reads_struct hB (k := k) (N := 2) Tryd.underlying75 cells75 (fields_cons (enc := enc) (w := w) rfl cells4 (reads_bool hB Tryd.underlying4) (fields_cons rfl cells22 (reads22 hB) fields_nil))
  exact (h.le (Nat.le_succ k)).to fun a h => ⟨⟨a.1, a.2.1⟩, rfl, h.2.1, by
    have := sumBy_add List.length a.2.1
    have h2 := sumBy_le (f := fun r : List Glyph => r.length + 1) (g := fun r => 1 + r.length) a.2.1 (fun r => by omega)
    simp only [trowLong, rowsLong]; omega⟩
theorem reads44 (hB : BulkOk B) {k : Nat} : Reads enc Tryd.prog w B k 44 (fun l : List TRow => .sl (l.map TRow.pv)) (fun l => (∀ r ∈ l, GTRow r) ∧ l.length * 32 ≤ 140737488355328) (fun l => sumBy trowLong l + 1) := by
  have h := reads_slice hB Tryd.underlying44 cells75 bytes75' (by decide) (reads75 (enc := enc) (w := w) (k := k) hB) (fun a => rfl)
  exact (h.le (Nat.le_succ k)).to fun a h => ⟨a, rfl, ⟨h.1, Nat.le_trans h.2 (by decide)⟩, Nat.le_refl _⟩
theorem reads46 (hB : BulkOk B) {k : Nat} : Reads enc Tryd.prog w B k 46 Tbl.pv GTbl (fun t => t.cols.size + sumBy trowLong t.rows + 2) := by
  have h := reads_struct hB (k := k) (N := 4) Tryd.underlying46 cells46 (fields_cons (enc := enc) (w := w) rfl cells9 (reads_str hB Tryd.underlying9) (fields_cons rfl cells44 (reads44 hB) (fields_cons rfl cells4 (reads_bool hB Tryd.underlying4) (fields_cons rfl cells4 (reads_bool hB Tryd.underlying4) fields_nil))))
  exact (h.le (Nat.le_succ k)).to fun a h => ⟨⟨a.1, a.2.1, a.2.2.1, a.2.2.2.1⟩, rfl, ⟨Nat.le_trans h.1 (by decide), h.2.1⟩, by simp only; omega⟩
theorem Node.pv_size (x : Node) : x.pv.leaves.length = 10 := by rw [Node.pv_eq]; rfl
theorem reads31' (hB : BulkOk B) {k : Nat} (h : Reads enc Tryd.prog w B k 48 Node.pv Node.Good Node.long) : Reads enc Tryd.prog w B k 31 (fun l : List Node => .sl (l.map Node.pv)) GNodes (fun l => sumBy Node.long l + 1) := by
  have h := reads_slice hB Tryd.underlying31 cells48 bytes48' (by decide) h Node.pv_size
  exact (h.le (Nat.le_succ k)).to fun a h => ⟨a, rfl, ⟨h.1, Nat.le_trans h.2 (by decide)⟩, Nat.le_refl _⟩
theorem reads48 (hB : BulkOk B) : ∀ {k : Nat}, Reads enc Tryd.prog w B k 48 Node.pv Node.Good Node.long := by
  intro k
  induction k with
  | zero => exact Reads.zero
  | succ k ih =>
    have h := reads_struct hB (k := k) (N := 10) Tryd.underlying48 cells48 (fields_cons (enc := enc) (w := w) rfl cells3 (reads_int hB Tryd.underlying3) (fields_cons rfl cells3 (reads_int hB Tryd.underlying3) (fields_cons rfl cells3 (reads_int hB Tryd.underlying3)
      (fields_cons rfl cells26 (reads26 hB) (fields_cons rfl cells31 (reads31' hB ih) (fields_cons rfl cells22 (reads22 hB) (fields_cons rfl cells46 (reads46 hB) fields_nil)))))))
    refine h.to fun a h => ?_
    obtain ⟨h1, h2, h3, h4, h5, h6, h7, _⟩ := h
    exact ⟨.mk a.1 a.2.1 a.2.2.1 a.2.2.2.1 a.2.2.2.2.1 a.2.2.2.2.2.1 a.2.2.2.2.2.2.1, by rw [Node.pv_eq]; rfl, .mk h1 h2 h3 h4 h5.2 h5.1 h6 h7, by rw [Node.long_eq]; simp only [Node.text_mk, Node.kids_mk, Node.rows_mk, Node.grid_mk]; omega⟩
end
end Go.Proofs.YtlbjfjaleefiiaaDoor.Ev
end
