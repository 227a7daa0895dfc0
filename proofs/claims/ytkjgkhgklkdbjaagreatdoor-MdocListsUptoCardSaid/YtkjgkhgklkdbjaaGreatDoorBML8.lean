/- Of what the law MdocLists needs: part 8. -/
import Derived.ChangeArms
import Derived.DataReads
import Derived.WideShapes
import GoSem.ClaimJoined
import Derived.Test.YtkjgkhgklkdbjaaGreatDoorBML7
set_option linter.unusedSimpArgs false
set_option linter.unusedVariables false
section
namespace Go.Proofs.YtkjgkhgklkdbjaaGreatDoor.Ev
open Go
def limOf (w : World) (b : Nat) : Nat := match w.heap[b]? with
  | some (.cells c _ _) => c.size
  | _ => 0
theorem lt_limOf {w : World} {b off : Nat} {s} {v : Value} (h : w.cell? ⟨b, off, s⟩ = some v) : off < limOf w b := by
  unfold World.cell? at h
  unfold limOf
  split at h
  · rename_i c T fz hc
    simp only at hc
    rw [hc]
    split at h
    · simp at h
    · exact (Array.getElem?_eq_some_iff.1 h).1
  · simp at h
section
variable {H : Type} {enc : TypeId × Value → H} {P : Program} {w : World}
def LRep (w : World) (ls : List PV) (cs : List Value) : Prop := cs.length = ls.length ∧ ∀ (j : Nat) (p : PV) (v : Value), ls[j]? = some p → cs[j]? = some v → p.isLeaf = true ∧ Rep w (limOf w) p v
theorem LRep.one {p : PV} {v : Value} (hl : p.isLeaf = true) (h : Rep w (limOf w) p v) : LRep w [p] [v] := ⟨rfl, fun j q u hq hu => by
  cases j with
  | zero => simp at hq hu; subst hq; subst hu; exact ⟨hl, h⟩
  | succ j => simp at hq⟩
structure BulkOk (B : DataW H → Nat) : Prop where
  one : ∀ d, 1 ≤ B d
  str : ∀ bs, bs.length + 1 ≤ B (.lit (.string bs))
  slice : ∀ es sp, sumBy B es + 1 ≤ B (.slice es sp)
  agg : ∀ ps, sumBy B ps + 1 ≤ B (.agg ps)
variable {B : DataW H → Nat}
def Reads (enc : TypeId × Value → H) (P : Program) (w : World) (B : DataW H → Nat) (k : Nat) (t : TypeId) {α : Type} (f : α → PV) (Q : α → Prop) (μ : α → Nat) : Prop :=
  ∀ fuel, fuel ≤ k → ∀ cs x, DataW.trod enc P w 0 (fun _ => true) true fuel t cs = some x → (x.1.weights P t).all (· ≤ reachBytes) = true → ∃ a, Q a ∧ LRep w (f a).leaves cs ∧ μ a ≤ B x.1
theorem Reads.le {k j : Nat} {t : TypeId} {α : Type} {f : α → PV} {Q : α → Prop} {μ : α → Nat} (h : Reads enc P w B k t f Q μ) (hj : j ≤ k) : Reads enc P w B j t f Q μ := fun fuel hf => h fuel (Nat.le_trans hf hj)
theorem Reads.to {k : Nat} {t : TypeId} {α β : Type} {f : α → PV} {g : β → PV} {Q : α → Prop} {R : β → Prop} {μ : α → Nat} {ν : β → Nat} (h : Reads enc P w B k t f Q μ) (he : ∀ a, Q a → ∃ b, (g b).leaves = (f a).leaves ∧ R b ∧ ν b ≤ μ a) : Reads enc P w B k t g R ν := fun fuel hf cs x hx hw => by
  obtain ⟨a, ha, hr, hm⟩ := h fuel hf cs x hx hw
  obtain ⟨b, hb, hR, hn⟩ := he a ha
  exact ⟨b, hR, hb ▸ hr, Nat.le_trans hn hm⟩
theorem reads_int (hB : BulkOk B) {k : Nat} {t : TypeId} {q : IntKind} (ht : P.underlying t = some (.int q)) : Reads enc P w B k t (PV.int q) (fun n => (Lit.int q n).wf = true) (fun _ => 1) := fun fuel _ cs x hx _ => by
  obtain ⟨n, rfl, rfl, hn⟩ := DataW.trod_int ht hx
  exact ⟨n, hn, .one rfl .int, hB.one _⟩
theorem reads_bool (hB : BulkOk B) {k : Nat} {t : TypeId} (ht : P.underlying t = some .bool) : Reads enc P w B k t PV.bool (fun _ => True) (fun _ => 1) := fun fuel _ cs x hx _ => by
  obtain ⟨n, rfl, rfl⟩ := DataW.trod_bool ht hx
  exact ⟨n, trivial, .one rfl .bool, hB.one _⟩
theorem reads_str (hB : BulkOk B) {k : Nat} {t : TypeId} (ht : P.underlying t = some .string) : Reads enc P w B k t PV.str (fun s => s.size ≤ reachBytes) (fun s => s.size + 1) := fun fuel _ cs x hx hw => by
  obtain ⟨s, rfl, rfl, hs⟩ := DataW.trod_string ht hx
  refine ⟨s, ?_, .one rfl .str, ?_⟩
  · simpa [DataW.weights] using hw
  · have := hB.str s.data.toList
    simpa using this
theorem weightsAll_mem {e : TypeId} {d : DataW H} : ∀ {l : List (DataW H)}, (DataW.weightsAll P e l).all (· ≤ reachBytes) = true → d ∈ l → (d.weights P e).all (· ≤ reachBytes) = true
  | [], _, h => by simp at h
  | x :: l, hw, h => by
    rw [DataW.weightsAll, List.all_append, Bool.and_eq_true] at hw
    rcases List.mem_cons.1 h with rfl | h
    · exact hw.1
    · exact weightsAll_mem hw.2 h
theorem sumBy_ofFn {α β : Type} {f : α → Nat} {g : β → Nat} : ∀ {n : Nat} (F : Fin n → α) (l : List β), l.length = n → (∀ (i : Fin n) (x : β), l[i.1]? = some x → f (F i) ≤ g x) → sumBy f (List.ofFn F) ≤ sumBy g l
  | 0, F, l, hl, h => by simp [sumBy]
  | n + 1, F, l, hl, h => by
    cases l with
    | nil => simp at hl
    | cons x l =>
      rw [List.ofFn_succ, sumBy, sumBy]
      have h0 := h 0 x rfl
      have h1 := sumBy_ofFn (fun i => F i.succ) l (by simpa using hl) (fun i y hy => h i.succ y (by simpa using hy))
      omega
theorem reads_slice (hB : BulkOk B) {k z m : Nat} {t e : TypeId} {α : Type} {f : α → PV} {Q : α → Prop} {μ : α → Nat} (ht : P.underlying t = some (.slice e)) (hz : P.cellsOf e = z) (hm : P.bytesOf e = m) (hc0 : 0 < z) (h : Reads enc P w B k e f Q μ) (hsz0 : ∀ a, (f a).leaves.length = z) :
    Reads enc P w B (k + 1) t (fun l : List α => .sl (l.map f)) (fun l => (∀ a ∈ l, Q a) ∧ l.length * m ≤ reachBytes) (fun l => sumBy μ l + 1) := fun fuel hf cs x hx hw => by
  have hc : 0 < P.cellsOf e := by rw [hz]; exact hc0
  have hsz : ∀ a, (f a).leaves.length = P.cellsOf e := fun a => by rw [hz]; exact hsz0 a
  rw [← hm]
  rcases DataW.trod_slice ht hx with ⟨rfl, rfl⟩ | ⟨a, len, cap, elems, rest, n, rfl, rfl, rfl, hb, hl, hcap, hlen, hel, _, _⟩
  · exact ⟨[], ⟨by simp, by simp⟩, .one rfl .nil, by simpa [sumBy] using hB.one _⟩
  · simp only [DataW.weights, ht, List.all_cons, List.all_append, Bool.and_eq_true, decide_eq_true_eq, List.length_map] at hw
    have key : ∀ i : Fin len, ∃ (b : α) (ds : List Value), w.cells? 0 (a.add (i * P.cellsOf e)) (P.cellsOf e) = some ds ∧ Q b ∧ LRep w (f b).leaves ds ∧ ∀ y, elems[i.1]? = some y → μ b ≤ B y.1 := by
      intro i
      have hi := hel i i.2
      have hlt : i.1 < elems.length := by omega
      rw [List.getElem?_eq_getElem hlt, Option.bind_eq_some_iff] at hi
      obtain ⟨ds, h1, h2⟩ := hi
      obtain ⟨b, hb1, hb2, hb3⟩ := h n (by omega) ds _ h2 (weightsAll_mem hw.2.1 (List.mem_map_of_mem (List.getElem_mem hlt)))
      exact ⟨b, ds, h1, hb1, hb2, fun y hy => by
        rw [List.getElem?_eq_getElem hlt] at hy
        obtain rfl := Option.some.inj hy
        exact hb3⟩
    obtain ⟨G, hG⟩ : ∃ G : Fin len → α, ∀ i : Fin len, ∃ ds : List Value, w.cells? 0 (a.add (i * P.cellsOf e)) (P.cellsOf e) = some ds ∧ Q (G i) ∧ LRep w (f (G i)).leaves ds ∧ ∀ y, elems[i.1]? = some y → μ (G i) ≤ B y.1 := ⟨fun i => Classical.choose (key i), fun i => Classical.choose_spec (key i)⟩
    clear key
    refine ⟨List.ofFn G, ⟨fun b hb => ?_, ?_⟩, ?_, ?_⟩
    · obtain ⟨i, rfl⟩ := List.mem_ofFn.1 hb
      obtain ⟨ds, _, hq, _⟩ := hG i
      exact hq
    · rw [List.length_ofFn, ← hlen]
      exact Nat.le_trans (Nat.mul_le_mul_right _ (Nat.le_add_right _ _)) hw.1
    · refine .one rfl ?_
      have hs : 0 < len → a.spot = none := fun h00 => by
        obtain ⟨ds, h1, _, h3, _⟩ := hG ⟨0, h00⟩
        unfold World.cells? at h1
        rw [if_pos (Nat.zero_le _)] at h1
        have hg := mapM_some_get h1 0 0 (by rw [List.getElem?_range hc])
        rw [List.getElem?_eq_getElem (by rw [h3.1, hsz]; exact hc)] at hg
        have := World.cell?_spot hg
        simpa [Addr.add] using this
      have hcell : ∀ (i j : Nat) (e' : PV) (p : PV), ((List.ofFn G).map f)[i]? = some e' → e'.leaves[j]? = some p → ∃ v, w.cell? ⟨a.block, a.off + (i * P.cellsOf e + j), none⟩ = some v ∧ a.spot = none ∧ p.isLeaf = true ∧ Rep w (limOf w) p v ∧ i < len := by
        intro i j e' p he hp
        rw [List.getElem?_map] at he
        obtain ⟨b, hb, rfl⟩ := Option.map_eq_some_iff.1 he
        rw [List.getElem?_ofFn] at hb
        split at hb
        · rename_i hi
          simp at hb
          obtain ⟨ds, h1, _, h3, _⟩ := hG ⟨i, hi⟩
          rw [hb] at h3
          have hj : j < (f b).leaves.length := (List.getElem?_eq_some_iff.1 hp).1
          have hjd : j < ds.length := by rw [h3.1]; exact hj
          unfold World.cells? at h1
          rw [if_pos (Nat.zero_le _)] at h1
          have hg := mapM_some_get h1 j j (by rw [List.getElem?_range (by rw [← hsz b]; exact hj)])
          rw [List.getElem?_eq_getElem hjd] at hg
          have hs := hs (by omega)
          have e0 : (a.add (i * P.cellsOf e)).add j = ⟨a.block, a.off + (i * P.cellsOf e + j), none⟩ := by
            cases a
            simp only [Addr.add] at hs ⊢
            subst hs
            generalize i * P.cellsOf e = z
            by_cases hz : z = 0
            · by_cases hj : j = 0 <;> simp [hz, hj]
            · by_cases hj : j = 0 <;> simp [hz, hj] <;> omega
          simp only at hg
          rw [e0] at hg
          have hr := h3.2 j p _ hp (List.getElem?_eq_getElem hjd)
          exact ⟨_, hg, hs, hr.1, hr.2, hi⟩
        · simp at hb
      by_cases h0 : len = 0
      · subst h0
        simp
        exact .nil
      · have h00 : 0 < len := by omega
        have hs := hs h00
        refine .sl (fun i j => (w.cell? ⟨a.block, a.off + (i * P.cellsOf e + j), none⟩).getD (.bool false)) (sz := P.cellsOf e) (by simp) hs hc (fun i e' he => ?_) (fun i j e' p he hp => ?_) (fun i j e' p he hp => ?_) (fun i j e' p he hp => ?_) (fun i j e' p he hp => ?_) hl
        · rw [List.getElem?_map] at he
          obtain ⟨b, hb, rfl⟩ := Option.map_eq_some_iff.1 he
          exact hsz b
        · obtain ⟨v, hv, _⟩ := hcell i j e' p he hp
          exact lt_limOf hv
        · obtain ⟨v, hv, _⟩ := hcell i j e' p he hp
          rw [hv]; rfl
        · obtain ⟨v, _, _, hv, _⟩ := hcell i j e' p he hp
          exact hv
        · obtain ⟨v, hv, _, _, hr, _⟩ := hcell i j e' p he hp
          rw [hv]; exact hr
    · refine Nat.le_trans (Nat.add_le_add_right (sumBy_ofFn (g := B) G (elems.map (·.1)) (by simpa using hlen) (fun i x hx => ?_)) 1) (hB.slice _ _)
      rw [List.getElem?_map] at hx
      obtain ⟨y, hy, rfl⟩ := Option.map_eq_some_iff.1 hx
      obtain ⟨_, _, _, _, hm⟩ := hG i
      exact hm y hy
end
end Go.Proofs.YtkjgkhgklkdbjaaGreatDoor.Ev
end
section
namespace Go.Proofs.YtkjgkhgklkdbjaaGreatDoor.Ev
open Go
section
variable {H : Type} {enc : TypeId × Value → H} {w : World}
theorem cells57 : Tryz.prog.cellsOf 57 = 2 := by kernel_rfl
theorem cells5 : Tryz.prog.cellsOf 5 = 1 := by kernel_rfl
theorem cells21 : Tryz.prog.cellsOf 21 = 1 := by kernel_rfl
variable {B : DataW H → Nat}
end
end Go.Proofs.YtkjgkhgklkdbjaaGreatDoor.Ev
end
