/- Of what the law TblBack needs: part 14. -/
import Derived.Lib.FieldsP
import Derived.Lib.Split
import Derived.Lib.SplitLaws
import Derived.Test.YtabgeenhpfnhdaaDoorBTB11
import Derived.Test.YtabgeenhpfnhdaaDoorBTB12
set_option linter.unusedSimpArgs false
set_option linter.unusedVariables false
section
namespace Go.Proofs.YtabgeenhpfnhdaaDoor.Ev
open Go
def ba (l : List UInt8) : ByteArray := ⟨l.toArray⟩
theorem ba_data (s : ByteArray) : ba s.data.toList = s := by cases s; rfl
theorem data_ba (l : List UInt8) : (ba l).data.toList = l := by simp [ba]
theorem ba_inj {a b : List UInt8} : ba a = ba b ↔ a = b := ⟨fun h => by rw [← data_ba a, h, data_ba], fun h => by rw [h]⟩
theorem ba_size (l : List UInt8) : (ba l).size = l.length := by rw [Go.Lib.size_eq, data_ba]
theorem ba_app (a b : List UInt8) : ba a ++ ba b = ba (a ++ b) := by
  have : (ba a ++ ba b).data.toList = a ++ b := by simp [ba]
  rw [← ba_data (ba a ++ ba b), this]
theorem decL_big {b : UInt8} (t : List UInt8) (hb : ¬ b.toNat < 128) : 128 ≤ (Go.Lib.decodeL (b :: t)).1 ∧ 1 ≤ (Go.Lib.decodeL (b :: t)).2 ∧ (Go.Lib.decodeL (b :: t)).2 ≤ (b :: t).length ∧ ∀ x ∈ (b :: t).take (Go.Lib.decodeL (b :: t)).2, 128 ≤ x.toNat := by
  have k0 := ((b :: t).getD 0 0).toNat_lt
  have hb0 : ((b :: t).getD 0 0) = b := rfl
  have hN := Go.Lib.decodeL_N (b :: t)
  rw [hN]
  rcases Go.Lib.decodeN_shape (b :: t).length ((b :: t).getD 0 0).toNat ((b :: t).getD 1 0).toNat ((b :: t).getD 2 0).toNat ((b :: t).getD 3 0).toNat with ⟨c, e⟩ | ⟨c1, c2, c3, cv, e⟩ | ⟨c1, c2, c3, c4, cv, cs, e⟩ | ⟨c1, c2, c3, c4, c5, cv, cw, e⟩ | e
  · rw [hb0] at c; omega
  · rw [e]
    refine ⟨cv, by simp, c2, ?_⟩
    rw [Go.Lib.takeB _ c2]
    intro x hx
    simp at hx
    rcases hx with hx | hx
    · rw [hx]; omega
    · rw [hx]; simp at c3 ⊢; omega
  · rw [e]
    refine ⟨by simp only; omega, by simp, c2, ?_⟩
    rw [Go.Lib.takeC _ c2]
    intro x hx
    simp at hx
    rcases hx with hx | hx | hx
    · rw [hx]; omega
    · rw [hx]; simp at c3 ⊢; omega
    · rw [hx]; simp at c4 ⊢; omega
  · rw [e]
    refine ⟨by simp only; omega, by simp, c2, ?_⟩
    rw [Go.Lib.takeD _ c2]
    intro x hx
    simp at hx
    rcases hx with hx | hx | hx | hx
    · rw [hx]; omega
    · rw [hx]; simp at c3 ⊢; omega
    · rw [hx]; simp at c4 ⊢; omega
    · rw [hx]; simp at c5 ⊢; omega
  · rw [e]
    refine ⟨by simp, by simp, by simp, ?_⟩
    intro x hx
    simp at hx
    subst hx; omega
def isSep (n : Nat) : Bool := n == 32 || n == 44
def wordsG : List UInt8 → List UInt8 → List (List UInt8)
  | cur, [] => if cur = [] then [] else [cur]
  | cur, b :: l => if isSep b.toNat = true then (if cur = [] then [] else [cur]) ++ wordsG [] l else wordsG (cur ++ [b]) l
def wordsL (l : List UInt8) : List (List UInt8) := wordsG [] l
theorem wordsG_run : ∀ (r l cur : List UInt8), (∀ x ∈ r, isSep x.toNat = false) → wordsG cur (r ++ l) = wordsG (cur ++ r) l
  | [], l, cur, _ => by simp
  | b :: r, l, cur, h => by
    rw [List.cons_append, wordsG, if_neg (by rw [h b (by simp)]; simp), wordsG_run r l _ fun x hx => h x (by simp [hx])]
    simp
theorem isSep_big {n : Nat} (h : 128 ≤ n) : isSep n = false := by
  unfold isSep
  have h1 : (n == 32) = false := by simp; omega
  have h2 : (n == 44) = false := by simp; omega
  rw [h1, h2]; rfl
theorem openPiece_grow (l : List UInt8) {a pos k : Nat} (h : a ≤ pos) : Go.Lib.openPiece l (some a) pos ++ (l.drop pos).take k = Go.Lib.openPiece l (some a) (pos + k) := Go.Lib.pieceU_grow l a pos k h
theorem openPiece_new (l : List UInt8) (pos k : Nat) : (l.drop pos).take k = Go.Lib.openPiece l (some pos) (pos + k) := by
  show (l.drop pos).take k = (l.drop pos).take (pos + k - pos)
  rw [Nat.add_sub_cancel_left]
theorem spansP_eq (s : ByteArray) : ∀ (f pos : Nat) (st : Option Nat) (acc : List (Nat × Nat)), s.size ≤ pos + f → pos ≤ s.size → (∀ a, st = some a → a < pos) →
    (Go.Lib.closeSpans s (Go.Lib.spansFromP isSep s f pos st acc)).map (fun p => Go.Lib.pieceU s.data.toList p.1 p.2) = acc.map (fun p => Go.Lib.pieceU s.data.toList p.1 p.2) ++ wordsG (Go.Lib.openPiece s.data.toList st pos) (s.data.toList.drop pos) := by
  intro f
  have hend : ∀ (pos : Nat) (st : Option Nat) (acc : List (Nat × Nat)), pos = s.size → (∀ a, st = some a → a < pos) → (Go.Lib.closeSpans s (acc, st)).map (fun p => Go.Lib.pieceU s.data.toList p.1 p.2) = acc.map (fun p => Go.Lib.pieceU s.data.toList p.1 p.2) ++ wordsG (Go.Lib.openPiece s.data.toList st pos) (s.data.toList.drop pos) := by
    intro pos st acc hp hst
    subst hp
    have hd : s.data.toList.drop s.size = [] := List.drop_eq_nil_of_le (by rw [← Go.Lib.size_eq]; exact Nat.le_refl _)
    rw [hd]
    cases st with
    | none => simp [Go.Lib.closeSpans, Go.Lib.openPiece, wordsG]
    | some a =>
      have := Go.Lib.pieceU_ne s.data.toList a s.size (hst a rfl) (by rw [← Go.Lib.size_eq]; exact Nat.le_refl _)
      simp [Go.Lib.closeSpans, Go.Lib.openPiece, wordsG, this]
  induction f with
  | zero =>
    intro pos st acc h hp hst
    exact hend pos st acc (by omega) hst
  | succ f ih =>
    intro pos st acc h hp hst
    by_cases hlt : pos < s.size
    · have hlen : (s.data.toList.drop pos).length = s.size - pos := by rw [List.length_drop, ← Go.Lib.size_eq]
      have hw := Go.Lib.width_pos s pos
      have hdl := Go.Lib.decodeL_drop s pos
      obtain ⟨b, t, hbt⟩ : ∃ b t, s.data.toList.drop pos = b :: t := by
        cases hx : s.data.toList.drop pos with
        | nil => rw [hx] at hlen; simp at hlen; omega
        | cons b t => exact ⟨b, t, rfl⟩
      have key : ∃ R k, Utf8.decode s pos = (R, k) ∧ 1 ≤ k ∧ pos + k ≤ s.size ∧ ((isSep R = true ∧ k = 1 ∧ isSep b.toNat = true) ∨ (isSep R = false ∧ ∀ x ∈ (s.data.toList.drop pos).take k, isSep x.toNat = false)) := by
        obtain ⟨R, k, hRk⟩ : ∃ R k, Utf8.decode s pos = (R, k) := ⟨_, _, rfl⟩
        rw [hRk] at hw hdl
        rw [hbt] at hdl
        refine ⟨R, k, hRk, hw, ?_⟩
        by_cases hb : b.toNat < 128
        · rw [decL_ascii b t hb, Prod.mk.injEq] at hdl
          obtain ⟨rfl, rfl⟩ := hdl
          refine ⟨by omega, ?_⟩
          cases hs : isSep b.toNat with
          | true => exact .inl ⟨rfl, rfl, rfl⟩
          | false => exact .inr ⟨rfl, fun x hx => by rw [hbt] at hx; simp at hx; rw [hx]; exact hs⟩
        · obtain ⟨h1, h2, h3, h4⟩ := decL_big t hb
          rw [hdl] at h1 h2 h3 h4
          rw [← hbt] at h3 h4
          exact ⟨by simp only at h3; omega, .inr ⟨isSep_big h1, fun x hx => isSep_big (h4 x hx)⟩⟩
      obtain ⟨R, k, hR, hk1, hks, hc⟩ := key
      have hdd : (s.data.toList.drop pos).drop k = s.data.toList.drop (pos + k) := by rw [List.drop_drop]
      simp only [Go.Lib.spansFromP, if_pos hlt, hR]
      rcases hc with ⟨c1, rfl, c3⟩ | ⟨c1, c2⟩
      · rw [c1]
        simp only [if_true]
        have hdt : s.data.toList.drop (pos + 1) = t := by rw [← hdd, hbt]; rfl
        cases st with
        | none =>
          simp only
          rw [ih (pos + 1) none acc (by omega) hks (fun a h => by cases h), hbt, hdt]
          simp [wordsG, c3, Go.Lib.openPiece]
        | some a =>
          have hpn := Go.Lib.pieceU_ne s.data.toList a pos (hst a rfl) (by rw [← Go.Lib.size_eq]; omega)
          simp only
          rw [ih (pos + 1) none (acc ++ [(a, pos)]) (by omega) hks (fun a h => by cases h), hbt, hdt]
          simp [wordsG, c3, Go.Lib.openPiece, hpn]
      · rw [c1]
        simp only [Bool.false_eq_true, if_false]
        have e := List.take_append_drop k (s.data.toList.drop pos)
        have hrun := fun cur => wordsG_run ((s.data.toList.drop pos).take k) ((s.data.toList.drop pos).drop k) cur c2
        rw [e, hdd] at hrun
        cases st with
        | none =>
          simp only
          rw [ih (pos + k) (some pos) acc (by omega) hks (fun a h => by cases h; omega)]
          rw [show Go.Lib.openPiece s.data.toList none pos = [] from rfl, hrun, List.nil_append, openPiece_new]
        | some a =>
          simp only
          rw [ih (pos + k) (some a) acc (by omega) hks (fun b h => by cases h; have := hst a rfl; omega)]
          rw [hrun, openPiece_grow _ (Nat.le_of_lt (hst a rfl))]
    · have hp' : pos = s.size := by omega
      rw [Go.Lib.spansFromP_end _ _ _ _ _ _ hlt]
      exact hend pos st acc hp' hst
theorem fields_words (s : ByteArray) : Go.Lib.goFieldsP isSep s = (wordsL s.data.toList).map ba := by
  have h := spansP_eq s s.size 0 none [] (by omega) (Nat.zero_le _) (fun a h => by cases h)
  simp only [List.map_nil, List.nil_append, List.drop_zero] at h
  rw [show Go.Lib.openPiece s.data.toList none 0 = [] from rfl] at h
  unfold wordsL
  rw [← h]
  unfold Go.Lib.goFieldsP Go.Lib.spansOfP
  rw [List.map_map]
  refine List.map_congr_left fun p _ => ?_
  show s.extract p.1 p.2 = ba (Go.Lib.pieceU s.data.toList p.1 p.2)
  rw [← ba_data (s.extract p.1 p.2)]
  congr 1
  simp [Go.Lib.pieceU]
def splitC (c : UInt8) : List UInt8 → List (List UInt8)
  | [] => [[]]
  | b :: l => if b = c then [] :: splitC c l else match splitC c l with
    | [] => [[b]]
    | x :: r => (b :: x) :: r
theorem splitC_ne (c : UInt8) (l : List UInt8) : splitC c l ≠ [] := by
  cases l with
  | nil => simp [splitC]
  | cons b l =>
    rw [splitC]
    split
    · simp
    · split <;> simp
theorem splitK_eq (c : UInt8) : ∀ (l : List UInt8), Go.Lib.splitK [c] 0 (Go.Lib.count l [c]) l = splitC c l
  | [] => by rw [Go.Lib.count_one]; rfl
  | b :: l => by
    have ih := splitK_eq c l
    by_cases hb : b = c
    · subst hb
      rw [Go.Lib.count_cons_eq, Nat.add_comm, Go.Lib.splitK]
      have hi : Go.Lib.index (b :: l) [b] = 0 := by simp [Go.Lib.index]
      rw [hi]
      simp [splitC, ih]
    · rw [Go.Lib.count_cons_ne b c l hb, splitC, if_neg hb, ← ih]
      cases hk : Go.Lib.count l [c] with
      | zero => simp [Go.Lib.splitK]
      | succ k =>
        have hii : Go.Lib.index l [c] ≠ -1 := fun h => by rw [Go.Lib.count_miss h] at hk; omega
        have hge := Go.Lib.index_ge l [c]
        obtain ⟨i, hi⟩ : ∃ i : Nat, Go.Lib.index l [c] = i := ⟨(Go.Lib.index l [c]).toNat, by omega⟩
        have hi2 : Go.Lib.index (b :: l) [c] = ((i + 1 : Nat) : Int) := by
          have hpre : List.isPrefixOf [c] (b :: l) = false := by simp [List.isPrefixOf]; exact fun h => hb h.symm
          rw [Go.Lib.index, hpre, hi]
          have : ((i : Int) == -1) = false := by simp
          simp [this]
        rw [Go.Lib.splitK, Go.Lib.splitK, hi, hi2]
        have e1 : (((i + 1 : Nat) : Int) == -1) = false := by simp; omega
        have e2 : ((i : Int) == -1) = false := by simp
        simp [e2]
        intro h; omega
theorem splitB_words (c : UInt8) (s : ByteArray) : Go.Lib.splitB (ba [c]) 0 (Go.Lib.countB s (ba [c])) s = (splitC c s.data.toList).map ba := by
  have h := Go.Lib.splitB_data (ba [c]) 0 (Go.Lib.countB s (ba [c])) s
  rw [data_ba, show Go.Lib.countB s (ba [c]) = Go.Lib.count s.data.toList [c] from by show Go.Lib.count s.data.toList (ba [c]).data.toList = _; rw [data_ba], splitK_eq] at h
  rw [← h, List.map_map]
  conv => lhs; rw [← List.map_id (Go.Lib.splitB (ba [c]) 0 (Go.Lib.countB s (ba [c])) s)]
  refine List.map_congr_left fun x _ => ?_
  simp [ba_data]
theorem splitC_len (c : UInt8) (l : List UInt8) : (splitC c l).length = l.count c + 1 := by
  induction l with
  | nil => rfl
  | cons b l ih =>
    rw [splitC]
    by_cases hb : b = c
    · subst hb; simp [ih]
    · rw [if_neg hb, List.count_cons_of_ne hb]
      have hne := splitC_ne c l
      cases hx : splitC c l with
      | nil => exact absurd hx hne
      | cons x r => rw [hx] at ih; simpa using ih
end Go.Proofs.YtabgeenhpfnhdaaDoor.Ev
end
section
namespace Go.Proofs.YtabgeenhpfnhdaaDoor.Ev
open Go
theorem pcon_strs {C : Ctx} {f : FuncId} {args : List FV} (xs : List ByteArray)
    (h : ∀ (vs : List Value) (W : Wd), vs.length = args.length → (∀ (j : Nat) (g : FV) (u : Value), args[j]? = some g → vs[j]? = some u → FRep W none 0 g u) → HInv C [] W →
      Calls C.P f vs.toArray W.w fun e w' => ∃ A cap, e = .returned (.slice (some ⟨A, 0, none⟩) xs.length cap) ∧ xs.length ≤ cap ∧ W.w.heap.size ≤ A ∧ A < w'.heap.size ∧ (∀ (j : Nat) (x : ByteArray), xs[j]? = some x → w'.cell? ⟨A, j, none⟩ = some (.string x)) ∧ RowKit.Below W.w.heap.size W.w w') : PCon C f args (.sc (.sl (xs.map .str))) :=
  fun vs W h1 h2 h3 _ => (h vs W h1 h2 h3).mono fun e w' ⟨A, cap, he, hcap, hA, hA', hc, hb⟩ => by
    obtain ⟨hE, hI⟩ := h3.below hb
    have h0 : ({ W with w := w' } : Wd).lim A = 0 := (h3.fresh A hA).1
    have hO : ({ W with w := w' } : Wd).o A = none := (h3.fresh A hA).2
    have hE0 := freeze_evo (n := xs.length) h0 hO
    refine ⟨_, ({ W with w := w' } : Wd).freeze A xs.length, [], he, rfl, .sc rfl ?_, hI.freeze h0 hO hA', ?_⟩
    · by_cases hx : xs = []
      · subst hx; exact .nil
      · have hlA : (({ W with w := w' } : Wd).freeze A xs.length).lim A = xs.length := by simp [Wd.freeze]
        have hat : ∀ {i : Nat} {e : PV}, (xs.map PV.str)[i]? = some e → ∃ x, xs[i]? = some x ∧ e = .str x := fun {i e} h => by
          rw [List.getElem?_map, Option.map_eq_some_iff] at h
          obtain ⟨x, h1, h2⟩ := h
          exact ⟨x, h1, h2.symm⟩
        refine .sl (fun i _ => .string (xs.getD i ByteArray.empty)) (sz := 1) (by simp) rfl (by decide) (fun i e h => ?_) (fun i j e p h hp => ?_) (fun i j e p h hp => ?_) (fun i j e p h hp => ?_) (fun i j e p h hp => ?_) hcap
        all_goals
          obtain ⟨x, hx1, rfl⟩ := hat h
        · rfl
        all_goals
          have hj : j = 0 ∧ p = .str x := by
            cases j with
            | zero => simp [PV.leaves] at hp; exact ⟨rfl, hp.symm⟩
            | succ j => simp [PV.leaves] at hp
          obtain ⟨rfl, rfl⟩ := hj
          have hg : xs.getD i ByteArray.empty = x := by simp [List.getD, hx1]
        · rw [hlA]
          have := (List.getElem?_eq_some_iff.1 hx1).1
          simp only; omega
        · have := hc i x hx1
          simp only [hg]
          show w'.cell? ⟨A, 0 + (i * 1 + 0), none⟩ = _
          rw [← this]; congr 2; omega
        · rfl
        · simp only [hg]
          exact .str
    · refine Evo.of hE.os hE.tape hE.output hE.size (fun b off ho => hE.cell b off ho) (fun b => Nat.le_trans (hE.lim b) (hE0.lim b)) hE.shape (fun _ _ _ _ hk => hk.elim) hE.beta hE.row (fun b hbl ho => ?_)
      obtain ⟨q1, q2, q3⟩ := hE.away b hbl ho
      refine ⟨q1, ?_, q3⟩
      simp only [Wd.freeze]
      rw [if_neg (by intro e; subst e; exact absurd hbl (Nat.not_lt.2 hA))]
theorem pcon_pair {C : Ctx} {f : FuncId} {args : List FV} {s : ByteArray} {b : Bool}
    (h : ∀ (vs : List Value) (W : Wd), vs.length = args.length → (∀ (j : Nat) (g : FV) (u : Value), args[j]? = some g → vs[j]? = some u → FRep W none 0 g u) → HInv C [] W → Calls C.P f vs.toArray W.w fun e w' => e = .returned (.tuple #[.string s, .bool b]) ∧ w' = W.w) : PCon C f args (.tup [.sc (.str s), .sc (.bool b)]) :=
  fun vs W h1 h2 h3 _ => (h vs W h1 h2 h3).mono fun e w' ⟨he, hw⟩ => by
    subst hw
    refine ⟨_, W, [], he, rfl, .tup rfl fun j g v hg hv => ?_, h3, Evo.refl _ _⟩
    match j with
    | 0 => simp at hg hv; subst hg hv; exact .sc rfl .str
    | 1 => simp at hg hv; subst hg hv; exact .sc rfl .bool
    | j + 2 => simp at hg
theorem repStrs {w : World} {lim : Nat → Nat} {xs : List ByteArray} {v : Value} (h : Rep w lim (.sl (xs.map .str)) v) : ∃ a cap, v = .slice a xs.length cap ∧ (xs = [] ∨ ∃ bk o, a = some ⟨bk, o, none⟩ ∧ xs.length ≤ cap ∧ ∀ (j : Nat) (x : ByteArray), xs[j]? = some x → w.cell? ⟨bk, o + j, none⟩ = some (.string x)) := by
  generalize hp : PV.sl (xs.map .str) = p at h
  cases h with
  | nil =>
    have hx : xs = [] := by
      have := PV.sl.inj hp
      simpa using this
    subst hx
    exact ⟨_, _, rfl, .inl rfl⟩
  | @sl l A cap sz n c h1 h2 h3 h4 h5 h6 h7 h8 h9 =>
    obtain rfl := PV.sl.inj hp
    subst h1
    have hat : ∀ (i : Nat) (x : ByteArray), xs[i]? = some x → (xs.map PV.str)[i]? = some (.str x) := fun i x h => by rw [List.getElem?_map, h]; rfl
    refine ⟨some A, cap, by rw [List.length_map], ?_⟩
    by_cases hx : xs = []
    · exact .inl hx
    · refine .inr ⟨A.block, A.off, ?_, by simpa using h9, fun j x hj => ?_⟩
      · obtain ⟨b, o, s⟩ := A; simp at h2; rw [h2]
      · have hs : sz = 1 := (h4 j _ (hat j x hj)).symm
        subst hs
        have h10 := h6 j 0 _ _ (hat j x hj) rfl
        have h11 := h8 j 0 _ _ (hat j x hj) rfl
        rw [show A.off + (j * 1 + 0) = A.off + j by omega] at h10
        generalize c j 0 = u at h10 h11
        cases h11
        exact h10
  | _ => simp at hp
theorem PCon.call1b {C : Ctx} {f : FuncId} {k : IntKind} {x : Int} {y : Bool} (h : PCon C f [.sc (.int k x)] (.sc (.bool y))) {W : Wd} (hH : HInv C [] W) : Calls C.P f #[.int k x] W.w fun e w' => e = .returned (.bool y) ∧ RowKit.Below W.w.heap.size W.w w' := by
  have h0 : HInv C [] { W with o := fun _ => none } := ⟨fun b fs hb => by simp at hb, hH.laid, fun b hb => ⟨(hH.fresh b hb).1, rfl⟩, fun b i k hb => by simp at hb, hH.gen0, hH.kept.same rfl fun _ _ => rfl⟩
  refine (h [.int k x] { W with o := fun _ => none } rfl (fun j g v hg hv => ?_) h0 (fun b q k hb => by simp at hb)).mono fun e w' ⟨v, W', J, he, hw, hr, _, hE⟩ => ?_
  · match j with
    | 0 => simp at hg hv; subst hg hv; exact .mkInt
    | j + 1 => simp at hg
  · subst he hw
    refine ⟨by rw [hr.bool], hE.os, hE.tape, hE.output, hE.size, fun b hb => (hE.away b hb rfl).1⟩
def sufB (s : ByteArray) (c : UInt8) : Bool := Go.Lib.hasSuffix s.data.toList [c]
theorem conHasSuffix (s : ByteArray) (c : UInt8) (hs : s.size ≤ 1073741824) : PCon C0 46 [.sc (.str s), .sc (.str ⟨#[c]⟩)] (.sc (.bool (sufB s c))) :=
  pcon_below rfl (fun _ _ => .bool) fun vs W hl ha hH => by
    obtain ⟨u, v, rfl, hu, hv⟩ := args2 hl ha
    rw [hu.str, hv.str]
    exact (Tryd.strings_HasSuffix s ⟨#[c]⟩ W.w (by omega)).mono fun e w' ⟨he, hw⟩ => ⟨he, by rw [hw]; exact RowKit.Below.refl _ _⟩
def preB (s p : ByteArray) : Bool := Go.Lib.hasPrefix s.data.toList p.data.toList
theorem conHasPrefix (s p : ByteArray) : PCon C0 66 [.sc (.str s), .sc (.str p)] (.sc (.bool (preB s p))) :=
  pcon_below rfl (fun _ _ => .bool) fun vs W hl ha hH => by
    obtain ⟨u, v, rfl, hu, hv⟩ := args2 hl ha
    rw [hu.str, hv.str]
    exact (Tryd.strings_HasPrefix s p W.w).mono fun e w' ⟨he, hw⟩ => ⟨he, by rw [hw]; exact RowKit.Below.refl _ _⟩
def cutB (s : ByteArray) (c : UInt8) : ByteArray := ⟨(Go.Lib.trimSuffix s.data.toList [c]).toArray⟩
theorem conCutSuffix (s : ByteArray) (c : UInt8) (hs : s.size ≤ 1073741824) : PCon C0 23 [.sc (.str s), .sc (.str ⟨#[c]⟩)] (.tup [.sc (.str (cutB s c)), .sc (.bool (sufB s c))]) :=
  pcon_pair fun vs W hl ha hH => by
    obtain ⟨u, v, rfl, hu, hv⟩ := args2 hl ha
    rw [hu.str, hv.str]
    exact Tryd.strings_CutSuffix s ⟨#[c]⟩ W.w (by omega)
theorem conTrimSuffix (s : ByteArray) (c : UInt8) (hs : s.size ≤ 1073741824) : PCon C0 27 [.sc (.str s), .sc (.str ⟨#[c]⟩)] (.sc (.str (cutB s c))) :=
  pcon_below rfl (fun _ _ => .str) fun vs W hl ha hH => by
    obtain ⟨u, v, rfl, hu, hv⟩ := args2 hl ha
    rw [hu.str, hv.str]
    exact (Tryd.strings_TrimSuffix s ⟨#[c]⟩ W.w (by omega)).mono fun e w' ⟨he, hw⟩ => ⟨he, by rw [hw]; exact RowKit.Below.refl _ _⟩
set_option maxRecDepth 20000 in
theorem conWords1 (r : Nat) : PCon C0 42 [.sc (.int .i32 r)] (.sc (.bool (isSep r))) := by
  refine penter42 ?_
  by_cases h : r = 32
  · simp [Tryd.f42, h, isSep]
  · have h' : ¬ (r : Int) = 32 := by omega
    have e1 : (r == 32) = false := by simp [h]
    by_cases h2 : r = 44
    · simp [Tryd.f42, h2, isSep]
    · have h2' : ¬ (r : Int) = 44 := by omega
      have e2 : (r == 44) = false := by simp [h2]
      simp [Tryd.f42, h', h2', isSep, h, h2]
def wordsB (s : ByteArray) : List ByteArray := (wordsL s.data.toList).map ba
theorem conFields (s : ByteArray) (hs : s.size ≤ 1073741824) : PCon C0 41 [.sc (.str s), .fn 42 [] []] (.sc (.sl ((wordsB s).map .str))) := by
  refine pcon_strs _ fun vs W hl ha hH => ?_
  obtain ⟨u, v, rfl, hu, hv⟩ := args2 hl ha
  rw [hu.str, hv.fn0]
  have := Tryd.strings_FieldsFunc_grows 42 #[] (enters_of Tryd.func42 (by kernel_rfl) rfl) isSep s W.w (by omega) (fun W' x hx hb => by
      have := (conWords1 x).call1b (hH.below hb).2
      simpa using this)
  rw [fields_words] at this
  refine this.mono fun e w' ⟨A, he, hA, ho, hb⟩ => ?_
  have hw : wordsB s = (wordsL s.data.toList).map ba := rfl
  rw [hw]
  generalize (wordsL s.data.toList).map ba = xs at *
  obtain ⟨h1, h2⟩ := ho
  rcases h2 with ⟨h2, _⟩ | ⟨g, cap, cur, h2, h3, h4, h5, h6, h7, h8⟩
  · simp at h2
  · simp only [Value.slice.injEq, Option.some.injEq, Addr.mk.injEq] at h2
    obtain ⟨⟨rfl, _⟩, _, rfl⟩ := h2
    refine ⟨A, xs.length, he, Nat.le_refl _, hA, (Array.getElem?_eq_some_iff.1 h4).1, fun j x hj => ?_, hb⟩
    have hjl := (List.getElem?_eq_some_iff.1 hj).1
    rw [cell_of_heap h4]
    have h9 : (cur.toList.take (xs.length * 1))[j]? = some (.string x) := by rw [h8, List.getElem?_map, hj]; rfl
    rw [List.getElem?_take_of_lt (by omega)] at h9
    simpa using h9
set_option maxRecDepth 20000 in
theorem conWords (s : ByteArray) (hs : s.size ≤ 1073741824) : PCon C0 24 [.sc (.str s)] (.sc (.sl ((wordsB s).map .str))) := by
  refine penter24 ?_
  simp [Tryd.f24]
  refine CallQ.mk (Call.pure callable41 (by simp) (by simp) (conFields s hs)) ?_
  simp
def tabsB (s : ByteArray) : List ByteArray := (splitC 9 s.data.toList).map ba
theorem conSplit9 (s : ByteArray) (hs : s.size ≤ 1073741824) : PCon C0 29 [.sc (.str s), .sc (.str ⟨#[9]⟩)] (.sc (.sl ((tabsB s).map .str))) := by
  refine pcon_strs _ fun vs W hl ha hH => ?_
  obtain ⟨u, v, rfl, hu, hv⟩ := args2 hl ha
  obtain ⟨m, hm⟩ := hH.gl.maxlen
  rw [hu.str, hv.str]
  have := Tryd.strings_Split s ⟨#[9]⟩ m W.w (by omega) hm (by decide)
  have hlen : (tabsB s).length = Go.Lib.countB s ⟨#[9]⟩ + 1 := by
    show ((splitC 9 s.data.toList).map ba).length = Go.Lib.count s.data.toList [9] + 1
    rw [List.length_map, splitC_len, Go.Lib.count_one]
  have hsp : Go.Lib.splitB ⟨#[9]⟩ 0 (Go.Lib.countB s ⟨#[9]⟩) s = tabsB s := splitB_words 9 s
  rw [hsp, ← hlen] at this
  refine this.mono fun e w' ⟨he, hw⟩ => ?_
  subst hw
  refine ⟨W.w.heap.size, _, he, Nat.le_refl _, Nat.le_refl _, by simp, fun j x hj => ?_, (RowKit.Below.refl _ _).alloc (Nat.le_refl _) _⟩
  have hh : (W.w.alloc (.cells ((tabsB s).map Value.string).toArray 9)).heap[W.w.heap.size]? = some (.cells ((tabsB s).map Value.string).toArray 9 (0, 0)) := by
    show (W.w.heap.push _)[W.w.heap.size]? = _
    simp
  rw [cell_of_heap hh]
  simp [hj]
set_option maxRecDepth 20000 in
theorem conCut (s : ByteArray) (hs : s.size ≤ 1073741824) : PCon C0 13 [.sc (.str s)] (.sc (.sl ((tabsB s).map .str))) := by
  refine penter13 ?_
  simp [Tryd.f13]
  refine CallQ.mk (Call.pure callable29 (by simp) (by simp) (conSplit9 s hs)) ?_
  simp
end Go.Proofs.YtabgeenhpfnhdaaDoor.Ev
end
section
namespace Go.Proofs.YtabgeenhpfnhdaaDoor.Ev
open Go
theorem sizedStr (l : List ByteArray) : Sized 1 (l.map PV.str) := fun p hp => by
  simp only [List.mem_map] at hp; obtain ⟨x, _, rfl⟩ := hp; rfl
theorem sizedStr1 (s : ByteArray) : Sized 1 [PV.str s] := fun p hp => by rw [List.mem_singleton.1 hp]; rfl
theorem suf_iff (s : ByteArray) (c : UInt8) : sufB s c = (s.data.toList.getLast? == some c) := by
  unfold sufB Go.Lib.hasSuffix
  generalize s.data.toList = l
  apply Bool.eq_iff_iff.2
  rw [List.isSuffixOf_iff_suffix, beq_iff_eq]
  rcases List.eq_nil_or_concat l with rfl | ⟨m, b, rfl⟩
  · simp
  · rw [List.concat_eq_append, List.getLast?_concat]
    constructor
    · rintro ⟨t, ht⟩
      obtain ⟨_, h⟩ := List.append_inj' ht rfl
      simp at h
      rw [h]
    · intro h
      simp at h
      subst h
      exact ⟨m, rfl⟩
theorem cut_size (s : ByteArray) (c : UInt8) : (cutB s c).size ≤ s.size := by
  have : (cutB s c).size = (Go.Lib.trimSuffix s.data.toList [c]).length := ba_size _
  rw [this, Go.Lib.size_eq]
  unfold Go.Lib.trimSuffix
  split
  · rw [List.length_take]; omega
  · exact Nat.le_refl _
theorem cut_suf {s : ByteArray} {c : UInt8} (h : sufB s c = true) : cutB s c = s.extract 0 (s.size - 1) := by
  unfold sufB at h
  unfold cutB Go.Lib.trimSuffix
  rw [if_pos h, ← Go.Lib.size_eq]
  have : (s.extract 0 (s.size - 1)).data.toList = s.data.toList.take (s.size - 1) := Go.Lib.extract_from_zero _ _
  rw [← ba_data (s.extract 0 (s.size - 1)), this]; rfl
theorem wordsG_ne : ∀ (l cur : List UInt8), ∀ w ∈ wordsG cur l, w ≠ []
  | [], cur, w, h => by
    rw [wordsG] at h
    split at h
    · simp at h
    · rename_i hc; rw [List.mem_singleton.1 h]; exact hc
  | b :: l, cur, w, h => by
    rw [wordsG] at h
    split at h
    · rcases List.mem_append.1 h with h | h
      · split at h
        · simp at h
        · rename_i hc; rw [List.mem_singleton.1 h]; exact hc
      · exact wordsG_ne l [] w h
    · exact wordsG_ne l _ w h
theorem wordsG_len : ∀ (l cur : List UInt8), (wordsG cur l).length ≤ l.length + (if cur = [] then 0 else 1)
  | [], cur => by rw [wordsG]; split <;> simp
  | b :: l, cur => by
    rw [wordsG]
    split
    · have := wordsG_len l []
      simp only [List.length_append, List.length_cons, if_true] at this ⊢
      split <;> simp_all <;> omega
    · have := wordsG_len l (cur ++ [b])
      rw [if_neg (by simp)] at this
      simp only [List.length_cons]; omega
theorem wordsB_len (s : ByteArray) : (wordsB s).length ≤ s.size := by
  have := wordsG_len s.data.toList []
  simp only [wordsB, wordsL, List.length_map, if_true, Nat.add_zero] at this ⊢
  rw [Go.Lib.size_eq]; exact this
theorem wordsB_pos {s w : ByteArray} (h : w ∈ wordsB s) : 0 < w.size := by
  simp only [wordsB, List.mem_map] at h
  obtain ⟨l, hl, rfl⟩ := h
  have := wordsG_ne _ _ l hl
  rw [ba_size]; exact List.length_pos_iff.2 this
def allboxS : ByteArray := ⟨#[97, 108, 108, 98, 111, 120]⟩
def boxS : ByteArray := ⟨#[98, 111, 120]⟩
def lookW (l : List ByteArray) : Bool := l.all fun w => decide (w = allboxS) || decide (w = boxS)
def allW (l : List ByteArray) : Bool := l.any fun w => decide (w = allboxS)
def lookT (s : ByteArray) : Bool × Bool × Bool := if sufB s 59 = true then (if lookW (wordsB (cutB s 59)) = true then (!(wordsB (cutB s 59)).isEmpty, allW (wordsB (cutB s 59)), true) else (false, false, false)) else (false, false, false)
theorem lookW_at {l : List ByteArray} {i : Nat} (h : i < l.length) (hw : lookW l = true) : l[i] = allboxS ∨ l[i] = boxS := by
  have := List.all_eq_true.1 hw l[i] (List.getElem_mem h)
  simpa using this
theorem lookW_bad {l : List ByteArray} {i : Nat} (h : i < l.length) (h1 : ¬ l[i] = allboxS) (h2 : ¬ l[i] = boxS) : lookW l = false := by
  cases hc : lookW l
  · rfl
  · rcases lookW_at h hc with h' | h'
    · exact absurd h' h1
    · exact absurd h' h2
theorem lookW_of {l : List ByteArray} (h : ∀ i (hi : i < l.length), l[i] = allboxS ∨ l[i] = boxS) : lookW l = true := by
  refine List.all_eq_true.2 fun w hw => ?_
  obtain ⟨i, hi, rfl⟩ := List.getElem_of_mem hw
  simpa using h i hi
theorem allW_take {l : List ByteArray} {i : Nat} (h : i < l.length) : allW (l.take (i + 1)) = (allW (l.take i) || decide (l[i] = allboxS)) := by
  unfold allW
  rw [List.take_succ_eq_append_getElem h, List.any_append]; simp
theorem ne_empty_take {l : List ByteArray} {i : Nat} (h : i < l.length) : (l.take (i + 1)).isEmpty = false := by
  cases l with
  | nil => simp at h
  | cons a t => rfl
set_option linter.unusedSimpArgs false in
set_option maxRecDepth 20000 in
set_option maxHeartbeats 4000000 in
theorem conLook (s : ByteArray) (hs : s.size ≤ 1073741824) : PCon C0 8 [.sc (.str s)] (.tup [.sc (.bool (lookT s).1), .sc (.bool (lookT s).2.1), .sc (.bool (lookT s).2.2)]) := by
  have c1 := conCutSuffix s 59 hs
  have hcs := cut_size s 59
  have cw := conWords (cutB s 59) (by omega)
  have hwl := wordsB_len (cutB s 59)
  refine penter8 ?_
  simp [Tryd.f8]
  refine CallQ.mk (Call.pure callable23 (by simp) (by simp) c1) ?_
  cases h1 : sufB s 59
  · simp [lookT, h1]
  · simp [lookT, h1]
    refine CallQ.mk (Call.pure callable24 (by simp) (by simp) cw) ?_
    simp
    generalize cutB s 59 = z at *
    generalize wordsB z = l at *
    refine loopC (fun d e H' => ∃ (i : Nat) (x10 x22 x25 x26 x28 : FV), d = l.length - i ∧ i ≤ l.length ∧ (∀ j (hj : j < l.length), j < i → l[j] = allboxS ∨ l[j] = boxS) ∧ e = [(0, .sc (.str s)), (2, .sc (.bool false)), (3, .sc (.bool false)), (4, .sc (.bool false)), (5, .sc (.str z)), (6, .sc (.bool true)), (7, .sc (.bool (!(l.take i).isEmpty))), (8, .sc (.bool (allW (l.take i)))), (10, x10), (17, .sc (.bool false)), (19, .sc (.sl (l.map .str))), (20, .sc (.int .i64 l.length)), (21, .sc (.int .i64 i)), (22, x22), (25, x25), (26, x26), (28, x28)]) (d := l.length) ⟨0, .undef, .undef, .undef, .undef, .undef, rfl, Nat.zero_le _, by simp, by simp [allW]⟩ ?_
    rintro d e H' ⟨i, x10, x22, x25, x26, x28, rfl, hi, hbef, rfl⟩
    simp
    refine CondC.mk (fun hlt => ?_) (fun hlt => ?_)
    · simp at hlt
      have hlt' : (i : Int) < (l.length : Int) := by omega
      have hw : IntKind.i64.wrap ((i : Int) + 1) = ((i + 1 : Nat) : Int) := by rw [wrap64 (by omega) (by omega)]; omega
      have ht := allW_take hlt
      have hn := ne_empty_take hlt
      have hbad := lookW_bad hlt
      have hnext : (l[i] = allboxS ∨ l[i] = boxS) → ∀ j (hj : j < l.length), j < i + 1 → l[j] = allboxS ∨ l[j] = boxS := fun h j hj hji => by
        by_cases hji' : j = i
        · subst hji'; exact h
        · exact hbef j hj (by omega)
      obtain ⟨w, hwi⟩ : ∃ w, l[i] = w := ⟨_, rfl⟩
      rw [hwi] at ht hbad hnext
      by_cases w1 : w = allboxS
      · have w1' : w = ⟨#[97, 108, 108, 98, 111, 120]⟩ := w1
        simp [hlt, hlt', hwi, w1', hw]
        exact ⟨l.length - (i + 1), by omega, i + 1, rfl, by omega, hnext (.inl w1), ⟨by omega, by intro h; subst h; simp at hlt⟩, by rw [ht]; simp [w1], by omega⟩
      · have w1' : ¬ w = ⟨#[97, 108, 108, 98, 111, 120]⟩ := w1
        by_cases w2 : w = boxS
        · have w2' : w = ⟨#[98, 111, 120]⟩ := w2
          have e3 : ¬ ((⟨#[98, 111, 120]⟩ : ByteArray) = ⟨#[97, 108, 108, 98, 111, 120]⟩) := by decide
          simp [hlt, hlt', hwi, w2', e3, hw]
          exact ⟨l.length - (i + 1), by omega, i + 1, rfl, by omega, hnext (.inr w2), ⟨by omega, by intro h; subst h; simp at hlt⟩, by rw [ht]; simp [w1], by omega⟩
        · have w2' : ¬ w = ⟨#[98, 111, 120]⟩ := w2
          simp [hlt, hlt', hwi, w1', w2', hw, hbad w1 w2]
    · simp at hlt
      obtain rfl : i = l.length := by omega
      have hall : lookW l = true := lookW_of fun j hj => hbef j hj hj
      simp [hall]
end Go.Proofs.YtabgeenhpfnhdaaDoor.Ev
end
section
namespace Go.Proofs.YtabgeenhpfnhdaaDoor.Ev
open Go
theorem str_app1 (a : List UInt8) (c : UInt8) : ba a ++ (⟨#[c]⟩ : ByteArray) = ba (a ++ [c]) := ba_app a [c]
theorem extract_one {s : ByteArray} {i : Nat} {b : UInt8} (h : s.data.toList[i]? = some b) : s.extract i (i + 1) = ba [b] := by
  have : (s.extract i (i + 1)).data.toList = [b] := by
    have hl := (List.getElem?_eq_some_iff.1 h)
    obtain ⟨h1, h2⟩ := hl
    have e : (s.extract i (i + 1)).data.toList = (s.data.toList.drop i).take 1 := by simp
    rw [e, List.drop_eq_getElem_cons h1, h2]; rfl
  rw [← ba_data (s.extract i (i + 1)), this]
end Go.Proofs.YtabgeenhpfnhdaaDoor.Ev
end
section
namespace Go.Proofs.YtabgeenhpfnhdaaDoor.Ev
open Go
def byteP (b : UInt8) : PV := .int .u8 (b.toNat : Nat)
theorem bytesFrom_byteP : ∀ l : List UInt8, bytesFrom (l.map byteP) = some l
  | [] => rfl
  | b :: l => by
    have hb : byteOf (byteP b) = some b := by
      have : (b.toNat : Int).toNat = b.toNat := by omega
      simp [byteOf, byteP, this]
    simp only [List.map_cons, bytesFrom, hb, bytesFrom_byteP l]
theorem sizedByte (l : List UInt8) : Sized 1 (l.map byteP) := fun p hp => by
  simp only [List.mem_map] at hp; obtain ⟨x, _, rfl⟩ := hp; rfl
def lowN (n : Nat) : Nat := if 65 ≤ n ∧ n ≤ 90 then n + 32 else n
def isCol (n : Nat) : Bool := decide (n = 108 ∨ n = 99 ∨ n = 114)
def colOf (b : UInt8) : UInt8 × Bool := if isCol (lowN b.toNat) = true then (UInt8.ofNat (lowN b.toNat), true) else (108, false)
def hdB (w : ByteArray) : UInt8 := w.data.toList.headD 0
theorem hdB_get {w : ByteArray} (h : 0 < w.size) : w.data[0]'h = hdB w := by
  have key : ∀ (l : List UInt8) (h : 0 < l.length), l[0] = l.headD 0 := fun l h => by
    cases l with
    | nil => simp at h
    | cons b l => rfl
  rw [← Array.getElem_toList]
  exact key _ _
def colsL (l : List ByteArray) : List UInt8 := l.map fun w => (colOf (hdB w)).1
def colsAll (l : List ByteArray) : Bool := l.all fun w => (colOf (hdB w)).2
theorem colsL_take {l : List ByteArray} {i : Nat} (h : i < l.length) : colsL (l.take (i + 1)) = colsL (l.take i) ++ [(colOf (hdB l[i])).1] := by
  unfold colsL
  rw [List.take_succ_eq_append_getElem h, List.map_append]; rfl
theorem colsAll_take {l : List ByteArray} {i : Nat} (h : i < l.length) : colsAll (l.take (i + 1)) = (colsAll (l.take i) && (colOf (hdB l[i])).2) := by
  unfold colsAll
  rw [List.take_succ_eq_append_getElem h, List.all_append]; simp
theorem colsL_len (l : List ByteArray) : (colsL l).length = l.length := List.length_map _
def columnsT (s : ByteArray) : List UInt8 × Bool := (colsL (wordsB (cutB s 46)), colsAll (wordsB (cutB s 46)))
set_option maxRecDepth 20000 in
theorem idx_col : ∀ n : Nat, n < 256 → decide (Go.Lib.indexByte [108, 99, 114] n.toUInt8 < 0) = !isCol n := by decide
theorem lowN_lt {n : Nat} (h : n < 256) : lowN n < 256 := by unfold lowN; split <;> omega
set_option linter.unusedSimpArgs false in
set_option maxRecDepth 20000 in
set_option maxHeartbeats 4000000 in
theorem conColumns (s : ByteArray) (hs : s.size ≤ 1073741824) : PCon C0 10 [.sc (.str s)] (.tup [.sc (.str (ba (columnsT s).1)), .sc (.bool (columnsT s).2)]) := by
  have c1 := conTrimSuffix s 46 hs
  have hcs := cut_size s 46
  have cw := conWords (cutB s 46) (by omega)
  have hwl := wordsB_len (cutB s 46)
  have hpos : ∀ w ∈ wordsB (cutB s 46), 0 < w.size := fun w hw => wordsB_pos hw
  refine penter10 ?_
  simp [Tryd.f10]
  refine CallQ.mk (Call.pure callable27 (by simp) (by simp) c1) ?_
  simp
  refine CallQ.mk (Call.pure callable24 (by simp) (by simp) cw) ?_
  simp
  unfold columnsT
  generalize cutB s 46 = z at *
  generalize wordsB z = l at *
  refine loopC (fun d e H' => ∃ (i : Nat) (x7 x8 x14 x24 x29 : FV), d = l.length - i ∧ i ≤ l.length ∧ e = [(0, .sc (.str s)), (2, .sc (.str ⟨#[]⟩)), (3, .sc (.bool false)), (4, .own ((colsL (l.take i)).map byteP)), (5, .sc (.bool (colsAll (l.take i)))), (7, x7), (8, x8), (11, .sc (.sl (l.map .str))), (12, .sc (.int .i64 l.length)), (13, .sc (.int .i64 i)), (14, x14), (24, x24), (29, x29)]) (d := l.length) ⟨0, .undef, .undef, .undef, .undef, .undef, rfl, Nat.zero_le _, rfl⟩ ?_
  rintro d e H' ⟨i, x7, x8, x14, x24, x29, rfl, hi, rfl⟩
  simp
  refine CondC.mk (fun hlt => ?_) (fun hlt => ?_)
  · simp at hlt
    have hlt' : (i : Int) < (l.length : Int) := by omega
    have hw : IntKind.i64.wrap ((i : Int) + 1) = ((i + 1 : Nat) : Int) := by rw [wrap64 (by omega) (by omega)]; omega
    have ht := colsAll_take hlt
    have hm := colsL_take hlt
    have hp := hpos _ (List.getElem_mem hlt)
    obtain ⟨w, hwi⟩ : ∃ w, l[i] = w := ⟨_, rfl⟩
    rw [hwi] at ht hm hp
    have hg := hdB_get hp
    have hp' : 0 < w.data.size := hp
    have hb256 := (hdB w).toNat_lt
    have hml : (colsL (l.take i)).length = i := by rw [colsL_len, List.length_take]; omega
    generalize colsL (l.take i) = S at *
    generalize colsAll (l.take i) = K at *
    have sb := sizedByte S
    have sb1 : ∀ n : Int, Sized 1 [PV.int .u8 n] := fun n p hp => by rw [List.mem_singleton.1 hp]; rfl
    obtain ⟨N, hN⟩ : ∃ N, lowN (hdB w).toNat = N := ⟨_, rfl⟩
    have hN256 : N < 256 := hN ▸ lowN_lt (by omega)
    have ci := conIndexByte lcr (N : Int)
    have hdec := idx_col N hN256
    have htn : ((N : Int)).toNat = N := by omega
    rw [htn] at ci
    have hlcr : lcr.data.toList = [108, 99, 114] := rfl
    rw [hlcr] at ci
    have hcol : colOf (hdB w) = if isCol N = true then (UInt8.ofNat N, true) else (108, false) := by unfold colOf; rw [hN]
    have hof : ((UInt8.ofNat N).toNat : Int) = (N : Int) := by
      have : (UInt8.ofNat N).toNat = N := by simp; omega
      omega
    have fin : ∀ (c : Int) (k : Bool), c = ((colOf (hdB w)).1.toNat : Nat) → k = (K && (colOf (hdB w)).2) → ∃ d', d' < l.length - i ∧ ∃ k', d' = l.length - k' ∧ k' ≤ l.length ∧
        S.map byteP ++ [PV.int .u8 c] = (colsL (l.take k')).map byteP ∧ k = colsAll (l.take k') ∧ (i : Int) + 1 = (k' : Nat) := by
      intro c k h1 h2
      refine ⟨l.length - (i + 1), by omega, i + 1, rfl, by omega, ?_, ?_, by omega⟩
      · rw [hm, List.map_append, h1]; rfl
      · rw [ht, h2]
    by_cases hup : 65 ≤ (hdB w).toNat ∧ (hdB w).toNat ≤ 90
    · have u1 : (65 : Int) ≤ ((hdB w).toNat : Int) := by omega
      have u2 : ((hdB w).toNat : Int) ≤ 90 := by omega
      have hNe : N = (hdB w).toNat + 32 := by rw [← hN]; unfold lowN; rw [if_pos hup]
      have hwu : IntKind.u8.wrap (((hdB w).toNat : Int) + 32) = (N : Int) := by
        simp only [IntKind.wrap, IntKind.signed, IntKind.bits]; simp; omega
      simp [hlt, hlt', hwi, hp, hp', hg, u1, u2, hwu]
      refine CallQ.mk (Call.pure callable28 (by simp) (by simp) ci) ?_
      cases hc : isCol N
      · rw [hc] at hdec hcol
        have hneg : Go.Lib.indexByte [108, 99, 114] N.toUInt8 < 0 := by simpa using hdec
        rw [if_neg (by simp)] at hcol
        simp [hneg, hw, sb, sb1, lenMax]
        obtain ⟨d', a1, k', a2, a3, a4, a5, a6⟩ := fin 108 false (by rw [hcol]; rfl) (by rw [hcol]; simp)
        exact ⟨by omega, d', a1, k', a2, a3, a4, a5.symm, a6⟩
      · rw [hc] at hdec hcol
        have hneg : ¬ Go.Lib.indexByte [108, 99, 114] N.toUInt8 < 0 := by simpa using hdec
        rw [if_pos rfl] at hcol
        simp [hneg, hw, sb, sb1, lenMax]
        exact ⟨by omega, fin N _ (by rw [hcol]; exact hof.symm) (by rw [hcol]; simp)⟩
    · have hNe : N = (hdB w).toNat := by rw [← hN]; unfold lowN; rw [if_neg hup]
      rw [hNe] at ci
      by_cases u1 : 65 ≤ (hdB w).toNat
      all_goals
        have u1' : (65 : Int) ≤ ((hdB w).toNat : Int) ↔ 65 ≤ (hdB w).toNat := by omega
        have u2' : ¬ (65 ≤ (hdB w).toNat) ∨ ¬ ((hdB w).toNat : Int) ≤ 90 := by omega
        first
          | (have u2 : ¬ ((hdB w).toNat : Int) ≤ 90 := by omega
             have u3 : (65 : Int) ≤ ((hdB w).toNat : Int) := by omega
             simp [hlt, hlt', hwi, hp, hp', hg, u2, u3])
          | (have u3 : ¬ (65 : Int) ≤ ((hdB w).toNat : Int) := by omega
             simp [hlt, hlt', hwi, hp, hp', hg, u3])
        refine CallQ.mk (Call.pure callable28 (by simp) (by simp) ci) ?_
        rw [← hNe]
        cases hc : isCol N
        · rw [hc] at hdec hcol
          have hneg : Go.Lib.indexByte [108, 99, 114] N.toUInt8 < 0 := by simpa using hdec
          rw [if_neg (by simp)] at hcol
          simp [hneg, hw, sb, sb1, lenMax]
          obtain ⟨d', a1, k', a2, a3, a4, a5, a6⟩ := fin 108 false (by rw [hcol]; rfl) (by rw [hcol]; simp)
          exact ⟨by omega, d', a1, k', a2, a3, a4, a5.symm, a6⟩
        · rw [hc] at hdec hcol
          have hneg : ¬ Go.Lib.indexByte [108, 99, 114] N.toUInt8 < 0 := by simpa using hdec
          rw [if_pos rfl] at hcol
          simp [hneg, hw, sb, sb1, lenMax]
          exact ⟨by omega, fin N _ (by rw [hcol]; exact hof.symm) (by rw [hcol]; simp)⟩
  · simp at hlt
    obtain rfl : i = l.length := by omega
    have hb := bytesFrom_byteP (colsL l)
    simp [hb, ba]
end Go.Proofs.YtabgeenhpfnhdaaDoor.Ev
end
