/- Of what the law EscapeQuotes needs: part 24. -/
import Derived.ArgAppend
import Derived.Below
import Derived.BigQuiet
import Derived.Deep.AppendLies
import Derived.Deep.CutBlock
import Derived.Deep.DeepCutAuto
import Derived.Deep.Draws
import Derived.Deep.LoopGhost
import Derived.Deep.OwnRows
import Derived.Deep.QuietTactic
import Derived.Deep.RegionHeld3
import Derived.KernelRfl
import Derived.Laws.BitsLemmas
import Derived.Laws.BytesArg
import Derived.Laws.Cover4
import Derived.Laws.IdiomCopy
import Derived.Laws.MakeOwn
import Derived.Laws.OwnMore
import Derived.Laws.Rows
import Derived.Laws.Slices
import Derived.Laws.StructEq
import Derived.Lib.AppendStr
import Derived.Lib.ConvBytes
import Derived.Lib.RuneBytes
import Derived.Maps.AppendAt
import Derived.Maps.Own
import Derived.Maps.OwnOps
import Derived.Maps.OwnSet
import Derived.OrdersHeld
import Derived.OwnWalk
import Derived.RowKit
import Derived.RowKit3
import Derived.StringKeys
import Derived.Tactics
import Derived.Test.YtdogljnddalgdaaDoorProg
import Derived.WalkKit
import Derived.WalkMore
import Derived.WideLaws
import Derived.Test.YtdogljnddalgdaaDoorBQuotes14
import Derived.Test.YtdogljnddalgdaaDoorBQuotes20
import Derived.Test.YtdogljnddalgdaaDoorBQuotes21
import Derived.Test.YtdogljnddalgdaaDoorBQuotes22
import Derived.Test.YtdogljnddalgdaaDoorBQuotes23
namespace Go.Proofs.YtdogljnddalgdaaDoor
end Go.Proofs.YtdogljnddalgdaaDoor
namespace Go.Proofs.YtdogljnddalgdaaDoor.A4
end Go.Proofs.YtdogljnddalgdaaDoor.A4
namespace Go.Proofs.YtdogljnddalgdaaDoorW.PrintLast
end Go.Proofs.YtdogljnddalgdaaDoorW.PrintLast
namespace Go.Proofs.YtdogljnddalgdaaDoorW.PrintMore
end Go.Proofs.YtdogljnddalgdaaDoorW.PrintMore
namespace Go.Proofs.YtdogljnddalgdaaDoorW.PrintWords
end Go.Proofs.YtdogljnddalgdaaDoorW.PrintWords
section
namespace Go.Proofs.YtdogljnddalgdaaDoor.A4
open Go Go.RowKit Go.Proofs.YtdogljnddalgdaaDoor Go.Proofs.YtdogljnddalgdaaDoorW.PrintWords Go.Proofs.YtdogljnddalgdaaDoorW.PrintLast Go.Proofs.YtdogljnddalgdaaDoorW.PrintMore
theorem rd38_get (l : List S38) (i : Nat) (h : i < l.length) : rd_T38 l (i : Int) = l[i] := by simp [rd_T38, List.getD, List.getElem?_eq_getElem h]
theorem rd41_get (l : List S41) (i : Nat) (h : i < l.length) : rd_T41 l (i : Int) = l[i] := by simp [rd_T41, List.getD, List.getElem?_eq_getElem h]
def gatherN : Nat → List Int → Int → Option Int
  | 0, _, x => some x
  | _ + 1, [], _ => none
  | n + 1, b :: t, x => if 128 ≤ b ∧ b ≤ 191 then gatherN n t (x * 64 + (b - 128)) else none
theorem gatherN_take : ∀ (n : Nat) (t : List Int) (x : Int), gatherN n t x = if n ≤ t.length then gather (t.take n) x else none
  | 0, t, x => by simp [gatherN, gather]
  | n + 1, [], x => by simp [gatherN]
  | n + 1, b :: t, x => by
    simp only [gatherN, List.take_succ_cons, gather, List.length_cons, Nat.add_le_add_iff_right]
    rw [gatherN_take n t]
    split
    · rfl
    · split <;> rfl
theorem d1_eq (a : Int) (t : List Int) : d1 a t = match (lead a).1 with
    | 0 => (65533, 1)
    | m + 1 => match gatherN m t (lead a).2 with
      | none => (65533, 1)
      | some v => if val v = true ∧ sz v = (m : Int) + 1 then (v, m + 1) else (65533, 1) := by
  cases hm : (lead a).1 with
  | zero => exact d1_bad (.inl hm)
  | succ m =>
    simp only
    rw [gatherN_take]
    by_cases hl : m ≤ t.length
    · rw [if_pos hl]; exact d1_many hm (by omega)
    · rw [if_neg hl]; exact d1_bad (.inr (by omega))
theorem quotedI_cons (b : Int) (t : List Int) : quotedI (b :: t) = if b = 92 then 92 :: 101 :: quotedI t else b :: quotedI t := by
  unfold quotedI
  rw [List.flatMap_cons]
  split <;> rfl
theorem gatherN_quoted : ∀ (n : Nat) (t : List Int) (x : Int), gatherN n (quotedI t) x = gatherN n t x
  | 0, t, x => by simp [gatherN]
  | n + 1, [], x => rfl
  | n + 1, b :: t, x => by
    rw [quotedI_cons]
    by_cases hb : b = 92
    · rw [if_pos hb, hb]; simp [gatherN]
    · rw [if_neg hb]
      simp only [gatherN]
      rw [gatherN_quoted n t]
theorem gatherN_cont : ∀ (n : Nat) (t : List Int) (x : Int) {v : Int}, gatherN n t x = some v → (quotedI t).drop n = quotedI (t.drop n)
  | 0, t, x, v, _ => rfl
  | n + 1, [], x, v, h => by cases h
  | n + 1, b :: t, x, v, h => by
    simp only [gatherN] at h
    split at h
    · rw [quotedI_cons, if_neg (by omega)]
      simp only [List.drop_succ_cons]
      exact gatherN_cont n t _ h
    · cases h
theorem d1_quoted (a : Int) (t : List Int) : d1 a (quotedI t) = d1 a t := by
  rw [d1_eq, d1_eq]
  cases (lead a).1 with
  | zero => rfl
  | succ m => simp only [gatherN_quoted]
theorem d1_drop (a : Int) (t : List Int) : (quotedI t).drop ((d1 a t).2 - 1) = quotedI (t.drop ((d1 a t).2 - 1)) := by
  rw [d1_eq]
  cases (lead a).1 with
  | zero => rfl
  | succ m =>
    simp only
    cases hg : gatherN m t (lead a).2 with
    | none => rfl
    | some v =>
      simp only
      split
      · exact gatherN_cont m t _ hg
      · rfl
theorem d1_ascii {a : Int} (h0 : 0 ≤ a) (h : a < 128) (t : List Int) : d1 a t = (a, 1) := by
  have e : lead a = (1, a) := if_pos h
  rw [d1_eq, e]
  simp only [gatherN]
  rw [if_pos]
  unfold val sz
  rw [if_pos h]
  simp
  omega
theorem d1_not92 {a : Int} (h : a ≠ 92) (t : List Int) : (d1 a t).1 ≠ 92 := by
  rw [d1_eq]
  cases hm : (lead a).1 with
  | zero => simp
  | succ m =>
    simp only
    cases hg : gatherN m t (lead a).2 with
    | none => simp
    | some v =>
      simp only
      split
      · rename_i hc
        simp only
        intro e
        subst e
        have h2 : (sz 92 : Int) = 1 := by decide
        have : m = 0 := by have := hc.2; omega
        subst this
        have h1 := lead1 hm
        simp only [gatherN, Option.some.injEq] at hg
        omega
      · simp
theorem dec_quoted : ∀ (n : Nat) (l : List Int), l.length ≤ n → dec (quotedI l) = quotedI (dec l)
  | _, [], _ => by rw [show quotedI [] = [] from rfl, dec_nil]; rfl
  | 0, _ :: _, h => by simp at h
  | n + 1, a :: t, h => by
    simp only [List.length_cons] at h
    rw [quotedI_cons]
    by_cases ha : a = 92
    · subst ha
      have step : ∀ (c : Int) (r : List Int), 0 ≤ c → c < 128 → dec (c :: r) = c :: dec r := by
        intro c r h0 h1
        rw [dec, d1_ascii h0 h1]
        rfl
      rw [if_pos rfl, step 92 _ (by omega) (by omega), step 101 _ (by omega) (by omega), step 92 _ (by omega) (by omega), dec_quoted n t (by omega), quotedI_cons, if_pos rfl]
    · rw [if_neg ha, dec, dec, d1_quoted, d1_drop, quotedI_cons, if_neg (d1_not92 ha t), dec_quoted n _ (by rw [List.length_drop]; omega)]
theorem bytesOf_quoted (l : List UInt8) : bytesOf ⟨(quoted l).toArray⟩ = quotedI (l.map fun b => (b.toNat : Int)) := by
  unfold bytesOf
  simp only
  induction l with
  | nil => rfl
  | cons b l ih =>
    rw [List.map_cons, quotedI_cons]
    unfold quoted at ih ⊢
    rw [List.flatMap_cons]
    simp only [List.map_append] at ih ⊢
    rw [ih]
    by_cases hb : b = 92
    · subst hb; rfl
    · have : ¬ ((b.toNat : Int) = 92) := by
        intro h
        apply hb
        apply UInt8.toNat_inj.mp
        show b.toNat = 92
        omega
      rw [if_neg hb, if_neg this]
      rfl
def blank (c : Int) : Bool := decide (c = 32 ∨ c = 9)
def sayQ (c : Int) : S38 := if blank c = true then ⟨2, 0⟩ else if ctl c = true then ⟨1, 65533⟩ else ⟨1, c⟩
theorem scanS_quoted : ∀ (n : Nat) (p : Int) (l : List Int), (quotedI l).length ≤ n → (scanS n p (quotedI l)).1 = l.map sayQ ∧ (∀ e ∈ (scanS n p (quotedI l)).2, e.f0 = 3) ∧ (scanS n p (quotedI l)).2.length = (l.filter fun c => !blank c && ctl c).length
  | n, p, [], _ => by
    rw [show quotedI [] = [] from rfl]
    cases n <;> simp [scanS]
  | n, p, c :: l, h => by
    rw [quotedI_cons] at h ⊢
    by_cases hc : c = 92
    · subst hc
      rw [if_pos rfl] at h ⊢
      match n, h with
      | n + 1, h =>
        simp only [List.length_cons] at h
        have ih := scanS_quoted n (p + 1 + (1 : Nat)) l (by omega)
        have e : scanS (n + 1) p (92 :: 101 :: quotedI l) = (⟨1, 92⟩ :: (scanS n (p + 1 + (1 : Nat)) (quotedI l)).1, (scanS n (p + 1 + (1 : Nat)) (quotedI l)).2) := rfl
        rw [e]
        simp only
        rw [ih.1]
        refine ⟨rfl, ih.2.1, ?_⟩
        rw [ih.2.2]
        rfl
    · rw [if_neg hc] at h ⊢
      match n, h with
      | n + 1, h =>
        simp only [List.length_cons] at h
        have ih := scanS_quoted n (p + 1) l (by omega)
        simp only [scanS, if_neg hc]
        by_cases hb : c = 32 ∨ c = 9
        · have hb2 : blank c = true := by simpa [blank] using hb
          simp only [if_pos hb, List.map_cons, ih.1, List.filter_cons, hb2]
          refine ⟨?_, ih.2.1, ?_⟩
          · simp [sayQ, hb2]
          · simpa using ih.2.2
        · have hb2 : blank c = false := by simpa [blank] using hb
          simp only [if_neg hb]
          by_cases ht : ctl c = true
          · simp only [List.map_cons, ih.1, List.filter_cons, hb2, ht]
            refine ⟨?_, ?_, ?_⟩
            · simp [sayQ, hb2, ht]
            · intro e he
              rcases List.mem_cons.mp he with rfl | he
              · rfl
              · exact ih.2.1 e he
            · simpa using ih.2.2
          · simp only [if_neg ht, List.map_cons, ih.1, List.filter_cons, hb2]
            refine ⟨?_, ih.2.1, ?_⟩
            · simp [sayQ, hb2, ht]
            · simpa [ht] using ih.2.2
theorem Ev_Quotes_l1 (ys : List S41) (hy : ys.length ≤ 1000000) (he : ∀ e ∈ ys, e.f0 = 3) : ∀ (n i : Nat), i + n = ys.length → Ev (fun k => flonglaw04_EscapeQuotes.l1 k ys (ys.length : Int) (i : Int)) true
  | 0, i, h => by
    refine Ev.succ ?_
    simp only [flonglaw04_EscapeQuotes.l1]
    exact Ev.neg (by omega) (Ev.pos trivial Ev_kn)
  | n + 1, i, h => by
    have hi : i < ys.length := by omega
    have g := he _ (List.getElem_mem hi)
    refine Ev.succ ?_
    simp only [flonglaw04_EscapeQuotes.l1, rd41_get ys i hi]
    rw [w64 (by omega) (by omega)]
    exact Ev.pos (by omega) (Ev.pos (by omega) (Ev.pos g (Ev_Quotes_l1 ys hy he n (i + 1) (by omega))))
theorem Ev_Quotes_l0 (D : List Int) (ys : List S41) (hD : D.length ≤ 1000000) (hy : ys.length ≤ 1000000) (hv : ∀ c ∈ D, val c = true) (he : ∀ e ∈ ys, e.f0 = 3) :
    ∀ (n i c : Nat), i + n = D.length → c + ((D.drop i).filter fun c => !blank c && ctl c).length = ys.length → Ev (fun k => flonglaw04_EscapeQuotes.l0 k (D.map sayQ) ys D (c : Int) (i : Int)) true
  | 0, i, c, h, hc => by
    refine Ev.succ ?_
    simp only [flonglaw04_EscapeQuotes.l0]
    rw [List.drop_eq_nil_of_le (by omega)] at hc
    simp only [List.filter_nil, List.length_nil, Nat.add_zero] at hc
    refine Ev.neg (by omega) ?_
    rw [hc]
    exact Ev_Quotes_l1 ys hy he ys.length 0 (by omega)
  | n + 1, i, c, h, hc => by
    have hi : i < D.length := by omega
    have hx : i < (D.map sayQ).length := by rw [List.length_map]; exact hi
    have g := hv _ (List.getElem_mem hi)
    rw [List.drop_eq_getElem_cons hi, List.filter_cons] at hc
    have nx := fun c' => Ev_Quotes_l0 D ys hD hy hv he n (i + 1) c' (by omega)
    have gx : rd_T38 (D.map sayQ) (i : Int) = sayQ D[i] := by rw [rd38_get _ i hx, List.getElem_map]
    refine Ev.succ ?_
    simp only [flonglaw04_EscapeQuotes.l0, rd_get D i hi]
    generalize hd : D[i] = d at *
    have e1 : wrap64 ((i : Int) + 1) = ((i + 1 : Nat) : Int) := by rw [w64 (by omega) (by omega)]; omega
    have hsafe : safe d = if ctl d = true then 65533 else d := by
      unfold safe
      by_cases ht : ctl d = true
      · rw [if_pos ht, if_neg (by simp [ht])]
      · rw [if_neg ht, if_pos ⟨g, by simpa using ht⟩]
    have j1 : ∀ b : Bool, b = blank d → Ev (fun k => flonglaw04_EscapeQuotes.j1 k (D.map sayQ) ys D (c : Int) (i : Int) b) true := by
      intro b hb
      subst hb
      refine Ev.succ ?_
      simp only [flonglaw04_EscapeQuotes.j1, gx]
      refine Ev.pos (by omega) (Ev.pos (by omega) ?_)
      by_cases hbl : blank d = true
      · refine Ev.neg (by simp [sayQ, hbl]) (Ev.pos hbl (Ev.succ ?_))
        simp only [flonglaw04_EscapeQuotes.j2, e1]
        refine Ev.neg (by simp) (Ev.pos hbl (nx c ?_))
        rw [hbl] at hc
        simpa using hc
      · refine Ev.neg (by simp [sayQ, hbl]; split <;> simp) (Ev.neg hbl (Ev.pos (by omega) ?_))
        rw [rd_get D i hi, hd]
        refine Ev.const_bind (ref_Safe_is d) ?_
        rw [show ((sayQ d).f1 != safe d) = false by simp only [sayQ, if_neg hbl, hsafe]; split <;> simp]
        refine Ev.succ ?_
        simp only [flonglaw04_EscapeQuotes.j2, e1]
        refine Ev.neg (by simp) (Ev.neg hbl (Ev.pos (by omega) (Ev.pos (by omega) ?_)))
        rw [rd_get D i hi, hd]
        refine Ev.const_bind (ref_Control_is d) ?_
        have hbf : blank d = false := by simpa using hbl
        rw [hbf] at hc
        by_cases ht : ctl d = true
        · refine Ev.pos ht ?_
          rw [w64 (by omega) (by omega), show (c : Int) + 1 = ((c + 1 : Nat) : Int) by omega]
          refine nx (c + 1) ?_
          rw [ht] at hc
          simp at hc ⊢
          omega
        · refine Ev.neg ht (nx c ?_)
          have htf : ctl d = false := by simpa using ht
          rw [htf] at hc
          simpa using hc
    refine Ev.pos (by omega) (Ev.pos (by omega) ?_)
    by_cases b1 : d = 32
    · exact Ev.pos b1 (j1 _ (by simp [blank, b1]))
    · exact Ev.neg b1 (j1 _ (by simp [blank, b1]; rfl))
theorem Ev_EscapeQuotes (s : ByteArray) : Ev (fun k => flonglaw04_EscapeQuotes.f k s) true := by
  unfold flonglaw04_EscapeQuotes.f
  by_cases h : (s.size : Int) > 800
  · exact Ev.pos h Ev_kn
  have hb := bytesOf_length s
  have hd := dec_length _ (bytesOf s) (Nat.le_refl _)
  have hq : ∀ l : List UInt8, (quoted l).length ≤ 2 * l.length := by
    intro l
    induction l with
    | nil => simp [quoted]
    | cons b l ih =>
      unfold quoted at ih ⊢
      rw [List.flatMap_cons, List.length_append, List.length_cons]
      split
      · simp only [List.length_cons, List.length_nil]; omega
      · simp only [List.length_cons, List.length_nil]; omega
  have hqs : (⟨(quoted s.data.toList).toArray⟩ : ByteArray).size ≤ 1600 := by
    have := hq s.data.toList
    have h3 : s.data.toList.length = s.data.size := Array.length_toList
    show (quoted s.data.toList).toArray.size ≤ 1600
    rw [List.size_toArray]
    have h2 : s.data.size = s.size := rfl
    omega
  have hdq : dec (bytesOf ⟨(quoted s.data.toList).toArray⟩) = quotedI (dec (bytesOf s)) := by
    rw [bytesOf_quoted]
    exact dec_quoted _ _ (Nat.le_refl _)
  have hk := scanS_quoted (quotedI (dec (bytesOf s))).length 0 (dec (bytesOf s)) (Nat.le_refl _)
  have hsc : scan ⟨(quoted s.data.toList).toArray⟩ = scanS (quotedI (dec (bytesOf s))).length 0 (quotedI (dec (bytesOf s))) := by unfold scan; rw [hdq]
  refine Ev.neg h (Ev.bind (Ev_Quote s (by omega)) (Ev.bind (Ev_Scan _ (by omega)) (Ev.pos (by omega) (Ev.some_bind (Ev.bind (Ev_RDecode _ (bytesOf_Bytes s) (by omega)) ?_)))))
  rw [hsc]
  refine Ev.pos (by rw [hk.1, List.length_map]) ?_
  rw [hk.1]
  have hfl : ((dec (bytesOf s)).filter fun c => !blank c && ctl c).length ≤ (dec (bytesOf s)).length := List.length_filter_le _ _
  exact Ev_Quotes_l0 _ _ (by omega) (by omega) (dec_val _ _ (Nat.le_refl _)) hk.2.1 _ 0 0 (Nat.zero_add _) (by rw [hk.2.2, List.drop_zero, Nat.zero_add])
end Go.Proofs.YtdogljnddalgdaaDoor.A4
end
section
namespace Go.Proofs.YtdogljnddalgdaaDoor.Pure
open Go.RowKit Go.Proofs.YtdogljnddalgdaaDoor.A4 Go.Proofs.YtdogljnddalgdaaDoorW.PrintWords Go.Proofs.YtdogljnddalgdaaDoorW.PrintLast
theorem EscapeQuotes : flonglaw04_EscapeQuotes.Pure := fun a0 _ => (Ev_EscapeQuotes a0).rounds
end Go.Proofs.YtdogljnddalgdaaDoor.Pure
end
