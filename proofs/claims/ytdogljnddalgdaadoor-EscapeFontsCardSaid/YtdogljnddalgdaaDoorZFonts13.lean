/- Of what the law EscapeFonts needs: part 13. -/
import Derived.ArgAppend
import Derived.Below
import Derived.BigQuiet
import Derived.Deep.AppendLies
import Derived.Deep.CutBlock
import Derived.Deep.DeepCutAuto
import Derived.Deep.Draws
import Derived.Deep.LoopGhost
import Derived.Deep.OwnRows
import Derived.Deep.QuietTactic
import Derived.Deep.RegionHeld3
import Derived.KernelRfl
import Derived.Laws.BitsLemmas
import Derived.Laws.BytesArg
import Derived.Laws.Cover4
import Derived.Laws.IdiomCopy
import Derived.Laws.MakeOwn
import Derived.Laws.OwnMore
import Derived.Laws.Rows
import Derived.Laws.Slices
import Derived.Laws.StructEq
import Derived.Lib.AppendStr
import Derived.Lib.ConvBytes
import Derived.Maps.AppendAt
import Derived.Maps.Own
import Derived.Maps.OwnOps
import Derived.Maps.OwnSet
import Derived.OrdersHeld
import Derived.OwnWalk
import Derived.RowKit
import Derived.RowKit3
import Derived.StringKeys
import Derived.Tactics
import Derived.Test.YtdogljnddalgdaaDoorProg
import Derived.WalkKit
import Derived.WalkMore
import Derived.WideLaws
import Derived.Test.YtdogljnddalgdaaDoorZFonts5
import Derived.Test.YtdogljnddalgdaaDoorZFonts7
import Derived.Test.YtdogljnddalgdaaDoorZFonts8
import Derived.Test.YtdogljnddalgdaaDoorZFonts9
import Derived.Test.YtdogljnddalgdaaDoorZFonts10
import Derived.Test.YtdogljnddalgdaaDoorZFonts11
namespace Go.Proofs.YtdogljnddalgdaaDoor
end Go.Proofs.YtdogljnddalgdaaDoor
namespace Go.Proofs.YtdogljnddalgdaaDoorW.PrintLast
end Go.Proofs.YtdogljnddalgdaaDoorW.PrintLast
namespace Go.Proofs.YtdogljnddalgdaaDoorW.PrintMore
end Go.Proofs.YtdogljnddalgdaaDoorW.PrintMore
namespace Go.Proofs.YtdogljnddalgdaaDoorW.PrintWords
end Go.Proofs.YtdogljnddalgdaaDoorW.PrintWords
section
namespace Go.Proofs.YtdogljnddalgdaaDoor.A4
open Go.RowKit Go.Proofs.YtdogljnddalgdaaDoorW.PrintWords Go.Proofs.YtdogljnddalgdaaDoorW.PrintLast Go.Proofs.YtdogljnddalgdaaDoorW.PrintMore
attribute [local go_sem] max2_int min2_int max_two min_two max_three min_three max_four min_four   -- for this text's walks alone
set_option linter.unusedVariables false
set_option linter.unusedSimpArgs false
end Go.Proofs.YtdogljnddalgdaaDoor.A4
end
section
namespace Go.Proofs.YtdogljnddalgdaaDoor.A4
open Go Go.RowKit Go.Proofs.YtdogljnddalgdaaDoor Go.Proofs.YtdogljnddalgdaaDoorW.PrintWords Go.Proofs.YtdogljnddalgdaaDoorW.PrintLast Go.Proofs.YtdogljnddalgdaaDoorW.PrintMore
theorem Ev_eq {α : Type} {g : Nat → Option α} {a b : α} (h : Ev g a) (e : a = b) : Ev g b := e ▸ h
def ctl (c : Int) : Bool := decide ((0 ≤ c ∧ c ≤ 31) ∨ (127 ≤ c ∧ c ≤ 159) ∨ c = 8232 ∨ c = 8233)
def val (c : Int) : Bool := decide (0 ≤ c ∧ c ≤ 1114111 ∧ (c < 55296 ∨ 57343 < c))
def safe (c : Int) : Int := if val c = true ∧ ctl c = false then c else 65533
theorem runes_Valid_is (c : Int) : runes_Valid.f c = some (val c) := by
  unfold runes_Valid.f val
  repeat' split
  all_goals (congr 1; rw [Bool.eq_iff_iff]; simp; try omega)
theorem ref_Valid_is (c : Int) : flongref02_Valid.f c = some (val c) := by
  unfold flongref02_Valid.f val
  repeat' split
  all_goals (congr 1; rw [Bool.eq_iff_iff]; simp; try omega)
theorem ref_Control_is (c : Int) : flongref02_Control.f c = some (ctl c) := by
  unfold flongref02_Control.f ctl
  repeat' split
  all_goals (congr 1; rw [Bool.eq_iff_iff]; simp; try omega)
theorem Ev_Control (c : Int) : Ev (fun k => runes_Control.f k c) (ctl c) := by
  have j1 : ∀ b, Ev (fun k => runes_Control.j1 k c b) (b || decide (c = 8232 ∨ c = 8233)) := by
    intro b
    refine Ev.succ ?_
    simp only [runes_Control.j1]
    by_cases h1 : b = true
    · exact Ev.pos h1 (Ev.val (by simp [h1]))
    refine Ev.neg h1 ?_
    by_cases h2 : c = 8232
    · exact Ev.pos h2 (Ev.val (by simp [h2]))
    refine Ev.neg h2 ?_
    by_cases h3 : c = 8233
    · exact Ev.pos h3 (Ev.val (by simp [h3]))
    · exact Ev.neg h3 (Ev.val (by simp [h1, h2, h3]))
  have j0 : ∀ b, Ev (fun k => runes_Control.j0 k c b) (b || decide (127 ≤ c ∧ c ≤ 159) || decide (c = 8232 ∨ c = 8233)) := by
    intro b
    refine Ev.succ ?_
    simp only [runes_Control.j0]
    by_cases h1 : b = true
    · exact Ev.pos h1 (Ev_eq (j1 b) (by simp [h1]))
    refine Ev.neg h1 ?_
    by_cases h2 : c ≥ 127
    · exact Ev.pos h2 (Ev_eq (j1 _) (by simp [h1, show 127 ≤ c from h2]))
    · exact Ev.neg h2 (Ev_eq (j1 _) (by simp [h1, h2]))
  unfold runes_Control.f ctl
  by_cases h : c ≥ 0
  · refine Ev.pos h (Ev_eq (j0 _) ?_)
    rw [Bool.eq_iff_iff]; simp; omega
  · refine Ev.neg h (Ev_eq (j0 _) ?_)
    rw [Bool.eq_iff_iff]; simp; omega
theorem Ev_Safe (c : Int) : Ev (fun k => runes_Safe.f k c) (safe c) := by
  unfold runes_Safe.f safe
  refine Ev.const_bind (runes_Valid_is c) ?_
  by_cases h : val c = true
  · refine Ev.pos h (Ev.bind (Ev_Control c) ?_)
    by_cases h2 : ctl c = true
    · exact Ev.pos h2 (Ev.val (by simp [h2]))
    · exact Ev.neg h2 (Ev.val (by simp [h, h2]))
  · exact Ev.neg h (Ev.val (by simp [h]))
theorem ref_Safe_is (c : Int) : flongref02_Safe.f c = some (safe c) := by
  unfold flongref02_Safe.f safe
  rw [ref_Valid_is]
  simp only [Option.bind_some]
  by_cases h : val c = true
  · rw [if_pos h, ref_Control_is]
    simp only [Option.bind_some]
    by_cases h2 : ctl c = true
    · rw [if_pos h2]; simp [h2]
    · rw [if_neg h2]; simp [h, h2]
  · rw [if_neg h]; simp [h]
def hexd (c : Int) : Option Int := if 48 ≤ c ∧ c ≤ 57 then some (c - 48) else if 65 ≤ c ∧ c ≤ 70 then some (c - 55) else none
theorem Ev_digit (c : Int) (h0 : 0 ≤ c) (h1 : c ≤ 255) : Ev (fun k => escape_digit.f k c) (match hexd c with | some d => (d, true) | none => (0, false)) := by
  have j0 : ∀ b : Bool, b = decide (48 ≤ c ∧ c ≤ 57) → Ev (fun k => escape_digit.j0 k c b) (match hexd c with | some d => (d, true) | none => (0, false)) := by
    intro b hb
    refine Ev.succ ?_
    simp only [escape_digit.j0]
    by_cases h : b = true
    · refine Ev.pos h (Ev.val ?_)
      have : 48 ≤ c ∧ c ≤ 57 := by rw [hb] at h; simpa using h
      simp [hexd, this]
      omega
    · refine Ev.neg h ?_
      have hn : ¬ (48 ≤ c ∧ c ≤ 57) := by rw [hb] at h; simpa using h
      by_cases h2 : c ≥ 65
      · refine Ev.pos h2 ?_
        by_cases h3 : c ≤ 70
        · refine Ev.pos h3 (Ev.val ?_)
          simp only [hexd, if_neg hn, if_pos (show 65 ≤ c ∧ c ≤ 70 from ⟨h2, h3⟩)]
          congr 1
          omega
        · refine Ev.neg h3 (Ev.val ?_)
          simp only [hexd, if_neg hn, if_neg (show ¬ (65 ≤ c ∧ c ≤ 70) by omega)]
      · refine Ev.neg h2 (Ev.val ?_)
        simp only [hexd, if_neg hn, if_neg (show ¬ (65 ≤ c ∧ c ≤ 70) by omega)]
  unfold escape_digit.f
  by_cases h : c ≥ 48
  · exact Ev.pos h (j0 _ (by rw [Bool.eq_iff_iff]; simp; omega))
  · exact Ev.neg h (j0 _ (by rw [Bool.eq_iff_iff]; simp; omega))
end Go.Proofs.YtdogljnddalgdaaDoor.A4
end
section
namespace Go.Proofs.YtdogljnddalgdaaDoor.A4
open Go.RowKit Go.Proofs.YtdogljnddalgdaaDoorW.PrintWords Go.Proofs.YtdogljnddalgdaaDoorW.PrintLast Go.Proofs.YtdogljnddalgdaaDoorW.PrintMore
attribute [local go_sem] max2_int min2_int max_two min_two max_three min_three max_four min_four   -- for this text's walks alone
set_option linter.unusedVariables false
set_option linter.unusedSimpArgs false
end Go.Proofs.YtdogljnddalgdaaDoor.A4
end
section
namespace Go.Proofs.YtdogljnddalgdaaDoor.A4
open Go Go.RowKit Go.Proofs.YtdogljnddalgdaaDoor Go.Proofs.YtdogljnddalgdaaDoorW.PrintWords Go.Proofs.YtdogljnddalgdaaDoorW.PrintLast Go.Proofs.YtdogljnddalgdaaDoorW.PrintMore
theorem find_same {T1 T2 : List (List UInt8 × Int)} (h1 : ∀ p ∈ T1, (T2.find? fun q => q.1 == p.1) = some p) (h2 : ∀ p ∈ T2, (T1.find? fun q => q.1 == p.1) = some p) (key : List UInt8) :
    (T1.find? fun q => q.1 == key) = T2.find? fun q => q.1 == key := by
  cases e1 : T1.find? fun q => q.1 == key with
  | some p =>
    have hp := List.find?_some e1
    simp at hp
    have := h1 p (List.mem_of_find?_eq_some e1)
    rw [hp] at this
    exact this.symm
  | none =>
    cases e2 : T2.find? fun q => q.1 == key with
    | none => rfl
    | some p =>
      have hp := List.find?_some e2
      simp at hp
      have := h2 p (List.mem_of_find?_eq_some e2)
      rw [hp] at this
      rw [this] at e1
      cases e1
theorem rdOf_get (l : List ByteArray) (i : Nat) (h : i < l.length) : rdOf ByteArray.empty l (i : Int) = l[i] := by simp [rdOf, List.getD, List.getElem?_eq_getElem h]
def hexfrom (s : ByteArray) : Nat → Int → Int → Option Int
  | 0, _, x => some x
  | n + 1, i, x => (hexd (bt s i)).bind fun d => hexfrom s n (i + 1) (16 * x + d)
def hexName (s : ByteArray) : Int :=
  if (s.size : Int) < 5 ∨ (s.size : Int) > 7 ∨ bt s 0 ≠ 117 then -1 else match hexfrom s (s.size - 1) 1 0 with
    | none => -1
    | some x => if safe x = x then x else -1
def nameSpec (s : ByteArray) : Int := match look namesT s with
  | some r => r
  | none => hexName s
theorem hexd_range {c d : Int} (h : hexd c = some d) : 0 ≤ d ∧ d ≤ 15 := by
  unfold hexd at h
  split at h
  · cases h; omega
  · split at h
    · cases h; omega
    · cases h
theorem or16 {x d : Int} (h0 : 0 ≤ x) (h1 : x < 16777216) (d0 : 0 ≤ d) (d1 : d ≤ 15) : Go.bits .or .i32 (wrap32 (x * 16)) d = 16 * x + d := by
  rw [w32 (by omega) (by omega)]
  have := bits_join .i32 31 (by decide) wraps_i32 4 (x * 16) d (by omega) (by omega) (by omega) d0 (by omega) (by omega)
  rw [this]; omega
def hb : Nat → Int
  | 0 => 16777216
  | n + 1 => hb n / 16
theorem hb_le : ∀ n, 0 ≤ hb n ∧ hb n ≤ 16777216
  | 0 => by simp [hb]
  | n + 1 => by have := hb_le n; simp only [hb]; omega
theorem Ev_Name_l0 (s : ByteArray) (hs : s.size ≤ 7) : ∀ (n : Nat) (i x : Int), 0 ≤ i → i + n = s.size → 0 ≤ x → x < hb n →
    Ev (fun k => escape_Name.l0 k s x i) (match hexfrom s n i x with | none => (0, false) | some v => if safe v = v then (v, true) else (0, false))
  | 0, i, x, hi, he, h0, h1 => by
    refine Ev.succ ?_
    simp only [escape_Name.l0]
    refine Ev.neg (by omega) (Ev.bind (Ev_Safe x) ?_)
    simp only [hexfrom]
    by_cases h : safe x = x <;> simp only [h, reduceIte] <;> exact Ev.now _
  | n + 1, i, x, hi, he, h0, h1 => by
    have hl := hb_le n
    simp only [hb] at h1
    refine Ev.succ ?_
    simp only [escape_Name.l0]
    have hr := bt_range s i
    refine Ev.pos (by omega) (Ev.pos hi (Ev.bind (Ev_digit _ hr.1 hr.2) ?_))
    simp only [hexfrom]
    cases hd : hexd (bt s i) with
    | none => exact Ev.neg (by simp) (Ev.now _)
    | some d =>
      have hdr := hexd_range hd
      refine Ev.pos rfl ?_
      simp only [Option.bind_some]
      rw [or16 h0 (by omega) hdr.1 hdr.2, w64 (by omega) (by omega)]
      exact Ev_Name_l0 s hs n (i + 1) (16 * x + d) (by omega) (by omega) (by omega) (by omega)
theorem Ev_Name (s : ByteArray) (hs : s.size ≤ 9223372036854775807) : Ev (fun k => escape_Name.f k s) (if 0 ≤ nameSpec s then (nameSpec s, true) else (0, false)) := by
  unfold escape_Name.f
  refine Ev.pos hs ?_
  cases hk : look namesT s with
  | some r =>
    refine Ev.pos rfl (Ev.val ?_)
    have h0 : 0 ≤ r := by
      unfold look at hk
      obtain ⟨p, hp, rfl⟩ := Option.map_eq_some_iff.mp hk
      have hm := List.mem_of_find?_eq_some hp
      exact (show ∀ q ∈ namesT, 0 ≤ q.2 by decide) p hm
    have e : nameSpec s = r := by unfold nameSpec; rw [hk]
    rw [e, if_pos h0]
    rfl
  | none =>
    refine Ev.neg (by simp) ?_
    have e : nameSpec s = hexName s := by unfold nameSpec; rw [hk]
    rw [e]
    have j0 : Ev (fun k => escape_Name.j0 k s true) (0, false) := by
      refine Ev.succ ?_
      simp only [escape_Name.j0, reduceIte]
      exact Ev.now _
    have bad : (s.size : Int) < 5 ∨ (s.size : Int) > 7 ∨ bt s 0 ≠ 117 → (if 0 ≤ hexName s then (hexName s, true) else ((0 : Int), false)) = (0, false) := by
      intro h
      have : hexName s = -1 := if_pos h
      rw [this]; rfl
    by_cases h5 : (s.size : Int) < 5
    · rw [bad (.inl h5)]
      exact Ev.pos h5 j0
    refine Ev.neg h5 ?_
    by_cases h7 : (s.size : Int) > 7
    · rw [bad (.inr (.inl h7))]
      exact Ev.pos h7 j0
    refine Ev.neg h7 (Ev.pos (by omega) ?_)
    by_cases hu : bt s 0 = 117
    · have en : ¬ ((s.size : Int) < 5 ∨ (s.size : Int) > 7 ∨ bt s 0 ≠ 117) := by rintro (h | h | h) <;> first | omega | exact h hu
      have eh : hexName s = match hexfrom s (s.size - 1) 1 0 with
        | none => -1
        | some x => if safe x = x then x else -1 := if_neg en
      rw [eh, show (bt s 0 != 117) = false by simp [hu]]
      refine Ev.succ ?_
      simp only [escape_Name.j0, Bool.false_eq_true, reduceIte]
      refine Ev_eq (Ev_Name_l0 s (by omega) (s.size - 1) 1 0 (by omega) (by omega) (by omega) ?_) ?_
      · have : s.size - 1 = 4 ∨ s.size - 1 = 5 ∨ s.size - 1 = 6 := by omega
        rcases this with e | e | e <;> rw [e] <;> decide
      · cases hf : hexfrom s (s.size - 1) 1 0 with
        | none => rfl
        | some v =>
          by_cases hv : safe v = v
          · have h0 : 0 ≤ v := by
              unfold safe at hv
              split at hv
              · rename_i hc
                have := hc.1
                unfold val at this
                simp at this
                exact this.1
              · omega
            simp only [if_pos hv, if_pos h0]
          · simp only [if_neg hv]
            rfl
    · rw [bad (.inr (.inr hu)), show (bt s 0 != 117) = true by simpa using hu]
      exact j0
end Go.Proofs.YtdogljnddalgdaaDoor.A4
end
section
namespace Go.Proofs.YtdogljnddalgdaaDoor.A4
open Go Go.RowKit Go.Proofs.YtdogljnddalgdaaDoor Go.Proofs.YtdogljnddalgdaaDoorW.PrintWords Go.Proofs.YtdogljnddalgdaaDoorW.PrintLast Go.Proofs.YtdogljnddalgdaaDoorW.PrintMore
theorem Ev_RName_l0 (s : ByteArray) (A : List ByteArray) (V : List Int) (hl : A.length = V.length) (hA : A.length ≤ 1000) (hV : ∀ v ∈ V, wrap64 v = v)
    {r : Int} (hr : Ev (fun k => if (s.size : Int) < 5 then flongref04_Name.j1 k s true else if (s.size : Int) > 7 then flongref04_Name.j1 k s true else if 0 < (s.size : Int) then flongref04_Name.j1 k s (bt s 0 != 117) else none) r) :
    ∀ (n i : Nat), i + n = A.length → Ev (fun k => flongref04_Name.l0 k s A V (i : Int)) ((((A.map fun a => a.data.toList).zip V).drop i |>.find? fun p => p.1 == s.data.toList).elim r fun p => p.2)
  | 0, i, h => by
    refine Ev.succ ?_
    simp only [flongref04_Name.l0]
    refine Ev.neg (by omega) ?_
    rw [List.drop_eq_nil_of_le (by simp; omega)]
    exact hr
  | n + 1, i, h => by
    refine Ev.succ ?_
    simp only [flongref04_Name.l0]
    refine Ev.pos (by omega) (Ev.pos (by omega) ?_)
    have hi : i < A.length := by omega
    rw [List.drop_eq_getElem_cons (by simp; omega), List.find?_cons]
    rw [rdOf_get A i hi, toList_data, toList_data]
    simp only [List.getElem_zip, List.getElem_map]
    by_cases hc : A[i].data.toList = s.data.toList
    · refine Ev.pos hc (Ev.pos (by omega) (Ev.val ?_))
      rw [rd_get V i (by omega), hV _ (List.getElem_mem _)]
      simp [hc]
    · refine Ev.neg hc ?_
      rw [show (A[i].data.toList == s.data.toList) = false by simpa using hc]
      rw [w64 (by omega) (by omega)]
      exact Ev_RName_l0 s A V hl hA hV hr n (i + 1) (by omega)
theorem Ev_RName_l1 (s : ByteArray) (hs : s.size ≤ 7) : ∀ (n : Nat) (i x : Int), 0 ≤ i → i + n = s.size → 0 ≤ x → x < hb n →
    Ev (fun k => flongref04_Name.l1 k s x i) (match hexfrom s n i x with | none => -1 | some v => if safe v = v then v else -1)
  | 0, i, x, hi, he, h0, h1 => by
    simp only [hb] at h1
    refine Ev.succ ?_
    simp only [flongref04_Name.l1, hexfrom]
    refine Ev.neg (by omega) ?_
    by_cases hx : x > 1114111
    · refine Ev.pos hx (Ev.val ?_)
      have : safe x = 65533 := by
        unfold safe val
        rw [if_neg (by simp; omega)]
      rw [if_neg (by omega)]
    · refine Ev.neg hx (Ev.const_bind (ref_Safe_is _) ?_)
      rw [w32 (by omega) (by omega)]
      by_cases h : safe x = x
      · refine Ev.pos h (Ev.val ?_); rw [if_pos h]
      · refine Ev.neg h (Ev.val ?_); rw [if_neg h]
  | n + 1, i, x, hi, he, h0, h1 => by
    have hl := hb_le n
    simp only [hb] at h1
    refine Ev.succ ?_
    simp only [flongref04_Name.l1]
    have hr := bt_range s i
    rw [w64 (n := bt s i) (by omega) (by omega)]
    refine Ev.pos (by omega) (Ev.pos hi ?_)
    simp only [hexfrom]
    have low : ∀ (b : Bool), b = decide (48 ≤ bt s i ∧ bt s i ≤ 57) → Ev (fun k => flongref04_Name.j3 k s x i (bt s i) b) (match (hexd (bt s i)).bind fun d => hexfrom s n (i + 1) (16 * x + d) with | none => -1 | some v => if safe v = v then v else -1) := by
      intro b hb'
      refine Ev.succ ?_
      simp only [flongref04_Name.j3]
      by_cases hd : 48 ≤ bt s i ∧ bt s i ≤ 57
      · refine Ev.pos (by simp [hb', hd]) ?_
        have e : hexd (bt s i) = some (bt s i - 48) := if_pos hd
        rw [e]
        simp only [Option.bind_some]
        rw [w64 (n := 16 * x) (by omega) (by omega), w64 (n := 16 * x + bt s i) (by omega) (by omega), w64 (n := 16 * x + bt s i - 48) (by omega) (by omega), w64 (n := i + 1) (by omega) (by omega), show 16 * x + bt s i - 48 = 16 * x + (bt s i - 48) by omega]
        exact Ev_RName_l1 s hs n (i + 1) _ (by omega) (by omega) (by omega) (by omega)
      · refine Ev.neg (by simp [hb']; omega) ?_
        by_cases he : 65 ≤ bt s i ∧ bt s i ≤ 70
        · refine Ev.pos he.1 (Ev.pos he.2 ?_)
          have e : hexd (bt s i) = some (bt s i - 55) := by unfold hexd; rw [if_neg hd, if_pos he]
          rw [e]
          simp only [Option.bind_some]
          rw [w64 (n := 16 * x) (by omega) (by omega), w64 (n := 16 * x + bt s i) (by omega) (by omega), w64 (n := 16 * x + bt s i - 55) (by omega) (by omega), w64 (n := i + 1) (by omega) (by omega), show 16 * x + bt s i - 55 = 16 * x + (bt s i - 55) by omega]
          exact Ev_RName_l1 s hs n (i + 1) _ (by omega) (by omega) (by omega) (by omega)
        · have e : hexd (bt s i) = none := by unfold hexd; rw [if_neg hd, if_neg he]
          rw [e]
          by_cases h65 : bt s i ≥ 65
          · exact Ev.pos h65 (Ev.neg (by omega) (Ev.now _))
          · exact Ev.neg h65 (Ev.now _)
    by_cases h48 : bt s i ≥ 48
    · refine Ev.pos h48 (low _ ?_)
      simp [h48]
    · refine Ev.neg h48 (low _ ?_)
      simp [h48]
theorem Ev_RName_hex (s : ByteArray) : Ev (fun k => if (s.size : Int) < 5 then flongref04_Name.j1 k s true else if (s.size : Int) > 7 then flongref04_Name.j1 k s true else if 0 < (s.size : Int) then flongref04_Name.j1 k s (bt s 0 != 117) else none) (hexName s) := by
  have j1 : Ev (fun k => flongref04_Name.j1 k s true) (-1) := by
    refine Ev.succ ?_
    simp only [flongref04_Name.j1, reduceIte]
    exact Ev.now _
  have bad : (s.size : Int) < 5 ∨ (s.size : Int) > 7 ∨ bt s 0 ≠ 117 → hexName s = -1 := fun h => if_pos h
  by_cases h5 : (s.size : Int) < 5
  · rw [bad (.inl h5)]
    exact Ev.pos h5 j1
  refine Ev.neg h5 ?_
  by_cases h7 : (s.size : Int) > 7
  · rw [bad (.inr (.inl h7))]
    exact Ev.pos h7 j1
  refine Ev.neg h7 (Ev.pos (by omega) ?_)
  by_cases hu : bt s 0 = 117
  · have en : ¬ ((s.size : Int) < 5 ∨ (s.size : Int) > 7 ∨ bt s 0 ≠ 117) := by rintro (h | h | h) <;> first | omega | exact h hu
    have eh : hexName s = match hexfrom s (s.size - 1) 1 0 with
      | none => -1
      | some x => if safe x = x then x else -1 := if_neg en
    rw [eh, show (bt s 0 != 117) = false by simp [hu]]
    refine Ev.succ ?_
    simp only [flongref04_Name.j1, Bool.false_eq_true, reduceIte]
    refine Ev_RName_l1 s (by omega) (s.size - 1) 1 0 (by omega) (by omega) (by omega) ?_
    have : s.size - 1 = 4 ∨ s.size - 1 = 5 ∨ s.size - 1 = 6 := by omega
    rcases this with e | e | e <;> rw [e] <;> decide
  · rw [bad (.inr (.inr hu)), show (bt s 0 != 117) = true by simpa using hu]
    exact j1
theorem Ev_RName (s : ByteArray) : Ev (fun k => flongref04_Name.f k s) (nameSpec s) := by
  unfold flongref04_Name.f
  refine Ev.const_bind rfl ?_
  simp only
  refine Ev_eq (Ev_RName_l0 s _ _ (by decide) (by decide) (by intro v hv; simp only [List.mem_cons, List.not_mem_nil, or_false] at hv; exact w64 (by omega) (by omega)) (Ev_RName_hex s) 30 0 (by decide)) ?_
  rw [List.drop_zero]
  unfold nameSpec look
  rw [← find_same (T1 := namesT) (by decide) (by decide)]
  cases (namesT.find? fun q => q.1 == s.data.toList) <;> rfl
def fontSpec (s : ByteArray) : Int := (look fontsT s).getD (-1)
theorem fonts_nonneg (s : ByteArray) {r : Int} (hk : look fontsT s = some r) : 0 ≤ r := by
  unfold look at hk
  obtain ⟨p, hp, rfl⟩ := Option.map_eq_some_iff.mp hk
  have hm := List.mem_of_find?_eq_some hp
  exact (show ∀ q ∈ fontsT, 0 ≤ q.2 by decide) p hm
theorem Font_is (s : ByteArray) (hs : s.size ≤ 9223372036854775807) : escape_Font.f s = some (if 0 ≤ fontSpec s then (fontSpec s, true) else (0, false)) := by
  unfold escape_Font.f
  rw [if_pos hs]
  cases hk : look fontsT s with
  | none =>
    have e : fontSpec s = -1 := by unfold fontSpec; rw [hk]; rfl
    rw [e]; rfl
  | some r =>
    have h0 := fonts_nonneg s hk
    have e : fontSpec s = r := by unfold fontSpec; rw [hk]; rfl
    rw [e, if_pos h0]; rfl
theorem known_is : flonglaw04_known.f 40 = some true := by decide +kernel
theorem Ev_known : Ev (fun k => flonglaw04_known.f k) true := Ev.of flonglaw04_known.mono known_is
theorem Ev_kn : Ev (fun k => (flonglaw04_known.f k).bind fun t => some t) true := Ev.bind Ev_known (Ev.now _)
end Go.Proofs.YtdogljnddalgdaaDoor.A4
end
section
namespace Go.Proofs.YtdogljnddalgdaaDoor.A4
open Go.RowKit Go.Proofs.YtdogljnddalgdaaDoorW.PrintWords Go.Proofs.YtdogljnddalgdaaDoorW.PrintLast Go.Proofs.YtdogljnddalgdaaDoorW.PrintMore
attribute [local go_sem] max2_int min2_int max_two min_two max_three min_three max_four min_four   -- for this text's walks alone
set_option linter.unusedVariables false
set_option linter.unusedSimpArgs false
end Go.Proofs.YtdogljnddalgdaaDoor.A4
end
section
namespace Go.Proofs.YtdogljnddalgdaaDoor.A4
open Go.RowKit Go.Proofs.YtdogljnddalgdaaDoorW.PrintWords Go.Proofs.YtdogljnddalgdaaDoorW.PrintLast Go.Proofs.YtdogljnddalgdaaDoorW.PrintMore
attribute [local go_sem] max2_int min2_int max_two min_two max_three min_three max_four min_four   -- for this text's walks alone
set_option linter.unusedVariables false
set_option linter.unusedSimpArgs false
end Go.Proofs.YtdogljnddalgdaaDoor.A4
end
section
namespace Go.Proofs.YtdogljnddalgdaaDoor.A4
open Go.RowKit Go.Proofs.YtdogljnddalgdaaDoorW.PrintWords Go.Proofs.YtdogljnddalgdaaDoorW.PrintLast Go.Proofs.YtdogljnddalgdaaDoorW.PrintMore
attribute [local go_sem] max2_int min2_int max_two min_two max_three min_three max_four min_four   -- for this text's walks alone
set_option linter.unusedVariables false
set_option linter.unusedSimpArgs false
end Go.Proofs.YtdogljnddalgdaaDoor.A4
end
section
namespace Go.Proofs.YtdogljnddalgdaaDoor.A4
open Go.RowKit Go.Proofs.YtdogljnddalgdaaDoorW.PrintWords Go.Proofs.YtdogljnddalgdaaDoorW.PrintLast Go.Proofs.YtdogljnddalgdaaDoorW.PrintMore
attribute [local go_sem] max2_int min2_int max_two min_two max_three min_three max_four min_four   -- for this text's walks alone
set_option linter.unusedVariables false
set_option linter.unusedSimpArgs false
end Go.Proofs.YtdogljnddalgdaaDoor.A4
end
section
namespace Go.Proofs.YtdogljnddalgdaaDoor.A4
open Go.RowKit Go.Proofs.YtdogljnddalgdaaDoorW.PrintWords Go.Proofs.YtdogljnddalgdaaDoorW.PrintLast Go.Proofs.YtdogljnddalgdaaDoorW.PrintMore
attribute [local go_sem] max2_int min2_int max_two min_two max_three min_three max_four min_four   -- for this text's walks alone
set_option linter.unusedVariables false
set_option linter.unusedSimpArgs false
end Go.Proofs.YtdogljnddalgdaaDoor.A4
end
section
namespace Go.Proofs.YtdogljnddalgdaaDoor.A4
open Go.RowKit Go.Proofs.YtdogljnddalgdaaDoorW.PrintWords Go.Proofs.YtdogljnddalgdaaDoorW.PrintLast Go.Proofs.YtdogljnddalgdaaDoorW.PrintMore
attribute [local go_sem] max2_int min2_int max_two min_two max_three min_three max_four min_four   -- for this text's walks alone
set_option linter.unusedVariables false
set_option linter.unusedSimpArgs false
attribute [local go_sem high] eqA41
end Go.Proofs.YtdogljnddalgdaaDoor.A4
end
section
namespace Go.Proofs.YtdogljnddalgdaaDoor.A4
open Go.RowKit Go.Proofs.YtdogljnddalgdaaDoorW.PrintWords Go.Proofs.YtdogljnddalgdaaDoorW.PrintLast Go.Proofs.YtdogljnddalgdaaDoorW.PrintMore
attribute [local go_sem] max2_int min2_int max_two min_two max_three min_three max_four min_four   -- for this text's walks alone
set_option linter.unusedVariables false
set_option linter.unusedSimpArgs false
end Go.Proofs.YtdogljnddalgdaaDoor.A4
end
section
namespace Go.Proofs.YtdogljnddalgdaaDoor.A4
open Go.RowKit Go.Proofs.YtdogljnddalgdaaDoorW.PrintWords Go.Proofs.YtdogljnddalgdaaDoorW.PrintLast Go.Proofs.YtdogljnddalgdaaDoorW.PrintMore
attribute [local go_sem] max2_int min2_int max_two min_two max_three min_three max_four min_four   -- for this text's walks alone
set_option linter.unusedVariables false
set_option linter.unusedSimpArgs false
end Go.Proofs.YtdogljnddalgdaaDoor.A4
end
section
namespace Go.Proofs.YtdogljnddalgdaaDoor.A4
open Go.RowKit Go.Proofs.YtdogljnddalgdaaDoorW.PrintWords Go.Proofs.YtdogljnddalgdaaDoorW.PrintLast Go.Proofs.YtdogljnddalgdaaDoorW.PrintMore
attribute [local go_sem] max2_int min2_int max_two min_two max_three min_three max_four min_four   -- for this text's walks alone
set_option linter.unusedVariables false
set_option linter.unusedSimpArgs false
attribute [local go_sem high] eqA38
end Go.Proofs.YtdogljnddalgdaaDoor.A4
end
section
namespace Go.Proofs.YtdogljnddalgdaaDoor.A4
open Go.RowKit Go.Proofs.YtdogljnddalgdaaDoorW.PrintWords Go.Proofs.YtdogljnddalgdaaDoorW.PrintLast Go.Proofs.YtdogljnddalgdaaDoorW.PrintMore
attribute [local go_sem] max2_int min2_int max_two min_two max_three min_three max_four min_four   -- for this text's walks alone
set_option linter.unusedVariables false
set_option linter.unusedSimpArgs false
end Go.Proofs.YtdogljnddalgdaaDoor.A4
end
section
namespace Go.Proofs.YtdogljnddalgdaaDoor.A4
open Go.RowKit Go.Proofs.YtdogljnddalgdaaDoorW.PrintWords Go.Proofs.YtdogljnddalgdaaDoorW.PrintLast Go.Proofs.YtdogljnddalgdaaDoorW.PrintMore
attribute [local go_sem] max2_int min2_int max_two min_two max_three min_three max_four min_four   -- for this text's walks alone
set_option linter.unusedVariables false
set_option linter.unusedSimpArgs false
end Go.Proofs.YtdogljnddalgdaaDoor.A4
end
