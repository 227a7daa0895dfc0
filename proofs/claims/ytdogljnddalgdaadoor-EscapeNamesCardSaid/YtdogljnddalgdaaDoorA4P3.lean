import Derived.Test.YtdogljnddalgdaaDoorA4P2
import Derived.Test.YtdogljnddalgdaaDoorA412
import Derived.Test.YtdogljnddalgdaaDoorA423
/-! Names, fonts, and what is quoted. -/
namespace Go.Proofs.YtdogljnddalgdaaDoor.A4
open Go Go.RowKit Go.Proofs.YtdogljnddalgdaaDoor Go.Proofs.YtdogljnddalgdaaDoorW.PrintWords Go.Proofs.YtdogljnddalgdaaDoorW.PrintLast Go.Proofs.YtdogljnddalgdaaDoorW.PrintMore
theorem find_same {T1 T2 : List (List UInt8 × Int)} (h1 : ∀ p ∈ T1, (T2.find? fun q => q.1 == p.1) = some p) (h2 : ∀ p ∈ T2, (T1.find? fun q => q.1 == p.1) = some p) (key : List UInt8) :
    (T1.find? fun q => q.1 == key) = T2.find? fun q => q.1 == key := by
  cases e1 : T1.find? fun q => q.1 == key with
  | some p =>
    have hp := List.find?_some e1
    simp at hp
    have := h1 p (List.mem_of_find?_eq_some e1)
    rw [hp] at this
    exact this.symm
  | none =>
    cases e2 : T2.find? fun q => q.1 == key with
    | none => rfl
    | some p =>
      have hp := List.find?_some e2
      simp at hp
      have := h2 p (List.mem_of_find?_eq_some e2)
      rw [hp] at this
      rw [this] at e1
      cases e1
/-- A search through names, from a place on. -/
theorem rdOf_get (l : List ByteArray) (i : Nat) (h : i < l.length) : rdOf ByteArray.empty l (i : Int) = l[i] := by simp [rdOf, List.getD, List.getElem?_eq_getElem h]
/-- Hexadecimal digits of a text, from a place on, so many. -/
def hexfrom (s : ByteArray) : Nat → Int → Int → Option Int
  | 0, _, x => some x
  | n + 1, i, x => (hexd (bt s i)).bind fun d => hexfrom s n (i + 1) (16 * x + d)
def hexName (s : ByteArray) : Int :=
  if (s.size : Int) < 5 ∨ (s.size : Int) > 7 ∨ bt s 0 ≠ 117 then -1 else match hexfrom s (s.size - 1) 1 0 with
    | none => -1
    | some x => if safe x = x then x else -1
def nameSpec (s : ByteArray) : Int := match look namesT s with
  | some r => r
  | none => hexName s
theorem hexd_range {c d : Int} (h : hexd c = some d) : 0 ≤ d ∧ d ≤ 15 := by
  unfold hexd at h
  split at h
  · cases h; omega
  · split at h
    · cases h; omega
    · cases h
theorem or16 {x d : Int} (h0 : 0 ≤ x) (h1 : x < 16777216) (d0 : 0 ≤ d) (d1 : d ≤ 15) : Go.bits .or .i32 (wrap32 (x * 16)) d = 16 * x + d := by
  rw [w32 (by omega) (by omega)]
  have := bits_join .i32 31 (by decide) wraps_i32 4 (x * 16) d (by omega) (by omega) (by omega) d0 (by omega) (by omega)
  rw [this]; omega

def hb : Nat → Int
  | 0 => 16777216
  | n + 1 => hb n / 16
theorem hb_le : ∀ n, 0 ≤ hb n ∧ hb n ≤ 16777216
  | 0 => by simp [hb]
  | n + 1 => by have := hb_le n; simp only [hb]; omega
theorem Ev_Name_l0 (s : ByteArray) (hs : s.size ≤ 7) : ∀ (n : Nat) (i x : Int), 0 ≤ i → i + n = s.size → 0 ≤ x → x < hb n →
    Ev (fun k => escape_Name.l0 k s x i) (match hexfrom s n i x with | none => (0, false) | some v => if safe v = v then (v, true) else (0, false))
  | 0, i, x, hi, he, h0, h1 => by
    refine Ev.succ ?_
    simp only [escape_Name.l0]
    refine Ev.neg (by omega) (Ev.bind (Ev_Safe x) ?_)
    simp only [hexfrom]
    by_cases h : safe x = x <;> simp only [h, reduceIte] <;> exact Ev.now _
  | n + 1, i, x, hi, he, h0, h1 => by
    have hl := hb_le n
    simp only [hb] at h1
    refine Ev.succ ?_
    simp only [escape_Name.l0]
    have hr := bt_range s i
    refine Ev.pos (by omega) (Ev.pos hi (Ev.bind (Ev_digit _ hr.1 hr.2) ?_))
    simp only [hexfrom]
    cases hd : hexd (bt s i) with
    | none => exact Ev.neg (by simp) (Ev.now _)
    | some d =>
      have hdr := hexd_range hd
      refine Ev.pos rfl ?_
      simp only [Option.bind_some]
      rw [or16 h0 (by omega) hdr.1 hdr.2, w64 (by omega) (by omega)]
      exact Ev_Name_l0 s hs n (i + 1) (16 * x + d) (by omega) (by omega) (by omega) (by omega)
theorem Ev_Name (s : ByteArray) (hs : s.size ≤ 9223372036854775807) : Ev (fun k => escape_Name.f k s) (if 0 ≤ nameSpec s then (nameSpec s, true) else (0, false)) := by
  unfold escape_Name.f
  refine Ev.pos hs ?_
  cases hk : look namesT s with
  | some r =>
    refine Ev.pos rfl (Ev.val ?_)
    have h0 : 0 ≤ r := by
      unfold look at hk
      obtain ⟨p, hp, rfl⟩ := Option.map_eq_some_iff.mp hk
      have hm := List.mem_of_find?_eq_some hp
      exact (show ∀ q ∈ namesT, 0 ≤ q.2 by decide) p hm
    have e : nameSpec s = r := by unfold nameSpec; rw [hk]
    rw [e, if_pos h0]
    rfl
  | none =>
    refine Ev.neg (by simp) ?_
    have e : nameSpec s = hexName s := by unfold nameSpec; rw [hk]
    rw [e]
    have j0 : Ev (fun k => escape_Name.j0 k s true) (0, false) := by
      refine Ev.succ ?_
      simp only [escape_Name.j0, reduceIte]
      exact Ev.now _
    have bad : (s.size : Int) < 5 ∨ (s.size : Int) > 7 ∨ bt s 0 ≠ 117 → (if 0 ≤ hexName s then (hexName s, true) else ((0 : Int), false)) = (0, false) := by
      intro h
      have : hexName s = -1 := if_pos h
      rw [this]; rfl
    by_cases h5 : (s.size : Int) < 5
    · rw [bad (.inl h5)]
      exact Ev.pos h5 j0
    refine Ev.neg h5 ?_
    by_cases h7 : (s.size : Int) > 7
    · rw [bad (.inr (.inl h7))]
      exact Ev.pos h7 j0
    refine Ev.neg h7 (Ev.pos (by omega) ?_)
    by_cases hu : bt s 0 = 117
    · have en : ¬ ((s.size : Int) < 5 ∨ (s.size : Int) > 7 ∨ bt s 0 ≠ 117) := by rintro (h | h | h) <;> first | omega | exact h hu
      have eh : hexName s = match hexfrom s (s.size - 1) 1 0 with
        | none => -1
        | some x => if safe x = x then x else -1 := if_neg en
      rw [eh, show (bt s 0 != 117) = false by simp [hu]]
      refine Ev.succ ?_
      simp only [escape_Name.j0, Bool.false_eq_true, reduceIte]
      refine Ev_eq (Ev_Name_l0 s (by omega) (s.size - 1) 1 0 (by omega) (by omega) (by omega) ?_) ?_
      · have : s.size - 1 = 4 ∨ s.size - 1 = 5 ∨ s.size - 1 = 6 := by omega
        rcases this with e | e | e <;> rw [e] <;> decide
      · cases hf : hexfrom s (s.size - 1) 1 0 with
        | none => rfl
        | some v =>
          by_cases hv : safe v = v
          · have h0 : 0 ≤ v := by
              unfold safe at hv
              split at hv
              · rename_i hc
                have := hc.1
                unfold val at this
                simp at this
                exact this.1
              · omega
            simp only [if_pos hv, if_pos h0]
          · simp only [if_neg hv]
            rfl
    · rw [bad (.inr (.inr hu)), show (bt s 0 != 117) = true by simpa using hu]
      exact j0
end Go.Proofs.YtdogljnddalgdaaDoor.A4
