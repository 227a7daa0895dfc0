import Derived.Test.YtdogljnddalgdaaDoorPB
import Derived.Test.YtdogljnddalgdaaDoorA46
import Derived.Test.YtdogljnddalgdaaDoorA416
import Derived.Test.YtdogljnddalgdaaDoorA47
import Derived.Test.YtdogljnddalgdaaDoorA417
import Derived.Test.YtdogljnddalgdaaDoorA47
import Derived.Test.YtdogljnddalgdaaDoorA418
/-! Runes and names: what the program and the document's answer come to. -/
namespace Go.Proofs.YtdogljnddalgdaaDoor.A4
open Go Go.RowKit Go.Proofs.YtdogljnddalgdaaDoor Go.Proofs.YtdogljnddalgdaaDoorW.PrintWords Go.Proofs.YtdogljnddalgdaaDoorW.PrintLast Go.Proofs.YtdogljnddalgdaaDoorW.PrintMore
theorem Ev_eq {α : Type} {g : Nat → Option α} {a b : α} (h : Ev g a) (e : a = b) : Ev g b := e ▸ h
def ctl (c : Int) : Bool := decide ((0 ≤ c ∧ c ≤ 31) ∨ (127 ≤ c ∧ c ≤ 159) ∨ c = 8232 ∨ c = 8233)
def val (c : Int) : Bool := decide (0 ≤ c ∧ c ≤ 1114111 ∧ (c < 55296 ∨ 57343 < c))
def safe (c : Int) : Int := if val c = true ∧ ctl c = false then c else 65533
theorem runes_Valid_is (c : Int) : runes_Valid.f c = some (val c) := by
  unfold runes_Valid.f val
  repeat' split
  all_goals (congr 1; rw [Bool.eq_iff_iff]; simp; try omega)
theorem ref_Valid_is (c : Int) : flongref02_Valid.f c = some (val c) := by
  unfold flongref02_Valid.f val
  repeat' split
  all_goals (congr 1; rw [Bool.eq_iff_iff]; simp; try omega)
theorem ref_Control_is (c : Int) : flongref02_Control.f c = some (ctl c) := by
  unfold flongref02_Control.f ctl
  repeat' split
  all_goals (congr 1; rw [Bool.eq_iff_iff]; simp; try omega)
theorem Ev_Control (c : Int) : Ev (fun k => runes_Control.f k c) (ctl c) := by
  have j1 : ∀ b, Ev (fun k => runes_Control.j1 k c b) (b || decide (c = 8232 ∨ c = 8233)) := by
    intro b
    refine Ev.succ ?_
    simp only [runes_Control.j1]
    by_cases h1 : b = true
    · exact Ev.pos h1 (Ev.val (by simp [h1]))
    refine Ev.neg h1 ?_
    by_cases h2 : c = 8232
    · exact Ev.pos h2 (Ev.val (by simp [h2]))
    refine Ev.neg h2 ?_
    by_cases h3 : c = 8233
    · exact Ev.pos h3 (Ev.val (by simp [h3]))
    · exact Ev.neg h3 (Ev.val (by simp [h1, h2, h3]))
  have j0 : ∀ b, Ev (fun k => runes_Control.j0 k c b) (b || decide (127 ≤ c ∧ c ≤ 159) || decide (c = 8232 ∨ c = 8233)) := by
    intro b
    refine Ev.succ ?_
    simp only [runes_Control.j0]
    by_cases h1 : b = true
    · exact Ev.pos h1 (Ev_eq (j1 b) (by simp [h1]))
    refine Ev.neg h1 ?_
    by_cases h2 : c ≥ 127
    · exact Ev.pos h2 (Ev_eq (j1 _) (by simp [h1, show 127 ≤ c from h2]))
    · exact Ev.neg h2 (Ev_eq (j1 _) (by simp [h1, h2]))
  unfold runes_Control.f ctl
  by_cases h : c ≥ 0
  · refine Ev.pos h (Ev_eq (j0 _) ?_)
    rw [Bool.eq_iff_iff]; simp; omega
  · refine Ev.neg h (Ev_eq (j0 _) ?_)
    rw [Bool.eq_iff_iff]; simp; omega
theorem Ev_Safe (c : Int) : Ev (fun k => runes_Safe.f k c) (safe c) := by
  unfold runes_Safe.f safe
  refine Ev.const_bind (runes_Valid_is c) ?_
  by_cases h : val c = true
  · refine Ev.pos h (Ev.bind (Ev_Control c) ?_)
    by_cases h2 : ctl c = true
    · exact Ev.pos h2 (Ev.val (by simp [h2]))
    · exact Ev.neg h2 (Ev.val (by simp [h, h2]))
  · exact Ev.neg h (Ev.val (by simp [h]))
theorem ref_Safe_is (c : Int) : flongref02_Safe.f c = some (safe c) := by
  unfold flongref02_Safe.f safe
  rw [ref_Valid_is]
  simp only [Option.bind_some]
  by_cases h : val c = true
  · rw [if_pos h, ref_Control_is]
    simp only [Option.bind_some]
    by_cases h2 : ctl c = true
    · rw [if_pos h2]; simp [h2]
    · rw [if_neg h2]; simp [h, h2]
  · rw [if_neg h]; simp [h]
/-- A hexadecimal digit. -/
def hexd (c : Int) : Option Int := if 48 ≤ c ∧ c ≤ 57 then some (c - 48) else if 65 ≤ c ∧ c ≤ 70 then some (c - 55) else none
theorem Ev_digit (c : Int) (h0 : 0 ≤ c) (h1 : c ≤ 255) : Ev (fun k => escape_digit.f k c) (match hexd c with | some d => (d, true) | none => (0, false)) := by
  have j0 : ∀ b : Bool, b = decide (48 ≤ c ∧ c ≤ 57) → Ev (fun k => escape_digit.j0 k c b) (match hexd c with | some d => (d, true) | none => (0, false)) := by
    intro b hb
    refine Ev.succ ?_
    simp only [escape_digit.j0]
    by_cases h : b = true
    · refine Ev.pos h (Ev.val ?_)
      have : 48 ≤ c ∧ c ≤ 57 := by rw [hb] at h; simpa using h
      simp [hexd, this]
      omega
    · refine Ev.neg h ?_
      have hn : ¬ (48 ≤ c ∧ c ≤ 57) := by rw [hb] at h; simpa using h
      by_cases h2 : c ≥ 65
      · refine Ev.pos h2 ?_
        by_cases h3 : c ≤ 70
        · refine Ev.pos h3 (Ev.val ?_)
          simp only [hexd, if_neg hn, if_pos (show 65 ≤ c ∧ c ≤ 70 from ⟨h2, h3⟩)]
          congr 1
          omega
        · refine Ev.neg h3 (Ev.val ?_)
          simp only [hexd, if_neg hn, if_neg (show ¬ (65 ≤ c ∧ c ≤ 70) by omega)]
      · refine Ev.neg h2 (Ev.val ?_)
        simp only [hexd, if_neg hn, if_neg (show ¬ (65 ≤ c ∧ c ≤ 70) by omega)]
  unfold escape_digit.f
  by_cases h : c ≥ 48
  · exact Ev.pos h (j0 _ (by rw [Bool.eq_iff_iff]; simp; omega))
  · exact Ev.neg h (j0 _ (by rw [Bool.eq_iff_iff]; simp; omega))
end Go.Proofs.YtdogljnddalgdaaDoor.A4
