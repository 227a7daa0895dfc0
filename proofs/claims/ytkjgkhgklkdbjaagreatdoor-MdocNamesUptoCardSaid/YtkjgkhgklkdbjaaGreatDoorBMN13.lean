/- Of what the law MdocNames needs: part 13. -/
import Derived.Shelf.Strings.SlTrimAscii
import Derived.Test.YtkjgkhgklkdbjaaGreatDoorBMN12
set_option linter.unusedSimpArgs false
set_option linter.unusedVariables false
section
namespace Go.Proofs.YtkjgkhgklkdbjaaGreatDoor.Ev
open Go
def trimG (l : List Glyph) : List Glyph := (l.reverse.dropWhile Glyph.blank).reverse
def ends (l : List Glyph) : Nat := (trimG l).length
theorem mem_tw {α : Type} {p : α → Bool} : ∀ {l : List α} {x : α}, x ∈ l.takeWhile p → p x = true
  | y :: l, x, h => by
    rw [List.takeWhile_cons] at h
    split at h
    · rename_i hy
      rcases List.mem_cons.1 h with rfl | h
      · exact hy
      · exact mem_tw h
    · simp at h
theorem trimG_append (l : List Glyph) : ∃ b, l = trimG l ++ b ∧ ∀ g ∈ b, g.blank = true := by
  refine ⟨(l.reverse.takeWhile Glyph.blank).reverse, ?_, fun g hg => ?_⟩
  · rw [trimG, ← List.reverse_append, List.takeWhile_append_dropWhile, List.reverse_reverse]
  · have := List.mem_reverse.1 hg
    exact mem_tw this
theorem trimG_take (l : List Glyph) : trimG l = l.take (ends l) := by
  obtain ⟨b, h, _⟩ := trimG_append l
  have := congrArg (List.take (ends l)) h
  rw [show List.take (ends l) (trimG l ++ b) = trimG l from List.take_left' rfl] at this
  exact this.symm
theorem ends_le (l : List Glyph) : ends l ≤ l.length := by
  obtain ⟨b, h, _⟩ := trimG_append l
  have := congrArg List.length h
  rw [List.length_append] at this
  unfold ends; omega
theorem ends_behind {l : List Glyph} {i : Nat} (h : i < l.length) (hi : ends l ≤ i) : l[i].blank = true := by
  obtain ⟨b, hb, hbl⟩ := trimG_append l
  have : l[i] ∈ b := by
    have e : l[i]? = b[i - ends l]? := by
      conv => lhs; rw [hb]
      rw [List.getElem?_append_right hi]; rfl
    rw [List.getElem?_eq_getElem h] at e
    exact List.mem_of_getElem? e.symm
  exact hbl _ this
theorem ends_at {l : List Glyph} (h : 0 < ends l) : (l[ends l - 1]'(by have := ends_le l; omega)).blank = false := by
  have hne : l.reverse.dropWhile Glyph.blank ≠ [] := fun hh => by
    have : ends l = 0 := by unfold ends trimG; rw [hh]; rfl
    omega
  obtain ⟨y, r, hy⟩ := List.exists_cons_of_ne_nil hne
  have h2 : y.blank = false := by
    have := List.head?_dropWhile_not Glyph.blank l.reverse
    rw [hy] at this
    simpa using this
  have ht : trimG l = r.reverse ++ [y] := by rw [trimG, hy, List.reverse_cons]
  have e : (trimG l)[ends l - 1]? = some y := by
    rw [ends, ht]
    simp
  rw [trimG_take, List.getElem?_take_of_lt (by omega)] at e
  have := (List.getElem?_eq_some_iff.1 e).2
  rw [this]; exact h2
end Go.Proofs.YtkjgkhgklkdbjaaGreatDoor.Ev
end
section
namespace Go.Proofs.YtkjgkhgklkdbjaaGreatDoor.Ev
open Go
@[simp] theorem range1 : ([0] = List.range 1) = True := eq_true rfl
@[simp] theorem range2 : ([0, 1] = List.range 2) = True := eq_true rfl
@[simp] theorem range3 : ([0, 1, 2] = List.range 3) = True := eq_true rfl
@[simp] theorem range4 : ([0, 1, 2, 3] = List.range 4) = True := eq_true rfl
@[simp] theorem sized_nil {n : Nat} : Sized n [] = True := eq_true fun p h => by simp at h
@[simp] theorem sized_int {k : IntKind} {n : Int} {l : List PV} : Sized 1 (PV.int k n :: l) = Sized 1 l := propext ⟨fun h p hp => h p (List.mem_cons_of_mem _ hp), fun h p hp => by
  rcases List.mem_cons.1 hp with rfl | hp
  · rfl
  · exact h p hp⟩
end Go.Proofs.YtkjgkhgklkdbjaaGreatDoor.Ev
end
section
namespace Go.Proofs.YtkjgkhgklkdbjaaGreatDoor.Ev
open Go
theorem small_of {l : List Node} (h : sumBy Node.long l ≤ 1073741824) : ∀ x ∈ l, x.Small := fun x hx => by
  have := long_mem hx; unfold Node.Small; omega
end Go.Proofs.YtkjgkhgklkdbjaaGreatDoor.Ev
end
