/- Of what the law MdocLists needs: part 4. -/
import Derived.Below
import Derived.Deep.Draws
import Derived.KernelRfl
import Derived.Maps.Own
import Derived.Maps.OwnOps
import Derived.Maps.OwnSet
import Derived.StringKeys
import Derived.Test.YtkjgkhgklkdbjaaGreatDoorProg
set_option linter.unusedSimpArgs false
set_option linter.unusedVariables false
section
namespace Go.Proofs.YtkjgkhgklkdbjaaGreatDoor
open Go Go.WideMaps Go.RowKit
def namesT : List (List UInt8 × Int) := [([33, 61], 8800), ([45, 62], 8594), ([60, 45], 8592), ([60, 61], 8804), ([62, 61], 8805), ([69, 117], 8364), ([97, 58], 228), ([97, 113], 39), ([98, 117], 8226), ([99, 111], 169), ([99, 113], 8217), ([100, 101], 176), ([100, 105], 247), ([100, 113], 34), ([101, 109], 8212), ([101, 110], 8211), ([104, 97], 94), ([104, 121], 8208), ([108, 113], 8220), ([109, 117], 215), ([111, 58], 246), ([111, 113], 8216), ([114, 103], 174), ([114, 113], 8221), ([114, 115], 92), ([115, 99], 167), ([115, 115], 223), ([116, 105], 126), ([116, 109], 8482), ([117, 58], 252)]
def fontsT : List (List UInt8 × Int) := [([49], 0), ([50], 1), ([51], 2), ([52], 3), ([66], 1), ([66, 73], 3), ([73], 2), ([80], 4), ([82], 0)]
def look (T : List (List UInt8 × Int)) (s : ByteArray) : Option Int := (T.find? fun p => p.1 == s.data.toList).map fun p => p.2
def tabD (T : List (List UInt8 × Int)) : DataW Unit := .map (T.map fun p => (.string p.1, .lit (.int .i32 p.2)))
theorem sameKey_str (a b : List UInt8) : (Lit.string a).sameKey (.string b) = (a == b) := by
  cases h : (a == b)
  · exact Maps.sameKey_ne (fun e => by simp [Lit.string.injEq] at e; simp [e] at h)
  · simp at h
    subst h
    cases h2 : (Lit.string a).sameKey (.string a)
    · simp [Lit.sameKey] at h2
    · rfl
theorem has_tabD (T : List (List UInt8 × Int)) (s : ByteArray) : Maps.has (tabD T) (.string s.data.toList) = (look T s).isSome := by
  simp only [tabD, Maps.has_eq, look]
  induction T with
  | nil => rfl
  | cons p T ih =>
    simp only [List.map_cons, List.any_cons, List.find?_cons, sameKey_str]
    cases h : (p.1 == s.data.toList)
    · simpa using ih
    · simp
theorem at_tabD (T : List (List UInt8 × Int)) (s : ByteArray) : (tabD T).atKey (.string s.data.toList) (.lit (.int .i32 0)) = .lit (.int .i32 ((look T s).getD 0)) := by
  simp only [tabD, look, DataW.atKey]
  induction T with
  | nil => rfl
  | cons p T ih =>
    simp only [List.map_cons, List.find?_cons, sameKey_str]
    cases h : (p.1 == s.data.toList)
    · simpa using ih
    · simp
structure GL (w : World) : Prop where
  names : ∃ b n, w.cell? ⟨3, 0, none⟩ = some (.map (some b)) ∧ w.ownsMap Tryz.prog 9 (plainElem (H := Unit) Tryz.prog 21) b n (tabD namesT)
  fonts : ∃ b n, w.cell? ⟨4, 0, none⟩ = some (.map (some b)) ∧ w.ownsMap Tryz.prog 9 (plainElem (H := Unit) Tryz.prog 21) b n (tabD fontsT)
  maxlen : ∃ m, w.cell? ⟨2, 0, none⟩ = some (.int .i64 m)
theorem GL.ext {w w' : World} (h : GL w) (hb : ∀ b, b < w.heap.size → w'.heap[b]? = w.heap[b]?) : GL w' := by
  have hm : ∀ {k : TypeId} {R : Value → Option (DataW Unit × List MemPlace)} {b n : Nat} {D : DataW Unit}, w.ownsMap Tryz.prog k R b n D → w'.ownsMap Tryz.prog k R b n D := fun {k R b n D} h => by
    obtain ⟨es, clock, hh, r⟩ := h
    exact ⟨es, clock, (hb b (Array.getElem?_eq_some_iff.1 hh).1).trans hh, r⟩
  have hc : ∀ {a : Addr} {v : Value}, w.cell? a = some v → w'.cell? a = some v := fun {a v} h => by
    have := World.block_lt_of_cell? w a h
    unfold World.cell? at h ⊢
    rw [hb _ this]; exact h
  obtain ⟨⟨b1, n1, c1, m1⟩, ⟨b2, n2, c2, m2⟩, ⟨m, c3⟩⟩ := h
  exact ⟨⟨b1, n1, hc c1, hm m1⟩, ⟨b2, n2, hc c2, hm m2⟩, ⟨m, hc c3⟩⟩
theorem look_run {w : World} {b n : Nat} {T : List (List UInt8 × Int)} (h : w.ownsMap Tryz.prog 9 (plainElem (H := Unit) Tryz.prog 21) b n (tabD T)) (s : ByteArray) (hs : s.size ≤ 9223372036854775807) :
    (Instr.lookup 283 (.map (some b)) (.string s) true).run Tryz.prog w = .ok (.tuple #[.int .i32 ((look T s).getD 0), .bool (look T s).isSome]) w := by
  obtain ⟨v, ps, hrun, hv⟩ := h.look_ok (Maps.string_keyed Tryz.underlying9) (t := 283) (e := 21) Tryz.underlying283 (z := .int .i32 0) (by kernel_rfl) (zd := .lit (.int .i32 0)) (zp := []) (plainElem_int Tryz.underlying21 (by decide)) (keyOf_string_mk (s := s) Tryz.underlying9 (by simpa [maxLen] using hs))
  obtain ⟨c, rfl, hc, _⟩ := plainElem_int_inv Tryz.underlying21 hv
  rw [has_tabD] at hrun
  rw [at_tabD] at hc
  simp only [Prod.mk.injEq, DataW.lit.injEq, Lit.int.injEq, true_and] at hc
  rw [hrun, ← hc.1]
theorem GL.look_namesT {w : World} (h : GL w) (s : ByteArray) (hs : s.size ≤ 9223372036854775807) : ∃ b, w.cell? ⟨3, 0, none⟩ = some (.map (some b)) ∧
    (Instr.lookup 283 (.map (some b)) (.string s) true).run Tryz.prog w = .ok (.tuple #[.int .i32 ((look namesT s).getD 0), .bool (look namesT s).isSome]) w := by
  obtain ⟨b, n, c, m⟩ := h.names
  exact ⟨b, c, look_run m s hs⟩
theorem GL.look_fontsT {w : World} (h : GL w) (s : ByteArray) (hs : s.size ≤ 9223372036854775807) : ∃ b, w.cell? ⟨4, 0, none⟩ = some (.map (some b)) ∧
    (Instr.lookup 283 (.map (some b)) (.string s) true).run Tryz.prog w = .ok (.tuple #[.int .i32 ((look fontsT s).getD 0), .bool (look fontsT s).isSome]) w := by
  obtain ⟨b, n, c, m⟩ := h.fonts
  exact ⟨b, c, look_run m s hs⟩
def tabs (g : Nat) : Option (ByteArray → Option Int) := if g = 3 then some (look namesT) else if g = 4 then some (look fontsT) else none
theorem GL.mapsOk (w0 w : World) (g b : Nat) (T : ByteArray → Option Int) (s : ByteArray) (h : GL w0) (hb : ∀ b, b < w0.heap.size → w.heap[b]? = w0.heap[b]?) (hT : tabs g = some T) (hs : s.size ≤ 9223372036854775807) (hc : w.cell? ⟨g, 0, none⟩ = some (.map (some b))) :
    (Instr.lookup 283 (.map (some b)) (.string s) true).run Tryz.prog w = .ok (.tuple #[.int .i32 ((T s).getD 0), .bool (T s).isSome]) w := by
  have hw := h.ext hb
  unfold tabs at hT
  split at hT
  · rename_i hg
    subst hg
    obtain rfl := Option.some.inj hT
    obtain ⟨b', h1, h2⟩ := hw.look_namesT s hs
    rw [h1] at hc
    simp only [Option.some.injEq, Value.map.injEq] at hc
    rw [← hc]; exact h2
  · split at hT
    · rename_i hg
      subst hg
      obtain rfl := Option.some.inj hT
      obtain ⟨b', h1, h2⟩ := hw.look_fontsT s hs
      rw [h1] at hc
      simp only [Option.some.injEq, Value.map.injEq] at hc
      rw [← hc]; exact h2
    · simp at hT
end Go.Proofs.YtkjgkhgklkdbjaaGreatDoor
end
