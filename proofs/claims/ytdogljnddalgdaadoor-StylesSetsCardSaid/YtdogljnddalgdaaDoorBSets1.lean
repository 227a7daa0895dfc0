/- Of what the law StylesSets needs: part 1. -/
import Derived.Below
import Derived.Deep.Draws
import Derived.KernelRfl
import Derived.Maps.Own
import Derived.Maps.OwnOps
import Derived.Maps.OwnSet
import Derived.StringKeys
import Derived.Test.YtdogljnddalgdaaDoorProg
section
namespace Go.Proofs.YtdogljnddalgdaaDoor
open Go Go.WideMaps Go.RowKit
def namesT : List (List UInt8 × Int) := [([33, 61], 8800), ([45, 62], 8594), ([60, 45], 8592), ([60, 61], 8804), ([62, 61], 8805), ([69, 117], 8364), ([97, 58], 228), ([97, 113], 39), ([98, 117], 8226), ([99, 111], 169), ([99, 113], 8217), ([100, 101], 176), ([100, 105], 247), ([100, 113], 34), ([101, 109], 8212), ([101, 110], 8211), ([104, 97], 94), ([104, 121], 8208), ([108, 113], 8220), ([109, 117], 215), ([111, 58], 246), ([111, 113], 8216), ([114, 103], 174), ([114, 113], 8221), ([114, 115], 92), ([115, 99], 167), ([115, 115], 223), ([116, 105], 126), ([116, 109], 8482), ([117, 58], 252)]
def fontsT : List (List UInt8 × Int) := [([49], 0), ([50], 1), ([51], 2), ([52], 3), ([66], 1), ([66, 73], 3), ([73], 2), ([80], 4), ([82], 0)]
def look (T : List (List UInt8 × Int)) (s : ByteArray) : Option Int := (T.find? fun p => p.1 == s.data.toList).map fun p => p.2
def tabD (T : List (List UInt8 × Int)) : DataW Unit := .map (T.map fun p => (.string p.1, .lit (.int .i32 p.2)))
theorem sameKey_str (a b : List UInt8) : (Lit.string a).sameKey (.string b) = (a == b) := by
  cases h : (a == b)
  · exact Maps.sameKey_ne (fun e => by simp [Lit.string.injEq] at e; simp [e] at h)
  · simp at h
    subst h
    cases h2 : (Lit.string a).sameKey (.string a)
    · simp [Lit.sameKey] at h2
    · rfl
theorem has_tabD (T : List (List UInt8 × Int)) (s : ByteArray) : Maps.has (tabD T) (.string s.data.toList) = (look T s).isSome := by
  simp only [tabD, Maps.has_eq, look]
  induction T with
  | nil => rfl
  | cons p T ih =>
    simp only [List.map_cons, List.any_cons, List.find?_cons, sameKey_str]
    cases h : (p.1 == s.data.toList)
    · simpa using ih
    · simp
theorem at_tabD (T : List (List UInt8 × Int)) (s : ByteArray) : (tabD T).atKey (.string s.data.toList) (.lit (.int .i32 0)) = .lit (.int .i32 ((look T s).getD 0)) := by
  simp only [tabD, look, DataW.atKey]
  induction T with
  | nil => rfl
  | cons p T ih =>
    simp only [List.map_cons, List.find?_cons, sameKey_str]
    cases h : (p.1 == s.data.toList)
    · simpa using ih
    · simp
structure GL (w : World) : Prop where
  names : ∃ b n, w.cell? ⟨0, 0, none⟩ = some (.map (some b)) ∧ w.ownsMap Tryd.prog 9 (plainElem (H := Unit) Tryd.prog 21) b n (tabD namesT)
  fonts : ∃ b n, w.cell? ⟨1, 0, none⟩ = some (.map (some b)) ∧ w.ownsMap Tryd.prog 9 (plainElem (H := Unit) Tryd.prog 21) b n (tabD fontsT)
  gap : w.cell? ⟨2, 0, none⟩ = some (.int .i32 32) ∧ w.cell? ⟨2, 1, none⟩ = some (.int .u8 0)
theorem ownsMap_below {w w' : World} {k : TypeId} {R : Value → Option (DataW Unit × List MemPlace)} {b n : Nat} {D : DataW Unit} (h : w.ownsMap Tryd.prog k R b n D) (hb : Below w.heap.size w w') : w'.ownsMap Tryd.prog k R b n D := by
  obtain ⟨es, clock, hh, r⟩ := h
  exact ⟨es, clock, (hb.block b (Array.getElem?_eq_some_iff.1 hh).1).trans hh, r⟩
theorem cell_below {w w' : World} {a : Addr} {v : Value} (hc : w.cell? a = some v) (hb : Below w.heap.size w w') : w'.cell? a = some v := (hb.cell (World.block_lt_of_cell? w a hc)).trans hc
theorem GL.below {w w' : World} (h : GL w) (hb : Below w.heap.size w w') : GL w' := by
  obtain ⟨⟨b1, n1, c1, m1⟩, ⟨b2, n2, c2, m2⟩, c3, c4⟩ := h
  exact ⟨⟨b1, n1, cell_below c1 hb, ownsMap_below m1 hb⟩, ⟨b2, n2, cell_below c2 hb, ownsMap_below m2 hb⟩, cell_below c3 hb, cell_below c4 hb⟩
theorem look_run {w : World} {b n : Nat} {T : List (List UInt8 × Int)} (h : w.ownsMap Tryd.prog 9 (plainElem (H := Unit) Tryd.prog 21) b n (tabD T)) (s : ByteArray) (hs : s.size ≤ 9223372036854775807) :
    (Instr.lookup 75 (.map (some b)) (.string s) true).run Tryd.prog w = .ok (.tuple #[.int .i32 ((look T s).getD 0), .bool (look T s).isSome]) w := by
  obtain ⟨v, ps, hrun, hv⟩ := h.look_ok (Maps.string_keyed Tryd.underlying9) (t := 75) (e := 21) Tryd.underlying75 (z := .int .i32 0) (by kernel_rfl) (zd := .lit (.int .i32 0)) (zp := []) (plainElem_int Tryd.underlying21 (by decide)) (keyOf_string_mk (s := s) Tryd.underlying9 (by simpa [maxLen] using hs))
  obtain ⟨c, rfl, hc, _⟩ := plainElem_int_inv Tryd.underlying21 hv
  rw [has_tabD] at hrun
  rw [at_tabD] at hc
  simp only [Prod.mk.injEq, DataW.lit.injEq, Lit.int.injEq, true_and] at hc
  rw [hrun, ← hc.1]
theorem GL.look_namesT {w : World} (h : GL w) (s : ByteArray) (hs : s.size ≤ 9223372036854775807) : ∃ b, w.cell? ⟨0, 0, none⟩ = some (.map (some b)) ∧
    (Instr.lookup 75 (.map (some b)) (.string s) true).run Tryd.prog w = .ok (.tuple #[.int .i32 ((look namesT s).getD 0), .bool (look namesT s).isSome]) w := by
  obtain ⟨b, n, c, m⟩ := h.names
  exact ⟨b, c, look_run m s hs⟩
theorem GL.look_fontsT {w : World} (h : GL w) (s : ByteArray) (hs : s.size ≤ 9223372036854775807) : ∃ b, w.cell? ⟨1, 0, none⟩ = some (.map (some b)) ∧
    (Instr.lookup 75 (.map (some b)) (.string s) true).run Tryd.prog w = .ok (.tuple #[.int .i32 ((look fontsT s).getD 0), .bool (look fontsT s).isSome]) w := by
  obtain ⟨b, n, c, m⟩ := h.fonts
  exact ⟨b, c, look_run m s hs⟩
end Go.Proofs.YtdogljnddalgdaaDoor
end
