-- printed by a program of this session's (wip/tools) out of the translation; Lean checks it
import Derived.Test.YtdogljnddalgdaaDoorA40
import Derived.Test.YtdogljnddalgdaaDoorA45
import Derived.Test.YtdogljnddalgdaaDoorA48
namespace Go.Proofs.YtdogljnddalgdaaDoor.A4
open Go.RowKit Go.Proofs.YtdogljnddalgdaaDoorW.PrintWords Go.Proofs.YtdogljnddalgdaaDoorW.PrintLast Go.Proofs.YtdogljnddalgdaaDoorW.PrintMore
attribute [local go_sem] max2_int min2_int max_two min_two max_three min_three max_four min_four   -- for this text's walks alone
set_option linter.unusedVariables false
set_option linter.unusedSimpArgs false

/-! ### escape_reader_name: function 67 -/
theorem runes_conv {w : World} {A : Option Addr} {xs : List Int} {c : Nat} (h : Kd.C (Kd.int .i32) w A xs.length xs) :
    (convert 34 9 (.slice A xs.length c)).run Tryd.prog w = .ok (.string (runesBytes xs)) w := by
  have h' := Kd.reads_of_C (d := (0 : Int)) h
  rcases xs with _ | ⟨x, xs⟩
  · cases A with
    | none => exact run_convert_runes_nil w _ _ 21 _ _ Tryd.underlying34 Tryd.underlying21 Tryd.underlying9
    | some a =>
      have := run_convert_runes (P := Tryd.prog) w 34 9 21 a 0 c [] (by simp) Tryd.underlying34 Tryd.underlying21 Tryd.underlying9 (by simp)
      simpa using this
  · obtain ⟨a, e, hc⟩ := h'.2.2 (by simp)
    subst e
    have := run_convert_runes (P := Tryd.prog) w 34 9 21 a (x :: xs).length c (x :: xs) (Nat.le_refl _) Tryd.underlying34 Tryd.underlying21 Tryd.underlying9 (fun j hj => hc j hj)
    simpa using this

/-- What 'name' reads: the name, whether it ends, and where the reader stands then. -/
def rd_name (k : Nat) (l : List Int) (p : Int) (one : Bool) : Option (ByteArray × Bool × Int) :=
  if (l.length : Int) ≤ p then some (⟨#[]⟩, false, p)
  else if rd l p = 91 then (slices_Index_rune_rune.f k (l.drop p.toNat) 93).bind fun e => if e < 0 then some (⟨#[]⟩, false, p) else if 1 ≤ e ∧ e < (l.drop p.toNat).length then some (runesBytes (((l.drop p.toNat).take e.toNat).drop 1), true, p + (e + 1)) else none
  else if rd l p = 40 then (if p + 1 + 2 > l.length then some (⟨#[]⟩, false, p + 1) else some (runesBytes ((l.take (p + 1 + 2).toNat).drop (p + 1).toNat), true, p + 1 + 2))
  else if one then some (runesBytes ((l.take (p + 1).toNat).drop p.toNat), true, p + 1) else some (⟨#[]⟩, false, p)

section
variable {w : World} {base g : Nat} {vl : Value} {l : List Int} {p : Int} {vo : Value} {xs : List S38} {vb : Value} {ys : List S41}
theorem RD.set_at (h : RD w base g vl l p vo xs vb ys) (q : Int) : RD (w.setCell ⟨g, 1, none⟩ (.int .i64 q)) base g vl l q vo xs vb ys :=
  ⟨blk_put (cs := #[vl, .int .i64 p, vo, vb]) h.blk 1 _ rfl, h.ge, Kd.R_set h.l h.blk (by decide) 1 _, Kd.R_set h.o h.blk (by decide) 1 _, Kd.R_set h.b h.blk (by decide) 1 _⟩
theorem RD.drewN (h : RD w base g vl l p vo xs vb ys) (n : Nat) : RD (w.drewN n) base g vl l p vo xs vb ys := ⟨h.blk, h.ge, Kd.R_drewN h.l n, Kd.R_drewN h.o n, Kd.R_drewN h.b n⟩
theorem RD.drew (h : RD w base g vl l p vo xs vb ys) : RD w.drew base g vl l p vo xs vb ys := ⟨h.blk, h.ge, Kd.R_drew h.l, Kd.R_drew h.o, Kd.R_drew h.b⟩
end

set_option maxHeartbeats 8000000 in
set_option maxRecDepth 100000 in
theorem name_empty {w0 w : World} {base g : Nat} {vl : Value} {l : List Int} {p : Int} {vo : Value} {xs : List S38} {vb : Value} {ys : List S41} (one : Bool)
    (hB : Below base w0 w) (h : RD w base g vl l p vo xs vb ys) (hp0 : 0 ≤ p) (hp1 : p ≤ l.length) (hp : (l.length : Int) ≤ p) :
    Calls Tryd.prog 67 #[.pointer (some ⟨g, 0, none⟩), .bool one] w fun e w' => e = .returned (.tuple #[.string ⟨#[]⟩, .bool false]) ∧
      RD w' base g vl l p vo xs vb ys ∧ Below base w0 w' ∧ w.heap.size ≤ w'.heap.size := by
  obtain ⟨Al, cl, el, hcl, hrl⟩ := Kd.R_reads h.l
  subst el
  have HR := Aside0.mk h
  have HB := Aside0.mk hB
  have hcz0 : w.cell? ⟨g, 0, none⟩ = some (.slice Al l.length cl) := (blk_cell h.blk 0).trans rfl
  have hcz1 : w.cell? ⟨g, 1, none⟩ = some (.int .i64 p) := (blk_cell h.blk 1).trans rfl
  have hfz1 := blk_frozen h.blk 1
  obtain ⟨i0, hi0, _, hsz, _⟩ := info_parts info21
  obtain ⟨A', hcut, hA, hC⟩ := print_drop_of (P := Tryd.prog) (Value.int .i32) 0 34 21 .i64 Tryd.underlying34 hi0 hsz Al cl l p hp0 hp1 hcl
  have e0 : l.drop p.toNat = [] := List.drop_eq_nil_of_le (by omega)
  rw [e0] at hcut
  clear h hB hA hC hi0 hsz hrl e0 hcl hp0 hp1 hp
  have hu65 := Tryd.underlying65
  go_enter Tryd.func67, Tryd.ntmps67
  go_wp2
  go_quiet (fail)
  go_wp2
  go_ret2
  exact ⟨rfl, by repeat (first | exact HR.out | apply RD.drew | apply RD.drewN | apply RD.set_at), by repeat (first | exact HB.out | apply below_drew | apply pw_below_drewN | refine Below.setCell ?_ HR.out.ge _), by simp [World.setCell]⟩

set_option maxHeartbeats 8000000 in
set_option maxRecDepth 100000 in
theorem name_none {w0 w : World} {base g : Nat} {vl : Value} {l : List Int} {p : Int} {vo : Value} {xs : List S38} {vb : Value} {ys : List S41} (one : Bool)
    (hB : Below base w0 w) (h : RD w base g vl l p vo xs vb ys) (hp0 : 0 ≤ p) (hp1 : p < l.length) (h91 : rd l p ≠ 91) (h40 : rd l p ≠ 40) :
    Calls Tryd.prog 67 #[.pointer (some ⟨g, 0, none⟩), .bool false] w fun e w' => e = .returned (.tuple #[.string ⟨#[]⟩, .bool false]) ∧
      RD w' base g vl l p vo xs vb ys ∧ Below base w0 w' ∧ w.heap.size ≤ w'.heap.size := by
  obtain ⟨Al, cl, el, hcl, hrl⟩ := Kd.R_reads h.l
  subst el
  have HR := Aside0.mk h
  have HB := Aside0.mk hB
  have hcz0 : w.cell? ⟨g, 0, none⟩ = some (.slice Al l.length cl) := (blk_cell h.blk 0).trans rfl
  have hcz1 : w.cell? ⟨g, 1, none⟩ = some (.int .i64 p) := (blk_cell h.blk 1).trans rfl
  have hfz1 := blk_frozen h.blk 1
  obtain ⟨i0, hi0, _, hsz, _⟩ := info_parts info21
  obtain ⟨A', hcut, hA, hC⟩ := print_drop_of (P := Tryd.prog) (Value.int .i32) 0 34 21 .i64 Tryd.underlying34 hi0 hsz Al cl l p hp0 (Int.le_of_lt hp1) hcl
  have hrd : Kd.C (Kd.int .i32) w A' (l.drop p.toNat).length (l.drop p.toNat) := Kd.C_of_reads (h1 := fun _ => rfl) (hA w (Kd.reads_of_C (d := (0 : Int)) hrl))
  have hm0 : rd (l.drop p.toNat) 0 = rd l p := by simp [rd, List.getD]
  have hml : 0 < (l.drop p.toNat).length := by simp; omega
  obtain ⟨m, hm⟩ : ∃ m, m = l.drop p.toNat := ⟨_, rfl⟩
  rw [← hm] at hcut hrd hm0 hml hC
  obtain ⟨ad, ead, hx0⟩ := Kd.at_int hrd 0 (by omega) (by omega)
  subst ead
  rw [show ((0 : Int)).toNat = 0 from rfl, Addr.add_zero', hm0] at hx0
  have hlt : (0 < m.length) = True := eq_true hml
  have hz : ((m.length : Int) == 0) = false := beq_eq_false_iff_ne.mpr (by omega)
  have hlt2 : decide (0 < m.length) = true := decide_eq_true hml
  have b91 : (rd l p == 91) = false := by simpa using h91
  have b40 : (rd l p == 40) = false := by simpa using h40
  have HM := Aside0.mk hm
  clear h hB hA hC hi0 hsz hrl hrd hcl hp0 hp1 h91 h40 hm hm0 hml
  have hu65 := Tryd.underlying65
  go_enter Tryd.func67, Tryd.ntmps67
  go_wp2
  go_quiet (fail)
  go_wp2
  go_quiet (fail)
  go_wp2
  go_ret2
  exact ⟨rfl, by repeat (first | exact HR.out | apply RD.drew | apply RD.drewN | apply RD.set_at), by repeat (first | exact HB.out | apply below_drew | apply pw_below_drewN | refine Below.setCell ?_ HR.out.ge _), by simp [World.setCell]⟩

set_option maxHeartbeats 8000000 in
set_option maxRecDepth 100000 in
theorem name_one {w0 w : World} {base g : Nat} {vl : Value} {l : List Int} {p : Int} {vo : Value} {xs : List S38} {vb : Value} {ys : List S41} (one : Bool)
    (hB : Below base w0 w) (h : RD w base g vl l p vo xs vb ys) (hp0 : 0 ≤ p) (hp1 : p < l.length) (h91 : rd l p ≠ 91) (h40 : rd l p ≠ 40) (hll : l.length ≤ 9223372036854775806) :
    Calls Tryd.prog 67 #[.pointer (some ⟨g, 0, none⟩), .bool true] w fun e w' => e = .returned (.tuple #[.string (runesBytes ((l.take (p + 1).toNat).drop p.toNat)), .bool true]) ∧
      RD w' base g vl l (p + 1) vo xs vb ys ∧ Below base w0 w' ∧ w.heap.size ≤ w'.heap.size := by
  obtain ⟨Al, cl, el, hcl, hrl⟩ := Kd.R_reads h.l
  subst el
  have HR := Aside0.mk h
  have HB := Aside0.mk hB
  have hcz0 : w.cell? ⟨g, 0, none⟩ = some (.slice Al l.length cl) := (blk_cell h.blk 0).trans rfl
  have hcz1 : w.cell? ⟨g, 1, none⟩ = some (.int .i64 p) := (blk_cell h.blk 1).trans rfl
  have hfz1 := blk_frozen h.blk 1
  obtain ⟨i0, hi0, _, hsz, _⟩ := info_parts info21
  obtain ⟨A', hcut, hA, hC⟩ := print_drop_of (P := Tryd.prog) (Value.int .i32) 0 34 21 .i64 Tryd.underlying34 hi0 hsz Al cl l p hp0 (Int.le_of_lt hp1) hcl
  have hrd : Kd.C (Kd.int .i32) w A' (l.drop p.toNat).length (l.drop p.toNat) := Kd.C_of_reads (h1 := fun _ => rfl) (hA w (Kd.reads_of_C (d := (0 : Int)) hrl))
  have hm0 : rd (l.drop p.toNat) 0 = rd l p := by simp [rd, List.getD]
  have hml : 0 < (l.drop p.toNat).length := by simp; omega
  obtain ⟨m, hm⟩ : ∃ m, m = l.drop p.toNat := ⟨_, rfl⟩
  rw [← hm] at hcut hrd hm0 hml hC
  obtain ⟨ad, ead, hx0⟩ := Kd.at_int hrd 0 (by omega) (by omega)
  subst ead
  rw [show ((0 : Int)).toNat = 0 from rfl, Addr.add_zero', hm0] at hx0
  have hlt : (0 < m.length) = True := eq_true hml
  have hz : ((m.length : Int) == 0) = false := beq_eq_false_iff_ne.mpr (by omega)
  have hlt2 : decide (0 < m.length) = true := decide_eq_true hml
  obtain ⟨i1, hi1, _, hsz1, _⟩ := info_parts info21
  obtain ⟨A2, hcut2, hA2, hC2⟩ := print_mid_of (P := Tryd.prog) (Value.int .i32) 0 34 21 .i64 .i64 Tryd.underlying34 hi1 hsz1 Al cl l p (p + 1) hp0 (by omega) (by omega) hcl
  have hrd2 : ∀ n, Kd.C (Kd.int .i32) (w.drewN n) A2 ((l.take (p + 1).toNat).drop p.toNat).length ((l.take (p + 1).toNat).drop p.toNat) := fun n => Kd.C_drewN (Kd.C_of_reads (h1 := fun _ => rfl) (hA2 w (Kd.reads_of_C (d := (0 : Int)) hrl))) n
  obtain ⟨m2, hm2⟩ : ∃ m2, m2 = (l.take (p + 1).toNat).drop p.toNat := ⟨_, rfl⟩
  rw [← hm2] at hcut2 hrd2
  have hcv := fun n => runes_conv (c := cl - p.toNat) (hrd2 n)
  have hw1 : wrap64 (p + 1) = p + 1 := by unfold wrap64; omega
  have hgt : decide ((l.length : Int) < p + 1) = false := decide_eq_false (by omega)
  have HM2 := Aside0.mk hm2
  have hp00 : 0 ≤ p := hp0
  have hpl : p + 1 ≤ 9223372036854775807 := by omega
  have b91 : (rd l p == 91) = false := by simpa using h91
  have b40 : (rd l p == 40) = false := by simpa using h40
  have HM := Aside0.mk hm
  clear h hB hA hC hi0 hsz hrl hrd hrd2 hA2 hC2 hi1 hsz1 hll hcl hp0 hp1 h91 h40 hm hm0 hml hm2
  have hu65 := Tryd.underlying65
  go_enter Tryd.func67, Tryd.ntmps67
  go_wp2
  go_quiet (fail)
  go_wp2
  go_quiet (fail)
  go_wp2
  go_quiet (fail)
  go_wp2
  go_ret2
  rw [← HM2.out]
  exact ⟨rfl, by repeat (first | exact HR.out | apply RD.drew | apply RD.drewN | apply RD.set_at), by repeat (first | exact HB.out | apply below_drew | apply pw_below_drewN | refine Below.setCell ?_ HR.out.ge _), by simp [World.setCell]⟩

set_option maxHeartbeats 8000000 in
set_option maxRecDepth 100000 in
theorem name_two {w0 w : World} {base g : Nat} {vl : Value} {l : List Int} {p : Int} {vo : Value} {xs : List S38} {vb : Value} {ys : List S41} (one : Bool)
    (hB : Below base w0 w) (h : RD w base g vl l p vo xs vb ys) (hp0 : 0 ≤ p) (hp1 : p < l.length) (h40 : rd l p = 40) (h3 : p + 1 + 2 ≤ l.length) (hll : l.length ≤ 9223372036854775806) :
    Calls Tryd.prog 67 #[.pointer (some ⟨g, 0, none⟩), .bool one] w fun e w' => e = .returned (.tuple #[.string (runesBytes ((l.take (p + 1 + 2).toNat).drop (p + 1).toNat)), .bool true]) ∧
      RD w' base g vl l (p + 1 + 2) vo xs vb ys ∧ Below base w0 w' ∧ w.heap.size ≤ w'.heap.size := by
  obtain ⟨Al, cl, el, hcl, hrl⟩ := Kd.R_reads h.l
  subst el
  have HR := Aside0.mk h
  have HB := Aside0.mk hB
  have hcz0 : w.cell? ⟨g, 0, none⟩ = some (.slice Al l.length cl) := (blk_cell h.blk 0).trans rfl
  have hcz1 : w.cell? ⟨g, 1, none⟩ = some (.int .i64 p) := (blk_cell h.blk 1).trans rfl
  have hfz1 := blk_frozen h.blk 1
  obtain ⟨i0, hi0, _, hsz, _⟩ := info_parts info21
  obtain ⟨A', hcut, hA, hC⟩ := print_drop_of (P := Tryd.prog) (Value.int .i32) 0 34 21 .i64 Tryd.underlying34 hi0 hsz Al cl l p hp0 (Int.le_of_lt hp1) hcl
  have hrd : Kd.C (Kd.int .i32) w A' (l.drop p.toNat).length (l.drop p.toNat) := Kd.C_of_reads (h1 := fun _ => rfl) (hA w (Kd.reads_of_C (d := (0 : Int)) hrl))
  have hm0 : rd (l.drop p.toNat) 0 = rd l p := by simp [rd, List.getD]
  have hml : 0 < (l.drop p.toNat).length := by simp; omega
  obtain ⟨m, hm⟩ : ∃ m, m = l.drop p.toNat := ⟨_, rfl⟩
  rw [← hm] at hcut hrd hm0 hml hC
  obtain ⟨ad, ead, hx0⟩ := Kd.at_int hrd 0 (by omega) (by omega)
  subst ead
  rw [show ((0 : Int)).toNat = 0 from rfl, Addr.add_zero', hm0] at hx0
  have hlt : (0 < m.length) = True := eq_true hml
  have hz : ((m.length : Int) == 0) = false := beq_eq_false_iff_ne.mpr (by omega)
  have hlt2 : decide (0 < m.length) = true := decide_eq_true hml
  obtain ⟨i1, hi1, _, hsz1, _⟩ := info_parts info21
  obtain ⟨A2, hcut2, hA2, hC2⟩ := print_mid_of (P := Tryd.prog) (Value.int .i32) 0 34 21 .i64 .i64 Tryd.underlying34 hi1 hsz1 Al cl l (p + 1) (p + 1 + 2) (by omega) (by omega) (by omega) hcl
  have hrd2 : ∀ n n2, Kd.C (Kd.int .i32) (((w.drewN n).setCell ⟨g, 1, none⟩ (.int .i64 (p + 1))).drewN n2) A2 ((l.take (p + 1 + 2).toNat).drop (p + 1).toNat).length ((l.take (p + 1 + 2).toNat).drop (p + 1).toNat) := fun n n2 => Kd.C_of_reads (h1 := fun _ => rfl) (hA2 _ (Kd.reads_of_C (d := (0 : Int)) (Kd.R_reads' (((HR.out.drewN n).set_at (p + 1)).drewN n2).l).2.2))
  obtain ⟨m2, hm2⟩ : ∃ m2, m2 = (l.take (p + 1 + 2).toNat).drop (p + 1).toNat := ⟨_, rfl⟩
  rw [← hm2] at hcut2 hrd2
  have hcv := fun n n2 => runes_conv (c := cl - (p + 1).toNat) (hrd2 n n2)
  have hw1 : wrap64 (p + 1) = p + 1 := by unfold wrap64; omega
  have hw2 : wrap64 (p + 1 + 2) = p + 1 + 2 := by unfold wrap64; omega
  have hgt : decide ((l.length : Int) < p + 1 + 2) = false := decide_eq_false (by omega)
  have HM2 := Aside0.mk hm2
  have hp00 : 0 ≤ p := hp0
  have hpl : p + 1 + 2 ≤ 9223372036854775807 := by omega
  have b91 : (rd l p == 91) = false := by simp [h40]
  have b40 : (rd l p == 40) = true := by simpa using h40
  have HM := Aside0.mk hm
  clear h hB hA hC hi0 hsz hrl hrd hrd2 hA2 hC2 hi1 hsz1 hll hcl hp0 hp1 h40 hm hm0 hml hm2 h3
  have hu65 := Tryd.underlying65
  cases one
  all_goals
    go_enter Tryd.func67, Tryd.ntmps67
    go_wp2
    go_quiet (fail)
    go_wp2
    go_quiet (fail)
    go_wp2
    go_quiet (fail)
    go_wp2
    go_ret2
    rw [← HM2.out]
    exact ⟨rfl, by repeat (first | exact HR.out | apply RD.drew | apply RD.drewN | apply RD.set_at), by repeat (first | exact HB.out | apply below_drew | apply pw_below_drewN | refine Below.setCell ?_ HR.out.ge _), by simp [World.setCell]⟩
set_option maxHeartbeats 8000000 in
set_option maxRecDepth 100000 in
theorem name_two_ends {w0 w : World} {base g : Nat} {vl : Value} {l : List Int} {p : Int} {vo : Value} {xs : List S38} {vb : Value} {ys : List S41} (one : Bool)
    (hB : Below base w0 w) (h : RD w base g vl l p vo xs vb ys) (hp0 : 0 ≤ p) (hp1 : p < l.length) (h40 : rd l p = 40) (h3 : l.length < p + 1 + 2) (hll : l.length ≤ 9223372036854775800) :
    Calls Tryd.prog 67 #[.pointer (some ⟨g, 0, none⟩), .bool one] w fun e w' => e = .returned (.tuple #[.string ⟨#[]⟩, .bool false]) ∧
      RD w' base g vl l (p + 1) vo xs vb ys ∧ Below base w0 w' ∧ w.heap.size ≤ w'.heap.size := by
  obtain ⟨Al, cl, el, hcl, hrl⟩ := Kd.R_reads h.l
  subst el
  have HR := Aside0.mk h
  have HB := Aside0.mk hB
  have hcz0 : w.cell? ⟨g, 0, none⟩ = some (.slice Al l.length cl) := (blk_cell h.blk 0).trans rfl
  have hcz1 : w.cell? ⟨g, 1, none⟩ = some (.int .i64 p) := (blk_cell h.blk 1).trans rfl
  have hfz1 := blk_frozen h.blk 1
  obtain ⟨i0, hi0, _, hsz, _⟩ := info_parts info21
  obtain ⟨A', hcut, hA, hC⟩ := print_drop_of (P := Tryd.prog) (Value.int .i32) 0 34 21 .i64 Tryd.underlying34 hi0 hsz Al cl l p hp0 (Int.le_of_lt hp1) hcl
  have hrd : Kd.C (Kd.int .i32) w A' (l.drop p.toNat).length (l.drop p.toNat) := Kd.C_of_reads (h1 := fun _ => rfl) (hA w (Kd.reads_of_C (d := (0 : Int)) hrl))
  have hm0 : rd (l.drop p.toNat) 0 = rd l p := by simp [rd, List.getD]
  have hml : 0 < (l.drop p.toNat).length := by simp; omega
  obtain ⟨m, hm⟩ : ∃ m, m = l.drop p.toNat := ⟨_, rfl⟩
  rw [← hm] at hcut hrd hm0 hml hC
  obtain ⟨ad, ead, hx0⟩ := Kd.at_int hrd 0 (by omega) (by omega)
  subst ead
  rw [show ((0 : Int)).toNat = 0 from rfl, Addr.add_zero', hm0] at hx0
  have hlt : (0 < m.length) = True := eq_true hml
  have hz : ((m.length : Int) == 0) = false := beq_eq_false_iff_ne.mpr (by omega)
  have hlt2 : decide (0 < m.length) = true := decide_eq_true hml
  have hw1 : wrap64 (p + 1) = p + 1 := by unfold wrap64; omega
  have hgt : decide ((l.length : Int) < p + 1 + 2) = true := decide_eq_true (by omega)
  have hp00 : 0 ≤ p := hp0
  have hpl : p + 1 + 2 ≤ 9223372036854775807 := by omega
  have b91 : (rd l p == 91) = false := by simp [h40]
  have b40 : (rd l p == 40) = true := by simpa using h40
  have HM := Aside0.mk hm
  clear h hB hA hC hi0 hsz hrl hrd hll hcl hp0 hp1 h40 hm hm0 hml h3
  have hu65 := Tryd.underlying65
  cases one
  all_goals
    go_enter Tryd.func67, Tryd.ntmps67
    go_wp2
    go_quiet (fail)
    go_wp2
    go_quiet (fail)
    go_wp2
    go_ret2
    exact ⟨rfl, by repeat (first | exact HR.out | apply RD.drew | apply RD.drewN | apply RD.set_at), by repeat (first | exact HB.out | apply below_drew | apply pw_below_drewN | refine Below.setCell ?_ HR.out.ge _), by simp [World.setCell]⟩

set_option maxHeartbeats 8000000 in
set_option maxRecDepth 100000 in
theorem name_open {w0 w : World} {base g : Nat} {vl : Value} {l : List Int} {p : Int} {vo : Value} {xs : List S38} {vb : Value} {ys : List S41} (k : Nat) (one : Bool)
    (hB : Below base w0 w) (h : RD w base g vl l p vo xs vb ys) (hp0 : 0 ≤ p) (hp1 : p < l.length) (h91 : rd l p = 91) (j : Int) (hi : slices_Index_rune_rune.f k (l.drop p.toNat) 93 = some j) (he : j < 0) (hll : l.length ≤ 9223372036854775806) :
    Calls Tryd.prog 67 #[.pointer (some ⟨g, 0, none⟩), .bool one] w fun e w' => e = .returned (.tuple #[.string ⟨#[]⟩, .bool false]) ∧
      RD w' base g vl l p vo xs vb ys ∧ Below base w0 w' ∧ w.heap.size ≤ w'.heap.size := by
  obtain ⟨Al, cl, el, hcl, hrl⟩ := Kd.R_reads h.l
  subst el
  have HR := Aside0.mk h
  have HB := Aside0.mk hB
  have hcz0 : w.cell? ⟨g, 0, none⟩ = some (.slice Al l.length cl) := (blk_cell h.blk 0).trans rfl
  have hcz1 : w.cell? ⟨g, 1, none⟩ = some (.int .i64 p) := (blk_cell h.blk 1).trans rfl
  have hfz1 := blk_frozen h.blk 1
  obtain ⟨i0, hi0, _, hsz, _⟩ := info_parts info21
  obtain ⟨A', hcut, hA, hC⟩ := print_drop_of (P := Tryd.prog) (Value.int .i32) 0 34 21 .i64 Tryd.underlying34 hi0 hsz Al cl l p hp0 (Int.le_of_lt hp1) hcl
  have hrd : Kd.C (Kd.int .i32) w A' (l.drop p.toNat).length (l.drop p.toNat) := Kd.C_of_reads (h1 := fun _ => rfl) (hA w (Kd.reads_of_C (d := (0 : Int)) hrl))
  have hm0 : rd (l.drop p.toNat) 0 = rd l p := by simp [rd, List.getD]
  have hml : 0 < (l.drop p.toNat).length := by simp; omega
  obtain ⟨m, hm⟩ : ∃ m, m = l.drop p.toNat := ⟨_, rfl⟩
  rw [← hm] at hcut hrd hm0 hml hC hi
  obtain ⟨ad, ead, hx0⟩ := Kd.at_int hrd 0 (by omega) (by omega)
  subst ead
  rw [show ((0 : Int)).toNat = 0 from rfl, Addr.add_zero', hm0] at hx0
  have hlt : (0 < m.length) = True := eq_true hml
  have hz : ((m.length : Int) == 0) = false := beq_eq_false_iff_ne.mpr (by omega)
  have hlt2 : decide (0 < m.length) = true := decide_eq_true hml
  have HI := Aside0.mk hi
  have HRD := Aside0.mk hrd
  have HC := Aside0.mk hC
  have b91 : (rd l p == 91) = true := by simpa using h91
  have he0 : decide (j < 0) = true := decide_eq_true (by omega)
  have HM := Aside0.mk hm
  clear h hB hA hC hi0 hsz hrl hrd hll hcl hp0 hp1 h91 hm hm0 hml hi he
  have hu65 := Tryd.underlying65
  go_enter Tryd.func67, Tryd.ntmps67
  go_wp2
  go_quiet (fail)
  go_wp2_with (go_at_call 70; (with_reducible refine (slices_Index_rune_rune.calls k _ _ m 93 j _ ?side1 ?side2 HI.out).mono ?_); (case side1 => repeat (first | exact HRD.out | (with_reducible refine Kd.C_drewN ?_ _) | (with_reducible refine Kd.C_drew ?_))); (case side2 => exact HC.out); rintro e w' ⟨rfl, ⟨nd, rfl⟩⟩)
  go_ret2
  exact ⟨rfl, by repeat (first | exact HR.out | apply RD.drew | apply RD.drewN | apply RD.set_at), by repeat (first | exact HB.out | apply below_drew | apply pw_below_drewN | refine Below.setCell ?_ HR.out.ge _), by simp [World.setCell]⟩

set_option maxHeartbeats 8000000 in
set_option maxRecDepth 100000 in
theorem name_in {w0 w : World} {base g : Nat} {vl : Value} {l : List Int} {p : Int} {vo : Value} {xs : List S38} {vb : Value} {ys : List S41} (k : Nat) (one : Bool)
    (hB : Below base w0 w) (h : RD w base g vl l p vo xs vb ys) (hp0 : 0 ≤ p) (hp1 : p < l.length) (h91 : rd l p = 91) (j : Int) (hi : slices_Index_rune_rune.f k (l.drop p.toNat) 93 = some j) (he : 1 ≤ j) (he2 : j < (l.drop p.toNat).length) (hll : l.length ≤ 9223372036854775806) :
    Calls Tryd.prog 67 #[.pointer (some ⟨g, 0, none⟩), .bool one] w fun e w' => e = .returned (.tuple #[.string (runesBytes (((l.drop p.toNat).take j.toNat).drop 1)), .bool true]) ∧
      RD w' base g vl l (p + (j + 1)) vo xs vb ys ∧ Below base w0 w' ∧ w.heap.size ≤ w'.heap.size := by
  obtain ⟨Al, cl, el, hcl, hrl⟩ := Kd.R_reads h.l
  subst el
  have HR := Aside0.mk h
  have HB := Aside0.mk hB
  have hcz0 : w.cell? ⟨g, 0, none⟩ = some (.slice Al l.length cl) := (blk_cell h.blk 0).trans rfl
  have hcz1 : w.cell? ⟨g, 1, none⟩ = some (.int .i64 p) := (blk_cell h.blk 1).trans rfl
  have hfz1 := blk_frozen h.blk 1
  obtain ⟨i0, hi0, _, hsz, _⟩ := info_parts info21
  obtain ⟨A', hcut, hA, hC⟩ := print_drop_of (P := Tryd.prog) (Value.int .i32) 0 34 21 .i64 Tryd.underlying34 hi0 hsz Al cl l p hp0 (Int.le_of_lt hp1) hcl
  have hrd : Kd.C (Kd.int .i32) w A' (l.drop p.toNat).length (l.drop p.toNat) := Kd.C_of_reads (h1 := fun _ => rfl) (hA w (Kd.reads_of_C (d := (0 : Int)) hrl))
  have hm0 : rd (l.drop p.toNat) 0 = rd l p := by simp [rd, List.getD]
  have hml : 0 < (l.drop p.toNat).length := by simp; omega
  obtain ⟨m, hm⟩ : ∃ m, m = l.drop p.toNat := ⟨_, rfl⟩
  rw [← hm] at hcut hrd hm0 hml hC hi he2
  obtain ⟨ad, ead, hx0⟩ := Kd.at_int hrd 0 (by omega) (by omega)
  subst ead
  rw [show ((0 : Int)).toNat = 0 from rfl, Addr.add_zero', hm0] at hx0
  have hlt : (0 < m.length) = True := eq_true hml
  have hz : ((m.length : Int) == 0) = false := beq_eq_false_iff_ne.mpr (by omega)
  have hlt2 : decide (0 < m.length) = true := decide_eq_true hml
  have hml2 : (m.length : Int) ≤ l.length - p := by rw [hm]; simp; omega
  obtain ⟨i1, hi1, _, hsz1, _⟩ := info_parts info21
  obtain ⟨A2, hcut2, hA2, hC2⟩ := print_mid_of (P := Tryd.prog) (Value.int .i32) 0 34 21 .i64 .i64 Tryd.underlying34 hi1 hsz1 (some ad) (cl - p.toNat) m 1 j (by omega) he (by omega) hC
  have hrd2 : ∀ n, Kd.C (Kd.int .i32) ((w.drewN n).setCell ⟨g, 1, none⟩ (.int .i64 (p + (j + 1)))) A2 ((m.take j.toNat).drop (1 : Int).toNat).length ((m.take j.toNat).drop (1 : Int).toNat) := fun n => Kd.C_of_reads (h1 := fun _ => rfl) (hA2 _ (Kd.reads_of_C (d := (0 : Int)) (by rw [hm]; exact Kd.C_of_reads (h1 := fun _ => rfl) (hA _ (Kd.reads_of_C (d := (0 : Int)) (Kd.R_reads' ((HR.out.drewN n).set_at (p + (j + 1))).l).2.2)))))
  obtain ⟨m2, hm2⟩ : ∃ m2, m2 = (m.take j.toNat).drop (1 : Int).toNat := ⟨_, rfl⟩
  rw [← hm2] at hcut2 hrd2
  have hcv := fun n => runes_conv (c := cl - p.toNat - 1) (hrd2 n)
  rw [show (m.take j.toNat).drop (1 : Int).toNat = (m.take j.toNat).drop 1 from rfl] at hm2
  have HM2 := Aside0.mk hm2
  have hp00 : 0 ≤ p := hp0
  have he00 : 0 ≤ j := by omega
  have hpl : p + (j + 1) ≤ 9223372036854775807 := by omega
  have HI := Aside0.mk hi
  have HRD := Aside0.mk hrd
  have HC := Aside0.mk hC
  have b91 : (rd l p == 91) = true := by simpa using h91
  have he0 : decide (j < 0) = false := decide_eq_false (by omega)
  have HM := Aside0.mk hm
  clear h hB hA hC hi0 hsz hrl hrd hll hcl hp0 hp1 h91 hm hm0 hml hi hrd2 hA2 hC2 hi1 hsz1 hm2 he he2 hml2
  have hu65 := Tryd.underlying65
  go_enter Tryd.func67, Tryd.ntmps67
  go_wp2
  go_quiet (fail)
  go_wp2_with (go_at_call 70; (with_reducible refine (slices_Index_rune_rune.calls k _ _ m 93 j _ ?side1 ?side2 HI.out).mono ?_); (case side1 => repeat (first | exact HRD.out | (with_reducible refine Kd.C_drewN ?_ _) | (with_reducible refine Kd.C_drew ?_))); (case side2 => exact HC.out); rintro e w' ⟨rfl, ⟨nd, rfl⟩⟩)
  trace_state
  go_ret2
  rw [← HM.out, ← HM2.out]
  exact ⟨rfl, by repeat (first | exact HR.out | apply RD.drew | apply RD.drewN | apply RD.set_at), by repeat (first | exact HB.out | apply below_drew | apply pw_below_drewN | refine Below.setCell ?_ HR.out.ge _), by simp [World.setCell]⟩

theorem name_calls {w0 w : World} {base g : Nat} {vl : Value} {l : List Int} {p : Int} {vo : Value} {xs : List S38} {vb : Value} {ys : List S41} (k : Nat) (one : Bool) (s : ByteArray) (ok : Bool) (q : Int)
    (hB : Below base w0 w) (h : RD w base g vl l p vo xs vb ys) (hp0 : 0 ≤ p) (hp1 : p ≤ l.length) (hll : l.length ≤ 9223372036854775800) (hf : rd_name k l p one = some (s, ok, q)) :
    Calls Tryd.prog 67 #[.pointer (some ⟨g, 0, none⟩), .bool one] w fun e w' => e = .returned (.tuple #[.string s, .bool ok]) ∧
      RD w' base g vl l q vo xs vb ys ∧ Below base w0 w' ∧ w.heap.size ≤ w'.heap.size := by
  unfold rd_name at hf
  by_cases h0 : (l.length : Int) ≤ p
  · rw [if_pos h0] at hf
    simp only [Option.some.injEq, Prod.mk.injEq] at hf
    obtain ⟨rfl, rfl, rfl⟩ := hf
    exact name_empty one hB h hp0 hp1 h0
  rw [if_neg h0] at hf
  have hp2 : p < l.length := by omega
  by_cases h91 : rd l p = 91
  · rw [if_pos h91] at hf
    obtain ⟨j, hj, hf⟩ := Option.bind_eq_some_iff.mp hf
    by_cases hj0 : j < 0
    · rw [if_pos hj0] at hf
      simp only [Option.some.injEq, Prod.mk.injEq] at hf
      obtain ⟨rfl, rfl, rfl⟩ := hf
      exact name_open k one hB h hp0 hp2 h91 j hj hj0 (by omega)
    · rw [if_neg hj0] at hf
      by_cases hj1 : 1 ≤ j ∧ j < (l.drop p.toNat).length
      · rw [if_pos hj1] at hf
        simp only [Option.some.injEq, Prod.mk.injEq] at hf
        obtain ⟨rfl, rfl, rfl⟩ := hf
        exact name_in k one hB h hp0 hp2 h91 j hj hj1.1 hj1.2 (by omega)
      · rw [if_neg hj1] at hf
        exact absurd hf (by simp)
  rw [if_neg h91] at hf
  by_cases h40 : rd l p = 40
  · rw [if_pos h40] at hf
    by_cases h3 : p + 1 + 2 > l.length
    · rw [if_pos h3] at hf
      simp only [Option.some.injEq, Prod.mk.injEq] at hf
      obtain ⟨rfl, rfl, rfl⟩ := hf
      exact name_two_ends one hB h hp0 hp2 h40 h3 hll
    · rw [if_neg h3] at hf
      simp only [Option.some.injEq, Prod.mk.injEq] at hf
      obtain ⟨rfl, rfl, rfl⟩ := hf
      exact name_two one hB h hp0 hp2 h40 (by omega) (by omega)
  rw [if_neg h40] at hf
  cases one
  · simp only [Bool.false_eq_true, if_false, Option.some.injEq, Prod.mk.injEq] at hf
    obtain ⟨rfl, rfl, rfl⟩ := hf
    exact name_none false hB h hp0 hp2 h91 h40
  · simp only [if_true, Option.some.injEq, Prod.mk.injEq] at hf
    obtain ⟨rfl, rfl, rfl⟩ := hf
    exact name_one true hB h hp0 hp2 h91 h40 (by omega)


end Go.Proofs.YtdogljnddalgdaaDoor.A4
