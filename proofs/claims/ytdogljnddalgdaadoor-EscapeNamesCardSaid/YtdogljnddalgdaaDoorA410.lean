-- printed by a program of this session's (wip/tools) out of the translation; Lean checks it
import Derived.Test.YtdogljnddalgdaaDoorA40
import Derived.Test.YtdogljnddalgdaaDoorA45
import Derived.Test.YtdogljnddalgdaaDoorA47
import Derived.Test.YtdogljnddalgdaaDoorA49
namespace Go.Proofs.YtdogljnddalgdaaDoor.A4
open Go.RowKit Go.Proofs.YtdogljnddalgdaaDoorW.PrintWords Go.Proofs.YtdogljnddalgdaaDoorW.PrintLast Go.Proofs.YtdogljnddalgdaaDoorW.PrintMore
attribute [local go_sem] max2_int min2_int max_two min_two max_three min_three max_four min_four   -- for this text's walks alone
set_option linter.unusedVariables false
set_option linter.unusedSimpArgs false

/-! ### escape_reader_named: function 58 -/
/-- What 'named' reads: whether it goes on, where it stands, what was said and told. -/
def rd_named (k : Nat) (l : List Int) (p : Int) (xs : List S38) (ys : List S41) (font : Bool) (from_ : Int) : Option (Bool × Int × List S38 × List S41) :=
  (rd_name k l p font).bind fun t =>
    if t.2.1 = true then (if font = true then escape_Font.f t.1 else escape_Name.f k t.1).bind fun u => if u.2 = true then some (true, t.2.2, xs ++ [⟨if font = true then 3 else 1, u.1⟩], ys) else some (true, t.2.2, xs, ys ++ [⟨2, 0, wrap64 (from_ + 1)⟩])
    else some (false, t.2.2, xs, ys ++ [⟨1, 0, wrap64 (from_ + 1)⟩])

set_option maxHeartbeats 8000000 in
set_option maxRecDepth 100000 in
theorem named_calls {w0 w : World} {g : Nat} {vl : Value} {l : List Int} {p : Int} {vo : Value} {xs : List S38} {vb : Value} {ys : List S41} (k : Nat) (font : Bool) (from_ : Int) (go : Bool) (q : Int) (xs' : List S38) (ys' : List S41) (hG : GL w0)
    (hB : Below w0.heap.size w0 w) (h : RD w w0.heap.size g vl l p vo xs vb ys) (hp0 : 0 ≤ p) (hp1 : p ≤ l.length) (hll : l.length ≤ 9223372036854775800) (hx : xs.length < 8796093022208) (hy : ys.length < 5864062014805)
    (hf : rd_named k l p xs ys font from_ = some (go, q, xs', ys')) :
    Calls Tryd.prog 58 #[.pointer (some ⟨g, 0, none⟩), .bool font, .int .i64 from_] w fun e w' => e = .returned (.bool go) ∧
      ∃ vo' vb', RD w' w0.heap.size g vl l q vo' xs' vb' ys' ∧ Below w0.heap.size w0 w' := by
  unfold rd_named at hf
  obtain ⟨⟨s, ok, q1⟩, hs, hf⟩ := Option.bind_eq_some_iff.mp hf
  have HS := Aside0.mk hs
  have HR := Aside0.mk h
  have HB := Aside0.mk hB
  have HG := Aside0.mk hG
  have HX := Aside0.mk hx
  have HY := Aside0.mk hy
  have HP0 := Aside0.mk hp0
  have HP1 := Aside0.mk hp1
  have HLL := Aside0.mk hll
  clear hs h hB hG hx hy hp0 hp1 hll
  have hu65 := Tryd.underlying65
  cases ok with
  | false =>
    simp only [Bool.false_eq_true, if_false, Option.some.injEq, Prod.mk.injEq] at hf
    obtain ⟨rfl, rfl, rfl, rfl⟩ := hf
    go_enter Tryd.func58, Tryd.ntmps58
    go_wp2_with (first | (go_at_call 67; refine (name_calls k _ _ _ _ HB.out HR.out HP0.out HP1.out HLL.out HS.out).mono ?_; rintro e w1 ⟨rfl, hr1, hb1, hz1⟩; have HR1 := Aside0.mk hr1; have HB1 := Aside0.mk hb1; have HZ1 := Aside0.mk (Nat.le_trans HB.out.size hz1); clear hr1 hb1 hz1) | (go_at_call 43; refine (tell_calls _ _ HB1.out HZ1.out HR1.out HY.out).mono ?_; rintro e w2 ⟨rfl, vb', hr2, hb2, _⟩; have HR2 := Aside0.mk hr2; have HB2 := Aside0.mk hb2; clear hr2 hb2))
    go_ret
    exact ⟨rfl, _, _, HR2.out, HB2.out⟩
  | true =>
    simp only [if_true] at hf
    obtain ⟨⟨x, has⟩, hu, hf⟩ := Option.bind_eq_some_iff.mp hf
    have HU := Aside0.mk hu
    clear hu
    cases font <;> cases has <;> simp only [Bool.false_eq_true, if_false, if_true, Option.some.injEq, Prod.mk.injEq] at hf HU <;> obtain ⟨rfl, rfl, rfl, rfl⟩ := hf
    all_goals
      go_enter Tryd.func58, Tryd.ntmps58
      go_wp2_with (first | (go_at_call 67; refine (name_calls k _ _ _ _ HB.out HR.out HP0.out HP1.out HLL.out HS.out).mono ?_; rintro e w1 ⟨rfl, hr1, hb1, hz1⟩; have HR1 := Aside0.mk hr1; have HB1 := Aside0.mk hb1; have HZ1 := Aside0.mk (Nat.le_trans HB.out.size hz1); clear hr1 hb1 hz1) | (go_at_call 19; refine (escape_Name.calls k _ _ _ _ (GL.below HG.out HB1.out) HU.out).mono ?_; rintro e w2 ⟨rfl, ⟨nd, rfl⟩⟩) | (go_at_call 20; refine (escape_Font.calls _ _ _ _ (GL.below HG.out HB1.out) HU.out).mono ?_; rintro e w2 ⟨rfl, ⟨nd, rfl⟩⟩) | (go_at_call 40; refine (say_calls _ _ (pw_below_drewN HB1.out _) HZ1.out (HR1.out.drewN _) HX.out).mono ?_; rintro e w3 ⟨rfl, vb', hr2, hb2, _⟩; have HR2 := Aside0.mk hr2; have HB2 := Aside0.mk hb2; clear hr2 hb2) | (go_at_call 43; refine (tell_calls _ _ (pw_below_drewN HB1.out _) HZ1.out (HR1.out.drewN _) HY.out).mono ?_; rintro e w3 ⟨rfl, vb', hr2, hb2, _⟩; have HR2 := Aside0.mk hr2; have HB2 := Aside0.mk hb2; clear hr2 hb2))
      go_ret
      exact ⟨rfl, _, _, HR2.out, HB2.out⟩


/-! ### escape_reader_escape: function 41 -/
/-- What 'escape' reads behind its sign: whether it goes on, where it stands, what was said and told. -/
def rd_escape (k : Nat) (l : List Int) (p : Int) (xs : List S38) (ys : List S41) (from_ : Int) : Option (Bool × Int × List S38 × List S41) :=
  if p = l.length then some (false, p, xs, ys ++ [⟨1, 0, wrap64 (from_ + 1)⟩])
  else if rd l p = 92 ∨ rd l p = 101 then some (true, p + 1, xs ++ [⟨1, 92⟩], ys)
  else if rd l p = 45 ∨ rd l p = 46 then some (true, p + 1, xs ++ [⟨1, rd l p⟩], ys)
  else if rd l p = 39 then some (true, p + 1, xs ++ [⟨1, 180⟩], ys)
  else if rd l p = 96 then some (true, p + 1, xs ++ [⟨1, rd l p⟩], ys)
  else if rd l p = 32 ∨ rd l p = 126 ∨ rd l p = 48 then some (true, p + 1, xs ++ [⟨1, 160⟩], ys)
  else if rd l p = 38 ∨ rd l p = 37 ∨ rd l p = 47 ∨ rd l p = 44 ∨ rd l p = 58 then some (true, p + 1, xs, ys)
  else if rd l p = 34 then some (false, p + 1, xs, ys)
  else if rd l p = 40 ∨ rd l p = 91 then rd_named k l p xs ys false from_
  else if rd l p = 102 then rd_named k l (p + 1) xs ys true from_
  else some (true, p + 1, xs, ys ++ [⟨1, 0, wrap64 (from_ + 1)⟩])

set_option maxHeartbeats 8000000 in
set_option maxRecDepth 100000 in
theorem escape_calls {w0 w : World} {g : Nat} {vl : Value} {l : List Int} {p : Int} {vo : Value} {xs : List S38} {vb : Value} {ys : List S41} (k : Nat) (from_ : Int) (go : Bool) (q : Int) (xs' : List S38) (ys' : List S41) (hG : GL w0)
    (hB : Below w0.heap.size w0 w) (h : RD w w0.heap.size g vl l p vo xs vb ys) (hp0 : 0 ≤ p) (hp1 : p ≤ l.length) (hll : l.length ≤ 9223372036854775800) (hx : xs.length < 8796093022208) (hy : ys.length < 5864062014805)
    (hf : rd_escape k l p xs ys from_ = some (go, q, xs', ys')) :
    Calls Tryd.prog 41 #[.pointer (some ⟨g, 0, none⟩), .int .i64 from_] w fun e w' => e = .returned (.bool go) ∧
      ∃ vo' vb', RD w' w0.heap.size g vl l q vo' xs' vb' ys' ∧ Below w0.heap.size w0 w' := by
  obtain ⟨Al, cl, el, hcl, hrl⟩ := Kd.R_reads h.l
  subst el
  have HR := Aside0.mk h
  have HB := Aside0.mk hB
  have HG := Aside0.mk hG
  have HX := Aside0.mk hx
  have HY := Aside0.mk hy
  have HP0 := Aside0.mk hp0
  have HP1 := Aside0.mk hp1
  have HLL := Aside0.mk hll
  have hcz0 : w.cell? ⟨g, 0, none⟩ = some (.slice Al l.length cl) := (blk_cell h.blk 0).trans rfl
  have hcz1 : w.cell? ⟨g, 1, none⟩ = some (.int .i64 p) := (blk_cell h.blk 1).trans rfl
  have hfz1 := blk_frozen h.blk 1
  have HSZ := Aside0.mk hB.size
  have hu65 := Tryd.underlying65
  unfold rd_escape at hf
  by_cases h0 : p = l.length
  · rw [if_pos h0] at hf
    simp only [Option.some.injEq, Prod.mk.injEq] at hf
    obtain ⟨rfl, rfl, rfl, rfl⟩ := hf
    have b0 : (p == (l.length : Int)) = true := by simpa using h0
    clear h hB hG hx hy hp0 hp1 hll h0 hcl hrl
    go_enter Tryd.func41, Tryd.ntmps41
    go_wp2
    go_quiet (fail)
    go_wp2_with (go_at_call 43; refine (tell_calls _ _ (pw_below_drewN HB.out _) HSZ.out (HR.out.drewN _) HY.out).mono ?_; rintro e w3 ⟨rfl, vb', hr2, hb2, _⟩; have HR2 := Aside0.mk hr2; have HB2 := Aside0.mk hb2; clear hr2 hb2)
    go_ret
    exact ⟨rfl, _, _, HR2.out, HB2.out⟩
  rw [if_neg h0] at hf
  have hlt : p < l.length := by omega
  have b0 : (p == (l.length : Int)) = false := by simpa using h0
  obtain ⟨ad, ead, hx0⟩ := Kd.at_int hrl p hp0 hlt
  subst ead
  have hq1 : 0 ≤ p := hp0
  have hq2 : decide (p < (l.length : Int)) = true := decide_eq_true hlt
  have hq3 : (p < (l.length : Int)) = True := eq_true hlt
  have hq4 : p + 1 ≤ 9223372036854775807 := by omega
  generalize hcc : rd l p = c at *
  replace hcc := Aside0.mk hcc
  by_cases d92 : c = 92 ∨ c = 101
  · rw [if_pos d92] at hf
    rcases d92 with h_ | h_
    all_goals
      subst h_
      simp only [Option.some.injEq, Prod.mk.injEq] at hf
      obtain ⟨rfl, rfl, rfl, rfl⟩ := hf
      clear h hB hG hx hy hp0 hp1 hll h0 hcl hrl hlt
      go_enter Tryd.func41, Tryd.ntmps41
      go_wp2
      go_quiet (fail)
      go_wp2
      go_quiet (fail)
      go_wp2_with (go_at_call 40; refine (say_calls (w0 := w0) (base := w0.heap.size) _ _ (by repeat (first | exact HB.out | apply below_drew | apply pw_below_drewN | refine Below.setCell ?_ HR.out.ge _)) (by simpa [World.setCell] using HSZ.out) (by repeat (first | exact HR.out | apply RD.drew | apply RD.drewN | apply RD.set_at)) HX.out).mono ?_; rintro e w3 ⟨rfl, vb', hr2, hb2, _⟩; have HR2 := Aside0.mk hr2; have HB2 := Aside0.mk hb2; clear hr2 hb2)
      go_ret
      exact ⟨rfl, _, _, HR2.out, HB2.out⟩
  rw [if_neg d92] at hf
  by_cases d45 : c = 45 ∨ c = 46
  · rw [if_pos d45] at hf
    rcases d45 with h_ | h_
    all_goals
      subst h_
      simp only [Option.some.injEq, Prod.mk.injEq] at hf
      obtain ⟨rfl, rfl, rfl, rfl⟩ := hf
      clear h hB hG hx hy hp0 hp1 hll h0 hcl hrl hlt
      go_enter Tryd.func41, Tryd.ntmps41
      go_wp2
      go_quiet (fail)
      go_wp2
      go_quiet (fail)
      go_wp2_with (go_at_call 40; refine (say_calls (w0 := w0) (base := w0.heap.size) _ _ (by repeat (first | exact HB.out | apply below_drew | apply pw_below_drewN | refine Below.setCell ?_ HR.out.ge _)) (by simpa [World.setCell] using HSZ.out) (by repeat (first | exact HR.out | apply RD.drew | apply RD.drewN | apply RD.set_at)) HX.out).mono ?_; rintro e w3 ⟨rfl, vb', hr2, hb2, _⟩; have HR2 := Aside0.mk hr2; have HB2 := Aside0.mk hb2; clear hr2 hb2)
      go_ret
      exact ⟨rfl, _, _, HR2.out, HB2.out⟩
  rw [if_neg d45] at hf
  by_cases d39 : c = 39
  · rw [if_pos d39] at hf
    have h_ := d39
    all_goals
      subst h_
      simp only [Option.some.injEq, Prod.mk.injEq] at hf
      obtain ⟨rfl, rfl, rfl, rfl⟩ := hf
      clear h hB hG hx hy hp0 hp1 hll h0 hcl hrl hlt
      go_enter Tryd.func41, Tryd.ntmps41
      go_wp2
      go_quiet (fail)
      go_wp2
      go_quiet (fail)
      go_wp2_with (go_at_call 40; refine (say_calls (w0 := w0) (base := w0.heap.size) _ _ (by repeat (first | exact HB.out | apply below_drew | apply pw_below_drewN | refine Below.setCell ?_ HR.out.ge _)) (by simpa [World.setCell] using HSZ.out) (by repeat (first | exact HR.out | apply RD.drew | apply RD.drewN | apply RD.set_at)) HX.out).mono ?_; rintro e w3 ⟨rfl, vb', hr2, hb2, _⟩; have HR2 := Aside0.mk hr2; have HB2 := Aside0.mk hb2; clear hr2 hb2)
      go_ret
      exact ⟨rfl, _, _, HR2.out, HB2.out⟩
  rw [if_neg d39] at hf
  by_cases d96 : c = 96
  · rw [if_pos d96] at hf
    have h_ := d96
    all_goals
      subst h_
      simp only [Option.some.injEq, Prod.mk.injEq] at hf
      obtain ⟨rfl, rfl, rfl, rfl⟩ := hf
      clear h hB hG hx hy hp0 hp1 hll h0 hcl hrl hlt
      go_enter Tryd.func41, Tryd.ntmps41
      go_wp2
      go_quiet (fail)
      go_wp2
      go_quiet (fail)
      go_wp2_with (go_at_call 40; refine (say_calls (w0 := w0) (base := w0.heap.size) _ _ (by repeat (first | exact HB.out | apply below_drew | apply pw_below_drewN | refine Below.setCell ?_ HR.out.ge _)) (by simpa [World.setCell] using HSZ.out) (by repeat (first | exact HR.out | apply RD.drew | apply RD.drewN | apply RD.set_at)) HX.out).mono ?_; rintro e w3 ⟨rfl, vb', hr2, hb2, _⟩; have HR2 := Aside0.mk hr2; have HB2 := Aside0.mk hb2; clear hr2 hb2)
      go_ret
      exact ⟨rfl, _, _, HR2.out, HB2.out⟩
  rw [if_neg d96] at hf
  by_cases d32 : c = 32 ∨ c = 126 ∨ c = 48
  · rw [if_pos d32] at hf
    rcases d32 with h_ | h_ | h_
    all_goals
      subst h_
      simp only [Option.some.injEq, Prod.mk.injEq] at hf
      obtain ⟨rfl, rfl, rfl, rfl⟩ := hf
      clear h hB hG hx hy hp0 hp1 hll h0 hcl hrl hlt
      go_enter Tryd.func41, Tryd.ntmps41
      go_wp2
      go_quiet (fail)
      go_wp2
      go_quiet (fail)
      go_wp2_with (go_at_call 40; refine (say_calls (w0 := w0) (base := w0.heap.size) _ _ (by repeat (first | exact HB.out | apply below_drew | apply pw_below_drewN | refine Below.setCell ?_ HR.out.ge _)) (by simpa [World.setCell] using HSZ.out) (by repeat (first | exact HR.out | apply RD.drew | apply RD.drewN | apply RD.set_at)) HX.out).mono ?_; rintro e w3 ⟨rfl, vb', hr2, hb2, _⟩; have HR2 := Aside0.mk hr2; have HB2 := Aside0.mk hb2; clear hr2 hb2)
      go_ret
      exact ⟨rfl, _, _, HR2.out, HB2.out⟩
  rw [if_neg d32] at hf
  by_cases d38 : c = 38 ∨ c = 37 ∨ c = 47 ∨ c = 44 ∨ c = 58
  · rw [if_pos d38] at hf
    rcases d38 with h_ | h_ | h_ | h_ | h_
    all_goals
      subst h_
      simp only [Option.some.injEq, Prod.mk.injEq] at hf
      obtain ⟨rfl, rfl, rfl, rfl⟩ := hf
      clear h hB hG hx hy hp0 hp1 hll h0 hcl hrl hlt
      go_enter Tryd.func41, Tryd.ntmps41
      go_wp2
      go_quiet (fail)
      go_wp2
      go_quiet (fail)
      go_wp2
      go_ret
      exact ⟨rfl, _, _, (by repeat (first | exact HR.out | apply RD.drew | apply RD.drewN | apply RD.set_at)), (by repeat (first | exact HB.out | apply below_drew | apply pw_below_drewN | refine Below.setCell ?_ HR.out.ge _))⟩
  rw [if_neg d38] at hf
  by_cases d34 : c = 34
  · rw [if_pos d34] at hf
    have h_ := d34
    all_goals
      subst h_
      simp only [Option.some.injEq, Prod.mk.injEq] at hf
      obtain ⟨rfl, rfl, rfl, rfl⟩ := hf
      clear h hB hG hx hy hp0 hp1 hll h0 hcl hrl hlt
      go_enter Tryd.func41, Tryd.ntmps41
      go_wp2
      go_quiet (fail)
      go_wp2
      go_quiet (fail)
      go_wp2
      go_ret
      exact ⟨rfl, _, _, (by repeat (first | exact HR.out | apply RD.drew | apply RD.drewN | apply RD.set_at)), (by repeat (first | exact HB.out | apply below_drew | apply pw_below_drewN | refine Below.setCell ?_ HR.out.ge _))⟩
  rw [if_neg d34] at hf
  by_cases d40 : c = 40 ∨ c = 91
  · rw [if_pos d40] at hf
    rcases d40 with h_ | h_
    all_goals
      subst h_
      have HF := Aside0.mk hf
      have HP2 := Aside0.mk (show (0 : Int) ≤ p + 1 by omega)
      have HP3 := Aside0.mk (show p + 1 ≤ l.length by omega)
      clear hf
      clear h hB hG hx hy hp0 hp1 hll h0 hcl hrl hlt
      go_enter Tryd.func41, Tryd.ntmps41
      go_wp2
      go_quiet (fail)
      go_wp2
      go_quiet (fail)
      go_wp2_with (go_at_call 58; refine (named_calls k _ _ _ _ _ _ HG.out (by repeat (first | exact HB.out | apply below_drew | apply pw_below_drewN | refine Below.setCell ?_ HR.out.ge _)) (by repeat (first | exact HR.out | apply RD.drew | apply RD.drewN | apply RD.set_at)) (by first | exact HP0.out | exact HP2.out) (by first | exact HP1.out | exact HP3.out) HLL.out HX.out HY.out HF.out).mono ?_; rintro e w3 ⟨rfl, vo', vb', hr2, hb2⟩; have HR2 := Aside0.mk hr2; have HB2 := Aside0.mk hb2; clear hr2 hb2)
      go_ret
      exact ⟨rfl, _, _, HR2.out, HB2.out⟩
  rw [if_neg d40] at hf
  by_cases d102 : c = 102
  · rw [if_pos d102] at hf
    have h_ := d102
    all_goals
      subst h_
      have HF := Aside0.mk hf
      have HP2 := Aside0.mk (show (0 : Int) ≤ p + 1 by omega)
      have HP3 := Aside0.mk (show p + 1 ≤ l.length by omega)
      clear hf
      clear h hB hG hx hy hp0 hp1 hll h0 hcl hrl hlt
      go_enter Tryd.func41, Tryd.ntmps41
      go_wp2
      go_quiet (fail)
      go_wp2
      go_quiet (fail)
      go_wp2_with (go_at_call 58; refine (named_calls k _ _ _ _ _ _ HG.out (by repeat (first | exact HB.out | apply below_drew | apply pw_below_drewN | refine Below.setCell ?_ HR.out.ge _)) (by repeat (first | exact HR.out | apply RD.drew | apply RD.drewN | apply RD.set_at)) (by first | exact HP0.out | exact HP2.out) (by first | exact HP1.out | exact HP3.out) HLL.out HX.out HY.out HF.out).mono ?_; rintro e w3 ⟨rfl, vo', vb', hr2, hb2⟩; have HR2 := Aside0.mk hr2; have HB2 := Aside0.mk hb2; clear hr2 hb2)
      go_ret
      exact ⟨rfl, _, _, HR2.out, HB2.out⟩
  rw [if_neg d102] at hf
  have b92 : (c == 92) = false := beq_eq_false_iff_ne.mpr (by intro e; exact d92 (by simp [e]))
  have b101 : (c == 101) = false := beq_eq_false_iff_ne.mpr (by intro e; exact d92 (by simp [e]))
  have b45 : (c == 45) = false := beq_eq_false_iff_ne.mpr (by intro e; exact d45 (by simp [e]))
  have b46 : (c == 46) = false := beq_eq_false_iff_ne.mpr (by intro e; exact d45 (by simp [e]))
  have b39 : (c == 39) = false := beq_eq_false_iff_ne.mpr (by intro e; exact d39 (by simp [e]))
  have b96 : (c == 96) = false := beq_eq_false_iff_ne.mpr (by intro e; exact d96 (by simp [e]))
  have b32 : (c == 32) = false := beq_eq_false_iff_ne.mpr (by intro e; exact d32 (by simp [e]))
  have b126 : (c == 126) = false := beq_eq_false_iff_ne.mpr (by intro e; exact d32 (by simp [e]))
  have b48 : (c == 48) = false := beq_eq_false_iff_ne.mpr (by intro e; exact d32 (by simp [e]))
  have b38 : (c == 38) = false := beq_eq_false_iff_ne.mpr (by intro e; exact d38 (by simp [e]))
  have b37 : (c == 37) = false := beq_eq_false_iff_ne.mpr (by intro e; exact d38 (by simp [e]))
  have b47 : (c == 47) = false := beq_eq_false_iff_ne.mpr (by intro e; exact d38 (by simp [e]))
  have b44 : (c == 44) = false := beq_eq_false_iff_ne.mpr (by intro e; exact d38 (by simp [e]))
  have b58 : (c == 58) = false := beq_eq_false_iff_ne.mpr (by intro e; exact d38 (by simp [e]))
  have b34 : (c == 34) = false := beq_eq_false_iff_ne.mpr (by intro e; exact d34 (by simp [e]))
  have b40 : (c == 40) = false := beq_eq_false_iff_ne.mpr (by intro e; exact d40 (by simp [e]))
  have b91 : (c == 91) = false := beq_eq_false_iff_ne.mpr (by intro e; exact d40 (by simp [e]))
  have b102 : (c == 102) = false := beq_eq_false_iff_ne.mpr (by intro e; exact d102 (by simp [e]))
  clear d92 d45 d39 d96 d32 d38 d34 d40 d102 hcc
  simp only [Option.some.injEq, Prod.mk.injEq] at hf
  obtain ⟨rfl, rfl, rfl, rfl⟩ := hf
  clear h hB hG hx hy hp0 hp1 hll h0 hcl hrl hlt
  go_enter Tryd.func41, Tryd.ntmps41
  go_wp2
  go_quiet (fail)
  go_wp2
  go_quiet (fail)
  go_wp2_with (go_at_call 43; refine (tell_calls (w0 := w0) (base := w0.heap.size) _ _ (by repeat (first | exact HB.out | apply below_drew | apply pw_below_drewN | refine Below.setCell ?_ HR.out.ge _)) (by simpa [World.setCell] using HSZ.out) (by repeat (first | exact HR.out | apply RD.drew | apply RD.drewN | apply RD.set_at)) HY.out).mono ?_; rintro e w3 ⟨rfl, vb', hr2, hb2, _⟩; have HR2 := Aside0.mk hr2; have HB2 := Aside0.mk hb2; clear hr2 hb2)
  go_ret
  exact ⟨rfl, _, _, HR2.out, HB2.out⟩


end Go.Proofs.YtdogljnddalgdaaDoor.A4
