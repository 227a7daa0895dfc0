/- Of what the law EscapeScans needs: part 8. -/
import Derived.ArgAppend
import Derived.Below
import Derived.BigQuiet
import Derived.Deep.AppendLies
import Derived.Deep.CutBlock
import Derived.Deep.DeepCutAuto
import Derived.Deep.Draws
import Derived.Deep.LoopGhost
import Derived.Deep.OwnRows
import Derived.Deep.QuietTactic
import Derived.Deep.RegionHeld3
import Derived.KernelRfl
import Derived.Laws.BitsLemmas
import Derived.Laws.BytesArg
import Derived.Laws.Cover4
import Derived.Laws.IdiomCopy
import Derived.Laws.MakeOwn
import Derived.Laws.OwnMore
import Derived.Laws.Rows
import Derived.Laws.Slices
import Derived.Laws.StructEq
import Derived.Lib.AppendStr
import Derived.Lib.ConvBytes
import Derived.Maps.AppendAt
import Derived.Maps.Own
import Derived.Maps.OwnOps
import Derived.Maps.OwnSet
import Derived.OrdersHeld
import Derived.OwnWalk
import Derived.RowKit
import Derived.RowKit3
import Derived.StringKeys
import Derived.Tactics
import Derived.Test.YtdogljnddalgdaaDoorProg
import Derived.WalkKit
import Derived.WalkMore
import Derived.WideLaws
import Derived.Test.YtdogljnddalgdaaDoorBScans7
namespace Go.Proofs.YtdogljnddalgdaaDoorW.PrintLast
end Go.Proofs.YtdogljnddalgdaaDoorW.PrintLast
namespace Go.Proofs.YtdogljnddalgdaaDoorW.PrintMore
end Go.Proofs.YtdogljnddalgdaaDoorW.PrintMore
namespace Go.Proofs.YtdogljnddalgdaaDoorW.PrintWords
end Go.Proofs.YtdogljnddalgdaaDoorW.PrintWords
section
namespace Go.Proofs.YtdogljnddalgdaaDoor.A4
open Go.RowKit Go.Proofs.YtdogljnddalgdaaDoorW.PrintWords Go.Proofs.YtdogljnddalgdaaDoorW.PrintLast Go.Proofs.YtdogljnddalgdaaDoorW.PrintMore
attribute [local go_sem] max2_int min2_int max_two min_two max_three min_three max_four min_four   -- for this text's walks alone
set_option linter.unusedVariables false
set_option linter.unusedSimpArgs false
def rd_named (k : Nat) (l : List Int) (p : Int) (xs : List S38) (ys : List S41) (font : Bool) (from_ : Int) : Option (Bool × Int × List S38 × List S41) :=
  (rd_name k l p font).bind fun t =>
    if t.2.1 = true then (if font = true then escape_Font.f t.1 else escape_Name.f k t.1).bind fun u => if u.2 = true then some (true, t.2.2, xs ++ [⟨if font = true then 3 else 1, u.1⟩], ys) else some (true, t.2.2, xs, ys ++ [⟨2, 0, wrap64 (from_ + 1)⟩])
    else some (false, t.2.2, xs, ys ++ [⟨1, 0, wrap64 (from_ + 1)⟩])
set_option maxHeartbeats 8000000 in
set_option maxRecDepth 100000 in
theorem named_calls {w0 w : World} {g : Nat} {vl : Value} {l : List Int} {p : Int} {vo : Value} {xs : List S38} {vb : Value} {ys : List S41} (k : Nat) (font : Bool) (from_ : Int) (go : Bool) (q : Int) (xs' : List S38) (ys' : List S41) (hG : GL w0)
    (hB : Below w0.heap.size w0 w) (h : RD w w0.heap.size g vl l p vo xs vb ys) (hp0 : 0 ≤ p) (hp1 : p ≤ l.length) (hll : l.length ≤ 9223372036854775800) (hx : xs.length < 8796093022208) (hy : ys.length < 5864062014805)
    (hf : rd_named k l p xs ys font from_ = some (go, q, xs', ys')) :
    Calls Tryd.prog 58 #[.pointer (some ⟨g, 0, none⟩), .bool font, .int .i64 from_] w fun e w' => e = .returned (.bool go) ∧
      ∃ vo' vb', RD w' w0.heap.size g vl l q vo' xs' vb' ys' ∧ Below w0.heap.size w0 w' := by
  unfold rd_named at hf
  obtain ⟨⟨s, ok, q1⟩, hs, hf⟩ := Option.bind_eq_some_iff.mp hf
  have HS := Aside0.mk hs
  have HR := Aside0.mk h
  have HB := Aside0.mk hB
  have HG := Aside0.mk hG
  have HX := Aside0.mk hx
  have HY := Aside0.mk hy
  have HP0 := Aside0.mk hp0
  have HP1 := Aside0.mk hp1
  have HLL := Aside0.mk hll
  clear hs h hB hG hx hy hp0 hp1 hll
  have hu65 := Tryd.underlying65
  cases ok with
  | false =>
    simp only [Bool.false_eq_true, if_false, Option.some.injEq, Prod.mk.injEq] at hf
    obtain ⟨rfl, rfl, rfl, rfl⟩ := hf
    go_enter Tryd.func58, Tryd.ntmps58
    go_wp2_with (first | (go_at_call 67; refine (name_calls k _ _ _ _ HB.out HR.out HP0.out HP1.out HLL.out HS.out).mono ?_; rintro e w1 ⟨rfl, hr1, hb1, hz1⟩; have HR1 := Aside0.mk hr1; have HB1 := Aside0.mk hb1; have HZ1 := Aside0.mk (Nat.le_trans HB.out.size hz1); clear hr1 hb1 hz1) | (go_at_call 43; refine (tell_calls _ _ HB1.out HZ1.out HR1.out HY.out).mono ?_; rintro e w2 ⟨rfl, vb', hr2, hb2, _⟩; have HR2 := Aside0.mk hr2; have HB2 := Aside0.mk hb2; clear hr2 hb2))
    go_ret
    exact ⟨rfl, _, _, HR2.out, HB2.out⟩
  | true =>
    simp only [if_true] at hf
    obtain ⟨⟨x, has⟩, hu, hf⟩ := Option.bind_eq_some_iff.mp hf
    have HU := Aside0.mk hu
    clear hu
    cases font <;> cases has <;> simp only [Bool.false_eq_true, if_false, if_true, Option.some.injEq, Prod.mk.injEq] at hf HU <;> obtain ⟨rfl, rfl, rfl, rfl⟩ := hf
    all_goals
      go_enter Tryd.func58, Tryd.ntmps58
      go_wp2_with (first | (go_at_call 67; refine (name_calls k _ _ _ _ HB.out HR.out HP0.out HP1.out HLL.out HS.out).mono ?_; rintro e w1 ⟨rfl, hr1, hb1, hz1⟩; have HR1 := Aside0.mk hr1; have HB1 := Aside0.mk hb1; have HZ1 := Aside0.mk (Nat.le_trans HB.out.size hz1); clear hr1 hb1 hz1) | (go_at_call 19; refine (escape_Name.calls k _ _ _ _ (GL.below HG.out HB1.out) HU.out).mono ?_; rintro e w2 ⟨rfl, ⟨nd, rfl⟩⟩) | (go_at_call 20; refine (escape_Font.calls _ _ _ _ (GL.below HG.out HB1.out) HU.out).mono ?_; rintro e w2 ⟨rfl, ⟨nd, rfl⟩⟩) | (go_at_call 40; refine (say_calls _ _ (pw_below_drewN HB1.out _) HZ1.out (HR1.out.drewN _) HX.out).mono ?_; rintro e w3 ⟨rfl, vb', hr2, hb2, _⟩; have HR2 := Aside0.mk hr2; have HB2 := Aside0.mk hb2; clear hr2 hb2) | (go_at_call 43; refine (tell_calls _ _ (pw_below_drewN HB1.out _) HZ1.out (HR1.out.drewN _) HY.out).mono ?_; rintro e w3 ⟨rfl, vb', hr2, hb2, _⟩; have HR2 := Aside0.mk hr2; have HB2 := Aside0.mk hb2; clear hr2 hb2))
      go_ret
      exact ⟨rfl, _, _, HR2.out, HB2.out⟩
def rd_escape (k : Nat) (l : List Int) (p : Int) (xs : List S38) (ys : List S41) (from_ : Int) : Option (Bool × Int × List S38 × List S41) :=
  if p = l.length then some (false, p, xs, ys ++ [⟨1, 0, wrap64 (from_ + 1)⟩])
  else if rd l p = 92 ∨ rd l p = 101 then some (true, p + 1, xs ++ [⟨1, 92⟩], ys)
  else if rd l p = 45 ∨ rd l p = 46 then some (true, p + 1, xs ++ [⟨1, rd l p⟩], ys)
  else if rd l p = 39 then some (true, p + 1, xs ++ [⟨1, 180⟩], ys)
  else if rd l p = 96 then some (true, p + 1, xs ++ [⟨1, rd l p⟩], ys)
  else if rd l p = 32 ∨ rd l p = 126 ∨ rd l p = 48 then some (true, p + 1, xs ++ [⟨1, 160⟩], ys)
  else if rd l p = 38 ∨ rd l p = 37 ∨ rd l p = 47 ∨ rd l p = 44 ∨ rd l p = 58 then some (true, p + 1, xs, ys)
  else if rd l p = 34 then some (false, p + 1, xs, ys)
  else if rd l p = 40 ∨ rd l p = 91 then rd_named k l p xs ys false from_
  else if rd l p = 102 then rd_named k l (p + 1) xs ys true from_
  else some (true, p + 1, xs, ys ++ [⟨1, 0, wrap64 (from_ + 1)⟩])
set_option maxHeartbeats 8000000 in
set_option maxRecDepth 100000 in
theorem escape_calls {w0 w : World} {g : Nat} {vl : Value} {l : List Int} {p : Int} {vo : Value} {xs : List S38} {vb : Value} {ys : List S41} (k : Nat) (from_ : Int) (go : Bool) (q : Int) (xs' : List S38) (ys' : List S41) (hG : GL w0)
    (hB : Below w0.heap.size w0 w) (h : RD w w0.heap.size g vl l p vo xs vb ys) (hp0 : 0 ≤ p) (hp1 : p ≤ l.length) (hll : l.length ≤ 9223372036854775800) (hx : xs.length < 8796093022208) (hy : ys.length < 5864062014805)
    (hf : rd_escape k l p xs ys from_ = some (go, q, xs', ys')) :
    Calls Tryd.prog 41 #[.pointer (some ⟨g, 0, none⟩), .int .i64 from_] w fun e w' => e = .returned (.bool go) ∧
      ∃ vo' vb', RD w' w0.heap.size g vl l q vo' xs' vb' ys' ∧ Below w0.heap.size w0 w' := by
  obtain ⟨Al, cl, el, hcl, hrl⟩ := Kd.R_reads h.l
  subst el
  have HR := Aside0.mk h
  have HB := Aside0.mk hB
  have HG := Aside0.mk hG
  have HX := Aside0.mk hx
  have HY := Aside0.mk hy
  have HP0 := Aside0.mk hp0
  have HP1 := Aside0.mk hp1
  have HLL := Aside0.mk hll
  have hcz0 : w.cell? ⟨g, 0, none⟩ = some (.slice Al l.length cl) := (blk_cell h.blk 0).trans rfl
  have hcz1 : w.cell? ⟨g, 1, none⟩ = some (.int .i64 p) := (blk_cell h.blk 1).trans rfl
  have hfz1 := blk_frozen h.blk 1
  have HSZ := Aside0.mk hB.size
  have hu65 := Tryd.underlying65
  unfold rd_escape at hf
  by_cases h0 : p = l.length
  · rw [if_pos h0] at hf
    simp only [Option.some.injEq, Prod.mk.injEq] at hf
    obtain ⟨rfl, rfl, rfl, rfl⟩ := hf
    have b0 : (p == (l.length : Int)) = true := by simpa using h0
    clear h hB hG hx hy hp0 hp1 hll h0 hcl hrl
    go_enter Tryd.func41, Tryd.ntmps41
    go_wp2
    go_quiet (fail)
    go_wp2_with (go_at_call 43; refine (tell_calls _ _ (pw_below_drewN HB.out _) HSZ.out (HR.out.drewN _) HY.out).mono ?_; rintro e w3 ⟨rfl, vb', hr2, hb2, _⟩; have HR2 := Aside0.mk hr2; have HB2 := Aside0.mk hb2; clear hr2 hb2)
    go_ret
    exact ⟨rfl, _, _, HR2.out, HB2.out⟩
  rw [if_neg h0] at hf
  have hlt : p < l.length := by omega
  have b0 : (p == (l.length : Int)) = false := by simpa using h0
  obtain ⟨ad, ead, hx0⟩ := Kd.at_int hrl p hp0 hlt
  subst ead
  have hq1 : 0 ≤ p := hp0
  have hq2 : decide (p < (l.length : Int)) = true := decide_eq_true hlt
  have hq3 : (p < (l.length : Int)) = True := eq_true hlt
  have hq4 : p + 1 ≤ 9223372036854775807 := by omega
  generalize hcc : rd l p = c at *
  replace hcc := Aside0.mk hcc
  by_cases d92 : c = 92 ∨ c = 101
  · rw [if_pos d92] at hf
    rcases d92 with h_ | h_
    all_goals
      subst h_
      simp only [Option.some.injEq, Prod.mk.injEq] at hf
      obtain ⟨rfl, rfl, rfl, rfl⟩ := hf
      clear h hB hG hx hy hp0 hp1 hll h0 hcl hrl hlt
      go_enter Tryd.func41, Tryd.ntmps41
      go_wp2
      go_quiet (fail)
      go_wp2
      go_quiet (fail)
      go_wp2_with (go_at_call 40; refine (say_calls (w0 := w0) (base := w0.heap.size) _ _ (by repeat (first | exact HB.out | apply below_drew | apply pw_below_drewN | refine Below.setCell ?_ HR.out.ge _)) (by simpa [World.setCell] using HSZ.out) (by repeat (first | exact HR.out | apply RD.drew | apply RD.drewN | apply RD.set_at)) HX.out).mono ?_; rintro e w3 ⟨rfl, vb', hr2, hb2, _⟩; have HR2 := Aside0.mk hr2; have HB2 := Aside0.mk hb2; clear hr2 hb2)
      go_ret
      exact ⟨rfl, _, _, HR2.out, HB2.out⟩
  rw [if_neg d92] at hf
  by_cases d45 : c = 45 ∨ c = 46
  · rw [if_pos d45] at hf
    rcases d45 with h_ | h_
    all_goals
      subst h_
      simp only [Option.some.injEq, Prod.mk.injEq] at hf
      obtain ⟨rfl, rfl, rfl, rfl⟩ := hf
      clear h hB hG hx hy hp0 hp1 hll h0 hcl hrl hlt
      go_enter Tryd.func41, Tryd.ntmps41
      go_wp2
      go_quiet (fail)
      go_wp2
      go_quiet (fail)
      go_wp2_with (go_at_call 40; refine (say_calls (w0 := w0) (base := w0.heap.size) _ _ (by repeat (first | exact HB.out | apply below_drew | apply pw_below_drewN | refine Below.setCell ?_ HR.out.ge _)) (by simpa [World.setCell] using HSZ.out) (by repeat (first | exact HR.out | apply RD.drew | apply RD.drewN | apply RD.set_at)) HX.out).mono ?_; rintro e w3 ⟨rfl, vb', hr2, hb2, _⟩; have HR2 := Aside0.mk hr2; have HB2 := Aside0.mk hb2; clear hr2 hb2)
      go_ret
      exact ⟨rfl, _, _, HR2.out, HB2.out⟩
  rw [if_neg d45] at hf
  by_cases d39 : c = 39
  · rw [if_pos d39] at hf
    have h_ := d39
    all_goals
      subst h_
      simp only [Option.some.injEq, Prod.mk.injEq] at hf
      obtain ⟨rfl, rfl, rfl, rfl⟩ := hf
      clear h hB hG hx hy hp0 hp1 hll h0 hcl hrl hlt
      go_enter Tryd.func41, Tryd.ntmps41
      go_wp2
      go_quiet (fail)
      go_wp2
      go_quiet (fail)
      go_wp2_with (go_at_call 40; refine (say_calls (w0 := w0) (base := w0.heap.size) _ _ (by repeat (first | exact HB.out | apply below_drew | apply pw_below_drewN | refine Below.setCell ?_ HR.out.ge _)) (by simpa [World.setCell] using HSZ.out) (by repeat (first | exact HR.out | apply RD.drew | apply RD.drewN | apply RD.set_at)) HX.out).mono ?_; rintro e w3 ⟨rfl, vb', hr2, hb2, _⟩; have HR2 := Aside0.mk hr2; have HB2 := Aside0.mk hb2; clear hr2 hb2)
      go_ret
      exact ⟨rfl, _, _, HR2.out, HB2.out⟩
  rw [if_neg d39] at hf
  by_cases d96 : c = 96
  · rw [if_pos d96] at hf
    have h_ := d96
    all_goals
      subst h_
      simp only [Option.some.injEq, Prod.mk.injEq] at hf
      obtain ⟨rfl, rfl, rfl, rfl⟩ := hf
      clear h hB hG hx hy hp0 hp1 hll h0 hcl hrl hlt
      go_enter Tryd.func41, Tryd.ntmps41
      go_wp2
      go_quiet (fail)
      go_wp2
      go_quiet (fail)
      go_wp2_with (go_at_call 40; refine (say_calls (w0 := w0) (base := w0.heap.size) _ _ (by repeat (first | exact HB.out | apply below_drew | apply pw_below_drewN | refine Below.setCell ?_ HR.out.ge _)) (by simpa [World.setCell] using HSZ.out) (by repeat (first | exact HR.out | apply RD.drew | apply RD.drewN | apply RD.set_at)) HX.out).mono ?_; rintro e w3 ⟨rfl, vb', hr2, hb2, _⟩; have HR2 := Aside0.mk hr2; have HB2 := Aside0.mk hb2; clear hr2 hb2)
      go_ret
      exact ⟨rfl, _, _, HR2.out, HB2.out⟩
  rw [if_neg d96] at hf
  by_cases d32 : c = 32 ∨ c = 126 ∨ c = 48
  · rw [if_pos d32] at hf
    rcases d32 with h_ | h_ | h_
    all_goals
      subst h_
      simp only [Option.some.injEq, Prod.mk.injEq] at hf
      obtain ⟨rfl, rfl, rfl, rfl⟩ := hf
      clear h hB hG hx hy hp0 hp1 hll h0 hcl hrl hlt
      go_enter Tryd.func41, Tryd.ntmps41
      go_wp2
      go_quiet (fail)
      go_wp2
      go_quiet (fail)
      go_wp2_with (go_at_call 40; refine (say_calls (w0 := w0) (base := w0.heap.size) _ _ (by repeat (first | exact HB.out | apply below_drew | apply pw_below_drewN | refine Below.setCell ?_ HR.out.ge _)) (by simpa [World.setCell] using HSZ.out) (by repeat (first | exact HR.out | apply RD.drew | apply RD.drewN | apply RD.set_at)) HX.out).mono ?_; rintro e w3 ⟨rfl, vb', hr2, hb2, _⟩; have HR2 := Aside0.mk hr2; have HB2 := Aside0.mk hb2; clear hr2 hb2)
      go_ret
      exact ⟨rfl, _, _, HR2.out, HB2.out⟩
  rw [if_neg d32] at hf
  by_cases d38 : c = 38 ∨ c = 37 ∨ c = 47 ∨ c = 44 ∨ c = 58
  · rw [if_pos d38] at hf
    rcases d38 with h_ | h_ | h_ | h_ | h_
    all_goals
      subst h_
      simp only [Option.some.injEq, Prod.mk.injEq] at hf
      obtain ⟨rfl, rfl, rfl, rfl⟩ := hf
      clear h hB hG hx hy hp0 hp1 hll h0 hcl hrl hlt
      go_enter Tryd.func41, Tryd.ntmps41
      go_wp2
      go_quiet (fail)
      go_wp2
      go_quiet (fail)
      go_wp2
      go_ret
      exact ⟨rfl, _, _, (by repeat (first | exact HR.out | apply RD.drew | apply RD.drewN | apply RD.set_at)), (by repeat (first | exact HB.out | apply below_drew | apply pw_below_drewN | refine Below.setCell ?_ HR.out.ge _))⟩
  rw [if_neg d38] at hf
  by_cases d34 : c = 34
  · rw [if_pos d34] at hf
    have h_ := d34
    all_goals
      subst h_
      simp only [Option.some.injEq, Prod.mk.injEq] at hf
      obtain ⟨rfl, rfl, rfl, rfl⟩ := hf
      clear h hB hG hx hy hp0 hp1 hll h0 hcl hrl hlt
      go_enter Tryd.func41, Tryd.ntmps41
      go_wp2
      go_quiet (fail)
      go_wp2
      go_quiet (fail)
      go_wp2
      go_ret
      exact ⟨rfl, _, _, (by repeat (first | exact HR.out | apply RD.drew | apply RD.drewN | apply RD.set_at)), (by repeat (first | exact HB.out | apply below_drew | apply pw_below_drewN | refine Below.setCell ?_ HR.out.ge _))⟩
  rw [if_neg d34] at hf
  by_cases d40 : c = 40 ∨ c = 91
  · rw [if_pos d40] at hf
    rcases d40 with h_ | h_
    all_goals
      subst h_
      have HF := Aside0.mk hf
      have HP2 := Aside0.mk (show (0 : Int) ≤ p + 1 by omega)
      have HP3 := Aside0.mk (show p + 1 ≤ l.length by omega)
      clear hf
      clear h hB hG hx hy hp0 hp1 hll h0 hcl hrl hlt
      go_enter Tryd.func41, Tryd.ntmps41
      go_wp2
      go_quiet (fail)
      go_wp2
      go_quiet (fail)
      go_wp2_with (go_at_call 58; refine (named_calls k _ _ _ _ _ _ HG.out (by repeat (first | exact HB.out | apply below_drew | apply pw_below_drewN | refine Below.setCell ?_ HR.out.ge _)) (by repeat (first | exact HR.out | apply RD.drew | apply RD.drewN | apply RD.set_at)) (by first | exact HP0.out | exact HP2.out) (by first | exact HP1.out | exact HP3.out) HLL.out HX.out HY.out HF.out).mono ?_; rintro e w3 ⟨rfl, vo', vb', hr2, hb2⟩; have HR2 := Aside0.mk hr2; have HB2 := Aside0.mk hb2; clear hr2 hb2)
      go_ret
      exact ⟨rfl, _, _, HR2.out, HB2.out⟩
  rw [if_neg d40] at hf
  by_cases d102 : c = 102
  · rw [if_pos d102] at hf
    have h_ := d102
    all_goals
      subst h_
      have HF := Aside0.mk hf
      have HP2 := Aside0.mk (show (0 : Int) ≤ p + 1 by omega)
      have HP3 := Aside0.mk (show p + 1 ≤ l.length by omega)
      clear hf
      clear h hB hG hx hy hp0 hp1 hll h0 hcl hrl hlt
      go_enter Tryd.func41, Tryd.ntmps41
      go_wp2
      go_quiet (fail)
      go_wp2
      go_quiet (fail)
      go_wp2_with (go_at_call 58; refine (named_calls k _ _ _ _ _ _ HG.out (by repeat (first | exact HB.out | apply below_drew | apply pw_below_drewN | refine Below.setCell ?_ HR.out.ge _)) (by repeat (first | exact HR.out | apply RD.drew | apply RD.drewN | apply RD.set_at)) (by first | exact HP0.out | exact HP2.out) (by first | exact HP1.out | exact HP3.out) HLL.out HX.out HY.out HF.out).mono ?_; rintro e w3 ⟨rfl, vo', vb', hr2, hb2⟩; have HR2 := Aside0.mk hr2; have HB2 := Aside0.mk hb2; clear hr2 hb2)
      go_ret
      exact ⟨rfl, _, _, HR2.out, HB2.out⟩
  rw [if_neg d102] at hf
  have b92 : (c == 92) = false := beq_eq_false_iff_ne.mpr (by intro e; exact d92 (by simp [e]))
  have b101 : (c == 101) = false := beq_eq_false_iff_ne.mpr (by intro e; exact d92 (by simp [e]))
  have b45 : (c == 45) = false := beq_eq_false_iff_ne.mpr (by intro e; exact d45 (by simp [e]))
  have b46 : (c == 46) = false := beq_eq_false_iff_ne.mpr (by intro e; exact d45 (by simp [e]))
  have b39 : (c == 39) = false := beq_eq_false_iff_ne.mpr (by intro e; exact d39 (by simp [e]))
  have b96 : (c == 96) = false := beq_eq_false_iff_ne.mpr (by intro e; exact d96 (by simp [e]))
  have b32 : (c == 32) = false := beq_eq_false_iff_ne.mpr (by intro e; exact d32 (by simp [e]))
  have b126 : (c == 126) = false := beq_eq_false_iff_ne.mpr (by intro e; exact d32 (by simp [e]))
  have b48 : (c == 48) = false := beq_eq_false_iff_ne.mpr (by intro e; exact d32 (by simp [e]))
  have b38 : (c == 38) = false := beq_eq_false_iff_ne.mpr (by intro e; exact d38 (by simp [e]))
  have b37 : (c == 37) = false := beq_eq_false_iff_ne.mpr (by intro e; exact d38 (by simp [e]))
  have b47 : (c == 47) = false := beq_eq_false_iff_ne.mpr (by intro e; exact d38 (by simp [e]))
  have b44 : (c == 44) = false := beq_eq_false_iff_ne.mpr (by intro e; exact d38 (by simp [e]))
  have b58 : (c == 58) = false := beq_eq_false_iff_ne.mpr (by intro e; exact d38 (by simp [e]))
  have b34 : (c == 34) = false := beq_eq_false_iff_ne.mpr (by intro e; exact d34 (by simp [e]))
  have b40 : (c == 40) = false := beq_eq_false_iff_ne.mpr (by intro e; exact d40 (by simp [e]))
  have b91 : (c == 91) = false := beq_eq_false_iff_ne.mpr (by intro e; exact d40 (by simp [e]))
  have b102 : (c == 102) = false := beq_eq_false_iff_ne.mpr (by intro e; exact d102 (by simp [e]))
  clear d92 d45 d39 d96 d32 d38 d34 d40 d102 hcc
  simp only [Option.some.injEq, Prod.mk.injEq] at hf
  obtain ⟨rfl, rfl, rfl, rfl⟩ := hf
  clear h hB hG hx hy hp0 hp1 hll h0 hcl hrl hlt
  go_enter Tryd.func41, Tryd.ntmps41
  go_wp2
  go_quiet (fail)
  go_wp2
  go_quiet (fail)
  go_wp2_with (go_at_call 43; refine (tell_calls (w0 := w0) (base := w0.heap.size) _ _ (by repeat (first | exact HB.out | apply below_drew | apply pw_below_drewN | refine Below.setCell ?_ HR.out.ge _)) (by simpa [World.setCell] using HSZ.out) (by repeat (first | exact HR.out | apply RD.drew | apply RD.drewN | apply RD.set_at)) HY.out).mono ?_; rintro e w3 ⟨rfl, vb', hr2, hb2, _⟩; have HR2 := Aside0.mk hr2; have HB2 := Aside0.mk hb2; clear hr2 hb2)
  go_ret
  exact ⟨rfl, _, _, HR2.out, HB2.out⟩
end Go.Proofs.YtdogljnddalgdaaDoor.A4
end
section
namespace Go.Proofs.YtdogljnddalgdaaDoor.A4
open Go.RowKit Go.Proofs.YtdogljnddalgdaaDoorW.PrintWords Go.Proofs.YtdogljnddalgdaaDoorW.PrintLast Go.Proofs.YtdogljnddalgdaaDoorW.PrintMore
attribute [local go_sem] max2_int min2_int max_two min_two max_three min_three max_four min_four   -- for this text's walks alone
set_option linter.unusedVariables false
set_option linter.unusedSimpArgs false
attribute [local go_sem high] eqA38
def rd_scan : Nat → List Int → Int → List S38 → List S41 → Option (List S38 × List S41)
  | 0, _, _, _, _ => none
  | k + 1, l, p, xs, ys => if p < (l.length : Int) then (if 0 ≤ p ∧ xs.length < 8796093022208 ∧ ys.length < 5864062014805 then
      (if rd l p = 32 ∨ rd l p = 9 then rd_scan k l (p + 1) (xs ++ [⟨2, 0⟩]) ys
      else if rd l p = 92 then (rd_escape k l (p + 1) xs ys p).bind fun t => if t.1 = true then rd_scan k l t.2.1 t.2.2.1 t.2.2.2 else some (t.2.2.1, t.2.2.2)
      else (runes_Control.f k (rd l p)).bind fun b => if b = true then rd_scan k l (p + 1) (xs ++ [⟨1, 65533⟩]) (ys ++ [⟨3, 0, wrap64 (p + 1)⟩]) else rd_scan k l (p + 1) (xs ++ [⟨1, rd l p⟩]) ys)
      else none) else some (xs, ys)
def escape_Scan.f (k : Nat) (a0 : ByteArray) : Option (List S38 × List S41) :=
  if a0.size ≤ 9223372036854775807 then ((some (bytesOf a0)).bind fun t => (runes_Decode.f k t).bind fun l => if l.length ≤ 9223372036854775800 then rd_scan k l 0 [] [] else none) else none
set_option maxHeartbeats 8000000 in
set_option maxRecDepth 100000 in
theorem escape_Scan.calls (k : Nat) (a0 : ByteArray) (r1 : List S38) (r2 : List S41) (w : World) (hG : GL w) (h : escape_Scan.f k a0 = some (r1, r2)) :
    Calls Tryd.prog 15 #[.string a0] w fun e w' => ∃ v0_ v1_ : Value, e = .returned (.tuple #[v0_, v1_]) ∧ Kd.R k38 38 w' w.heap.size (fun _ => True) v0_ r1 ∧ Kd.R k41 41 w' w.heap.size (fun _ => True) v1_ r2 ∧ Below w.heap.size w w' := by
  unfold escape_Scan.f at h
  by_cases c2 : a0.size ≤ 9223372036854775807
  · rw [if_pos c2] at h
    obtain ⟨t, ht, h⟩ := Option.bind_eq_some_iff.mp h
    obtain ⟨l, hl, h⟩ := Option.bind_eq_some_iff.mp h
    by_cases c3 : l.length ≤ 9223372036854775800
    · rw [if_pos c3] at h
      have HG := Aside0.mk hG
      have HT := Aside0.mk ht
      have HL := Aside0.mk hl
      have H := Aside0.mk h
      have HC2 := Aside0.mk c2
      have HC3 := Aside0.mk c3
      clear hG ht hl h c2 c3
      have hu65 := Tryd.underlying65
      go_enter Tryd.func15, Tryd.ntmps15
      go_wp2
      go_step3
      go_wp2_with (first | ((with_reducible refine gate_dst (N := 8) rfl ?_); refine conv_step (by rfl) 9 36 5 _ rfl Tryd.underlying9 Tryd.underlying36 Tryd.underlying5 a0 HC2.out (by rfl) t HT.out ?_; rintro e w1 ⟨vc, rfl, ho, hb⟩; have HV := Aside0.mk ho; have HB := Aside0.mk hb; clear ho hb; obtain ⟨Ac, cc, ec⟩ := Kd.V_slice HV.out; subst ec) | (go_at_call 39; refine (runes_Decode.calls k _ _ _ t l _ HV.out HL.out).mono ?_; rintro e w2 ⟨vl, rfl, ho, hb⟩; have HB2 := Aside0.mk (below_step HB.out hb); have HO := Aside0.mk (Kd.R_lower (Kd.R_mono ho (fun _ _ => trivial)) (below_size HB.out)); clear ho hb; obtain ⟨Al, cl, el⟩ := Kd.R_slice HO.out; subst el))
      have HR0 := Aside0.mk (show RD (w2.alloc (.cells #[.slice Al l.length cl, .int .i64 0, .slice none 0 0, .slice none 0 0] 65)) w.heap.size w2.heap.size (.slice Al l.length cl) l 0 (.slice none 0 0) [] (.slice none 0 0) [] from
        ⟨blk_new w2 _, HB2.out.size, Kd.R_alloc HO.out _, Kd.R_nil _ _ _ _ _, Kd.R_nil _ _ _ _ _⟩)
      have HB0 := Aside0.mk (show Below w.heap.size w (w2.alloc (.cells #[.slice Al l.length cl, .int .i64 0, .slice none 0 0, .slice none 0 0] 65)) from below_alloc HB2.out _)
      generalize (w2.alloc (.cells #[.slice Al l.length cl, .int .i64 0, .slice none 0 0, .slice none 0 0] 65)) = w3 at HR0 HB0 ⊢
      generalize w2.heap.size = g at HR0 ⊢
      clear HV HB HB2 HO HT HL HC2
      go_step3
      go_wp2
      go_loopg [] k (fun kq w' => ∃ (p : Int) (vo vb : Value) (xs : List S38) (ys : List S41), Aside0 (rd_scan kq l p xs ys = some (r1, r2)) ∧ Aside0 (kq ≤ k) ∧ Aside0 (RD w' w.heap.size g (.slice Al l.length cl) l p vo xs vb ys) ∧ Aside0 (Below w.heap.size w w'))
      case atStart => exact ⟨0, _, _, [], [], H, ⟨Nat.le_refl _⟩, HR0, HB0⟩
      case round =>
        clear H HR0 HB0
        obtain ⟨p, vo, vb, xs, ys, H, HK, HR, HB⟩ := hrel
        cases gk with
        | zero => exact absurd H.out (by simp [rd_scan])
        | succ k1 =>
          have h := H.out
          clear H
          simp only [rd_scan] at h
          have hcz0 := (blk_cell HR.out.blk 0)
          have hcz1 := (blk_cell HR.out.blk 1)
          obtain ⟨Aq, cq, eq_, hcq, hrq⟩ := Kd.R_reads HR.out.l
          obtain ⟨rfl, rfl⟩ : Al = Aq ∧ cl = cq := by simp only [Value.slice.injEq] at eq_; exact ⟨eq_.1, eq_.2.2⟩
          clear eq_ hcq
          replace hcz0 : wr.cell? ⟨g, 0, none⟩ = some (.slice Al l.length cl) := hcz0.trans rfl
          replace hcz1 : wr.cell? ⟨g, 1, none⟩ = some (.int .i64 p) := hcz1.trans rfl
          have hfz1 := blk_frozen HR.out.blk 1
          have HSZ := Aside0.mk (below_size HB.out)
          obtain ⟨Ao, co, eo⟩ := Kd.R_slice HR.out.o
          obtain ⟨Ab, cb, eb⟩ := Kd.R_slice HR.out.b
          subst eo
          subst eb
          by_cases d0 : p < (l.length : Int)
          · rw [if_pos d0] at h
            by_cases d1 : 0 ≤ p ∧ xs.length < 8796093022208 ∧ ys.length < 5864062014805
            · rw [if_pos d1] at h
              obtain ⟨hp0, hx, hy⟩ := d1
              have HX := Aside0.mk hx
              have HY := Aside0.mk hy
              have hll := HC3.out
              obtain ⟨ad, ead, hx0⟩ := Kd.at_int hrq p hp0 d0
              subst ead
              have hq2 : decide (p < (l.length : Int)) = true := decide_eq_true d0
              have hq3 : (p < (l.length : Int)) = True := eq_true d0
              have hq4 : p + 1 ≤ 9223372036854775807 := by omega
              have HP0 := Aside0.mk (show 0 ≤ p + 1 by omega)
              have HP1 := Aside0.mk (show p + 1 ≤ l.length by omega)
              generalize hcc : rd l p = c at *
              replace hcc := Aside0.mk hcc
              clear hx hy hll hrq d0
              by_cases d32 : c = 32 ∨ c = 9
              · rw [if_pos d32] at h
                have H' := Aside0.mk h
                clear h
                rcases d32 with h_ | h_
                all_goals
                  subst h_
                  go_wp2
                  go_quiet (fail)
                  go_wp2
                  go_quiet (fail)
                  go_wp2_with (go_at_call 40; refine (say_calls (w0 := w) (base := w.heap.size) _ _ (by repeat (first | exact HB.out | apply below_drew | apply pw_below_drewN | refine Below.setCell ?_ HR.out.ge _)) (by simpa [World.setCell] using HSZ.out) (by repeat (first | exact HR.out | apply RD.drew | apply RD.drewN | apply RD.set_at)) HX.out).mono ?_; rintro e w3 ⟨rfl, vb', hr2, hb2, _⟩; have HR2 := Aside0.mk hr2; have HB2 := Aside0.mk hb2; clear hr2 hb2)
                  go_roundg k1
                  case measure => have := HK.out; omega
                  case rel => exact ⟨_, _, _, _, _, H', ⟨by have := HK.out; omega⟩, HR2, HB2⟩
              rw [if_neg d32] at h
              by_cases d92 : c = 92
              · rw [if_pos d92] at h
                subst d92
                obtain ⟨⟨go, q, xs', ys'⟩, he, h⟩ := Option.bind_eq_some_iff.mp h
                have HE := Aside0.mk he
                clear he d32
                cases go
                · simp only [Bool.false_eq_true, if_false, Option.some.injEq, Prod.mk.injEq] at h
                  obtain ⟨rfl, rfl⟩ := h
                  go_wp2
                  go_quiet (fail)
                  go_wp2
                  go_quiet (fail)
                  go_wp2_with (go_at_call 41; refine (escape_calls k1 _ _ _ _ _ HG.out (by repeat (first | exact HB.out | apply below_drew | apply pw_below_drewN | refine Below.setCell ?_ HR.out.ge _)) (by repeat (first | exact HR.out | apply RD.drew | apply RD.drewN | apply RD.set_at)) HP0.out HP1.out HC3.out HX.out HY.out HE.out).mono ?_; rintro e w3 ⟨rfl, vo', vb', hr2, hb2⟩; have HR2 := Aside0.mk hr2; have HB2 := Aside0.mk hb2; clear hr2 hb2)
                  obtain ⟨Ao2, co2, eo2⟩ := Kd.R_slice HR2.out.o
                  obtain ⟨Ab2, cb2, eb2⟩ := Kd.R_slice HR2.out.b
                  subst eo2
                  subst eb2
                  have hcy2 : w3.cell? ⟨g, 2, none⟩ = some (.slice Ao2 xs'.length co2) := (blk_cell HR2.out.blk 2).trans rfl
                  have hcy3 : w3.cell? ⟨g, 3, none⟩ = some (.slice Ab2 ys'.length cb2) := (blk_cell HR2.out.blk 3).trans rfl
                  go_quiet (fail)
                  go_wp2
                  rw [Exit.noGoto_ret]
                  go_ret2
                  exact ⟨_, _, rfl, Kd.R_drewN HR2.out.o _, Kd.R_drewN HR2.out.b _, pw_below_drewN HB2.out _⟩
                · simp only [if_true] at h
                  have H' := Aside0.mk h
                  clear h
                  go_wp2
                  go_quiet (fail)
                  go_wp2
                  go_quiet (fail)
                  go_wp2_with (go_at_call 41; refine (escape_calls k1 _ _ _ _ _ HG.out (by repeat (first | exact HB.out | apply below_drew | apply pw_below_drewN | refine Below.setCell ?_ HR.out.ge _)) (by repeat (first | exact HR.out | apply RD.drew | apply RD.drewN | apply RD.set_at)) HP0.out HP1.out HC3.out HX.out HY.out HE.out).mono ?_; rintro e w3 ⟨rfl, vo', vb', hr2, hb2⟩; have HR2 := Aside0.mk hr2; have HB2 := Aside0.mk hb2; clear hr2 hb2)
                  go_roundg k1
                  case measure => have := HK.out; omega
                  case rel => exact ⟨_, _, _, _, _, H', ⟨by have := HK.out; omega⟩, HR2, HB2⟩
              rw [if_neg d92] at h
              obtain ⟨b, hb, h⟩ := Option.bind_eq_some_iff.mp h
              have HCT := Aside0.mk hb
              have b32 : (c == 32) = false := beq_eq_false_iff_ne.mpr (fun e => d32 (.inl e))
              have b9 : (c == 9) = false := beq_eq_false_iff_ne.mpr (fun e => d32 (.inr e))
              have b92 : (c == 92) = false := beq_eq_false_iff_ne.mpr d92
              clear hb d32 d92
              cases b
              · simp only [Bool.false_eq_true, if_false] at h
                have H' := Aside0.mk h
                clear h
                go_wp2
                go_quiet (fail)
                go_wp2
                go_quiet (fail)
                go_wp2_with (first | (go_at_call 42; refine (runes_Control.calls k1 c false _ HCT.out).mono ?_; rintro e w2 ⟨rfl, ⟨nd, rfl⟩⟩) | (go_at_call 40; refine (say_calls (w0 := w) (base := w.heap.size) _ _ (by repeat (first | exact HB.out | apply below_drew | apply pw_below_drewN | refine Below.setCell ?_ HR.out.ge _)) (by simpa [World.setCell] using HSZ.out) (by repeat (first | exact HR.out | apply RD.drew | apply RD.drewN | apply RD.set_at)) HX.out).mono ?_; rintro e w3 ⟨rfl, vb', hr2, hb2, _⟩; have HR2 := Aside0.mk hr2; have HB2 := Aside0.mk hb2; clear hr2 hb2))
                go_roundg k1
                case measure => have := HK.out; omega
                case rel => exact ⟨_, _, _, _, _, H', ⟨by have := HK.out; omega⟩, HR2, HB2⟩
              · simp only [if_true] at h
                have H' := Aside0.mk h
                clear h
                go_wp2
                go_quiet (fail)
                go_wp2
                go_quiet (fail)
                go_wp2_with (first | (go_at_call 42; refine (runes_Control.calls k1 c true _ HCT.out).mono ?_; rintro e w2 ⟨rfl, ⟨nd, rfl⟩⟩) | (go_at_call 43; refine (tell_calls (w0 := w) (base := w.heap.size) _ _ (by repeat (first | exact HB.out | apply below_drew | apply pw_below_drewN | refine Below.setCell ?_ HR.out.ge _)) (by simpa [World.setCell] using HSZ.out) (by repeat (first | exact HR.out | apply RD.drew | apply RD.drewN | apply RD.set_at)) HY.out).mono ?_; rintro e w4 ⟨rfl, vo', hr3, hb3, hz3⟩; have HR3 := Aside0.mk hr3; have HB3 := Aside0.mk hb3; have HS3 := Aside0.mk (below_size hb3); clear hr3 hb3 hz3) | (go_at_call 40; refine (say_calls (w0 := w) (base := w.heap.size) _ _ HB3.out HS3.out HR3.out HX.out).mono ?_; rintro e w3 ⟨rfl, vb', hr2, hb2, _⟩; have HR2 := Aside0.mk hr2; have HB2 := Aside0.mk hb2; clear hr2 hb2))
                go_roundg k1
                case measure => have := HK.out; omega
                case rel => exact ⟨_, _, _, _, _, H', ⟨by have := HK.out; omega⟩, HR2, HB2⟩
            · rw [if_neg d1] at h
              exact absurd h (by simp)
          · rw [if_neg d0] at h
            simp only [Option.some.injEq, Prod.mk.injEq] at h
            obtain ⟨rfl, rfl⟩ := h
            have hq2 : decide (p < (l.length : Int)) = false := decide_eq_false d0
            have hcy2 : wr.cell? ⟨g, 2, none⟩ = some (.slice Ao xs.length co) := (blk_cell HR.out.blk 2).trans rfl
            have hcy3 : wr.cell? ⟨g, 3, none⟩ = some (.slice Ab ys.length cb) := (blk_cell HR.out.blk 3).trans rfl
            clear hrq d0
            go_wp2
            go_quiet (fail)
            go_wp2
            go_quiet (fail)
            go_wp2
            rw [Exit.noGoto_ret]
            go_ret2
            exact ⟨_, _, rfl, Kd.R_drewN (Kd.R_drewN HR.out.o _) _, Kd.R_drewN (Kd.R_drewN HR.out.b _) _, pw_below_drewN (pw_below_drewN HB.out _) _⟩
    · rw [if_neg c3] at h
      exact absurd h (by simp)
  · rw [if_neg c2] at h
    exact absurd h (by simp)
theorem rd_name_mono (k : Nat) (l : List Int) (p : Int) (one : Bool) : LeO (rd_name k l p one) (rd_name (k + 1) l p one) := by
  unfold rd_name
  refine LeO.ite (LeO.refl _) (LeO.ite (LeO.bind (slices_Index_rune_rune.mono _ _ _) fun _ => LeO.refl _) (LeO.refl _))
theorem rd_named_mono (k : Nat) (l : List Int) (p : Int) (xs : List S38) (ys : List S41) (font : Bool) (f : Int) : LeO (rd_named k l p xs ys font f) (rd_named (k + 1) l p xs ys font f) := by
  unfold rd_named
  exact LeO.bind (rd_name_mono _ _ _ _) fun _ => LeO.ite (LeO.bind (LeO.ite (LeO.refl _) (escape_Name.mono _ _)) fun _ => LeO.refl _) (LeO.refl _)
theorem rd_escape_mono (k : Nat) (l : List Int) (p : Int) (xs : List S38) (ys : List S41) (f : Int) : LeO (rd_escape k l p xs ys f) (rd_escape (k + 1) l p xs ys f) := by
  unfold rd_escape
  repeat' first | exact rd_named_mono _ _ _ _ _ _ _ | exact LeO.refl _ | refine LeO.ite ?_ ?_
theorem rd_scan_mono : ∀ (k : Nat) (l : List Int) (p : Int) (xs : List S38) (ys : List S41), LeO (rd_scan k l p xs ys) (rd_scan (k + 1) l p xs ys)
  | 0, _, _, _, _ => fun r h => by simp [rd_scan] at h
  | k + 1, l, p, xs, ys => by
    rw [rd_scan, rd_scan]
    have ih := rd_scan_mono k l
    repeat' first | exact ih _ _ _ | exact rd_escape_mono _ _ _ _ _ _ | exact runes_Control.mono _ _ | exact LeO.refl _ | refine LeO.ite ?_ ?_ | refine LeO.bind ?_ (fun _ => ?_)
theorem escape_Scan.mono : ∀ a0 k, LeO (escape_Scan.f k a0) (escape_Scan.f (k + 1) a0) := by
  intro a0 k
  unfold escape_Scan.f
  repeat' first | exact rd_scan_mono _ _ _ _ _ | exact runes_Decode.mono _ _ | exact LeO.refl _ | exact LeO.none _ | refine LeO.ite ?_ ?_ | refine LeO.bind ?_ (fun _ => ?_)
def flongref04_Same.l0 : Nat → List (S38) → List (S38) → Int → Option (Bool)
  | 0, _, _, _ => none
  | k + 1, x0, x1, x5 => if x5 < (x0.length : Int) then (if 0 ≤ x5 then (if x5 < (x1.length : Int) then (if (!(((rd_T38 x0 x5).f0) == ((rd_T38 x1 x5).f0)) || (!(((rd_T38 x0 x5).f1) == ((rd_T38 x1 x5).f1)))) = true then (some false) else (flongref04_Same.l0 k x0 x1 (wrap64 (x5 + 1)))) else (none)) else (none)) else (some true)
def flongref04_Same.f (k : Nat) (l0 : List (S38)) (l1 : List (S38)) : Option (Bool) := if (l0.length : Int) = (l1.length : Int) then (flongref04_Same.l0 k l0 l1 0) else (some false)
theorem flongref04_Same.mono_l : ∀ k, (∀ y0 y1 y2, LeO (flongref04_Same.l0 k y0 y1 y2) (flongref04_Same.l0 (k + 1) y0 y1 y2))
  | 0 => fun _ _ _ r h => by simp [flongref04_Same.l0] at h
  | k + 1 => by
    have ih0 := flongref04_Same.mono_l k
    · intro y0 y1 y2
      unfold flongref04_Same.l0
      repeat' first
      | (with_reducible exact ih0 _ _ _)
      | (with_reducible exact LeO.refl _)
      | (with_reducible exact LeO.none _)
      | (with_reducible refine LeO.ite ?_ ?_)
      | (with_reducible refine LeO.bind ?_ (fun _ => ?_))
      | exact ih0 _ _ _
      | exact LeO.none _
      | refine LeO.ite ?_ ?_
      | refine LeO.bind ?_ (fun _ => ?_)
theorem flongref04_Same.mono : ∀ a0 a1 k, LeO (flongref04_Same.f k a0 a1) (flongref04_Same.f (k + 1) a0 a1) := by
  intro a0 a1 k
  have ih0 := flongref04_Same.mono_l k
  unfold flongref04_Same.f
  repeat' first
      | (with_reducible exact ih0 _ _ _)
      | (with_reducible exact LeO.refl _)
      | (with_reducible exact LeO.none _)
      | (with_reducible refine LeO.ite ?_ ?_)
      | (with_reducible refine LeO.bind ?_ (fun _ => ?_))
      | exact ih0 _ _ _
      | exact LeO.none _
      | refine LeO.ite ?_ ?_
      | refine LeO.bind ?_ (fun _ => ?_)
set_option maxHeartbeats 8000000 in
set_option maxRecDepth 100000 in
theorem flongref04_Same.calls (k : Nat) (A0 : Option Addr) (c0 : Nat) (l0 : List (S38)) (A1 : Option Addr) (c1 : Nat) (l1 : List (S38)) (r : Bool) (w : World) (hr0 : Kd.C k38 w A0 l0.length l0) (hc0 : l0.length ≤ c0) (hr1 : Kd.C k38 w A1 l1.length l1) (hc1 : l1.length ≤ c1) (h : flongref04_Same.f k l0 l1 = some r) :
    Calls Tryd.prog 17 #[.slice A0 l0.length c0, .slice A1 l1.length c1] w fun e w' => e = .returned (.bool r) ∧ Drawn0 w w' := by
  have hu38 := Tryd.underlying38
  have HR0 := Aside0.mk hr0
  have HC0 := Aside0.mk hc0
  clear hr0 hc0
  have HR1 := Aside0.mk hr1
  have HC1 := Aside0.mk hc1
  clear hr1 hc1
  have H : (if (l0.length : Int) = (l1.length : Int) then (flongref04_Same.l0 k l0 l1 0) else (some false)) = some r := h
  clear h
  by_cases c3 : (l0.length : Int) = (l1.length : Int)
  · rw [if_pos c3] at H
    have c3b0 : ((l0.length : Int) == (l1.length : Int)) = true := beq_iff_eq.mpr c3
    have c3b1 : ((l0.length : Int) != (l1.length : Int)) = false := bne_eq_false_iff_eq.mpr c3
    have c3b2 : (l0.length == l1.length) = true := by first | simpa using c3 | (simp at c3 ⊢; omega)
    clear c3
    have H' := Aside0.mk H
    clear H
    go_enter Tryd.func17, Tryd.ntmps17
    go_wp2
    repeat (go_quiet (fail); try go_wp2)
    go_loopg [5] k (fun kq v5 w' => ∃ (x5_1 : Int), v5 = .int .i64 x5_1 ∧ Aside0 (flongref04_Same.l0 kq l0 l1 x5_1 = some r) ∧ Aside0 (kq ≤ k) ∧ Drawn0 w w')
    case atStart => exact ⟨(0), (by first | rfl | (simp; done) | (simp [*]; done)), H', ⟨Nat.le_refl _⟩, by repeat (first | exact Drawn0.refl _ | apply Drawn0.step)⟩
    case round =>
      clear H'
      try clear c1
      try clear p2
      try clear c3
      try clear c3b0
      try clear c3b1
      try clear c3b2
      obtain ⟨x5_1, rfl, HA, HK1, ⟨m1, rfl⟩⟩ := hrel
      cases gk with
      | zero => exact absurd HA.out (by simp [flongref04_Same.l0])
      | succ k1 =>
        have H := HA.out
        clear HA
        simp only [flongref04_Same.l0] at H
        by_cases c4 : x5_1 < (l0.length : Int)
        · rw [if_pos c4] at H
          have c4b0 : decide (x5_1 < (l0.length : Int)) = true := decide_eq_true c4
          clear c4
          by_cases c5 : 0 ≤ x5_1
          · rw [if_pos c5] at H
            have c5b0 : decide (0 ≤ x5_1) = true := decide_eq_true c5
            clear c5
            by_cases c6 : x5_1 < (l1.length : Int)
            · rw [if_pos c6] at H
              have c6b0 : decide (x5_1 < (l1.length : Int)) = true := decide_eq_true c6
              clear c6
              by_cases c7 : (!(((rd_T38 l0 x5_1).f0) == ((rd_T38 l1 x5_1).f0)) || (!(((rd_T38 l0 x5_1).f1) == ((rd_T38 l1 x5_1).f1)))) = true
              · rw [if_pos c7] at H
                have c7b0 : (!(((rd_T38 l0 x5_1).f0) == ((rd_T38 l1 x5_1).f0)) || (!(((rd_T38 l0 x5_1).f1) == ((rd_T38 l1 x5_1).f1)))) = true := c7
                clear c7
                obtain rfl := Option.some.inj H
                have p124 : 0 ≤ (x5_1 : Int) := of_decide_eq_true (by first | (with_reducible assumption) | assumption)
                have q124 : x5_1 < (l0.length : Int) := of_decide_eq_true (by first | (with_reducible assumption) | assumption)
                obtain ⟨ad124, e124, hx124_0, hx124_1⟩ := at_T38 HR0.out x5_1 p124 q124
                cases e124
                replace p124 := eq_true p124
                replace q124 := eq_true q124
                have p125 : 0 ≤ (x5_1 : Int) := of_decide_eq_true (by first | (with_reducible assumption) | assumption)
                have q125 : x5_1 < (l1.length : Int) := of_decide_eq_true (by first | (with_reducible assumption) | assumption)
                obtain ⟨ad125, e125, hx125_0, hx125_1⟩ := at_T38 HR1.out x5_1 p125 q125
                cases e125
                replace p125 := eq_true p125
                replace q125 := eq_true q125
                go_wp2
                repeat (go_quiet (fail); try go_wp2)
                go_ret
                exact ⟨by first | rfl | (simp; done) | (simp [*]; done), by repeat (first | exact Drawn0.refl _ | apply Drawn0.step)⟩
              · rw [if_neg c7] at H
                have c7b0 : (!(((rd_T38 l0 x5_1).f0) == ((rd_T38 l1 x5_1).f0)) || (!(((rd_T38 l0 x5_1).f1) == ((rd_T38 l1 x5_1).f1)))) = false := by simpa using c7
                clear c7
                have H' := Aside0.mk H
                clear H
                have p124 : 0 ≤ (x5_1 : Int) := of_decide_eq_true (by first | (with_reducible assumption) | assumption)
                have q124 : x5_1 < (l0.length : Int) := of_decide_eq_true (by first | (with_reducible assumption) | assumption)
                obtain ⟨ad124, e124, hx124_0, hx124_1⟩ := at_T38 HR0.out x5_1 p124 q124
                cases e124
                replace p124 := eq_true p124
                replace q124 := eq_true q124
                have p125 : 0 ≤ (x5_1 : Int) := of_decide_eq_true (by first | (with_reducible assumption) | assumption)
                have q125 : x5_1 < (l1.length : Int) := of_decide_eq_true (by first | (with_reducible assumption) | assumption)
                obtain ⟨ad125, e125, hx125_0, hx125_1⟩ := at_T38 HR1.out x5_1 p125 q125
                cases e125
                replace p125 := eq_true p125
                replace q125 := eq_true q125
                go_wp2
                repeat (go_quiet (fail); try go_wp2)
                go_roundg k1
                case measure => have := HK1.out; omega
                case rel => exact ⟨(wrap64 (x5_1 + 1)), (by first | rfl | (simp; done) | (simp [*]; done)), H', ⟨by have := HK1.out; omega⟩, by repeat (first | exact Drawn0.refl _ | apply Drawn0.step)⟩
            · rw [if_neg c6] at H
              exact absurd H (by simp)
          · rw [if_neg c5] at H
            exact absurd H (by simp)
        · rw [if_neg c4] at H
          have c4b0 : decide (x5_1 < (l0.length : Int)) = false := decide_eq_false c4
          clear c4
          obtain rfl := Option.some.inj H
          go_wp2
          repeat (go_quiet (fail); try go_wp2)
          go_ret
          exact ⟨by first | rfl | (simp; done) | (simp [*]; done), by repeat (first | exact Drawn0.refl _ | apply Drawn0.step)⟩
  · rw [if_neg c3] at H
    have c3b0 : ((l0.length : Int) == (l1.length : Int)) = false := beq_eq_false_iff_ne.mpr c3
    have c3b1 : ((l0.length : Int) != (l1.length : Int)) = true := bne_iff_ne.mpr c3
    have c3b2 : (l0.length == l1.length) = false := by first | simpa using c3 | (simp at c3 ⊢; omega)
    obtain rfl := Option.some.inj H
    go_enter Tryd.func17, Tryd.ntmps17
    go_wp2
    repeat (go_quiet (fail); try go_wp2)
    go_ret
    exact ⟨by first | rfl | (simp; done) | (simp [*]; done), by repeat (first | exact Drawn0.refl _ | apply Drawn0.step)⟩
end Go.Proofs.YtdogljnddalgdaaDoor.A4
end
section
namespace Go.Proofs.YtdogljnddalgdaaDoor.A4
open Go.RowKit Go.Proofs.YtdogljnddalgdaaDoorW.PrintWords Go.Proofs.YtdogljnddalgdaaDoorW.PrintLast Go.Proofs.YtdogljnddalgdaaDoorW.PrintMore
attribute [local go_sem] max2_int min2_int max_two min_two max_three min_three max_four min_four   -- for this text's walks alone
set_option linter.unusedVariables false
set_option linter.unusedSimpArgs false
def escape_Quote.l0 : Nat → ByteArray → List Int → Int → Int → Option (ByteArray)
  | 0, _, _, _, _ => none
  | k + 1, x0, x3, x6, x7 => if x7 < x6 then (if 0 ≤ x7 then (if x7 < (x0.size : Int) then (if x3.length < 140737488355328 then ((some (x3 ++ [bt x0 x7] : List Int)).bind fun y126 => (if (bt x0 x7) = 92 then (if y126.length < 140737488355328 then (escape_Quote.l0 k x0 (y126 ++ [101]) x6 (wrap64 (x7 + 1))) else (none)) else (escape_Quote.l0 k x0 y126 x6 (wrap64 (x7 + 1))))) else (none)) else (none)) else (none)) else (some (strOfNums x3))
def escape_Quote.f (k : Nat) (a0 : ByteArray) : Option (ByteArray) := escape_Quote.l0 k a0 ([] : List Int) (a0.size : Int) 0
theorem escape_Quote.mono_l : ∀ k, (∀ y0 y1 y2 y3, LeO (escape_Quote.l0 k y0 y1 y2 y3) (escape_Quote.l0 (k + 1) y0 y1 y2 y3))
  | 0 => fun _ _ _ _ r h => by simp [escape_Quote.l0] at h
  | k + 1 => by
    have ih0 := escape_Quote.mono_l k
    · intro y0 y1 y2 y3
      unfold escape_Quote.l0
      repeat' first
      | (with_reducible exact ih0 _ _ _ _)
      | (with_reducible exact LeO.refl _)
      | (with_reducible exact LeO.none _)
      | (with_reducible refine LeO.ite ?_ ?_)
      | (with_reducible refine LeO.bind ?_ (fun _ => ?_))
      | exact ih0 _ _ _ _
      | exact LeO.none _
      | refine LeO.ite ?_ ?_
      | refine LeO.bind ?_ (fun _ => ?_)
theorem escape_Quote.mono : ∀ a0 k, LeO (escape_Quote.f k a0) (escape_Quote.f (k + 1) a0) := by
  intro a0 k
  have ih0 := escape_Quote.mono_l k
  unfold escape_Quote.f
  repeat' first
      | (with_reducible exact ih0 _ _ _ _)
      | (with_reducible exact LeO.refl _)
      | (with_reducible exact LeO.none _)
      | (with_reducible refine LeO.ite ?_ ?_)
      | (with_reducible refine LeO.bind ?_ (fun _ => ?_))
      | exact ih0 _ _ _ _
      | exact LeO.none _
      | refine LeO.ite ?_ ?_
      | refine LeO.bind ?_ (fun _ => ?_)
set_option maxHeartbeats 8000000 in
set_option maxRecDepth 100000 in
theorem escape_Quote.calls (k : Nat) (a0 : ByteArray) (r : ByteArray) (w : World) (h : escape_Quote.f k a0 = some r) :
    Calls Tryd.prog 23 #[.string a0] w fun e w' => e = .returned (.string r) ∧ Below w.heap.size w w' := by
  have HB := Aside0.mk (Below.refl w.heap.size w)
  have H : (escape_Quote.l0 k a0 ([] : List Int) (a0.size : Int) 0) = some r := h
  clear h
  have H' := Aside0.mk H
  clear H
  go_enter Tryd.func23, Tryd.ntmps23
  go_wp2
  go_loopg [3, 7] k (fun kq v3 v7 w' => ∃ (x3_1 : List Int) (x7_1 : Int), v7 = .int .i64 x7_1 ∧ Aside0 (escape_Quote.l0 kq a0 x3_1 (a0.size : Int) x7_1 = some r) ∧ Aside0 (kq ≤ k) ∧ Aside0 (Kd.R (Kd.int .u8) 5 w' w.heap.size (fun _ => True) v3 x3_1) ∧ Aside0 (Below w.heap.size w w'))
  case atStart => exact ⟨(([] : List Int)), (0), (by first | rfl | (simp; done) | (simp [*]; done)), H', ⟨Nat.le_refl _⟩, ⟨by first | exact Kd.R_nil _ _ _ _ _ | exact Kd.N_nil _ _ _ _ _ | exact Kd.V_nil _ _ _ _ _ | exact Kd.Q_nil _ _ _ _ _ | exact Kd.S_nil _ _ _ _ _⟩, ⟨by repeat (first | (with_reducible first | exact HB.out | apply below_alloc | apply pw_below_drewN | apply below_drew1) | exact HB.out)⟩⟩
  case round =>
    clear H'
    obtain ⟨x3_1, x7_1, rfl, HA, HK1, HO_3, HB⟩ := hrel
    cases gk with
    | zero => exact absurd HA.out (by simp [escape_Quote.l0])
    | succ k1 =>
      have H := HA.out
      clear HA
      simp only [escape_Quote.l0] at H
      by_cases c2 : x7_1 < (a0.size : Int)
      · rw [if_pos c2] at H
        have c2b0 : decide (x7_1 < (a0.size : Int)) = true := decide_eq_true c2
        clear c2
        by_cases c3 : 0 ≤ x7_1
        · rw [if_pos c3] at H
          have c3b0 : decide (0 ≤ x7_1) = true := decide_eq_true c3
          clear c3
          by_cases c4 : x7_1 < (a0.size : Int)
          · rw [if_pos c4] at H
            have c4b0 : decide (x7_1 < (a0.size : Int)) = true := decide_eq_true c4
            clear c4
            by_cases c6 : x3_1.length < 140737488355328
            · rw [if_pos c6] at H
              have LMc6 := Aside0.mk c6
              clear c6
              obtain ⟨y126, hy126⟩ : ∃ y_ : List Int, y_ = (x3_1 ++ [bt a0 x7_1]) := ⟨_, rfl⟩
              replace H : (if (bt a0 x7_1) = 92 then (if y126.length < 140737488355328 then (escape_Quote.l0 k1 a0 (y126 ++ [101]) (a0.size : Int) (wrap64 (x7_1 + 1))) else (none)) else (escape_Quote.l0 k1 a0 y126 (a0.size : Int) (wrap64 (x7_1 + 1)))) = some r := by first | (rw [hy126]; with_reducible exact H) | (have H2_ := (Option.bind_some _ _).symm.trans H; rw [hy126]; with_reducible exact H2_) | (have H2_ := (Option.bind_some _ _).symm.trans H; with_reducible exact H2_) | with_reducible exact H | (rw [hy126]; exact H) | exact H
              have Ny126 := Aside0.mk hy126
              clear hy126
              by_cases c8 : (bt a0 x7_1) = 92
              · rw [if_pos c8] at H
                have c8b0 : ((bt a0 x7_1) == 92) = true := beq_iff_eq.mpr c8
                have c8b1 : ((bt a0 x7_1) != 92) = false := bne_eq_false_iff_eq.mpr c8
                clear c8
                by_cases c9 : y126.length < 140737488355328
                · rw [if_pos c9] at H
                  have LMc9 := Aside0.mk c9
                  clear c9
                  obtain ⟨y129, hy129⟩ : ∃ y_ : List Int, y_ = (y126 ++ [101]) := ⟨_, rfl⟩
                  replace H : (escape_Quote.l0 k1 a0 y129 (a0.size : Int) (wrap64 (x7_1 + 1))) = some r := by first | (rw [hy129]; with_reducible exact H) | (have H2_ := (Option.bind_some _ _).symm.trans H; rw [hy129]; with_reducible exact H2_) | (have H2_ := (Option.bind_some _ _).symm.trans H; with_reducible exact H2_) | with_reducible exact H | (rw [hy129]; exact H) | exact H
                  have Ny129 := Aside0.mk hy129
                  clear hy129
                  have H' := Aside0.mk H
                  clear H
                  have p5 : 0 ≤ (x7_1 : Int) := of_decide_eq_true (by first | (with_reducible assumption) | assumption)
                  have q5 : x7_1 < (a0.size : Int) := of_decide_eq_true (by first | (with_reducible assumption) | assumption)
                  have hx5 := bt_at a0 x7_1
                  replace p5 := eq_true p5
                  replace q5 := eq_true q5
                  go_wp2_with (first | ((with_reducible refine gate_builtin (b := .append) (xs := #[.tmp 10, .tmp 14]) rfl ?_); at_builtin; refine Kd.R_append (Kd.int .u8) (w0 := w) w.heap.size rfl (.tmp 10) (.tmp 14) 36 5 (.int .u8 0) 1 rfl Tryd.underlying36 info5 rfl (by decide) (by omega) u3 x3_1 (bt a0 x7_1) [.int .u8 (bt a0 x7_1)] (fun _ => True) (fun _ => False) rfl rfl ?aP (fun _ hk => hk.elim) ?aF ?aO ?aB ?aS ?aL ?_; (case aP => exact rfl); (case aB => exact (by repeat (first | (with_reducible first | exact HB.out | apply below_alloc | apply pw_below_drewN | apply below_drew1) | exact HB.out))); (case aF => exact (fun _ _ => trivial)); (case aO => exact (by (with_reducible repeat (first | apply Kd.R_alloc | apply Kd.R_drewN | apply Kd.R_drew)); exact HO_3.out)); (case aS => exact (below_size (by repeat (first | (with_reducible first | exact HB.out | apply below_alloc | apply pw_below_drewN | apply below_drew1) | exact HB.out)))); (case aL => have := LMc6.out; omega); intro v127 w10 ho hb hg hat; rw [← Ny126.out] at ho; have n0_ := Aside0.mk (hb); have n1_ := Aside0.mk (ho); clear HB; clear HO_3; have HB := n0_; have HO128 := n1_; clear n0_ n1_; clear ho hb hg hat; have p7 : 0 ≤ (x7_1 : Int) := of_decide_eq_true (by first | (with_reducible assumption) | assumption); have q7 : x7_1 < (a0.size : Int) := of_decide_eq_true (by first | (with_reducible assumption) | assumption); have hx7 := bt_at a0 x7_1; replace p7 := eq_true p7; replace q7 := eq_true q7) | ((with_reducible refine gate_builtin (b := .append) (xs := #[.tmp 20, .tmp 21]) rfl ?_); at_builtin; refine Kd.R_append (Kd.int .u8) (w0 := w) w.heap.size rfl (.tmp 20) (.tmp 21) 36 5 (.int .u8 0) 1 rfl Tryd.underlying36 info5 rfl (by decide) (by omega) v127 y126 101 [.int .u8 101] (fun _ => True) (fun _ => False) rfl rfl ?aP (fun _ hk => hk.elim) ?aF ?aO ?aB ?aS ?aL ?_; (case aP => exact rfl); (case aB => exact (by repeat (first | (with_reducible first | exact HB.out | apply below_alloc | apply pw_below_drewN | apply below_drew1) | exact HB.out))); (case aF => exact (fun _ _ => trivial)); (case aO => exact (by (with_reducible repeat (first | apply Kd.R_alloc | apply Kd.R_drewN | apply Kd.R_drew)); exact HO128.out)); (case aS => exact (below_size (by repeat (first | (with_reducible first | exact HB.out | apply below_alloc | apply pw_below_drewN | apply below_drew1) | exact HB.out)))); (case aL => have := LMc9.out; omega); intro v130 w11 ho hb hg hat; rw [← Ny129.out] at ho; have n0_ := Aside0.mk (hb); have n1_ := Aside0.mk (ho); clear HB; clear HO128; have HB := n0_; have HO131 := n1_; clear n0_ n1_; clear ho hb hg hat))
                  go_roundg k1
                  case measure => have := HK1.out; omega
                  case rel => exact ⟨(y129), (wrap64 (x7_1 + 1)), (by first | rfl | (simp; done) | (simp [*]; done)), H', ⟨by have := HK1.out; omega⟩, ⟨by (with_reducible repeat (first | apply Kd.R_alloc | apply Kd.R_drewN | apply Kd.R_drew)); exact HO131.out⟩, ⟨by repeat (first | (with_reducible first | exact HB.out | apply below_alloc | apply pw_below_drewN | apply below_drew1) | exact HB.out)⟩⟩
                · rw [if_neg c9] at H
                  exact absurd H (by simp)
              · rw [if_neg c8] at H
                have c8b0 : ((bt a0 x7_1) == 92) = false := beq_eq_false_iff_ne.mpr c8
                have c8b1 : ((bt a0 x7_1) != 92) = true := bne_iff_ne.mpr c8
                have H' := Aside0.mk H
                clear H
                have p5 : 0 ≤ (x7_1 : Int) := of_decide_eq_true (by first | (with_reducible assumption) | assumption)
                have q5 : x7_1 < (a0.size : Int) := of_decide_eq_true (by first | (with_reducible assumption) | assumption)
                have hx5 := bt_at a0 x7_1
                replace p5 := eq_true p5
                replace q5 := eq_true q5
                go_wp2_with (first | ((with_reducible refine gate_builtin (b := .append) (xs := #[.tmp 10, .tmp 14]) rfl ?_); at_builtin; refine Kd.R_append (Kd.int .u8) (w0 := w) w.heap.size rfl (.tmp 10) (.tmp 14) 36 5 (.int .u8 0) 1 rfl Tryd.underlying36 info5 rfl (by decide) (by omega) u3 x3_1 (bt a0 x7_1) [.int .u8 (bt a0 x7_1)] (fun _ => True) (fun _ => False) rfl rfl ?aP (fun _ hk => hk.elim) ?aF ?aO ?aB ?aS ?aL ?_; (case aP => exact rfl); (case aB => exact (by repeat (first | (with_reducible first | exact HB.out | apply below_alloc | apply pw_below_drewN | apply below_drew1) | exact HB.out))); (case aF => exact (fun _ _ => trivial)); (case aO => exact (by (with_reducible repeat (first | apply Kd.R_alloc | apply Kd.R_drewN | apply Kd.R_drew)); exact HO_3.out)); (case aS => exact (below_size (by repeat (first | (with_reducible first | exact HB.out | apply below_alloc | apply pw_below_drewN | apply below_drew1) | exact HB.out)))); (case aL => have := LMc6.out; omega); intro v127 w12 ho hb hg hat; rw [← Ny126.out] at ho; have n0_ := Aside0.mk (hb); have n1_ := Aside0.mk (ho); clear HB; clear HO_3; have HB := n0_; have HO128 := n1_; clear n0_ n1_; clear ho hb hg hat; have p7 : 0 ≤ (x7_1 : Int) := of_decide_eq_true (by first | (with_reducible assumption) | assumption); have q7 : x7_1 < (a0.size : Int) := of_decide_eq_true (by first | (with_reducible assumption) | assumption); have hx7 := bt_at a0 x7_1; replace p7 := eq_true p7; replace q7 := eq_true q7))
                go_roundg k1
                case measure => have := HK1.out; omega
                case rel => exact ⟨(y126), (wrap64 (x7_1 + 1)), (by first | rfl | (simp; done) | (simp [*]; done)), H', ⟨by have := HK1.out; omega⟩, ⟨by (with_reducible repeat (first | apply Kd.R_alloc | apply Kd.R_drewN | apply Kd.R_drew)); exact HO128.out⟩, ⟨by repeat (first | (with_reducible first | exact HB.out | apply below_alloc | apply pw_below_drewN | apply below_drew1) | exact HB.out)⟩⟩
            · rw [if_neg c6] at H
              exact absurd H (by simp)
          · rw [if_neg c4] at H
            exact absurd H (by simp)
        · rw [if_neg c3] at H
          exact absurd H (by simp)
      · rw [if_neg c2] at H
        have c2b0 : decide (x7_1 < (a0.size : Int)) = false := decide_eq_false c2
        clear c2
        obtain rfl := Option.some.inj H
        have hcv13 := own_string (P := Tryd.prog) Tryd.underlying36 Tryd.underlying5 Tryd.underlying9 (Kd.own_of_R HO_3.out)
        go_wp2
        go_ret
        exact ⟨by first | rfl | (simp [errW_none, errW_some] <;> rfl) | (simp [*, errW_none, errW_some] <;> rfl), by repeat (first | (with_reducible first | exact HB.out | apply below_alloc | apply pw_below_drewN | apply below_drew1) | exact HB.out)⟩
def flonglaw04_known.f (k : Nat)  : Option (Bool) := (escape_Scan.f k (⟨#[97, 92, 40, 101, 109, 98]⟩ : ByteArray)).bind fun bt132 => ((flongref04_Same.f k bt132.1 (([(⟨1, 97⟩ : S38), (⟨1, 8212⟩ : S38), (⟨1, 98⟩ : S38)] : List (S38)))).bind fun t141 => (if t141 = true then (if (bt132.2.length : Int) = 0 then ((escape_Quote.f k (⟨#[92]⟩ : ByteArray)).bind fun t142 => (some (t142.toList == ([92, 101] : List UInt8)))) else (some false)) else (some false)))
theorem flonglaw04_known.mono : ∀ k, LeO (flonglaw04_known.f k ) (flonglaw04_known.f (k + 1) ) := by
  intro  k
  unfold flonglaw04_known.f
  repeat' first
      | (with_reducible exact escape_Quote.mono _ _)
      | (with_reducible exact escape_Scan.mono _ _)
      | (with_reducible exact flongref04_Same.mono _ _ _)
      | (with_reducible exact LeO.refl _)
      | (with_reducible exact LeO.none _)
      | (with_reducible refine LeO.ite ?_ ?_)
      | (with_reducible refine LeO.bind ?_ (fun _ => ?_))
      | exact escape_Quote.mono _ _
      | exact escape_Scan.mono _ _
      | exact flongref04_Same.mono _ _ _
      | exact LeO.none _
      | refine LeO.ite ?_ ?_
      | refine LeO.bind ?_ (fun _ => ?_)
set_option maxHeartbeats 8000000 in
set_option maxRecDepth 100000 in
theorem flonglaw04_known.calls (k : Nat)  (r : Bool) (w : World) (hG : GL w) (h : flonglaw04_known.f k  = some r) :
    Calls Tryd.prog 14 #[] w fun e w' => e = .returned (.bool r) ∧ Below w.heap.size w w' := by
  have hu38 := Tryd.underlying38
  have HG := Aside0.mk hG
  clear hG
  have HB := Aside0.mk (Below.refl w.heap.size w)
  have H : ((escape_Scan.f k (⟨#[97, 92, 40, 101, 109, 98]⟩ : ByteArray)).bind fun bt132 => ((flongref04_Same.f k bt132.1 (([(⟨1, 97⟩ : S38), (⟨1, 8212⟩ : S38), (⟨1, 98⟩ : S38)] : List (S38)))).bind fun t141 => (if t141 = true then (if (bt132.2.length : Int) = 0 then ((escape_Quote.f k (⟨#[92]⟩ : ByteArray)).bind fun t142 => (some (t142.toList == ([92, 101] : List UInt8)))) else (some false)) else (some false)))) = some r := h
  clear h
  replace H := Option.bind_eq_some_iff.mp H
  obtain ⟨⟨t132, t133⟩, A10, H⟩ := H
  replace H : ((flongref04_Same.f k t132 (([(⟨1, 97⟩ : S38), (⟨1, 8212⟩ : S38), (⟨1, 98⟩ : S38)] : List (S38)))).bind fun t141 => (if t141 = true then (if (t133.length : Int) = 0 then ((escape_Quote.f k (⟨#[92]⟩ : ByteArray)).bind fun t142 => (some (t142.toList == ([92, 101] : List UInt8)))) else (some false)) else (some false))) = some r := H
  have A1 := Aside0.mk A10
  clear A10
  obtain ⟨y138, hy138⟩ : ∃ y_ : List (S38), y_ = (([(⟨1, 97⟩ : S38), (⟨1, 8212⟩ : S38), (⟨1, 98⟩ : S38)] : List (S38))) := ⟨_, rfl⟩
  replace H : ((flongref04_Same.f k t132 y138).bind fun t141 => (if t141 = true then (if (t133.length : Int) = 0 then ((escape_Quote.f k (⟨#[92]⟩ : ByteArray)).bind fun t142 => (some (t142.toList == ([92, 101] : List UInt8)))) else (some false)) else (some false))) = some r := by first | (rw [hy138]; with_reducible exact H) | (have H2_ := (Option.bind_some _ _).symm.trans H; rw [hy138]; with_reducible exact H2_) | (have H2_ := (Option.bind_some _ _).symm.trans H; with_reducible exact H2_) | with_reducible exact H | (rw [hy138]; exact H) | exact H
  have Ny138 := Aside0.mk hy138
  clear hy138
  replace H := Option.bind_eq_some_iff.mp H
  obtain ⟨t141, A20, H⟩ := H
  replace H : (if t141 = true then (if (t133.length : Int) = 0 then ((escape_Quote.f k (⟨#[92]⟩ : ByteArray)).bind fun t142 => (some (t142.toList == ([92, 101] : List UInt8)))) else (some false)) else (some false)) = some r := H
  have A2 := Aside0.mk A20
  clear A20
  by_cases c3 : t141 = true
  · subst c3
    have H1 : (if (t133.length : Int) = 0 then ((escape_Quote.f k (⟨#[92]⟩ : ByteArray)).bind fun t142 => (some (t142.toList == ([92, 101] : List UInt8)))) else (some false)) = some r := by rw [if_pos rfl] at H; exact H
    clear H
    have H := H1
    clear H1
    by_cases c4 : (t133.length : Int) = 0
    · rw [if_pos c4] at H
      have c4b0 : ((t133.length : Int) == 0) = true := beq_iff_eq.mpr c4
      have c4b1 : ((t133.length : Int) != 0) = false := bne_eq_false_iff_eq.mpr c4
      clear c4
      replace H := Option.bind_eq_some_iff.mp H
      obtain ⟨t142, A50, H⟩ := H
      replace H : (some (t142.toList == ([92, 101] : List UInt8))) = some r := H
      have A5 := Aside0.mk A50
      clear A50
      obtain rfl := Option.some.inj H
      go_enter Tryd.func14, Tryd.ntmps14
      go_wp2_with (first | ((with_reducible refine gate_callee (f := 15) rfl ?_); refine goesL_ (some 4) rfl rfl Tryd.func15 (by kernel_rfl) rfl #[.string (⟨#[97, 92, 40, 101, 109, 98]⟩ : ByteArray)] rfl (by (try simp only [List.map_toArray, List.map_cons, List.map_nil]); first | done | rfl | (simp only [List.length_drop, List.length_take]; rfl)) ?_; (with_reducible refine (escape_Scan.calls k (⟨#[97, 92, 40, 101, 109, 98]⟩ : ByteArray) t132 t133 _ ?side1 A1.out).mono ?_); (case side1 => exact GL.below HG.out (by repeat (first | (with_reducible first | exact HB.out | apply below_alloc | apply pw_below_drewN | apply below_drew1) | exact HB.out))); rintro e w6 ⟨v134, v136, rfl, ho0, ho1, hb⟩; refine ⟨_, rfl, ?_⟩; have n0_ := Aside0.mk (Kd.R_lower ho0 (below_size (by repeat (first | (with_reducible first | exact HB.out | apply below_alloc | apply pw_below_drewN | apply below_drew1) | exact HB.out)))); have n1_ := Aside0.mk (Kd.R_lower ho1 (below_size (by repeat (first | (with_reducible first | exact HB.out | apply below_alloc | apply pw_below_drewN | apply below_drew1) | exact HB.out)))); have n2_ := Aside0.mk (below_step (by repeat (first | (with_reducible first | exact HB.out | apply below_alloc | apply pw_below_drewN | apply below_drew1) | exact HB.out)) hb); clear HB; have HO135 := n0_; have HO137 := n1_; have HB := n2_; clear n0_ n1_ n2_; (try clear hb); (try clear hb2); (try clear hk); (try clear hi); (try clear ho0); (try clear ho1)) | ((with_reducible refine gate_dst (N := 11) rfl ?_); (try (refine gate_guard (by rfl) ?_; dsimp only)); refine Kd.R_lit k38 _ 38 ?hg (N := 11) ?hd (xs := ([(⟨1, 97⟩ : S38), (⟨1, 8212⟩ : S38), (⟨1, 98⟩ : S38)] : List (S38))) (inner := [.int .i64 1, .int .i32 97, .int .i64 1, .int .i32 8212, .int .i64 1, .int .i32 98]) (ok := fun _ => True) (okp := fun _ => True) ?hr ?hp (fun _ hk => hk) trivial (Below.refl _ _) (Nat.le_refl _) (by simp) ?_; (case hd => rfl); (case hg => rfl); (case hr => first | (go_simp; done) | (go_simp; rfl)); (case hp => exact (Reps.c2 (show Kd.M k38 _ _ _ (⟨1, 97⟩ : S38) [.int .i64 1, .int .i32 97] from (k38_mkM _ _ _ (⟨1, 97⟩ : S38) )) (Reps.c2 (show Kd.M k38 _ _ _ (⟨1, 8212⟩ : S38) [.int .i64 1, .int .i32 8212] from (k38_mkM _ _ _ (⟨1, 8212⟩ : S38) )) (Reps.c2 (show Kd.M k38 _ _ _ (⟨1, 98⟩ : S38) [.int .i64 1, .int .i32 98] from (k38_mkM _ _ _ (⟨1, 98⟩ : S38) )) (Reps.none _ _))))); intro v139 w7 ho8 hb hg_ hnew_; clear hg_ hnew_; (first | rw [← Ny138.out] at ho8 | (simp only [Int.reduceToNat] at ho8; rw [← Ny138.out] at ho8)); have n0_ := Aside0.mk (Kd.R_elder' (by (with_reducible repeat (first | apply Kd.R_alloc | apply Kd.R_drewN | apply Kd.R_drew)); exact HO135.out) (Kd.R_base ho8) hb); have n1_ := Aside0.mk (Kd.R_below (by (with_reducible repeat (first | apply Kd.R_alloc | apply Kd.R_drewN | apply Kd.R_drew)); exact HO137.out) hb); have n2_ := Aside0.mk (Kd.R_lower (Kd.R_new' ho8 (Kd.R_lt (by (with_reducible repeat (first | apply Kd.R_alloc | apply Kd.R_drewN | apply Kd.R_drew)); exact HO135.out))) (below_size (by repeat (first | (with_reducible first | exact HB.out | apply below_alloc | apply pw_below_drewN | apply below_drew1) | exact HB.out)))); have n3_ := Aside0.mk (below_step (by repeat (first | (with_reducible first | exact HB.out | apply below_alloc | apply pw_below_drewN | apply below_drew1) | exact HB.out)) hb); clear HO135; clear HO137; clear HB; have HO135 := n0_; have HO137 := n1_; have HO140 := n2_; have HB := n3_; clear n0_ n1_ n2_ n3_; clear hb ho8; obtain ⟨Ao9, co9, eo9⟩ := Kd.R_slice HO135.out; subst eo9; obtain ⟨Ao10, co10, eo10⟩ := Kd.R_slice HO140.out; subst eo10) | ((with_reducible refine gate_callee (f := 17) rfl ?_); refine goesL_ (some 12) rfl rfl Tryd.func17 (by kernel_rfl) rfl #[.slice Ao9 t132.length co9, .slice Ao10 y138.length co10] rfl (by (try simp only [List.map_toArray, List.map_cons, List.map_nil]); first | done | rfl | (simp only [List.length_drop, List.length_take]; rfl)) ?_; (with_reducible refine (flongref04_Same.calls k _ _ t132 _ _ y138 true _ ?side1 ?side2 ?side3 ?side4 A2.out).mono ?_); (case side1 => repeat (first | exact (Kd.R_reads' HO135.out).2.2 | (with_reducible refine Kd.C_alloc ?_ _) | (with_reducible refine Kd.C_drewN ?_ _) | (with_reducible refine Kd.C_drew ?_))); (case side2 => exact (Kd.R_reads' HO135.out).2.1); (case side3 => repeat (first | exact (Kd.R_reads' HO140.out).2.2 | (with_reducible refine Kd.C_alloc ?_ _) | (with_reducible refine Kd.C_drewN ?_ _) | (with_reducible refine Kd.C_drew ?_))); (case side4 => exact (Kd.R_reads' HO140.out).2.1); rintro e w' ⟨rfl, ⟨nd, rfl⟩⟩; refine ⟨_, rfl, ?_⟩; obtain ⟨Ao11, co11, eo11⟩ := Kd.R_slice HO137.out; subst eo11) | (go_at_call 23; (with_reducible refine (escape_Quote.calls k (⟨#[92]⟩ : ByteArray) t142 _ A5.out).mono ?_); rintro e w12 ⟨rfl, hb⟩; have n0_ := Aside0.mk (Kd.R_below (by (with_reducible repeat (first | apply Kd.R_alloc | apply Kd.R_drewN | apply Kd.R_drew)); exact HO135.out) hb); have n1_ := Aside0.mk (Kd.R_below (by (with_reducible repeat (first | apply Kd.R_alloc | apply Kd.R_drewN | apply Kd.R_drew)); exact HO137.out) hb); have n2_ := Aside0.mk (Kd.R_below (by (with_reducible repeat (first | apply Kd.R_alloc | apply Kd.R_drewN | apply Kd.R_drew)); exact HO140.out) hb); have n3_ := Aside0.mk (below_step (by repeat (first | (with_reducible first | exact HB.out | apply below_alloc | apply pw_below_drewN | apply below_drew1) | exact HB.out)) hb); clear HO135; clear HO137; clear HO140; clear HB; have HO135 := n0_; have HO137 := n1_; have HO140 := n2_; have HB := n3_; clear n0_ n1_ n2_ n3_; (try clear hb); (try clear hb2); (try clear hk); (try clear hi)))
      go_ret
      exact ⟨by first | rfl | (simp [errW_none, errW_some] <;> rfl) | (simp [*, errW_none, errW_some] <;> rfl), by repeat (first | (with_reducible first | exact HB.out | apply below_alloc | apply pw_below_drewN | apply below_drew1) | exact HB.out)⟩
    · rw [if_neg c4] at H
      have c4b0 : ((t133.length : Int) == 0) = false := beq_eq_false_iff_ne.mpr c4
      have c4b1 : ((t133.length : Int) != 0) = true := bne_iff_ne.mpr c4
      have c4b2 : ¬ (t133 = []) := fun h_ => c4 (by rw [h_]; rfl)
      obtain rfl := Option.some.inj H
      go_enter Tryd.func14, Tryd.ntmps14
      go_wp2_with (first | ((with_reducible refine gate_callee (f := 15) rfl ?_); refine goesL_ (some 4) rfl rfl Tryd.func15 (by kernel_rfl) rfl #[.string (⟨#[97, 92, 40, 101, 109, 98]⟩ : ByteArray)] rfl (by (try simp only [List.map_toArray, List.map_cons, List.map_nil]); first | done | rfl | (simp only [List.length_drop, List.length_take]; rfl)) ?_; (with_reducible refine (escape_Scan.calls k (⟨#[97, 92, 40, 101, 109, 98]⟩ : ByteArray) t132 t133 _ ?side1 A1.out).mono ?_); (case side1 => exact GL.below HG.out (by repeat (first | (with_reducible first | exact HB.out | apply below_alloc | apply pw_below_drewN | apply below_drew1) | exact HB.out))); rintro e w13 ⟨v134, v136, rfl, ho0, ho1, hb⟩; refine ⟨_, rfl, ?_⟩; have n0_ := Aside0.mk (Kd.R_lower ho0 (below_size (by repeat (first | (with_reducible first | exact HB.out | apply below_alloc | apply pw_below_drewN | apply below_drew1) | exact HB.out)))); have n1_ := Aside0.mk (Kd.R_lower ho1 (below_size (by repeat (first | (with_reducible first | exact HB.out | apply below_alloc | apply pw_below_drewN | apply below_drew1) | exact HB.out)))); have n2_ := Aside0.mk (below_step (by repeat (first | (with_reducible first | exact HB.out | apply below_alloc | apply pw_below_drewN | apply below_drew1) | exact HB.out)) hb); clear HB; have HO135 := n0_; have HO137 := n1_; have HB := n2_; clear n0_ n1_ n2_; (try clear hb); (try clear hb2); (try clear hk); (try clear hi); (try clear ho0); (try clear ho1)) | ((with_reducible refine gate_dst (N := 11) rfl ?_); (try (refine gate_guard (by rfl) ?_; dsimp only)); refine Kd.R_lit k38 _ 38 ?hg (N := 11) ?hd (xs := ([(⟨1, 97⟩ : S38), (⟨1, 8212⟩ : S38), (⟨1, 98⟩ : S38)] : List (S38))) (inner := [.int .i64 1, .int .i32 97, .int .i64 1, .int .i32 8212, .int .i64 1, .int .i32 98]) (ok := fun _ => True) (okp := fun _ => True) ?hr ?hp (fun _ hk => hk) trivial (Below.refl _ _) (Nat.le_refl _) (by simp) ?_; (case hd => rfl); (case hg => rfl); (case hr => first | (go_simp; done) | (go_simp; rfl)); (case hp => exact (Reps.c2 (show Kd.M k38 _ _ _ (⟨1, 97⟩ : S38) [.int .i64 1, .int .i32 97] from (k38_mkM _ _ _ (⟨1, 97⟩ : S38) )) (Reps.c2 (show Kd.M k38 _ _ _ (⟨1, 8212⟩ : S38) [.int .i64 1, .int .i32 8212] from (k38_mkM _ _ _ (⟨1, 8212⟩ : S38) )) (Reps.c2 (show Kd.M k38 _ _ _ (⟨1, 98⟩ : S38) [.int .i64 1, .int .i32 98] from (k38_mkM _ _ _ (⟨1, 98⟩ : S38) )) (Reps.none _ _))))); intro v139 w14 ho15 hb hg_ hnew_; clear hg_ hnew_; (first | rw [← Ny138.out] at ho15 | (simp only [Int.reduceToNat] at ho15; rw [← Ny138.out] at ho15)); have n0_ := Aside0.mk (Kd.R_elder' (by (with_reducible repeat (first | apply Kd.R_alloc | apply Kd.R_drewN | apply Kd.R_drew)); exact HO135.out) (Kd.R_base ho15) hb); have n1_ := Aside0.mk (Kd.R_below (by (with_reducible repeat (first | apply Kd.R_alloc | apply Kd.R_drewN | apply Kd.R_drew)); exact HO137.out) hb); have n2_ := Aside0.mk (Kd.R_lower (Kd.R_new' ho15 (Kd.R_lt (by (with_reducible repeat (first | apply Kd.R_alloc | apply Kd.R_drewN | apply Kd.R_drew)); exact HO135.out))) (below_size (by repeat (first | (with_reducible first | exact HB.out | apply below_alloc | apply pw_below_drewN | apply below_drew1) | exact HB.out)))); have n3_ := Aside0.mk (below_step (by repeat (first | (with_reducible first | exact HB.out | apply below_alloc | apply pw_below_drewN | apply below_drew1) | exact HB.out)) hb); clear HO135; clear HO137; clear HB; have HO135 := n0_; have HO137 := n1_; have HO140 := n2_; have HB := n3_; clear n0_ n1_ n2_ n3_; clear hb ho15; obtain ⟨Ao16, co16, eo16⟩ := Kd.R_slice HO135.out; subst eo16; obtain ⟨Ao17, co17, eo17⟩ := Kd.R_slice HO140.out; subst eo17) | ((with_reducible refine gate_callee (f := 17) rfl ?_); refine goesL_ (some 12) rfl rfl Tryd.func17 (by kernel_rfl) rfl #[.slice Ao16 t132.length co16, .slice Ao17 y138.length co17] rfl (by (try simp only [List.map_toArray, List.map_cons, List.map_nil]); first | done | rfl | (simp only [List.length_drop, List.length_take]; rfl)) ?_; (with_reducible refine (flongref04_Same.calls k _ _ t132 _ _ y138 true _ ?side1 ?side2 ?side3 ?side4 A2.out).mono ?_); (case side1 => repeat (first | exact (Kd.R_reads' HO135.out).2.2 | (with_reducible refine Kd.C_alloc ?_ _) | (with_reducible refine Kd.C_drewN ?_ _) | (with_reducible refine Kd.C_drew ?_))); (case side2 => exact (Kd.R_reads' HO135.out).2.1); (case side3 => repeat (first | exact (Kd.R_reads' HO140.out).2.2 | (with_reducible refine Kd.C_alloc ?_ _) | (with_reducible refine Kd.C_drewN ?_ _) | (with_reducible refine Kd.C_drew ?_))); (case side4 => exact (Kd.R_reads' HO140.out).2.1); rintro e w' ⟨rfl, ⟨nd, rfl⟩⟩; refine ⟨_, rfl, ?_⟩; obtain ⟨Ao18, co18, eo18⟩ := Kd.R_slice HO137.out; subst eo18))
      go_ret
      exact ⟨by first | rfl | (simp [errW_none, errW_some] <;> rfl) | (simp [*, errW_none, errW_some] <;> rfl), by repeat (first | (with_reducible first | exact HB.out | apply below_alloc | apply pw_below_drewN | apply below_drew1) | exact HB.out)⟩
  · replace c3 := Bool.eq_false_iff.mpr c3
    subst c3
    have H1 : (some false) = some r := by rw [if_neg (show ¬ (false = true) by decide)] at H; exact H
    clear H
    have H := H1
    clear H1
    obtain rfl := Option.some.inj H
    go_enter Tryd.func14, Tryd.ntmps14
    go_wp2_with (first | ((with_reducible refine gate_callee (f := 15) rfl ?_); refine goesL_ (some 4) rfl rfl Tryd.func15 (by kernel_rfl) rfl #[.string (⟨#[97, 92, 40, 101, 109, 98]⟩ : ByteArray)] rfl (by (try simp only [List.map_toArray, List.map_cons, List.map_nil]); first | done | rfl | (simp only [List.length_drop, List.length_take]; rfl)) ?_; (with_reducible refine (escape_Scan.calls k (⟨#[97, 92, 40, 101, 109, 98]⟩ : ByteArray) t132 t133 _ ?side1 A1.out).mono ?_); (case side1 => exact GL.below HG.out (by repeat (first | (with_reducible first | exact HB.out | apply below_alloc | apply pw_below_drewN | apply below_drew1) | exact HB.out))); rintro e w19 ⟨v134, v136, rfl, ho0, ho1, hb⟩; refine ⟨_, rfl, ?_⟩; have n0_ := Aside0.mk (Kd.R_lower ho0 (below_size (by repeat (first | (with_reducible first | exact HB.out | apply below_alloc | apply pw_below_drewN | apply below_drew1) | exact HB.out)))); have n1_ := Aside0.mk (Kd.R_lower ho1 (below_size (by repeat (first | (with_reducible first | exact HB.out | apply below_alloc | apply pw_below_drewN | apply below_drew1) | exact HB.out)))); have n2_ := Aside0.mk (below_step (by repeat (first | (with_reducible first | exact HB.out | apply below_alloc | apply pw_below_drewN | apply below_drew1) | exact HB.out)) hb); clear HB; have HO135 := n0_; have HO137 := n1_; have HB := n2_; clear n0_ n1_ n2_; (try clear hb); (try clear hb2); (try clear hk); (try clear hi); (try clear ho0); (try clear ho1)) | ((with_reducible refine gate_dst (N := 11) rfl ?_); (try (refine gate_guard (by rfl) ?_; dsimp only)); refine Kd.R_lit k38 _ 38 ?hg (N := 11) ?hd (xs := ([(⟨1, 97⟩ : S38), (⟨1, 8212⟩ : S38), (⟨1, 98⟩ : S38)] : List (S38))) (inner := [.int .i64 1, .int .i32 97, .int .i64 1, .int .i32 8212, .int .i64 1, .int .i32 98]) (ok := fun _ => True) (okp := fun _ => True) ?hr ?hp (fun _ hk => hk) trivial (Below.refl _ _) (Nat.le_refl _) (by simp) ?_; (case hd => rfl); (case hg => rfl); (case hr => first | (go_simp; done) | (go_simp; rfl)); (case hp => exact (Reps.c2 (show Kd.M k38 _ _ _ (⟨1, 97⟩ : S38) [.int .i64 1, .int .i32 97] from (k38_mkM _ _ _ (⟨1, 97⟩ : S38) )) (Reps.c2 (show Kd.M k38 _ _ _ (⟨1, 8212⟩ : S38) [.int .i64 1, .int .i32 8212] from (k38_mkM _ _ _ (⟨1, 8212⟩ : S38) )) (Reps.c2 (show Kd.M k38 _ _ _ (⟨1, 98⟩ : S38) [.int .i64 1, .int .i32 98] from (k38_mkM _ _ _ (⟨1, 98⟩ : S38) )) (Reps.none _ _))))); intro v139 w20 ho21 hb hg_ hnew_; clear hg_ hnew_; (first | rw [← Ny138.out] at ho21 | (simp only [Int.reduceToNat] at ho21; rw [← Ny138.out] at ho21)); have n0_ := Aside0.mk (Kd.R_elder' (by (with_reducible repeat (first | apply Kd.R_alloc | apply Kd.R_drewN | apply Kd.R_drew)); exact HO135.out) (Kd.R_base ho21) hb); have n1_ := Aside0.mk (Kd.R_below (by (with_reducible repeat (first | apply Kd.R_alloc | apply Kd.R_drewN | apply Kd.R_drew)); exact HO137.out) hb); have n2_ := Aside0.mk (Kd.R_lower (Kd.R_new' ho21 (Kd.R_lt (by (with_reducible repeat (first | apply Kd.R_alloc | apply Kd.R_drewN | apply Kd.R_drew)); exact HO135.out))) (below_size (by repeat (first | (with_reducible first | exact HB.out | apply below_alloc | apply pw_below_drewN | apply below_drew1) | exact HB.out)))); have n3_ := Aside0.mk (below_step (by repeat (first | (with_reducible first | exact HB.out | apply below_alloc | apply pw_below_drewN | apply below_drew1) | exact HB.out)) hb); clear HO135; clear HO137; clear HB; have HO135 := n0_; have HO137 := n1_; have HO140 := n2_; have HB := n3_; clear n0_ n1_ n2_ n3_; clear hb ho21; obtain ⟨Ao22, co22, eo22⟩ := Kd.R_slice HO135.out; subst eo22; obtain ⟨Ao23, co23, eo23⟩ := Kd.R_slice HO140.out; subst eo23) | ((with_reducible refine gate_callee (f := 17) rfl ?_); refine goesL_ (some 12) rfl rfl Tryd.func17 (by kernel_rfl) rfl #[.slice Ao22 t132.length co22, .slice Ao23 y138.length co23] rfl (by (try simp only [List.map_toArray, List.map_cons, List.map_nil]); first | done | rfl | (simp only [List.length_drop, List.length_take]; rfl)) ?_; (with_reducible refine (flongref04_Same.calls k _ _ t132 _ _ y138 false _ ?side1 ?side2 ?side3 ?side4 A2.out).mono ?_); (case side1 => repeat (first | exact (Kd.R_reads' HO135.out).2.2 | (with_reducible refine Kd.C_alloc ?_ _) | (with_reducible refine Kd.C_drewN ?_ _) | (with_reducible refine Kd.C_drew ?_))); (case side2 => exact (Kd.R_reads' HO135.out).2.1); (case side3 => repeat (first | exact (Kd.R_reads' HO140.out).2.2 | (with_reducible refine Kd.C_alloc ?_ _) | (with_reducible refine Kd.C_drewN ?_ _) | (with_reducible refine Kd.C_drew ?_))); (case side4 => exact (Kd.R_reads' HO140.out).2.1); rintro e w' ⟨rfl, ⟨nd, rfl⟩⟩; refine ⟨_, rfl, ?_⟩))
    go_ret
    exact ⟨by first | rfl | (simp [errW_none, errW_some] <;> rfl) | (simp [*, errW_none, errW_some] <;> rfl), by repeat (first | (with_reducible first | exact HB.out | apply below_alloc | apply pw_below_drewN | apply below_drew1) | exact HB.out)⟩
end Go.Proofs.YtdogljnddalgdaaDoor.A4
end
section
namespace Go.Proofs.YtdogljnddalgdaaDoor.A4
open Go.RowKit Go.Proofs.YtdogljnddalgdaaDoorW.PrintWords Go.Proofs.YtdogljnddalgdaaDoorW.PrintLast Go.Proofs.YtdogljnddalgdaaDoorW.PrintMore
attribute [local go_sem] max2_int min2_int max_two min_two max_three min_three max_four min_four   -- for this text's walks alone
set_option linter.unusedVariables false
set_option linter.unusedSimpArgs false
mutual
def flongref02_value.j0 : Nat → List Int → Int → Option (Int)
  | 0, _, _ => none
  | k + 1, x0, x3 => flongref02_value.l0 k x0 x3 1
def flongref02_value.l0 : Nat → List Int → Int → Int → Option (Int)
  | 0, _, _, _ => none
  | k + 1, x0, x3, x4 => if x4 < (x0.length : Int) then (if 0 ≤ x4 then (flongref02_value.l0 k x0 (wrap64 ((wrap64 ((wrap64 (x3 * 64)) + (wrap64 (rd x0 x4)))) - 128)) (wrap64 (x4 + 1))) else (none)) else (some x3)
end
def flongref02_value.f (k : Nat) (l0 : List Int) : Option (Int) := if 0 < (l0.length : Int) then (if (l0.length : Int) = 2 then (flongref02_value.j0 k l0 (wrap64 ((wrap64 (rd l0 0)) - 192))) else (if (l0.length : Int) = 3 then (flongref02_value.j0 k l0 (wrap64 ((wrap64 (rd l0 0)) - 224))) else (if (l0.length : Int) = 4 then (flongref02_value.j0 k l0 (wrap64 ((wrap64 (rd l0 0)) - 240))) else (flongref02_value.j0 k l0 (wrap64 (rd l0 0)))))) else (none)
theorem flongref02_value.mono_l : ∀ k, (∀ y0 y1, LeO (flongref02_value.j0 k y0 y1) (flongref02_value.j0 (k + 1) y0 y1)) ∧ (∀ y0 y1 y2, LeO (flongref02_value.l0 k y0 y1 y2) (flongref02_value.l0 (k + 1) y0 y1 y2))
  | 0 => ⟨fun _ _ r h => by simp [flongref02_value.j0] at h, fun _ _ _ r h => by simp [flongref02_value.l0] at h⟩
  | k + 1 => by
    obtain ⟨ih0, ih1⟩ := flongref02_value.mono_l k
    refine ⟨?_, ?_⟩
    · intro y0 y1
      unfold flongref02_value.j0
      repeat' first
      | (with_reducible exact ih0 _ _)
      | (with_reducible exact ih1 _ _ _)
      | (with_reducible exact LeO.refl _)
      | (with_reducible exact LeO.none _)
      | (with_reducible refine LeO.ite ?_ ?_)
      | (with_reducible refine LeO.bind ?_ (fun _ => ?_))
      | exact ih0 _ _
      | exact ih1 _ _ _
      | exact LeO.none _
      | refine LeO.ite ?_ ?_
      | refine LeO.bind ?_ (fun _ => ?_)
    · intro y0 y1 y2
      unfold flongref02_value.l0
      repeat' first
      | (with_reducible exact ih0 _ _)
      | (with_reducible exact ih1 _ _ _)
      | (with_reducible exact LeO.refl _)
      | (with_reducible exact LeO.none _)
      | (with_reducible refine LeO.ite ?_ ?_)
      | (with_reducible refine LeO.bind ?_ (fun _ => ?_))
      | exact ih0 _ _
      | exact ih1 _ _ _
      | exact LeO.none _
      | refine LeO.ite ?_ ?_
      | refine LeO.bind ?_ (fun _ => ?_)
theorem flongref02_value.mono : ∀ a0 k, LeO (flongref02_value.f k a0) (flongref02_value.f (k + 1) a0) := by
  intro a0 k
  obtain ⟨ih0, ih1⟩ := flongref02_value.mono_l k
  unfold flongref02_value.f
  repeat' first
      | (with_reducible exact ih0 _ _)
      | (with_reducible exact ih1 _ _ _)
      | (with_reducible exact LeO.refl _)
      | (with_reducible exact LeO.none _)
      | (with_reducible refine LeO.ite ?_ ?_)
      | (with_reducible refine LeO.bind ?_ (fun _ => ?_))
      | exact ih0 _ _
      | exact ih1 _ _ _
      | exact LeO.none _
      | refine LeO.ite ?_ ?_
      | refine LeO.bind ?_ (fun _ => ?_)
set_option maxHeartbeats 8000000 in
set_option maxRecDepth 100000 in
theorem flongref02_value.calls (k : Nat) (A0 : Option Addr) (c0 : Nat) (l0 : List Int) (r : Int) (w : World) (hr0 : Kd.C (Kd.int .u8) w A0 l0.length l0) (hc0 : l0.length ≤ c0) (h : flongref02_value.f k l0 = some r) :
    Calls Tryd.prog 51 #[.slice A0 l0.length c0] w fun e w' => e = .returned (.int .i64 r) ∧ Drawn0 w w' := by
  have HR0 := Aside0.mk hr0
  have HC0 := Aside0.mk hc0
  clear hr0 hc0
  have H : (if 0 < (l0.length : Int) then (if (l0.length : Int) = 2 then (flongref02_value.j0 k l0 (wrap64 ((wrap64 (rd l0 0)) - 192))) else (if (l0.length : Int) = 3 then (flongref02_value.j0 k l0 (wrap64 ((wrap64 (rd l0 0)) - 224))) else (if (l0.length : Int) = 4 then (flongref02_value.j0 k l0 (wrap64 ((wrap64 (rd l0 0)) - 240))) else (flongref02_value.j0 k l0 (wrap64 (rd l0 0)))))) else (none)) = some r := h
  clear h
  by_cases c2 : 0 < (l0.length : Int)
  · rw [if_pos c2] at H
    have c2b0 : decide (0 < (l0.length : Int)) = true := decide_eq_true c2
    have c2b1 : decide (0 < l0.length) = true := decide_eq_true (by omega)
    clear c2
    have HC3 := Aside0.mk H
    clear H
    have p143 : 0 ≤ (0 : Int) := (by omega)
    have q143 : 0 < (l0.length : Int) := of_decide_eq_true (by first | (with_reducible assumption) | assumption)
    obtain ⟨ad143, e143, hx143_0⟩ := Kd.at_int HR0.out 0 p143 q143
    cases e143
    have qi143 : (0 < l0.length) = True := eq_true (by omega)
    (try rw [show ((0 : Int)).toNat = 0 from rfl] at hx143_0)
    (try rw [Addr.add_zero'] at hx143_0)
    replace p143 := eq_true p143
    replace q143 := eq_true q143
    go_enter Tryd.func51, Tryd.ntmps51
    go_upto_block 0 with (fail)
    go_cut [3] (fun v3 wc => ∃ (kq : Nat) (x3_2 : Int), v3 = .int .i64 x3_2 ∧ Aside0 (flongref02_value.j0 kq l0 x3_2 = some r) ∧ Aside0 (kq ≤ k) ∧ Drawn0 w wc)
    case first =>
      have H := HC3.out
      clear HC3
      by_cases c4 : (l0.length : Int) = 2
      · rw [if_pos c4] at H
        have c4b0 : ((l0.length : Int) == 2) = true := beq_iff_eq.mpr c4
        have c4b1 : ((l0.length : Int) != 2) = false := bne_eq_false_iff_eq.mpr c4
        clear c4
        (first | rw [c4b0] | (simp only [i64_w, i32_w]; rw [c4b0]) | skip)
        have H' := Aside0.mk H
        clear H
        go_wp2
        go_meet
        case rel => exact ⟨_, (wrap64 ((wrap64 (rd l0 0)) - 192)), (by first | rfl | (simp; done) | (simp [*]; done)), H', ⟨by first | omega | exact Nat.le_refl _⟩, by repeat (first | exact Drawn0.refl _ | apply Drawn0.step)⟩
      · rw [if_neg c4] at H
        have c4b0 : ((l0.length : Int) == 2) = false := beq_eq_false_iff_ne.mpr c4
        have c4b1 : ((l0.length : Int) != 2) = true := bne_iff_ne.mpr c4
        (first | rw [c4b0] | (simp only [i64_w, i32_w]; rw [c4b0]) | skip)
        by_cases c5 : (l0.length : Int) = 3
        · rw [if_pos c5] at H
          have c5b0 : ((l0.length : Int) == 3) = true := beq_iff_eq.mpr c5
          have c5b1 : ((l0.length : Int) != 3) = false := bne_eq_false_iff_eq.mpr c5
          clear c5
          have H' := Aside0.mk H
          clear H
          go_wp2
          go_meet
          case rel => exact ⟨_, (wrap64 ((wrap64 (rd l0 0)) - 224)), (by first | rfl | (simp; done) | (simp [*]; done)), H', ⟨by first | omega | exact Nat.le_refl _⟩, by repeat (first | exact Drawn0.refl _ | apply Drawn0.step)⟩
        · rw [if_neg c5] at H
          have c5b0 : ((l0.length : Int) == 3) = false := beq_eq_false_iff_ne.mpr c5
          have c5b1 : ((l0.length : Int) != 3) = true := bne_iff_ne.mpr c5
          by_cases c6 : (l0.length : Int) = 4
          · rw [if_pos c6] at H
            have c6b0 : ((l0.length : Int) == 4) = true := beq_iff_eq.mpr c6
            have c6b1 : ((l0.length : Int) != 4) = false := bne_eq_false_iff_eq.mpr c6
            clear c6
            have H' := Aside0.mk H
            clear H
            go_wp2
            go_meet
            case rel => exact ⟨_, (wrap64 ((wrap64 (rd l0 0)) - 240)), (by first | rfl | (simp; done) | (simp [*]; done)), H', ⟨by first | omega | exact Nat.le_refl _⟩, by repeat (first | exact Drawn0.refl _ | apply Drawn0.step)⟩
          · rw [if_neg c6] at H
            have c6b0 : ((l0.length : Int) == 4) = false := beq_eq_false_iff_ne.mpr c6
            have c6b1 : ((l0.length : Int) != 4) = true := bne_iff_ne.mpr c6
            have H' := Aside0.mk H
            clear H
            go_wp2
            go_meet
            case rel => exact ⟨_, (wrap64 (rd l0 0)), (by first | rfl | (simp; done) | (simp [*]; done)), H', ⟨by first | omega | exact Nat.le_refl _⟩, by repeat (first | exact Drawn0.refl _ | apply Drawn0.step)⟩
    case rest =>
      clear HC3
      try clear p1
      try clear q1
      try clear hx1
      try clear qi1
      try clear c2
      try clear c2b0
      try clear c2b1
      try clear p2
      try clear c4
      try clear c4b0
      try clear c4b1
      try clear c5
      try clear c5b0
      try clear c5b1
      try clear c6
      try clear c6b0
      try clear c6b1
      try clear p6
      try clear hx143_0
      try clear p143
      try clear q143
      obtain ⟨kq, x3_2, rfl, HA, HJ2, ⟨mc2, rfl⟩⟩ := hcut
      cases kq with
      | zero => exact absurd HA.out (by simp [flongref02_value.j0])
      | succ kj2 =>
        have H := HA.out
        clear HA
        simp only [flongref02_value.j0] at H
        have H' := Aside0.mk H
        clear H
        go_wp2
        go_loopg [3, 4] kj2 (fun kq v3 v4 w' => ∃ (x3_2 : Int) (x4_2 : Int), v3 = .int .i64 x3_2 ∧ v4 = .int .i64 x4_2 ∧ Aside0 (flongref02_value.l0 kq l0 x3_2 x4_2 = some r) ∧ Aside0 (kq ≤ kj2) ∧ Drawn0 w w')
        case atStart => exact ⟨(x3_2), (1), (by first | rfl | (simp; done) | (simp [*]; done)), (by first | rfl | (simp; done) | (simp [*]; done)), H', ⟨Nat.le_refl _⟩, by repeat (first | exact Drawn0.refl _ | apply Drawn0.step)⟩
        case round =>
          clear H'
          try clear p1
          try clear q1
          try clear hx1
          try clear qi1
          try clear c2
          try clear c2b0
          try clear c2b1
          try clear p2
          try clear c4
          try clear c4b0
          try clear c4b1
          try clear c5
          try clear c5b0
          try clear c5b1
          try clear c6
          try clear c6b0
          try clear c6b1
          try clear p6
          try clear hx143_0
          try clear p1
          try clear p143
          try clear p2
          try clear p6
          try clear q1
          try clear q143
          obtain ⟨x3_2, x4_2, rfl, rfl, HA, HK2, ⟨m2, rfl⟩⟩ := hrel
          cases gk with
          | zero => exact absurd HA.out (by simp [flongref02_value.l0])
          | succ k2 =>
            have H := HA.out
            clear HA
            simp only [flongref02_value.l0] at H
            by_cases c7 : x4_2 < (l0.length : Int)
            · rw [if_pos c7] at H
              have c7b0 : decide (x4_2 < (l0.length : Int)) = true := decide_eq_true c7
              clear c7
              by_cases c8 : 0 ≤ x4_2
              · rw [if_pos c8] at H
                have c8b0 : decide (0 ≤ x4_2) = true := decide_eq_true c8
                clear c8
                have H' := Aside0.mk H
                clear H
                have p144 : 0 ≤ (x4_2 : Int) := of_decide_eq_true (by first | (with_reducible assumption) | assumption)
                have q144 : x4_2 < (l0.length : Int) := of_decide_eq_true (by first | (with_reducible assumption) | assumption)
                obtain ⟨ad144, e144, hx144_0⟩ := Kd.at_int HR0.out x4_2 p144 q144
                obtain rfl : ad143 = ad144 := (by injection e144)
                replace p144 := eq_true p144
                replace q144 := eq_true q144
                go_wp2
                go_roundg k2
                case measure => have := HJ2.out; have := HK2.out; omega
                case rel => exact ⟨(wrap64 ((wrap64 ((wrap64 (x3_2 * 64)) + (wrap64 (rd l0 x4_2)))) - 128)), (wrap64 (x4_2 + 1)), (by first | rfl | (simp; done) | (simp [*]; done)), (by first | rfl | (simp; done) | (simp [*]; done)), H', ⟨by have := HJ2.out; have := HK2.out; omega⟩, by repeat (first | exact Drawn0.refl _ | apply Drawn0.step)⟩
              · rw [if_neg c8] at H
                exact absurd H (by simp)
            · rw [if_neg c7] at H
              have c7b0 : decide (x4_2 < (l0.length : Int)) = false := decide_eq_false c7
              clear c7
              obtain rfl := Option.some.inj H
              go_wp2
              go_ret
              exact ⟨by first | rfl | (simp; done) | (simp [*]; done), by repeat (first | exact Drawn0.refl _ | apply Drawn0.step)⟩
  · rw [if_neg c2] at H
    exact absurd H (by simp)
def flongref02_Valid.f (a0 : Int) : Option (Bool) := if a0 ≥ 0 then (if a0 < 1114112 then (if a0 < 55296 then (some true) else (some (decide (a0 > 57343)))) else (some false)) else (some false)
set_option maxHeartbeats 8000000 in
set_option maxRecDepth 100000 in
theorem flongref02_Valid.calls (a0 : Int) (r : Bool) (w : World) (h : flongref02_Valid.f a0 = some r) :
    Calls Tryd.prog 52 #[.int .i32 a0] w fun e w' => e = .returned (.bool r) ∧ Drawn0 w w' := by
  have H : (if a0 ≥ 0 then (if a0 < 1114112 then (if a0 < 55296 then (some true) else (some (decide (a0 > 57343)))) else (some false)) else (some false)) = some r := h
  clear h
  by_cases c2 : a0 ≥ 0
  · rw [if_pos c2] at H
    have c2b0 : decide (0 ≤ a0) = true := decide_eq_true c2
    clear c2
    by_cases c3 : a0 < 1114112
    · rw [if_pos c3] at H
      have c3b0 : decide (a0 < 1114112) = true := decide_eq_true c3
      clear c3
      by_cases c4 : a0 < 55296
      · rw [if_pos c4] at H
        have c4b0 : decide (a0 < 55296) = true := decide_eq_true c4
        clear c4
        obtain rfl := Option.some.inj H
        go_enter Tryd.func52, Tryd.ntmps52
        go_wp2
        go_ret
        exact ⟨by first | rfl | (simp; done) | (simp [*]; done), by repeat (first | exact Drawn0.refl _ | apply Drawn0.step)⟩
      · rw [if_neg c4] at H
        have c4b0 : decide (a0 < 55296) = false := decide_eq_false c4
        clear c4
        obtain rfl := Option.some.inj H
        go_enter Tryd.func52, Tryd.ntmps52
        go_wp2
        go_ret
        exact ⟨by first | rfl | (simp; done) | (simp [*]; done), by repeat (first | exact Drawn0.refl _ | apply Drawn0.step)⟩
    · rw [if_neg c3] at H
      have c3b0 : decide (a0 < 1114112) = false := decide_eq_false c3
      clear c3
      obtain rfl := Option.some.inj H
      go_enter Tryd.func52, Tryd.ntmps52
      go_wp2
      go_ret
      exact ⟨by first | rfl | (simp; done) | (simp [*]; done), by repeat (first | exact Drawn0.refl _ | apply Drawn0.step)⟩
  · rw [if_neg c2] at H
    have c2b0 : decide (0 ≤ a0) = false := decide_eq_false c2
    clear c2
    obtain rfl := Option.some.inj H
    go_enter Tryd.func52, Tryd.ntmps52
    go_wp2
    go_ret
    exact ⟨by first | rfl | (simp; done) | (simp [*]; done), by repeat (first | exact Drawn0.refl _ | apply Drawn0.step)⟩
end Go.Proofs.YtdogljnddalgdaaDoor.A4
end
section
namespace Go.Proofs.YtdogljnddalgdaaDoor.A4
open Go.RowKit Go.Proofs.YtdogljnddalgdaaDoorW.PrintWords Go.Proofs.YtdogljnddalgdaaDoorW.PrintLast Go.Proofs.YtdogljnddalgdaaDoorW.PrintMore
attribute [local go_sem] max2_int min2_int max_two min_two max_three min_three max_four min_four   -- for this text's walks alone
set_option linter.unusedVariables false
set_option linter.unusedSimpArgs false
def flongref02_One.j0 : Nat → Int → Option (List Int)
  | 0, _ => none
  | k + 1, x3 => if x3 < 128 then (some (([(x3) % 256] : List Int))) else (if x3 < 2048 then (some (([(wrap64 (192 + (wrap64 (Int.tdiv x3 64)))) % 256, (wrap64 (128 + (Int.tmod x3 64))) % 256] : List Int))) else (if x3 < 65536 then (some (([(wrap64 (224 + (wrap64 (Int.tdiv x3 4096)))) % 256, (wrap64 (128 + (Int.tmod (wrap64 (Int.tdiv x3 64)) 64))) % 256, (wrap64 (128 + (Int.tmod x3 64))) % 256] : List Int))) else (some (([(wrap64 (240 + (wrap64 (Int.tdiv x3 262144)))) % 256, (wrap64 (128 + (Int.tmod (wrap64 (Int.tdiv x3 4096)) 64))) % 256, (wrap64 (128 + (Int.tmod (wrap64 (Int.tdiv x3 64)) 64))) % 256, (wrap64 (128 + (Int.tmod x3 64))) % 256] : List Int)))))
def flongref02_One.f (k : Nat) (a0 : Int) : Option (List Int) := (flongref02_Valid.f a0).bind fun t145 => (if t145 = true then (flongref02_One.j0 k (wrap64 (a0))) else (flongref02_One.j0 k 65533))
theorem flongref02_One.mono_l : ∀ k, (∀ y0, LeO (flongref02_One.j0 k y0) (flongref02_One.j0 (k + 1) y0))
  | 0 => fun _ r h => by simp [flongref02_One.j0] at h
  | k + 1 => by
    have ih0 := flongref02_One.mono_l k
    · intro y0
      unfold flongref02_One.j0
      repeat' first
      | (with_reducible exact ih0 _)
      | (with_reducible exact LeO.refl _)
      | (with_reducible exact LeO.none _)
      | (with_reducible refine LeO.ite ?_ ?_)
      | (with_reducible refine LeO.bind ?_ (fun _ => ?_))
      | exact ih0 _
      | exact LeO.none _
      | refine LeO.ite ?_ ?_
      | refine LeO.bind ?_ (fun _ => ?_)
theorem flongref02_One.mono : ∀ a0 k, LeO (flongref02_One.f k a0) (flongref02_One.f (k + 1) a0) := by
  intro a0 k
  have ih0 := flongref02_One.mono_l k
  unfold flongref02_One.f
  repeat' first
      | (with_reducible exact ih0 _)
      | (with_reducible exact LeO.refl _)
      | (with_reducible exact LeO.none _)
      | (with_reducible refine LeO.ite ?_ ?_)
      | (with_reducible refine LeO.bind ?_ (fun _ => ?_))
      | exact ih0 _
      | exact LeO.none _
      | refine LeO.ite ?_ ?_
      | refine LeO.bind ?_ (fun _ => ?_)
set_option maxHeartbeats 8000000 in
set_option maxRecDepth 100000 in
theorem flongref02_One.calls (k : Nat) (a0 : Int) (r : List Int) (w : World) (h : flongref02_One.f k a0 = some r) :
    Calls Tryd.prog 61 #[.int .i32 a0] w fun e w' => ∃ v0_ : Value, e = .returned (v0_) ∧ Kd.R (Kd.int .u8) 5 w' w.heap.size (fun _ => True) v0_ r ∧ Below w.heap.size w w' := by
  have HB := Aside0.mk (Below.refl w.heap.size w)
  have H : ((flongref02_Valid.f a0).bind fun t145 => (if t145 = true then (flongref02_One.j0 k (wrap64 (a0))) else (flongref02_One.j0 k 65533))) = some r := h
  clear h
  replace H := Option.bind_eq_some_iff.mp H
  obtain ⟨t145, A20, H⟩ := H
  replace H : (if t145 = true then (flongref02_One.j0 k (wrap64 (a0))) else (flongref02_One.j0 k 65533)) = some r := H
  have A2 := Aside0.mk A20
  clear A20
  have HC3 := Aside0.mk H
  clear H
  go_enter Tryd.func61, Tryd.ntmps61
  go_upto_if 8 with (first | ((with_reducible refine gate_callee (f := 52) rfl ?_); refine goesL_ (some 7) rfl rfl Tryd.func52 (by kernel_rfl) rfl #[.int .i32 a0] rfl (by (try simp only [List.map_toArray, List.map_cons, List.map_nil]); first | done | rfl | (simp only [List.length_drop, List.length_take]; rfl)) ?_; (with_reducible refine (flongref02_Valid.calls a0 t145 _ A2.out).mono ?_); rintro e w' ⟨rfl, ⟨nd, rfl⟩⟩; refine ⟨_, rfl, ?_⟩))
  (try simp only [Act.put, List.setIfInBounds_toArray, List.set_cons_zero, List.set_cons_succ])
  go_cut [3] (fun v3 wc => ∃ (kq : Nat) (x3_2 : Int), v3 = .int .i64 x3_2 ∧ Aside0 (flongref02_One.j0 kq x3_2 = some r) ∧ Aside0 (kq ≤ k) ∧ Aside0 (Below w.heap.size w wc))
  case first =>
    have H := HC3.out
    clear HC3
    by_cases c4 : t145 = true
    · subst c4
      have H1 : (flongref02_One.j0 k (wrap64 (a0))) = some r := by rw [if_pos rfl] at H; exact H
      clear H
      have H := H1
      clear H1
      have H' := Aside0.mk H
      clear H
      go_wp2
      go_meet
      case rel => exact ⟨_, (wrap64 (a0)), (by first | rfl | (simp; done) | (simp [*]; done)), H', ⟨by first | omega | exact Nat.le_refl _⟩, ⟨by repeat (first | (with_reducible first | exact HB.out | apply below_alloc | apply pw_below_drewN | apply below_drew1) | exact HB.out)⟩⟩
    · replace c4 := Bool.eq_false_iff.mpr c4
      subst c4
      have H1 : (flongref02_One.j0 k 65533) = some r := by rw [if_neg (show ¬ (false = true) by decide)] at H; exact H
      clear H
      have H := H1
      clear H1
      have H' := Aside0.mk H
      clear H
      go_wp2
      go_meet
      case rel => exact ⟨_, (65533), (by first | rfl | (simp; done) | (simp [*]; done)), H', ⟨by first | omega | exact Nat.le_refl _⟩, ⟨by repeat (first | (with_reducible first | exact HB.out | apply below_alloc | apply pw_below_drewN | apply below_drew1) | exact HB.out)⟩⟩
  case rest =>
    clear HC3
    try clear p2
    try clear c4
    obtain ⟨kq, x3_2, rfl, HA, HJ2, HB⟩ := hcut
    cases kq with
    | zero => exact absurd HA.out (by simp [flongref02_One.j0])
    | succ kj2 =>
      have H := HA.out
      clear HA
      simp only [flongref02_One.j0] at H
      by_cases c5 : x3_2 < 128
      · rw [if_pos c5] at H
        have c5b0 : decide (x3_2 < 128) = true := decide_eq_true c5
        clear c5
        obtain ⟨y146, hy146⟩ : ∃ y_ : List Int, y_ = (([(x3_2) % 256] : List Int)) := ⟨_, rfl⟩
        replace H : (some y146) = some r := by first | (rw [hy146]; with_reducible exact H) | (have H2_ := (Option.bind_some _ _).symm.trans H; rw [hy146]; with_reducible exact H2_) | (have H2_ := (Option.bind_some _ _).symm.trans H; with_reducible exact H2_) | with_reducible exact H | (rw [hy146]; exact H) | exact H
        have Ny146 := Aside0.mk hy146
        clear hy146
        obtain rfl := Option.some.inj H
        go_wp2_with (first | ((with_reducible refine gate_dst (N := 13) rfl ?_); refine Kd.R_lit (Kd.int .u8) _ 5 ?hg (N := 13) ?hd (xs := ([(x3_2) % 256] : List Int)) (inner := [.int .u8 ((x3_2) % 256)]) (ok := fun _ => True) (okp := fun _ => True) ?hr ?hp (fun _ hk => hk) trivial (Below.refl _ _) (Nat.le_refl _) (by simp) ?_; (case hd => rfl); (case hg => rfl); (case hr => first | (go_simp; done) | (go_simp; rfl)); (case hp => exact (Reps.one (show Kd.M (Kd.int .u8) _ _ _ ((x3_2) % 256) [.int .u8 ((x3_2) % 256)] from rfl) (Reps.none _ _))); intro v147 w6 ho7 hb hg_ hnew_; clear hg_ hnew_; (first | rw [← Ny146.out] at ho7 | (simp only [Int.reduceToNat] at ho7; rw [← Ny146.out] at ho7)); have n0_ := Aside0.mk (Kd.R_lower ho7 (below_size (by repeat (first | (with_reducible first | exact HB.out | apply below_alloc | apply pw_below_drewN | apply below_drew1) | exact HB.out)))); have n1_ := Aside0.mk (below_step (by repeat (first | (with_reducible first | exact HB.out | apply below_alloc | apply pw_below_drewN | apply below_drew1) | exact HB.out)) hb); clear HB; have HO148 := n0_; have HB := n1_; clear n0_ n1_; clear hb ho7))
        go_ret
        exact ⟨_, by first | rfl | (simp [errW_none, errW_some] <;> rfl) | (simp [*, errW_none, errW_some] <;> rfl), by (with_reducible repeat (first | apply Kd.R_alloc | apply Kd.R_drewN | apply Kd.R_drew)); exact HO148.out, by repeat (first | (with_reducible first | exact HB.out | apply below_alloc | apply pw_below_drewN | apply below_drew1) | exact HB.out)⟩
      · rw [if_neg c5] at H
        have c5b0 : decide (x3_2 < 128) = false := decide_eq_false c5
        clear c5
        by_cases c8 : x3_2 < 2048
        · rw [if_pos c8] at H
          have c8b0 : decide (x3_2 < 2048) = true := decide_eq_true c8
          clear c8
          obtain ⟨y149, hy149⟩ : ∃ y_ : List Int, y_ = (([(wrap64 (192 + (wrap64 (Int.tdiv x3_2 64)))) % 256, (wrap64 (128 + (Int.tmod x3_2 64))) % 256] : List Int)) := ⟨_, rfl⟩
          replace H : (some y149) = some r := by first | (rw [hy149]; with_reducible exact H) | (have H2_ := (Option.bind_some _ _).symm.trans H; rw [hy149]; with_reducible exact H2_) | (have H2_ := (Option.bind_some _ _).symm.trans H; with_reducible exact H2_) | with_reducible exact H | (rw [hy149]; exact H) | exact H
          have Ny149 := Aside0.mk hy149
          clear hy149
          obtain rfl := Option.some.inj H
          go_wp2_with (first | ((with_reducible refine gate_dst (N := 24) rfl ?_); refine Kd.R_lit (Kd.int .u8) _ 5 ?hg (N := 24) ?hd (xs := ([(wrap64 (192 + (wrap64 (Int.tdiv x3_2 64)))) % 256, (wrap64 (128 + (Int.tmod x3_2 64))) % 256] : List Int)) (inner := [.int .u8 ((wrap64 (192 + (wrap64 (Int.tdiv x3_2 64)))) % 256), .int .u8 ((wrap64 (128 + (Int.tmod x3_2 64))) % 256)]) (ok := fun _ => True) (okp := fun _ => True) ?hr ?hp (fun _ hk => hk) trivial (Below.refl _ _) (Nat.le_refl _) (by simp) ?_; (case hd => rfl); (case hg => rfl); (case hr => first | (go_simp; done) | (go_simp; rfl)); (case hp => exact (Reps.one (show Kd.M (Kd.int .u8) _ _ _ ((wrap64 (192 + (wrap64 (Int.tdiv x3_2 64)))) % 256) [.int .u8 ((wrap64 (192 + (wrap64 (Int.tdiv x3_2 64)))) % 256)] from rfl) (Reps.one (show Kd.M (Kd.int .u8) _ _ _ ((wrap64 (128 + (Int.tmod x3_2 64))) % 256) [.int .u8 ((wrap64 (128 + (Int.tmod x3_2 64))) % 256)] from rfl) (Reps.none _ _)))); intro v150 w9 ho10 hb hg_ hnew_; clear hg_ hnew_; (first | rw [← Ny149.out] at ho10 | (simp only [Int.reduceToNat] at ho10; rw [← Ny149.out] at ho10)); have n0_ := Aside0.mk (Kd.R_lower ho10 (below_size (by repeat (first | (with_reducible first | exact HB.out | apply below_alloc | apply pw_below_drewN | apply below_drew1) | exact HB.out)))); have n1_ := Aside0.mk (below_step (by repeat (first | (with_reducible first | exact HB.out | apply below_alloc | apply pw_below_drewN | apply below_drew1) | exact HB.out)) hb); clear HB; have HO151 := n0_; have HB := n1_; clear n0_ n1_; clear hb ho10))
          go_ret
          exact ⟨_, by first | rfl | (simp [errW_none, errW_some] <;> rfl) | (simp [*, errW_none, errW_some] <;> rfl), by (with_reducible repeat (first | apply Kd.R_alloc | apply Kd.R_drewN | apply Kd.R_drew)); exact HO151.out, by repeat (first | (with_reducible first | exact HB.out | apply below_alloc | apply pw_below_drewN | apply below_drew1) | exact HB.out)⟩
        · rw [if_neg c8] at H
          have c8b0 : decide (x3_2 < 2048) = false := decide_eq_false c8
          clear c8
          by_cases c11 : x3_2 < 65536
          · rw [if_pos c11] at H
            have c11b0 : decide (x3_2 < 65536) = true := decide_eq_true c11
            clear c11
            obtain ⟨y152, hy152⟩ : ∃ y_ : List Int, y_ = (([(wrap64 (224 + (wrap64 (Int.tdiv x3_2 4096)))) % 256, (wrap64 (128 + (Int.tmod (wrap64 (Int.tdiv x3_2 64)) 64))) % 256, (wrap64 (128 + (Int.tmod x3_2 64))) % 256] : List Int)) := ⟨_, rfl⟩
            replace H : (some y152) = some r := by first | (rw [hy152]; with_reducible exact H) | (have H2_ := (Option.bind_some _ _).symm.trans H; rw [hy152]; with_reducible exact H2_) | (have H2_ := (Option.bind_some _ _).symm.trans H; with_reducible exact H2_) | with_reducible exact H | (rw [hy152]; exact H) | exact H
            have Ny152 := Aside0.mk hy152
            clear hy152
            obtain rfl := Option.some.inj H
            go_wp2_with (first | ((with_reducible refine gate_dst (N := 40) rfl ?_); refine Kd.R_lit (Kd.int .u8) _ 5 ?hg (N := 40) ?hd (xs := ([(wrap64 (224 + (wrap64 (Int.tdiv x3_2 4096)))) % 256, (wrap64 (128 + (Int.tmod (wrap64 (Int.tdiv x3_2 64)) 64))) % 256, (wrap64 (128 + (Int.tmod x3_2 64))) % 256] : List Int)) (inner := [.int .u8 ((wrap64 (224 + (wrap64 (Int.tdiv x3_2 4096)))) % 256), .int .u8 ((wrap64 (128 + (Int.tmod (wrap64 (Int.tdiv x3_2 64)) 64))) % 256), .int .u8 ((wrap64 (128 + (Int.tmod x3_2 64))) % 256)]) (ok := fun _ => True) (okp := fun _ => True) ?hr ?hp (fun _ hk => hk) trivial (Below.refl _ _) (Nat.le_refl _) (by simp) ?_; (case hd => rfl); (case hg => rfl); (case hr => first | (go_simp; done) | (go_simp; rfl)); (case hp => exact (Reps.one (show Kd.M (Kd.int .u8) _ _ _ ((wrap64 (224 + (wrap64 (Int.tdiv x3_2 4096)))) % 256) [.int .u8 ((wrap64 (224 + (wrap64 (Int.tdiv x3_2 4096)))) % 256)] from rfl) (Reps.one (show Kd.M (Kd.int .u8) _ _ _ ((wrap64 (128 + (Int.tmod (wrap64 (Int.tdiv x3_2 64)) 64))) % 256) [.int .u8 ((wrap64 (128 + (Int.tmod (wrap64 (Int.tdiv x3_2 64)) 64))) % 256)] from rfl) (Reps.one (show Kd.M (Kd.int .u8) _ _ _ ((wrap64 (128 + (Int.tmod x3_2 64))) % 256) [.int .u8 ((wrap64 (128 + (Int.tmod x3_2 64))) % 256)] from rfl) (Reps.none _ _))))); intro v153 w12 ho13 hb hg_ hnew_; clear hg_ hnew_; (first | rw [← Ny152.out] at ho13 | (simp only [Int.reduceToNat] at ho13; rw [← Ny152.out] at ho13)); have n0_ := Aside0.mk (Kd.R_lower ho13 (below_size (by repeat (first | (with_reducible first | exact HB.out | apply below_alloc | apply pw_below_drewN | apply below_drew1) | exact HB.out)))); have n1_ := Aside0.mk (below_step (by repeat (first | (with_reducible first | exact HB.out | apply below_alloc | apply pw_below_drewN | apply below_drew1) | exact HB.out)) hb); clear HB; have HO154 := n0_; have HB := n1_; clear n0_ n1_; clear hb ho13))
            go_ret
            exact ⟨_, by first | rfl | (simp [errW_none, errW_some] <;> rfl) | (simp [*, errW_none, errW_some] <;> rfl), by (with_reducible repeat (first | apply Kd.R_alloc | apply Kd.R_drewN | apply Kd.R_drew)); exact HO154.out, by repeat (first | (with_reducible first | exact HB.out | apply below_alloc | apply pw_below_drewN | apply below_drew1) | exact HB.out)⟩
          · rw [if_neg c11] at H
            have c11b0 : decide (x3_2 < 65536) = false := decide_eq_false c11
            clear c11
            obtain ⟨y155, hy155⟩ : ∃ y_ : List Int, y_ = (([(wrap64 (240 + (wrap64 (Int.tdiv x3_2 262144)))) % 256, (wrap64 (128 + (Int.tmod (wrap64 (Int.tdiv x3_2 4096)) 64))) % 256, (wrap64 (128 + (Int.tmod (wrap64 (Int.tdiv x3_2 64)) 64))) % 256, (wrap64 (128 + (Int.tmod x3_2 64))) % 256] : List Int)) := ⟨_, rfl⟩
            replace H : (some y155) = some r := by first | (rw [hy155]; with_reducible exact H) | (have H2_ := (Option.bind_some _ _).symm.trans H; rw [hy155]; with_reducible exact H2_) | (have H2_ := (Option.bind_some _ _).symm.trans H; with_reducible exact H2_) | with_reducible exact H | (rw [hy155]; exact H) | exact H
            have Ny155 := Aside0.mk hy155
            clear hy155
            obtain rfl := Option.some.inj H
            go_wp2_with (first | ((with_reducible refine gate_dst (N := 59) rfl ?_); refine Kd.R_lit (Kd.int .u8) _ 5 ?hg (N := 59) ?hd (xs := ([(wrap64 (240 + (wrap64 (Int.tdiv x3_2 262144)))) % 256, (wrap64 (128 + (Int.tmod (wrap64 (Int.tdiv x3_2 4096)) 64))) % 256, (wrap64 (128 + (Int.tmod (wrap64 (Int.tdiv x3_2 64)) 64))) % 256, (wrap64 (128 + (Int.tmod x3_2 64))) % 256] : List Int)) (inner := [.int .u8 ((wrap64 (240 + (wrap64 (Int.tdiv x3_2 262144)))) % 256), .int .u8 ((wrap64 (128 + (Int.tmod (wrap64 (Int.tdiv x3_2 4096)) 64))) % 256), .int .u8 ((wrap64 (128 + (Int.tmod (wrap64 (Int.tdiv x3_2 64)) 64))) % 256), .int .u8 ((wrap64 (128 + (Int.tmod x3_2 64))) % 256)]) (ok := fun _ => True) (okp := fun _ => True) ?hr ?hp (fun _ hk => hk) trivial (Below.refl _ _) (Nat.le_refl _) (by simp) ?_; (case hd => rfl); (case hg => rfl); (case hr => first | (go_simp; done) | (go_simp; rfl)); (case hp => exact (Reps.one (show Kd.M (Kd.int .u8) _ _ _ ((wrap64 (240 + (wrap64 (Int.tdiv x3_2 262144)))) % 256) [.int .u8 ((wrap64 (240 + (wrap64 (Int.tdiv x3_2 262144)))) % 256)] from rfl) (Reps.one (show Kd.M (Kd.int .u8) _ _ _ ((wrap64 (128 + (Int.tmod (wrap64 (Int.tdiv x3_2 4096)) 64))) % 256) [.int .u8 ((wrap64 (128 + (Int.tmod (wrap64 (Int.tdiv x3_2 4096)) 64))) % 256)] from rfl) (Reps.one (show Kd.M (Kd.int .u8) _ _ _ ((wrap64 (128 + (Int.tmod (wrap64 (Int.tdiv x3_2 64)) 64))) % 256) [.int .u8 ((wrap64 (128 + (Int.tmod (wrap64 (Int.tdiv x3_2 64)) 64))) % 256)] from rfl) (Reps.one (show Kd.M (Kd.int .u8) _ _ _ ((wrap64 (128 + (Int.tmod x3_2 64))) % 256) [.int .u8 ((wrap64 (128 + (Int.tmod x3_2 64))) % 256)] from rfl) (Reps.none _ _)))))); intro v156 w14 ho15 hb hg_ hnew_; clear hg_ hnew_; (first | rw [← Ny155.out] at ho15 | (simp only [Int.reduceToNat] at ho15; rw [← Ny155.out] at ho15)); have n0_ := Aside0.mk (Kd.R_lower ho15 (below_size (by repeat (first | (with_reducible first | exact HB.out | apply below_alloc | apply pw_below_drewN | apply below_drew1) | exact HB.out)))); have n1_ := Aside0.mk (below_step (by repeat (first | (with_reducible first | exact HB.out | apply below_alloc | apply pw_below_drewN | apply below_drew1) | exact HB.out)) hb); clear HB; have HO157 := n0_; have HB := n1_; clear n0_ n1_; clear hb ho15))
            go_ret
            exact ⟨_, by first | rfl | (simp [errW_none, errW_some] <;> rfl) | (simp [*, errW_none, errW_some] <;> rfl), by (with_reducible repeat (first | apply Kd.R_alloc | apply Kd.R_drewN | apply Kd.R_drew)); exact HO157.out, by repeat (first | (with_reducible first | exact HB.out | apply below_alloc | apply pw_below_drewN | apply below_drew1) | exact HB.out)⟩
def flongref02_is.f (k : Nat) (l0 : List Int) : Option (Bool) := (flongref02_value.f k l0).bind fun t158 => (if t158 < 0 then (some false) else (if t158 > 1114111 then (some false) else ((flongref02_Valid.f (wrap32 (t158))).bind fun t159 => (if t159 = true then ((flongref02_One.f k (wrap32 (t158))).bind fun t160 => (some ((strOfNums t160).toList == (strOfNums l0).toList))) else (some false)))))
theorem flongref02_is.mono : ∀ a0 k, LeO (flongref02_is.f k a0) (flongref02_is.f (k + 1) a0) := by
  intro a0 k
  unfold flongref02_is.f
  repeat' first
      | (with_reducible exact flongref02_One.mono _ _)
      | (with_reducible exact flongref02_value.mono _ _)
      | (with_reducible exact LeO.refl _)
      | (with_reducible exact LeO.none _)
      | (with_reducible refine LeO.ite ?_ ?_)
      | (with_reducible refine LeO.bind ?_ (fun _ => ?_))
      | exact flongref02_One.mono _ _
      | exact flongref02_value.mono _ _
      | exact LeO.none _
      | refine LeO.ite ?_ ?_
      | refine LeO.bind ?_ (fun _ => ?_)
def flongref02_is.T4 : Bool × List (List Nat × List Nat) := (true, [([], []), ([0], [0]), ([1], [1]), ([2], [2]), ([], []), ([4], [4]), ([3, 5], [3, 5]), ([6, 2, 0, 1, 2, 3, 4, 5, 6], [6])])
def flongref02_is.B4 : List Nat := [0, 1, 3, 7, 0, 16, 63, 127]
theorem flongref02_is.tab4 : rtab .any (opsOf Tryd.f50 4) = flongref02_is.T4 := by kernel_rfl
theorem flongref02_is.bits4 : waitsOk flongref02_is.T4.2 flongref02_is.B4 = true := by kernel_rfl
set_option maxHeartbeats 8000000 in
set_option maxRecDepth 100000 in
theorem flongref02_is.calls (k : Nat) (A0 : Option Addr) (c0 : Nat) (l0 : List Int) (r : Bool) (w : World) (hr0 : Kd.C (Kd.int .u8) w A0 l0.length l0) (hc0 : l0.length ≤ c0) (h : flongref02_is.f k l0 = some r) :
    Calls Tryd.prog 50 #[.slice A0 l0.length c0] w fun e w' => e = .returned (.bool r) ∧ Below w.heap.size w w' := by
  have HR0 := Aside0.mk hr0
  have HC0 := Aside0.mk hc0
  clear hr0 hc0
  have HB := Aside0.mk (Below.refl w.heap.size w)
  have H : ((flongref02_value.f k l0).bind fun t158 => (if t158 < 0 then (some false) else (if t158 > 1114111 then (some false) else ((flongref02_Valid.f (wrap32 (t158))).bind fun t159 => (if t159 = true then ((flongref02_One.f k (wrap32 (t158))).bind fun t160 => (some ((strOfNums t160).toList == (strOfNums l0).toList))) else (some false)))))) = some r := h
  clear h
  replace H := Option.bind_eq_some_iff.mp H
  obtain ⟨t158, A20, H⟩ := H
  replace H : (if t158 < 0 then (some false) else (if t158 > 1114111 then (some false) else ((flongref02_Valid.f (wrap32 (t158))).bind fun t159 => (if t159 = true then ((flongref02_One.f k (wrap32 (t158))).bind fun t160 => (some ((strOfNums t160).toList == (strOfNums l0).toList))) else (some false))))) = some r := H
  have A2 := Aside0.mk A20
  clear A20
  by_cases c3 : t158 < 0
  · rw [if_pos c3] at H
    have c3b0 : decide (t158 < 0) = true := decide_eq_true c3
    clear c3
    obtain rfl := Option.some.inj H
    go_enter Tryd.func50, Tryd.ntmps50
    go_wp2_with (first | ((with_reducible refine gate_callee (f := 51) rfl ?_); refine goesL_ (some 5) rfl rfl Tryd.func51 (by kernel_rfl) rfl #[.slice A0 l0.length c0] rfl (by (try simp only [List.map_toArray, List.map_cons, List.map_nil]); first | done | rfl | (simp only [List.length_drop, List.length_take]; rfl)) ?_; (with_reducible refine (flongref02_value.calls k _ _ l0 t158 _ ?side1 ?side2 A2.out).mono ?_); (case side1 => repeat (first | exact HR0.out | (with_reducible refine Kd.C_alloc ?_ _) | (with_reducible refine Kd.C_drewN ?_ _) | (with_reducible refine Kd.C_drew ?_))); (case side2 => exact HC0.out); rintro e w' ⟨rfl, ⟨nd, rfl⟩⟩; refine ⟨_, rfl, ?_⟩))
    go_ret
    exact ⟨by first | rfl | (simp [errW_none, errW_some] <;> rfl) | (simp [*, errW_none, errW_some] <;> rfl), by repeat (first | (with_reducible first | exact HB.out | apply below_alloc | apply pw_below_drewN | apply below_drew1) | exact HB.out)⟩
  · rw [if_neg c3] at H
    have c3b0 : decide (t158 < 0) = false := decide_eq_false c3
    clear c3
    by_cases c4 : t158 > 1114111
    · rw [if_pos c4] at H
      have c4b0 : decide (1114111 < t158) = true := decide_eq_true c4
      clear c4
      obtain rfl := Option.some.inj H
      go_enter Tryd.func50, Tryd.ntmps50
      go_wp2_with (first | ((with_reducible refine gate_callee (f := 51) rfl ?_); refine goesL_ (some 5) rfl rfl Tryd.func51 (by kernel_rfl) rfl #[.slice A0 l0.length c0] rfl (by (try simp only [List.map_toArray, List.map_cons, List.map_nil]); first | done | rfl | (simp only [List.length_drop, List.length_take]; rfl)) ?_; (with_reducible refine (flongref02_value.calls k _ _ l0 t158 _ ?side1 ?side2 A2.out).mono ?_); (case side1 => repeat (first | exact HR0.out | (with_reducible refine Kd.C_alloc ?_ _) | (with_reducible refine Kd.C_drewN ?_ _) | (with_reducible refine Kd.C_drew ?_))); (case side2 => exact HC0.out); rintro e w' ⟨rfl, ⟨nd, rfl⟩⟩; refine ⟨_, rfl, ?_⟩))
      go_ret
      exact ⟨by first | rfl | (simp [errW_none, errW_some] <;> rfl) | (simp [*, errW_none, errW_some] <;> rfl), by repeat (first | (with_reducible first | exact HB.out | apply below_alloc | apply pw_below_drewN | apply below_drew1) | exact HB.out)⟩
    · rw [if_neg c4] at H
      have c4b0 : decide (1114111 < t158) = false := decide_eq_false c4
      clear c4
      replace H := Option.bind_eq_some_iff.mp H
      obtain ⟨t159, A50, H⟩ := H
      replace H : (if t159 = true then ((flongref02_One.f k (wrap32 (t158))).bind fun t160 => (some ((strOfNums t160).toList == (strOfNums l0).toList))) else (some false)) = some r := H
      have A5 := Aside0.mk A50
      clear A50
      by_cases c6 : t159 = true
      · subst c6
        have H1 : ((flongref02_One.f k (wrap32 (t158))).bind fun t160 => (some ((strOfNums t160).toList == (strOfNums l0).toList))) = some r := by rw [if_pos rfl] at H; exact H
        clear H
        have H := H1
        clear H1
        replace H := Option.bind_eq_some_iff.mp H
        obtain ⟨t160, A70, H⟩ := H
        replace H : (some ((strOfNums t160).toList == (strOfNums l0).toList)) = some r := H
        have A7 := Aside0.mk A70
        clear A70
        obtain rfl := Option.some.inj H
        go_enter Tryd.func50, Tryd.ntmps50
        try go_wp2_with (first | ((with_reducible refine gate_callee (f := 51) rfl ?_); refine goesL_ (some 5) rfl rfl Tryd.func51 (by kernel_rfl) rfl #[.slice A0 l0.length c0] rfl (by (try simp only [List.map_toArray, List.map_cons, List.map_nil]); first | done | rfl | (simp only [List.length_drop, List.length_take]; rfl)) ?_; (with_reducible refine (flongref02_value.calls k _ _ l0 t158 _ ?side1 ?side2 A2.out).mono ?_); (case side1 => repeat (first | exact HR0.out | (with_reducible refine Kd.C_alloc ?_ _) | (with_reducible refine Kd.C_drewN ?_ _) | (with_reducible refine Kd.C_drew ?_))); (case side2 => exact HC0.out); rintro e w' ⟨rfl, ⟨nd, rfl⟩⟩; refine ⟨_, rfl, ?_⟩) | (go_at_call 52; (with_reducible refine (flongref02_Valid.calls (wrap32 (t158)) true _ A5.out).mono ?_); rintro e w' ⟨rfl, ⟨nd, rfl⟩⟩))
        have n0_ := Aside0.mk (below_drew1 HB.out)
        clear HB
        have HB := n0_
        clear n0_
        refine start_ (n := 8) (S := fun w' => Below w.heap.size w w' ∧ Kd.C (Kd.int .u8) w' A0 l0.length l0) (ds := []) #[false, false, false, false, false, false, false, false] (by kernel_rfl) rfl rfl ⟨by repeat (first | exact Below.refl _ _ | apply below_drew1 | apply pw_below_drewN), Kd.C_below HR0.out (by repeat (first | exact Below.refl _ _ | apply below_drew1 | apply pw_below_drewN))⟩ (fun hHeld => ?_); refine with_tabW flongref02_is.tab4 flongref02_is.bits4 (fun HT_ HW_ => ?_)
        clear HB
        have HB := Aside0.mk hHeld.1
        refine pure_ (i := 0) (N := some 18) (v := ?_) (a' := ?_) #[true, false, false, false, false, false, false, false] rfl rfl (any_of HT_.out (by kernel_rfl)) (fun _ _ _ h => h) (Or.inl ⟨by rfl, ?_⟩) ?_ ?_
        rotate_left
        · intro w'
          go_simp
          with_reducible rfl
        rotate_left
        · simp only [Act.put, List.setIfInBounds_toArray, List.set_cons_zero, List.set_cons_succ, i64_w, i32_w]
          rfl
        refine pure_ (i := 1) (N := some 19) (v := ?_) (a' := ?_) #[true, true, false, false, false, false, false, false] rfl rfl (any_of HT_.out (by kernel_rfl)) (fun _ _ _ h => h) (Or.inl ⟨by rfl, ?_⟩) ?_ ?_
        rotate_left
        · intro w'
          go_simp
          with_reducible rfl
        rotate_left
        · simp only [Act.put, List.setIfInBounds_toArray, List.set_cons_zero, List.set_cons_succ, i64_w, i32_w]
          rfl
        refine pure_ (i := 4) (N := some 22) (v := ?_) (a' := ?_) #[true, true, false, false, true, false, false, false] rfl rfl (any_of HT_.out (by kernel_rfl)) (fun _ _ _ h => h) (Or.inl ⟨by rfl, ?_⟩) ?_ ?_
        rotate_left
        · intro w'
          go_simp
          with_reducible rfl
        rotate_left
        · simp only [Act.put, List.setIfInBounds_toArray, List.set_cons_zero, List.set_cons_succ, i64_w, i32_w]
          rfl
        refine take_ (i := 5) (N := some 23) (v := ?_) (a' := ?_) #[true, true, false, false, true, true, false, false] rfl rfl (take_ofW HT_.out HW_.out (by kernel_rfl)) (fun _ _ _ h => h) (Or.inl ⟨by rfl, ?_⟩) hHeld ?_ ?_
        rotate_left
        · intro w' hs_
          have hcv_ := Kd.C_string (P := Tryd.prog) (A := A0) (c := c0) Tryd.underlying36 Tryd.underlying5 Tryd.underlying9 hs_.2
          go_simp
          with_reducible rfl
        rotate_left
        · simp only [Act.put, List.setIfInBounds_toArray, List.set_cons_zero, List.set_cons_succ, i64_w, i32_w]
          rfl
        refine one_ (i := 2) (N := some 20) #[true, true, true, false, true, true, false, false] rfl rfl (one_of HT_.out (by kernel_rfl)) (by decide) (fun K hK => ?_)
        refine goes_ Tryd.func61 (by kernel_rfl) rfl #[.int .i32 (wrap32 (t158))] (by rfl) rfl rfl (by (try simp only [List.map_toArray, List.map_cons, List.map_nil]); first | done | rfl | (simp only [List.length_drop, List.length_take]; rfl)) ?_
        with_reducible refine (flongref02_One.calls k (wrap32 (t158)) t160 _ A7.out).mono ?_
        rintro e w9 ⟨v161, rfl, ho0, hb⟩
        refine ⟨_, rfl, ?_⟩
        have n0_ := Aside0.mk (Kd.R_lower ho0 (below_size (by repeat (first | (with_reducible first | exact HB.out | apply below_alloc | apply pw_below_drewN | apply below_drew1) | exact HB.out))))
        have n1_ := Aside0.mk (below_step (by repeat (first | (with_reducible first | exact HB.out | apply below_alloc | apply pw_below_drewN | apply below_drew1) | exact HB.out)) hb)
        clear HB
        have HO162 := n0_
        have HB := n1_
        clear n0_ n1_
        (try clear hb)
        (try clear hb2)
        (try clear hk)
        (try clear hi)
        (try clear ho0)
        have hcv11 := Kd.C_string (P := Tryd.prog) (A := A0) (c := c0) Tryd.underlying36 Tryd.underlying5 Tryd.underlying9 (Kd.C_below HR0.out HB.out)
        refine hK.out _ _ ⟨HB.out, Kd.C_below HR0.out HB.out⟩ (fun hHeld => ?_)
        clear hK K
        refine norm_ (a' := ?_) ?_ ?_
        rotate_left
        · show Act.put _ (some 20) _ = _
          simp only [Act.put, List.setIfInBounds_toArray, List.set_cons_zero, List.set_cons_succ, i64_w, i32_w]
          rfl
        refine one_ (i := 3) (N := some 21) #[true, true, true, true, true, true, false, false] rfl rfl (one_of HT_.out (by kernel_rfl)) (by decide) (fun K hK => ?_)
        have hcv10 := own_string (P := Tryd.prog) Tryd.underlying36 Tryd.underlying5 Tryd.underlying9 (Kd.own_of_R HO162.out)
        refine value_ (w1 := ?_) (v := ?_) (by rfl) rfl ?_ ?_
        rotate_left 2
        · go_simp
          constructor
          · rfl
          · rfl
        clear hcv10
        refine hK.out _ _ ⟨HB.out, Kd.C_below HR0.out HB.out⟩ (fun hHeld => ?_)
        clear hK K
        refine norm_ (a' := ?_) ?_ ?_
        rotate_left
        · show Act.put _ (some 21) _ = _
          simp only [Act.put, List.setIfInBounds_toArray, List.set_cons_zero, List.set_cons_succ, i64_w, i32_w]
          rfl
        refine pure_ (i := 6) (N := some 24) (v := ?_) (a' := ?_) #[true, true, true, true, true, true, true, false] rfl rfl (any_of HT_.out (by kernel_rfl)) (fun _ _ _ h => h) (Or.inl ⟨by rfl, ?_⟩) ?_ ?_
        rotate_left
        · intro w'
          go_simp
          with_reducible rfl
        rotate_left
        · simp only [Act.put, List.setIfInBounds_toArray, List.set_cons_zero, List.set_cons_succ, i64_w, i32_w]
          rfl
        refine pure_ (i := 7) (N := some 2) (v := ?_) (a' := ?_) #[true, true, true, true, true, true, true, true] rfl rfl (any_of HT_.out (by kernel_rfl)) (fun _ _ _ h => h) (Or.inl ⟨by rfl, ?_⟩) ?_ ?_
        rotate_left
        · intro w'
          go_simp
          with_reducible rfl
        rotate_left
        · simp only [Act.put, List.setIfInBounds_toArray, List.set_cons_zero, List.set_cons_succ, i64_w, i32_w]
          rfl
        refine done_ (done_of HT_.out (by kernel_rfl)) ?_
        try go_wp2
        go_ret
        exact ⟨by first | rfl | (simp [errW_none, errW_some] <;> rfl) | (simp [*, errW_none, errW_some] <;> rfl), by repeat (first | (with_reducible first | exact HB.out | apply below_alloc | apply pw_below_drewN | apply below_drew1) | exact HB.out)⟩
      · replace c6 := Bool.eq_false_iff.mpr c6
        subst c6
        have H1 : (some false) = some r := by rw [if_neg (show ¬ (false = true) by decide)] at H; exact H
        clear H
        have H := H1
        clear H1
        obtain rfl := Option.some.inj H
        go_enter Tryd.func50, Tryd.ntmps50
        go_wp2_with (first | ((with_reducible refine gate_callee (f := 51) rfl ?_); refine goesL_ (some 5) rfl rfl Tryd.func51 (by kernel_rfl) rfl #[.slice A0 l0.length c0] rfl (by (try simp only [List.map_toArray, List.map_cons, List.map_nil]); first | done | rfl | (simp only [List.length_drop, List.length_take]; rfl)) ?_; (with_reducible refine (flongref02_value.calls k _ _ l0 t158 _ ?side1 ?side2 A2.out).mono ?_); (case side1 => repeat (first | exact HR0.out | (with_reducible refine Kd.C_alloc ?_ _) | (with_reducible refine Kd.C_drewN ?_ _) | (with_reducible refine Kd.C_drew ?_))); (case side2 => exact HC0.out); rintro e w' ⟨rfl, ⟨nd, rfl⟩⟩; refine ⟨_, rfl, ?_⟩) | (go_at_call 52; (with_reducible refine (flongref02_Valid.calls (wrap32 (t158)) false _ A5.out).mono ?_); rintro e w' ⟨rfl, ⟨nd, rfl⟩⟩))
        go_ret
        exact ⟨by first | rfl | (simp [errW_none, errW_some] <;> rfl) | (simp [*, errW_none, errW_some] <;> rfl), by repeat (first | (with_reducible first | exact HB.out | apply below_alloc | apply pw_below_drewN | apply below_drew1) | exact HB.out)⟩
end Go.Proofs.YtdogljnddalgdaaDoor.A4
end
