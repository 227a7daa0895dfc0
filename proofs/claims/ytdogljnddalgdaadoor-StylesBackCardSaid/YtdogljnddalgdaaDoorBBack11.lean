/- Of what the law StylesBack needs: part 11. -/
import Derived.ArgAppend
import Derived.Below
import Derived.BigQuiet
import Derived.Deep.AppendLies
import Derived.Deep.CutBlock
import Derived.Deep.DeepCutAuto
import Derived.Deep.Draws
import Derived.Deep.LoopGhost
import Derived.Deep.OwnRows
import Derived.Deep.QuietTactic
import Derived.Deep.RegionHeld3
import Derived.KernelRfl
import Derived.Laws.BitsLemmas
import Derived.Laws.BytesArg
import Derived.Laws.Cover4
import Derived.Laws.IdiomCopy
import Derived.Laws.MakeOwn
import Derived.Laws.OwnMore
import Derived.Laws.Rows
import Derived.Laws.Slices
import Derived.Laws.StructEq
import Derived.Lib.AppendStr
import Derived.Lib.ConvBytes
import Derived.Maps.AppendAt
import Derived.Maps.Own
import Derived.Maps.OwnOps
import Derived.Maps.OwnSet
import Derived.OrdersHeld
import Derived.Outline
import Derived.OwnWalk
import Derived.RowKit
import Derived.RowKit3
import Derived.StringKeys
import Derived.Tactics
import Derived.Test.YtdogljnddalgdaaDoorProg
import Derived.WalkKit
import Derived.WalkMore
import Derived.WideLaws
import Derived.Test.YtdogljnddalgdaaDoorBBack8
import Derived.Test.YtdogljnddalgdaaDoorBBack9
import Derived.Test.YtdogljnddalgdaaDoorBBack10
namespace Go.Proofs.YtdogljnddalgdaaDoorW.PrintLast
end Go.Proofs.YtdogljnddalgdaaDoorW.PrintLast
namespace Go.Proofs.YtdogljnddalgdaaDoorW.PrintMore
end Go.Proofs.YtdogljnddalgdaaDoorW.PrintMore
namespace Go.Proofs.YtdogljnddalgdaaDoorW.PrintWords
end Go.Proofs.YtdogljnddalgdaaDoorW.PrintWords
section
namespace Go.Proofs.YtdogljnddalgdaaDoor.A6
open Go.RowKit Go.Proofs.YtdogljnddalgdaaDoorW.PrintWords Go.Proofs.YtdogljnddalgdaaDoorW.PrintLast Go.Proofs.YtdogljnddalgdaaDoorW.PrintMore
attribute [local go_sem] max2_int min2_int max_two min_two max_three min_three max_four min_four   -- for this text's walks alone
set_option linter.unusedVariables false
set_option linter.unusedSimpArgs false
def rd_named (k : Nat) (l : List Int) (p : Int) (xs : List S38) (ys : List S41) (font : Bool) (from_ : Int) : Option (Bool × Int × List S38 × List S41) :=
  (rd_name k l p font).bind fun t =>
    if t.2.1 = true then (if font = true then escape_Font.f t.1 else escape_Name.f k t.1).bind fun u => if u.2 = true then some (true, t.2.2, xs ++ [⟨if font = true then 3 else 1, u.1⟩], ys) else some (true, t.2.2, xs, ys ++ [⟨2, 0, wrap64 (from_ + 1)⟩])
    else some (false, t.2.2, xs, ys ++ [⟨1, 0, wrap64 (from_ + 1)⟩])
set_option maxHeartbeats 8000000 in
set_option maxRecDepth 100000 in
theorem named_calls {w0 w : World} {g : Nat} {vl : Value} {l : List Int} {p : Int} {vo : Value} {xs : List S38} {vb : Value} {ys : List S41} (k : Nat) (font : Bool) (from_ : Int) (go : Bool) (q : Int) (xs' : List S38) (ys' : List S41) (hG : GL w0)
    (hB : Below w0.heap.size w0 w) (h : RD w w0.heap.size g vl l p vo xs vb ys) (hp0 : 0 ≤ p) (hp1 : p ≤ l.length) (hll : l.length ≤ 9223372036854775800) (hx : xs.length < 8796093022208) (hy : ys.length < 5864062014805)
    (hf : rd_named k l p xs ys font from_ = some (go, q, xs', ys')) :
    Calls Tryd.prog 58 #[.pointer (some ⟨g, 0, none⟩), .bool font, .int .i64 from_] w fun e w' => e = .returned (.bool go) ∧
      ∃ vo' vb', RD w' w0.heap.size g vl l q vo' xs' vb' ys' ∧ Below w0.heap.size w0 w' := by
  unfold rd_named at hf
  obtain ⟨⟨s, ok, q1⟩, hs, hf⟩ := Option.bind_eq_some_iff.mp hf
  have HS := Aside0.mk hs
  have HR := Aside0.mk h
  have HB := Aside0.mk hB
  have HG := Aside0.mk hG
  have HX := Aside0.mk hx
  have HY := Aside0.mk hy
  have HP0 := Aside0.mk hp0
  have HP1 := Aside0.mk hp1
  have HLL := Aside0.mk hll
  clear hs h hB hG hx hy hp0 hp1 hll
  have hu65 := Tryd.underlying65
  cases ok with
  | false =>
    simp only [Bool.false_eq_true, if_false, Option.some.injEq, Prod.mk.injEq] at hf
    obtain ⟨rfl, rfl, rfl, rfl⟩ := hf
    go_enter Tryd.func58, Tryd.ntmps58
    go_wp2_with (first | (go_at_call 67; refine (name_calls k _ _ _ _ HB.out HR.out HP0.out HP1.out HLL.out HS.out).mono ?_; rintro e w1 ⟨rfl, hr1, hb1, hz1⟩; have HR1 := Aside0.mk hr1; have HB1 := Aside0.mk hb1; have HZ1 := Aside0.mk (Nat.le_trans HB.out.size hz1); clear hr1 hb1 hz1) | (go_at_call 43; refine (tell_calls _ _ HB1.out HZ1.out HR1.out HY.out).mono ?_; rintro e w2 ⟨rfl, vb', hr2, hb2, _⟩; have HR2 := Aside0.mk hr2; have HB2 := Aside0.mk hb2; clear hr2 hb2))
    go_ret
    exact ⟨rfl, _, _, HR2.out, HB2.out⟩
  | true =>
    simp only [if_true] at hf
    obtain ⟨⟨x, has⟩, hu, hf⟩ := Option.bind_eq_some_iff.mp hf
    have HU := Aside0.mk hu
    clear hu
    cases font <;> cases has <;> simp only [Bool.false_eq_true, if_false, if_true, Option.some.injEq, Prod.mk.injEq] at hf HU <;> obtain ⟨rfl, rfl, rfl, rfl⟩ := hf
    all_goals
      go_enter Tryd.func58, Tryd.ntmps58
      go_wp2_with (first | (go_at_call 67; refine (name_calls k _ _ _ _ HB.out HR.out HP0.out HP1.out HLL.out HS.out).mono ?_; rintro e w1 ⟨rfl, hr1, hb1, hz1⟩; have HR1 := Aside0.mk hr1; have HB1 := Aside0.mk hb1; have HZ1 := Aside0.mk (Nat.le_trans HB.out.size hz1); clear hr1 hb1 hz1) | (go_at_call 19; refine (escape_Name.calls k _ _ _ _ (GL.below HG.out HB1.out) HU.out).mono ?_; rintro e w2 ⟨rfl, ⟨nd, rfl⟩⟩) | (go_at_call 20; refine (escape_Font.calls _ _ _ _ (GL.below HG.out HB1.out) HU.out).mono ?_; rintro e w2 ⟨rfl, ⟨nd, rfl⟩⟩) | (go_at_call 40; refine (say_calls _ _ (pw_below_drewN HB1.out _) HZ1.out (HR1.out.drewN _) HX.out).mono ?_; rintro e w3 ⟨rfl, vb', hr2, hb2, _⟩; have HR2 := Aside0.mk hr2; have HB2 := Aside0.mk hb2; clear hr2 hb2) | (go_at_call 43; refine (tell_calls _ _ (pw_below_drewN HB1.out _) HZ1.out (HR1.out.drewN _) HY.out).mono ?_; rintro e w3 ⟨rfl, vb', hr2, hb2, _⟩; have HR2 := Aside0.mk hr2; have HB2 := Aside0.mk hb2; clear hr2 hb2))
      go_ret
      exact ⟨rfl, _, _, HR2.out, HB2.out⟩
def rd_escape (k : Nat) (l : List Int) (p : Int) (xs : List S38) (ys : List S41) (from_ : Int) : Option (Bool × Int × List S38 × List S41) :=
  if p = l.length then some (false, p, xs, ys ++ [⟨1, 0, wrap64 (from_ + 1)⟩])
  else if rd l p = 92 ∨ rd l p = 101 then some (true, p + 1, xs ++ [⟨1, 92⟩], ys)
  else if rd l p = 45 ∨ rd l p = 46 then some (true, p + 1, xs ++ [⟨1, rd l p⟩], ys)
  else if rd l p = 39 then some (true, p + 1, xs ++ [⟨1, 180⟩], ys)
  else if rd l p = 96 then some (true, p + 1, xs ++ [⟨1, rd l p⟩], ys)
  else if rd l p = 32 ∨ rd l p = 126 ∨ rd l p = 48 then some (true, p + 1, xs ++ [⟨1, 160⟩], ys)
  else if rd l p = 38 ∨ rd l p = 37 ∨ rd l p = 47 ∨ rd l p = 44 ∨ rd l p = 58 then some (true, p + 1, xs, ys)
  else if rd l p = 34 then some (false, p + 1, xs, ys)
  else if rd l p = 40 ∨ rd l p = 91 then rd_named k l p xs ys false from_
  else if rd l p = 102 then rd_named k l (p + 1) xs ys true from_
  else some (true, p + 1, xs, ys ++ [⟨1, 0, wrap64 (from_ + 1)⟩])
set_option maxHeartbeats 8000000 in
set_option maxRecDepth 100000 in
theorem escape_calls {w0 w : World} {g : Nat} {vl : Value} {l : List Int} {p : Int} {vo : Value} {xs : List S38} {vb : Value} {ys : List S41} (k : Nat) (from_ : Int) (go : Bool) (q : Int) (xs' : List S38) (ys' : List S41) (hG : GL w0)
    (hB : Below w0.heap.size w0 w) (h : RD w w0.heap.size g vl l p vo xs vb ys) (hp0 : 0 ≤ p) (hp1 : p ≤ l.length) (hll : l.length ≤ 9223372036854775800) (hx : xs.length < 8796093022208) (hy : ys.length < 5864062014805)
    (hf : rd_escape k l p xs ys from_ = some (go, q, xs', ys')) :
    Calls Tryd.prog 41 #[.pointer (some ⟨g, 0, none⟩), .int .i64 from_] w fun e w' => e = .returned (.bool go) ∧
      ∃ vo' vb', RD w' w0.heap.size g vl l q vo' xs' vb' ys' ∧ Below w0.heap.size w0 w' := by
  obtain ⟨Al, cl, el, hcl, hrl⟩ := Kd.R_reads h.l
  subst el
  have HR := Aside0.mk h
  have HB := Aside0.mk hB
  have HG := Aside0.mk hG
  have HX := Aside0.mk hx
  have HY := Aside0.mk hy
  have HP0 := Aside0.mk hp0
  have HP1 := Aside0.mk hp1
  have HLL := Aside0.mk hll
  have hcz0 : w.cell? ⟨g, 0, none⟩ = some (.slice Al l.length cl) := (blk_cell h.blk 0).trans rfl
  have hcz1 : w.cell? ⟨g, 1, none⟩ = some (.int .i64 p) := (blk_cell h.blk 1).trans rfl
  have hfz1 := blk_frozen h.blk 1
  have HSZ := Aside0.mk hB.size
  have hu65 := Tryd.underlying65
  unfold rd_escape at hf
  by_cases h0 : p = l.length
  · rw [if_pos h0] at hf
    simp only [Option.some.injEq, Prod.mk.injEq] at hf
    obtain ⟨rfl, rfl, rfl, rfl⟩ := hf
    have b0 : (p == (l.length : Int)) = true := by simpa using h0
    clear h hB hG hx hy hp0 hp1 hll h0 hcl hrl
    go_enter Tryd.func41, Tryd.ntmps41
    go_wp2
    go_quiet (fail)
    go_wp2_with (go_at_call 43; refine (tell_calls _ _ (pw_below_drewN HB.out _) HSZ.out (HR.out.drewN _) HY.out).mono ?_; rintro e w3 ⟨rfl, vb', hr2, hb2, _⟩; have HR2 := Aside0.mk hr2; have HB2 := Aside0.mk hb2; clear hr2 hb2)
    go_ret
    exact ⟨rfl, _, _, HR2.out, HB2.out⟩
  rw [if_neg h0] at hf
  have hlt : p < l.length := by omega
  have b0 : (p == (l.length : Int)) = false := by simpa using h0
  obtain ⟨ad, ead, hx0⟩ := Kd.at_int hrl p hp0 hlt
  subst ead
  have hq1 : 0 ≤ p := hp0
  have hq2 : decide (p < (l.length : Int)) = true := decide_eq_true hlt
  have hq3 : (p < (l.length : Int)) = True := eq_true hlt
  have hq4 : p + 1 ≤ 9223372036854775807 := by omega
  generalize hcc : rd l p = c at *
  replace hcc := Aside0.mk hcc
  by_cases d92 : c = 92 ∨ c = 101
  · rw [if_pos d92] at hf
    rcases d92 with h_ | h_
    all_goals
      subst h_
      simp only [Option.some.injEq, Prod.mk.injEq] at hf
      obtain ⟨rfl, rfl, rfl, rfl⟩ := hf
      clear h hB hG hx hy hp0 hp1 hll h0 hcl hrl hlt
      go_enter Tryd.func41, Tryd.ntmps41
      go_wp2
      go_quiet (fail)
      go_wp2
      go_quiet (fail)
      go_wp2_with (go_at_call 40; refine (say_calls (w0 := w0) (base := w0.heap.size) _ _ (by repeat (first | exact HB.out | apply below_drew | apply pw_below_drewN | refine Below.setCell ?_ HR.out.ge _)) (by simpa [World.setCell] using HSZ.out) (by repeat (first | exact HR.out | apply RD.drew | apply RD.drewN | apply RD.set_at)) HX.out).mono ?_; rintro e w3 ⟨rfl, vb', hr2, hb2, _⟩; have HR2 := Aside0.mk hr2; have HB2 := Aside0.mk hb2; clear hr2 hb2)
      go_ret
      exact ⟨rfl, _, _, HR2.out, HB2.out⟩
  rw [if_neg d92] at hf
  by_cases d45 : c = 45 ∨ c = 46
  · rw [if_pos d45] at hf
    rcases d45 with h_ | h_
    all_goals
      subst h_
      simp only [Option.some.injEq, Prod.mk.injEq] at hf
      obtain ⟨rfl, rfl, rfl, rfl⟩ := hf
      clear h hB hG hx hy hp0 hp1 hll h0 hcl hrl hlt
      go_enter Tryd.func41, Tryd.ntmps41
      go_wp2
      go_quiet (fail)
      go_wp2
      go_quiet (fail)
      go_wp2_with (go_at_call 40; refine (say_calls (w0 := w0) (base := w0.heap.size) _ _ (by repeat (first | exact HB.out | apply below_drew | apply pw_below_drewN | refine Below.setCell ?_ HR.out.ge _)) (by simpa [World.setCell] using HSZ.out) (by repeat (first | exact HR.out | apply RD.drew | apply RD.drewN | apply RD.set_at)) HX.out).mono ?_; rintro e w3 ⟨rfl, vb', hr2, hb2, _⟩; have HR2 := Aside0.mk hr2; have HB2 := Aside0.mk hb2; clear hr2 hb2)
      go_ret
      exact ⟨rfl, _, _, HR2.out, HB2.out⟩
  rw [if_neg d45] at hf
  by_cases d39 : c = 39
  · rw [if_pos d39] at hf
    have h_ := d39
    all_goals
      subst h_
      simp only [Option.some.injEq, Prod.mk.injEq] at hf
      obtain ⟨rfl, rfl, rfl, rfl⟩ := hf
      clear h hB hG hx hy hp0 hp1 hll h0 hcl hrl hlt
      go_enter Tryd.func41, Tryd.ntmps41
      go_wp2
      go_quiet (fail)
      go_wp2
      go_quiet (fail)
      go_wp2_with (go_at_call 40; refine (say_calls (w0 := w0) (base := w0.heap.size) _ _ (by repeat (first | exact HB.out | apply below_drew | apply pw_below_drewN | refine Below.setCell ?_ HR.out.ge _)) (by simpa [World.setCell] using HSZ.out) (by repeat (first | exact HR.out | apply RD.drew | apply RD.drewN | apply RD.set_at)) HX.out).mono ?_; rintro e w3 ⟨rfl, vb', hr2, hb2, _⟩; have HR2 := Aside0.mk hr2; have HB2 := Aside0.mk hb2; clear hr2 hb2)
      go_ret
      exact ⟨rfl, _, _, HR2.out, HB2.out⟩
  rw [if_neg d39] at hf
  by_cases d96 : c = 96
  · rw [if_pos d96] at hf
    have h_ := d96
    all_goals
      subst h_
      simp only [Option.some.injEq, Prod.mk.injEq] at hf
      obtain ⟨rfl, rfl, rfl, rfl⟩ := hf
      clear h hB hG hx hy hp0 hp1 hll h0 hcl hrl hlt
      go_enter Tryd.func41, Tryd.ntmps41
      go_wp2
      go_quiet (fail)
      go_wp2
      go_quiet (fail)
      go_wp2_with (go_at_call 40; refine (say_calls (w0 := w0) (base := w0.heap.size) _ _ (by repeat (first | exact HB.out | apply below_drew | apply pw_below_drewN | refine Below.setCell ?_ HR.out.ge _)) (by simpa [World.setCell] using HSZ.out) (by repeat (first | exact HR.out | apply RD.drew | apply RD.drewN | apply RD.set_at)) HX.out).mono ?_; rintro e w3 ⟨rfl, vb', hr2, hb2, _⟩; have HR2 := Aside0.mk hr2; have HB2 := Aside0.mk hb2; clear hr2 hb2)
      go_ret
      exact ⟨rfl, _, _, HR2.out, HB2.out⟩
  rw [if_neg d96] at hf
  by_cases d32 : c = 32 ∨ c = 126 ∨ c = 48
  · rw [if_pos d32] at hf
    rcases d32 with h_ | h_ | h_
    all_goals
      subst h_
      simp only [Option.some.injEq, Prod.mk.injEq] at hf
      obtain ⟨rfl, rfl, rfl, rfl⟩ := hf
      clear h hB hG hx hy hp0 hp1 hll h0 hcl hrl hlt
      go_enter Tryd.func41, Tryd.ntmps41
      go_wp2
      go_quiet (fail)
      go_wp2
      go_quiet (fail)
      go_wp2_with (go_at_call 40; refine (say_calls (w0 := w0) (base := w0.heap.size) _ _ (by repeat (first | exact HB.out | apply below_drew | apply pw_below_drewN | refine Below.setCell ?_ HR.out.ge _)) (by simpa [World.setCell] using HSZ.out) (by repeat (first | exact HR.out | apply RD.drew | apply RD.drewN | apply RD.set_at)) HX.out).mono ?_; rintro e w3 ⟨rfl, vb', hr2, hb2, _⟩; have HR2 := Aside0.mk hr2; have HB2 := Aside0.mk hb2; clear hr2 hb2)
      go_ret
      exact ⟨rfl, _, _, HR2.out, HB2.out⟩
  rw [if_neg d32] at hf
  by_cases d38 : c = 38 ∨ c = 37 ∨ c = 47 ∨ c = 44 ∨ c = 58
  · rw [if_pos d38] at hf
    rcases d38 with h_ | h_ | h_ | h_ | h_
    all_goals
      subst h_
      simp only [Option.some.injEq, Prod.mk.injEq] at hf
      obtain ⟨rfl, rfl, rfl, rfl⟩ := hf
      clear h hB hG hx hy hp0 hp1 hll h0 hcl hrl hlt
      go_enter Tryd.func41, Tryd.ntmps41
      go_wp2
      go_quiet (fail)
      go_wp2
      go_quiet (fail)
      go_wp2
      go_ret
      exact ⟨rfl, _, _, (by repeat (first | exact HR.out | apply RD.drew | apply RD.drewN | apply RD.set_at)), (by repeat (first | exact HB.out | apply below_drew | apply pw_below_drewN | refine Below.setCell ?_ HR.out.ge _))⟩
  rw [if_neg d38] at hf
  by_cases d34 : c = 34
  · rw [if_pos d34] at hf
    have h_ := d34
    all_goals
      subst h_
      simp only [Option.some.injEq, Prod.mk.injEq] at hf
      obtain ⟨rfl, rfl, rfl, rfl⟩ := hf
      clear h hB hG hx hy hp0 hp1 hll h0 hcl hrl hlt
      go_enter Tryd.func41, Tryd.ntmps41
      go_wp2
      go_quiet (fail)
      go_wp2
      go_quiet (fail)
      go_wp2
      go_ret
      exact ⟨rfl, _, _, (by repeat (first | exact HR.out | apply RD.drew | apply RD.drewN | apply RD.set_at)), (by repeat (first | exact HB.out | apply below_drew | apply pw_below_drewN | refine Below.setCell ?_ HR.out.ge _))⟩
  rw [if_neg d34] at hf
  by_cases d40 : c = 40 ∨ c = 91
  · rw [if_pos d40] at hf
    rcases d40 with h_ | h_
    all_goals
      subst h_
      have HF := Aside0.mk hf
      have HP2 := Aside0.mk (show (0 : Int) ≤ p + 1 by omega)
      have HP3 := Aside0.mk (show p + 1 ≤ l.length by omega)
      clear hf
      clear h hB hG hx hy hp0 hp1 hll h0 hcl hrl hlt
      go_enter Tryd.func41, Tryd.ntmps41
      go_wp2
      go_quiet (fail)
      go_wp2
      go_quiet (fail)
      go_wp2_with (go_at_call 58; refine (named_calls k _ _ _ _ _ _ HG.out (by repeat (first | exact HB.out | apply below_drew | apply pw_below_drewN | refine Below.setCell ?_ HR.out.ge _)) (by repeat (first | exact HR.out | apply RD.drew | apply RD.drewN | apply RD.set_at)) (by first | exact HP0.out | exact HP2.out) (by first | exact HP1.out | exact HP3.out) HLL.out HX.out HY.out HF.out).mono ?_; rintro e w3 ⟨rfl, vo', vb', hr2, hb2⟩; have HR2 := Aside0.mk hr2; have HB2 := Aside0.mk hb2; clear hr2 hb2)
      go_ret
      exact ⟨rfl, _, _, HR2.out, HB2.out⟩
  rw [if_neg d40] at hf
  by_cases d102 : c = 102
  · rw [if_pos d102] at hf
    have h_ := d102
    all_goals
      subst h_
      have HF := Aside0.mk hf
      have HP2 := Aside0.mk (show (0 : Int) ≤ p + 1 by omega)
      have HP3 := Aside0.mk (show p + 1 ≤ l.length by omega)
      clear hf
      clear h hB hG hx hy hp0 hp1 hll h0 hcl hrl hlt
      go_enter Tryd.func41, Tryd.ntmps41
      go_wp2
      go_quiet (fail)
      go_wp2
      go_quiet (fail)
      go_wp2_with (go_at_call 58; refine (named_calls k _ _ _ _ _ _ HG.out (by repeat (first | exact HB.out | apply below_drew | apply pw_below_drewN | refine Below.setCell ?_ HR.out.ge _)) (by repeat (first | exact HR.out | apply RD.drew | apply RD.drewN | apply RD.set_at)) (by first | exact HP0.out | exact HP2.out) (by first | exact HP1.out | exact HP3.out) HLL.out HX.out HY.out HF.out).mono ?_; rintro e w3 ⟨rfl, vo', vb', hr2, hb2⟩; have HR2 := Aside0.mk hr2; have HB2 := Aside0.mk hb2; clear hr2 hb2)
      go_ret
      exact ⟨rfl, _, _, HR2.out, HB2.out⟩
  rw [if_neg d102] at hf
  have b92 : (c == 92) = false := beq_eq_false_iff_ne.mpr (by intro e; exact d92 (by simp [e]))
  have b101 : (c == 101) = false := beq_eq_false_iff_ne.mpr (by intro e; exact d92 (by simp [e]))
  have b45 : (c == 45) = false := beq_eq_false_iff_ne.mpr (by intro e; exact d45 (by simp [e]))
  have b46 : (c == 46) = false := beq_eq_false_iff_ne.mpr (by intro e; exact d45 (by simp [e]))
  have b39 : (c == 39) = false := beq_eq_false_iff_ne.mpr (by intro e; exact d39 (by simp [e]))
  have b96 : (c == 96) = false := beq_eq_false_iff_ne.mpr (by intro e; exact d96 (by simp [e]))
  have b32 : (c == 32) = false := beq_eq_false_iff_ne.mpr (by intro e; exact d32 (by simp [e]))
  have b126 : (c == 126) = false := beq_eq_false_iff_ne.mpr (by intro e; exact d32 (by simp [e]))
  have b48 : (c == 48) = false := beq_eq_false_iff_ne.mpr (by intro e; exact d32 (by simp [e]))
  have b38 : (c == 38) = false := beq_eq_false_iff_ne.mpr (by intro e; exact d38 (by simp [e]))
  have b37 : (c == 37) = false := beq_eq_false_iff_ne.mpr (by intro e; exact d38 (by simp [e]))
  have b47 : (c == 47) = false := beq_eq_false_iff_ne.mpr (by intro e; exact d38 (by simp [e]))
  have b44 : (c == 44) = false := beq_eq_false_iff_ne.mpr (by intro e; exact d38 (by simp [e]))
  have b58 : (c == 58) = false := beq_eq_false_iff_ne.mpr (by intro e; exact d38 (by simp [e]))
  have b34 : (c == 34) = false := beq_eq_false_iff_ne.mpr (by intro e; exact d34 (by simp [e]))
  have b40 : (c == 40) = false := beq_eq_false_iff_ne.mpr (by intro e; exact d40 (by simp [e]))
  have b91 : (c == 91) = false := beq_eq_false_iff_ne.mpr (by intro e; exact d40 (by simp [e]))
  have b102 : (c == 102) = false := beq_eq_false_iff_ne.mpr (by intro e; exact d102 (by simp [e]))
  clear d92 d45 d39 d96 d32 d38 d34 d40 d102 hcc
  simp only [Option.some.injEq, Prod.mk.injEq] at hf
  obtain ⟨rfl, rfl, rfl, rfl⟩ := hf
  clear h hB hG hx hy hp0 hp1 hll h0 hcl hrl hlt
  go_enter Tryd.func41, Tryd.ntmps41
  go_wp2
  go_quiet (fail)
  go_wp2
  go_quiet (fail)
  go_wp2_with (go_at_call 43; refine (tell_calls (w0 := w0) (base := w0.heap.size) _ _ (by repeat (first | exact HB.out | apply below_drew | apply pw_below_drewN | refine Below.setCell ?_ HR.out.ge _)) (by simpa [World.setCell] using HSZ.out) (by repeat (first | exact HR.out | apply RD.drew | apply RD.drewN | apply RD.set_at)) HY.out).mono ?_; rintro e w3 ⟨rfl, vb', hr2, hb2, _⟩; have HR2 := Aside0.mk hr2; have HB2 := Aside0.mk hb2; clear hr2 hb2)
  go_ret
  exact ⟨rfl, _, _, HR2.out, HB2.out⟩
end Go.Proofs.YtdogljnddalgdaaDoor.A6
end
section
namespace Go.Proofs.YtdogljnddalgdaaDoor.A6
open Go.RowKit Go.Proofs.YtdogljnddalgdaaDoorW.PrintWords Go.Proofs.YtdogljnddalgdaaDoorW.PrintLast Go.Proofs.YtdogljnddalgdaaDoorW.PrintMore
attribute [local go_sem] max2_int min2_int max_two min_two max_three min_three max_four min_four   -- for this text's walks alone
set_option linter.unusedVariables false
set_option linter.unusedSimpArgs false
def rd_scan : Nat → List Int → Int → List S38 → List S41 → Option (List S38 × List S41)
  | 0, _, _, _, _ => none
  | k + 1, l, p, xs, ys => if p < (l.length : Int) then (if 0 ≤ p ∧ xs.length < 8796093022208 ∧ ys.length < 5864062014805 then
      (if rd l p = 32 ∨ rd l p = 9 then rd_scan k l (p + 1) (xs ++ [⟨2, 0⟩]) ys
      else if rd l p = 92 then (rd_escape k l (p + 1) xs ys p).bind fun t => if t.1 = true then rd_scan k l t.2.1 t.2.2.1 t.2.2.2 else some (t.2.2.1, t.2.2.2)
      else (runes_Control.f k (rd l p)).bind fun b => if b = true then rd_scan k l (p + 1) (xs ++ [⟨1, 65533⟩]) (ys ++ [⟨3, 0, wrap64 (p + 1)⟩]) else rd_scan k l (p + 1) (xs ++ [⟨1, rd l p⟩]) ys)
      else none) else some (xs, ys)
def escape_Scan.f (k : Nat) (a0 : ByteArray) : Option (List S38 × List S41) :=
  if a0.size ≤ 9223372036854775807 then ((some (bytesOf a0)).bind fun t => (runes_Decode.f k t).bind fun l => if l.length ≤ 9223372036854775800 then rd_scan k l 0 [] [] else none) else none
set_option maxHeartbeats 8000000 in
set_option maxRecDepth 100000 in
theorem escape_Scan.calls (k : Nat) (a0 : ByteArray) (r1 : List S38) (r2 : List S41) (w : World) (hG : GL w) (h : escape_Scan.f k a0 = some (r1, r2)) :
    Calls Tryd.prog 15 #[.string a0] w fun e w' => ∃ v0_ v1_ : Value, e = .returned (.tuple #[v0_, v1_]) ∧ Kd.R k38 38 w' w.heap.size (fun _ => True) v0_ r1 ∧ Kd.R k41 41 w' w.heap.size (fun _ => True) v1_ r2 ∧ Below w.heap.size w w' := by
  unfold escape_Scan.f at h
  by_cases c2 : a0.size ≤ 9223372036854775807
  · rw [if_pos c2] at h
    obtain ⟨t, ht, h⟩ := Option.bind_eq_some_iff.mp h
    obtain ⟨l, hl, h⟩ := Option.bind_eq_some_iff.mp h
    by_cases c3 : l.length ≤ 9223372036854775800
    · rw [if_pos c3] at h
      have HG := Aside0.mk hG
      have HT := Aside0.mk ht
      have HL := Aside0.mk hl
      have H := Aside0.mk h
      have HC2 := Aside0.mk c2
      have HC3 := Aside0.mk c3
      clear hG ht hl h c2 c3
      have hu65 := Tryd.underlying65
      go_enter Tryd.func15, Tryd.ntmps15
      go_wp2
      go_step3
      go_wp2_with (first | ((with_reducible refine gate_dst (N := 8) rfl ?_); refine conv_step (by rfl) 9 36 5 _ rfl Tryd.underlying9 Tryd.underlying36 Tryd.underlying5 a0 HC2.out (by rfl) t HT.out ?_; rintro e w1 ⟨vc, rfl, ho, hb⟩; have HV := Aside0.mk ho; have HB := Aside0.mk hb; clear ho hb; obtain ⟨Ac, cc, ec⟩ := Kd.V_slice HV.out; subst ec) | (go_at_call 39; refine (runes_Decode.calls k _ _ _ t l _ HV.out HL.out).mono ?_; rintro e w2 ⟨vl, rfl, ho, hb⟩; have HB2 := Aside0.mk (below_step HB.out hb); have HO := Aside0.mk (Kd.R_lower (Kd.R_mono ho (fun _ _ => trivial)) (below_size HB.out)); clear ho hb; obtain ⟨Al, cl, el⟩ := Kd.R_slice HO.out; subst el))
      have HR0 := Aside0.mk (show RD (w2.alloc (.cells #[.slice Al l.length cl, .int .i64 0, .slice none 0 0, .slice none 0 0] 65)) w.heap.size w2.heap.size (.slice Al l.length cl) l 0 (.slice none 0 0) [] (.slice none 0 0) [] from
        ⟨blk_new w2 _, HB2.out.size, Kd.R_alloc HO.out _, Kd.R_nil _ _ _ _ _, Kd.R_nil _ _ _ _ _⟩)
      have HB0 := Aside0.mk (show Below w.heap.size w (w2.alloc (.cells #[.slice Al l.length cl, .int .i64 0, .slice none 0 0, .slice none 0 0] 65)) from below_alloc HB2.out _)
      generalize (w2.alloc (.cells #[.slice Al l.length cl, .int .i64 0, .slice none 0 0, .slice none 0 0] 65)) = w3 at HR0 HB0 ⊢
      generalize w2.heap.size = g at HR0 ⊢
      clear HV HB HB2 HO HT HL HC2
      go_step3
      go_wp2
      go_loopg [] k (fun kq w' => ∃ (p : Int) (vo vb : Value) (xs : List S38) (ys : List S41), Aside0 (rd_scan kq l p xs ys = some (r1, r2)) ∧ Aside0 (kq ≤ k) ∧ Aside0 (RD w' w.heap.size g (.slice Al l.length cl) l p vo xs vb ys) ∧ Aside0 (Below w.heap.size w w'))
      case atStart => exact ⟨0, _, _, [], [], H, ⟨Nat.le_refl _⟩, HR0, HB0⟩
      case round =>
        clear H HR0 HB0
        obtain ⟨p, vo, vb, xs, ys, H, HK, HR, HB⟩ := hrel
        cases gk with
        | zero => exact absurd H.out (by simp [rd_scan])
        | succ k1 =>
          have h := H.out
          clear H
          simp only [rd_scan] at h
          have hcz0 := (blk_cell HR.out.blk 0)
          have hcz1 := (blk_cell HR.out.blk 1)
          obtain ⟨Aq, cq, eq_, hcq, hrq⟩ := Kd.R_reads HR.out.l
          obtain ⟨rfl, rfl⟩ : Al = Aq ∧ cl = cq := by simp only [Value.slice.injEq] at eq_; exact ⟨eq_.1, eq_.2.2⟩
          clear eq_ hcq
          replace hcz0 : wr.cell? ⟨g, 0, none⟩ = some (.slice Al l.length cl) := hcz0.trans rfl
          replace hcz1 : wr.cell? ⟨g, 1, none⟩ = some (.int .i64 p) := hcz1.trans rfl
          have hfz1 := blk_frozen HR.out.blk 1
          have HSZ := Aside0.mk (below_size HB.out)
          obtain ⟨Ao, co, eo⟩ := Kd.R_slice HR.out.o
          obtain ⟨Ab, cb, eb⟩ := Kd.R_slice HR.out.b
          subst eo
          subst eb
          by_cases d0 : p < (l.length : Int)
          · rw [if_pos d0] at h
            by_cases d1 : 0 ≤ p ∧ xs.length < 8796093022208 ∧ ys.length < 5864062014805
            · rw [if_pos d1] at h
              obtain ⟨hp0, hx, hy⟩ := d1
              have HX := Aside0.mk hx
              have HY := Aside0.mk hy
              have hll := HC3.out
              obtain ⟨ad, ead, hx0⟩ := Kd.at_int hrq p hp0 d0
              subst ead
              have hq2 : decide (p < (l.length : Int)) = true := decide_eq_true d0
              have hq3 : (p < (l.length : Int)) = True := eq_true d0
              have hq4 : p + 1 ≤ 9223372036854775807 := by omega
              have HP0 := Aside0.mk (show 0 ≤ p + 1 by omega)
              have HP1 := Aside0.mk (show p + 1 ≤ l.length by omega)
              generalize hcc : rd l p = c at *
              replace hcc := Aside0.mk hcc
              clear hx hy hll hrq d0
              by_cases d32 : c = 32 ∨ c = 9
              · rw [if_pos d32] at h
                have H' := Aside0.mk h
                clear h
                rcases d32 with h_ | h_
                all_goals
                  subst h_
                  go_wp2
                  go_quiet (fail)
                  go_wp2
                  go_quiet (fail)
                  go_wp2_with (go_at_call 40; refine (say_calls (w0 := w) (base := w.heap.size) _ _ (by repeat (first | exact HB.out | apply below_drew | apply pw_below_drewN | refine Below.setCell ?_ HR.out.ge _)) (by simpa [World.setCell] using HSZ.out) (by repeat (first | exact HR.out | apply RD.drew | apply RD.drewN | apply RD.set_at)) HX.out).mono ?_; rintro e w3 ⟨rfl, vb', hr2, hb2, _⟩; have HR2 := Aside0.mk hr2; have HB2 := Aside0.mk hb2; clear hr2 hb2)
                  go_roundg k1
                  case measure => have := HK.out; omega
                  case rel => exact ⟨_, _, _, _, _, H', ⟨by have := HK.out; omega⟩, HR2, HB2⟩
              rw [if_neg d32] at h
              by_cases d92 : c = 92
              · rw [if_pos d92] at h
                subst d92
                obtain ⟨⟨go, q, xs', ys'⟩, he, h⟩ := Option.bind_eq_some_iff.mp h
                have HE := Aside0.mk he
                clear he d32
                cases go
                · simp only [Bool.false_eq_true, if_false, Option.some.injEq, Prod.mk.injEq] at h
                  obtain ⟨rfl, rfl⟩ := h
                  go_wp2
                  go_quiet (fail)
                  go_wp2
                  go_quiet (fail)
                  go_wp2_with (go_at_call 41; refine (escape_calls k1 _ _ _ _ _ HG.out (by repeat (first | exact HB.out | apply below_drew | apply pw_below_drewN | refine Below.setCell ?_ HR.out.ge _)) (by repeat (first | exact HR.out | apply RD.drew | apply RD.drewN | apply RD.set_at)) HP0.out HP1.out HC3.out HX.out HY.out HE.out).mono ?_; rintro e w3 ⟨rfl, vo', vb', hr2, hb2⟩; have HR2 := Aside0.mk hr2; have HB2 := Aside0.mk hb2; clear hr2 hb2)
                  obtain ⟨Ao2, co2, eo2⟩ := Kd.R_slice HR2.out.o
                  obtain ⟨Ab2, cb2, eb2⟩ := Kd.R_slice HR2.out.b
                  subst eo2
                  subst eb2
                  have hcy2 : w3.cell? ⟨g, 2, none⟩ = some (.slice Ao2 xs'.length co2) := (blk_cell HR2.out.blk 2).trans rfl
                  have hcy3 : w3.cell? ⟨g, 3, none⟩ = some (.slice Ab2 ys'.length cb2) := (blk_cell HR2.out.blk 3).trans rfl
                  go_quiet (fail)
                  go_wp2
                  rw [Exit.noGoto_ret]
                  go_ret2
                  exact ⟨_, _, rfl, Kd.R_drewN HR2.out.o _, Kd.R_drewN HR2.out.b _, pw_below_drewN HB2.out _⟩
                · simp only [if_true] at h
                  have H' := Aside0.mk h
                  clear h
                  go_wp2
                  go_quiet (fail)
                  go_wp2
                  go_quiet (fail)
                  go_wp2_with (go_at_call 41; refine (escape_calls k1 _ _ _ _ _ HG.out (by repeat (first | exact HB.out | apply below_drew | apply pw_below_drewN | refine Below.setCell ?_ HR.out.ge _)) (by repeat (first | exact HR.out | apply RD.drew | apply RD.drewN | apply RD.set_at)) HP0.out HP1.out HC3.out HX.out HY.out HE.out).mono ?_; rintro e w3 ⟨rfl, vo', vb', hr2, hb2⟩; have HR2 := Aside0.mk hr2; have HB2 := Aside0.mk hb2; clear hr2 hb2)
                  go_roundg k1
                  case measure => have := HK.out; omega
                  case rel => exact ⟨_, _, _, _, _, H', ⟨by have := HK.out; omega⟩, HR2, HB2⟩
              rw [if_neg d92] at h
              obtain ⟨b, hb, h⟩ := Option.bind_eq_some_iff.mp h
              have HCT := Aside0.mk hb
              have b32 : (c == 32) = false := beq_eq_false_iff_ne.mpr (fun e => d32 (.inl e))
              have b9 : (c == 9) = false := beq_eq_false_iff_ne.mpr (fun e => d32 (.inr e))
              have b92 : (c == 92) = false := beq_eq_false_iff_ne.mpr d92
              clear hb d32 d92
              cases b
              · simp only [Bool.false_eq_true, if_false] at h
                have H' := Aside0.mk h
                clear h
                go_wp2
                go_quiet (fail)
                go_wp2
                go_quiet (fail)
                go_wp2_with (first | (go_at_call 42; refine (runes_Control.calls k1 c false _ HCT.out).mono ?_; rintro e w2 ⟨rfl, ⟨nd, rfl⟩⟩) | (go_at_call 40; refine (say_calls (w0 := w) (base := w.heap.size) _ _ (by repeat (first | exact HB.out | apply below_drew | apply pw_below_drewN | refine Below.setCell ?_ HR.out.ge _)) (by simpa [World.setCell] using HSZ.out) (by repeat (first | exact HR.out | apply RD.drew | apply RD.drewN | apply RD.set_at)) HX.out).mono ?_; rintro e w3 ⟨rfl, vb', hr2, hb2, _⟩; have HR2 := Aside0.mk hr2; have HB2 := Aside0.mk hb2; clear hr2 hb2))
                go_roundg k1
                case measure => have := HK.out; omega
                case rel => exact ⟨_, _, _, _, _, H', ⟨by have := HK.out; omega⟩, HR2, HB2⟩
              · simp only [if_true] at h
                have H' := Aside0.mk h
                clear h
                go_wp2
                go_quiet (fail)
                go_wp2
                go_quiet (fail)
                go_wp2_with (first | (go_at_call 42; refine (runes_Control.calls k1 c true _ HCT.out).mono ?_; rintro e w2 ⟨rfl, ⟨nd, rfl⟩⟩) | (go_at_call 43; refine (tell_calls (w0 := w) (base := w.heap.size) _ _ (by repeat (first | exact HB.out | apply below_drew | apply pw_below_drewN | refine Below.setCell ?_ HR.out.ge _)) (by simpa [World.setCell] using HSZ.out) (by repeat (first | exact HR.out | apply RD.drew | apply RD.drewN | apply RD.set_at)) HY.out).mono ?_; rintro e w4 ⟨rfl, vo', hr3, hb3, hz3⟩; have HR3 := Aside0.mk hr3; have HB3 := Aside0.mk hb3; have HS3 := Aside0.mk (below_size hb3); clear hr3 hb3 hz3) | (go_at_call 40; refine (say_calls (w0 := w) (base := w.heap.size) _ _ HB3.out HS3.out HR3.out HX.out).mono ?_; rintro e w3 ⟨rfl, vb', hr2, hb2, _⟩; have HR2 := Aside0.mk hr2; have HB2 := Aside0.mk hb2; clear hr2 hb2))
                go_roundg k1
                case measure => have := HK.out; omega
                case rel => exact ⟨_, _, _, _, _, H', ⟨by have := HK.out; omega⟩, HR2, HB2⟩
            · rw [if_neg d1] at h
              exact absurd h (by simp)
          · rw [if_neg d0] at h
            simp only [Option.some.injEq, Prod.mk.injEq] at h
            obtain ⟨rfl, rfl⟩ := h
            have hq2 : decide (p < (l.length : Int)) = false := decide_eq_false d0
            have hcy2 : wr.cell? ⟨g, 2, none⟩ = some (.slice Ao xs.length co) := (blk_cell HR.out.blk 2).trans rfl
            have hcy3 : wr.cell? ⟨g, 3, none⟩ = some (.slice Ab ys.length cb) := (blk_cell HR.out.blk 3).trans rfl
            clear hrq d0
            go_wp2
            go_quiet (fail)
            go_wp2
            go_quiet (fail)
            go_wp2
            rw [Exit.noGoto_ret]
            go_ret2
            exact ⟨_, _, rfl, Kd.R_drewN (Kd.R_drewN HR.out.o _) _, Kd.R_drewN (Kd.R_drewN HR.out.b _) _, pw_below_drewN (pw_below_drewN HB.out _) _⟩
    · rw [if_neg c3] at h
      exact absurd h (by simp)
  · rw [if_neg c2] at h
    exact absurd h (by simp)
theorem rd_name_mono (k : Nat) (l : List Int) (p : Int) (one : Bool) : LeO (rd_name k l p one) (rd_name (k + 1) l p one) := by
  unfold rd_name
  refine LeO.ite (LeO.refl _) (LeO.ite (LeO.bind (slices_Index_rune_rune.mono _ _ _) fun _ => LeO.refl _) (LeO.refl _))
theorem rd_named_mono (k : Nat) (l : List Int) (p : Int) (xs : List S38) (ys : List S41) (font : Bool) (f : Int) : LeO (rd_named k l p xs ys font f) (rd_named (k + 1) l p xs ys font f) := by
  unfold rd_named
  exact LeO.bind (rd_name_mono _ _ _ _) fun _ => LeO.ite (LeO.bind (LeO.ite (LeO.refl _) (escape_Name.mono _ _)) fun _ => LeO.refl _) (LeO.refl _)
theorem rd_escape_mono (k : Nat) (l : List Int) (p : Int) (xs : List S38) (ys : List S41) (f : Int) : LeO (rd_escape k l p xs ys f) (rd_escape (k + 1) l p xs ys f) := by
  unfold rd_escape
  repeat' first | exact rd_named_mono _ _ _ _ _ _ _ | exact LeO.refl _ | refine LeO.ite ?_ ?_
theorem rd_scan_mono : ∀ (k : Nat) (l : List Int) (p : Int) (xs : List S38) (ys : List S41), LeO (rd_scan k l p xs ys) (rd_scan (k + 1) l p xs ys)
  | 0, _, _, _, _ => fun r h => by simp [rd_scan] at h
  | k + 1, l, p, xs, ys => by
    rw [rd_scan, rd_scan]
    have ih := rd_scan_mono k l
    repeat' first | exact ih _ _ _ | exact rd_escape_mono _ _ _ _ _ _ | exact runes_Control.mono _ _ | exact LeO.refl _ | refine LeO.ite ?_ ?_ | refine LeO.bind ?_ (fun _ => ?_)
theorem escape_Scan.mono : ∀ a0 k, LeO (escape_Scan.f k a0) (escape_Scan.f (k + 1) a0) := by
  intro a0 k
  unfold escape_Scan.f
  repeat' first | exact rd_scan_mono _ _ _ _ _ | exact runes_Decode.mono _ _ | exact LeO.refl _ | exact LeO.none _ | refine LeO.ite ?_ ?_ | refine LeO.bind ?_ (fun _ => ?_)
end Go.Proofs.YtdogljnddalgdaaDoor.A6
end
