/- Of what the law EscapeFonts needs: part 12. -/
import Derived.ArgAppend
import Derived.Below
import Derived.BigQuiet
import Derived.Deep.AppendLies
import Derived.Deep.CutBlock
import Derived.Deep.DeepCutAuto
import Derived.Deep.Draws
import Derived.Deep.LoopGhost
import Derived.Deep.OwnRows
import Derived.Deep.QuietTactic
import Derived.Deep.RegionHeld3
import Derived.KernelRfl
import Derived.Laws.BitsLemmas
import Derived.Laws.BytesArg
import Derived.Laws.Cover4
import Derived.Laws.IdiomCopy
import Derived.Laws.MakeOwn
import Derived.Laws.OwnMore
import Derived.Laws.Rows
import Derived.Laws.Slices
import Derived.Laws.StructEq
import Derived.Lib.AppendStr
import Derived.Lib.ConvBytes
import Derived.Maps.AppendAt
import Derived.Maps.Own
import Derived.Maps.OwnOps
import Derived.Maps.OwnSet
import Derived.OrdersHeld
import Derived.OwnWalk
import Derived.RowKit
import Derived.RowKit3
import Derived.StringKeys
import Derived.Tactics
import Derived.Test.YtdogljnddalgdaaDoorProg
import Derived.WalkKit
import Derived.WalkMore
import Derived.WideLaws
import Derived.Test.YtdogljnddalgdaaDoorZFonts7
import Derived.Test.YtdogljnddalgdaaDoorZFonts8
import Derived.Test.YtdogljnddalgdaaDoorZFonts9
import Derived.Test.YtdogljnddalgdaaDoorZFonts10
import Derived.Test.YtdogljnddalgdaaDoorZFonts11
namespace Go.Proofs.YtdogljnddalgdaaDoorW.PrintLast
end Go.Proofs.YtdogljnddalgdaaDoorW.PrintLast
namespace Go.Proofs.YtdogljnddalgdaaDoorW.PrintMore
end Go.Proofs.YtdogljnddalgdaaDoorW.PrintMore
namespace Go.Proofs.YtdogljnddalgdaaDoorW.PrintWords
end Go.Proofs.YtdogljnddalgdaaDoorW.PrintWords
section
namespace Go.Proofs.YtdogljnddalgdaaDoor.A4
open Go.RowKit Go.Proofs.YtdogljnddalgdaaDoorW.PrintWords Go.Proofs.YtdogljnddalgdaaDoorW.PrintLast Go.Proofs.YtdogljnddalgdaaDoorW.PrintMore
attribute [local go_sem] max2_int min2_int max_two min_two max_three min_three max_four min_four   -- for this text's walks alone
set_option linter.unusedVariables false
set_option linter.unusedSimpArgs false
attribute [local go_sem high] eqA41
mutual
def flonglaw04_EscapeFonts.j0 : Nat → ByteArray → List ByteArray → Int → List (S38) → Bool → Option (Bool)
  | 0, _, _, _, _, _ => none
  | k + 1, x1, x5, x6, x11, x54 => if x54 = true then (some false) else (if x6 < 4 then (if 0 ≤ x6 then (if x6 < (x5.length : Int) then (if 2 + (rdOf ByteArray.empty x5 x6).size ≤ 9223372036854775807 then ((escape_Scan.f k ((⟨#[92, 102]⟩ : ByteArray) ++ (rdOf ByteArray.empty x5 x6))).bind fun bt439 => ((flongref04_Same.f k bt439.1 x11).bind fun t445 => (if t445 = true then (if (bt439.2.length : Int) = 0 then (flonglaw04_EscapeFonts.j1 k x1) else (some false)) else (some false)))) else (none)) else (none)) else (none)) else (flonglaw04_EscapeFonts.j1 k x1))
def flonglaw04_EscapeFonts.j1 : Nat → ByteArray → Option (Bool)
  | 0, _ => none
  | k + 1, x1 => flonglaw04_EscapeFonts.l0 k x1 0
def flonglaw04_EscapeFonts.l0 : Nat → ByteArray → Int → Option (Bool)
  | 0, _, _ => none
  | k + 1, x1, x14 => if x14 < (x1.size : Int) then (if 0 ≤ x14 then (if (bt x1 x14) < 97 then ((flonglaw04_known.f k).bind fun t446 => (some t446)) else (if (bt x1 x14) > 122 then ((flonglaw04_known.f k).bind fun t447 => (some t447)) else (flonglaw04_EscapeFonts.l0 k x1 (wrap64 (x14 + 1))))) else (none)) else ((flongref04_Name.f k x1).bind fun t448 => (if t448 ≥ 0 then (flonglaw04_EscapeFonts.j3 k x1 true) else (flonglaw04_EscapeFonts.j3 k x1 (decide ((x1.size : Int) > 50)))))
def flonglaw04_EscapeFonts.j3 : Nat → ByteArray → Bool → Option (Bool)
  | 0, _, _ => none
  | k + 1, x1, x99 => if x99 = true then ((flonglaw04_known.f k).bind fun t449 => (some t449)) else (if 2 + x1.size ≤ 9223372036854775807 then (if ((⟨#[92, 91]⟩ : ByteArray) ++ x1).size + 1 ≤ 9223372036854775807 then ((escape_Scan.f k (((⟨#[92, 91]⟩ : ByteArray) ++ x1) ++ (⟨#[93]⟩ : ByteArray))).bind fun bt450 => (if (bt450.1.length : Int) = 0 then (if (bt450.2.length : Int) = 1 then (if 0 < (bt450.2.length : Int) then (if (((rd_T41 bt450.2 0).f0) == 2 && (((rd_T41 bt450.2 0).f1) == 0 && (((rd_T41 bt450.2 0).f2) == 1))) = true then ((flonglaw04_known.f k).bind fun t457 => (some t457)) else (some false)) else (none)) else (some false)) else (some false))) else (none)) else (none))
end
def flonglaw04_EscapeFonts.f (k : Nat) (a0 : Int) (a1 : ByteArray) : Option (Bool) := (some (([(⟨#[82]⟩ : ByteArray), (⟨#[66]⟩ : ByteArray), (⟨#[73]⟩ : ByteArray), (⟨#[80]⟩ : ByteArray), (⟨#[66, 73]⟩ : ByteArray)] : List ByteArray) : List ByteArray)).bind fun y421 => (if 0 ≤ (Int.tmod (wrap64 (a0)) 5) then (if (Int.tmod (wrap64 (a0)) 5) < (y421.length : Int) then ((escape_Font.f (rdOf ByteArray.empty y421 (Int.tmod (wrap64 (a0)) 5))).bind fun bt425 => (if 3 + (rdOf ByteArray.empty y421 (Int.tmod (wrap64 (a0)) 5)).size ≤ 9223372036854775807 then (if ((⟨#[92, 102, 91]⟩ : ByteArray) ++ (rdOf ByteArray.empty y421 (Int.tmod (wrap64 (a0)) 5))).size + 1 ≤ 9223372036854775807 then ((escape_Scan.f k (((⟨#[92, 102, 91]⟩ : ByteArray) ++ (rdOf ByteArray.empty y421 (Int.tmod (wrap64 (a0)) 5))) ++ (⟨#[93]⟩ : ByteArray))).bind fun bt428 => ((some (([(⟨3, bt425.1⟩ : S38)] : List (S38)) : List (S38))).bind fun y434 => (if bt425.2 = true then ((flongref04_Same.f k bt428.1 y434).bind fun t437 => (if t437 = true then (flonglaw04_EscapeFonts.j0 k a1 y421 (Int.tmod (wrap64 (a0)) 5) y434 ((bt428.2.length : Int) != 0)) else (flonglaw04_EscapeFonts.j0 k a1 y421 (Int.tmod (wrap64 (a0)) 5) y434 true))) else (flonglaw04_EscapeFonts.j0 k a1 y421 (Int.tmod (wrap64 (a0)) 5) y434 true)))) else (none)) else (none))) else (none)) else (none))
set_option maxHeartbeats 8000000 in
set_option maxRecDepth 100000 in
theorem flonglaw04_EscapeFonts.calls (k : Nat) (a0 : Int) (a1 : ByteArray) (r : Bool) (w : World) (hG : GL w) (h : flonglaw04_EscapeFonts.f k a0 a1 = some r) :
    Calls Tryd.prog 7 #[.int .u8 a0, .string a1] w fun e w' => e = .returned (.bool r) ∧ Below w.heap.size w w' := by
  have hu38 := Tryd.underlying38
  have hu41 := Tryd.underlying41
  have HG := Aside0.mk hG
  clear hG
  have HB := Aside0.mk (Below.refl w.heap.size w)
  have H : ((some (([(⟨#[82]⟩ : ByteArray), (⟨#[66]⟩ : ByteArray), (⟨#[73]⟩ : ByteArray), (⟨#[80]⟩ : ByteArray), (⟨#[66, 73]⟩ : ByteArray)] : List ByteArray) : List ByteArray)).bind fun y421 => (if 0 ≤ (Int.tmod (wrap64 (a0)) 5) then (if (Int.tmod (wrap64 (a0)) 5) < (y421.length : Int) then ((escape_Font.f (rdOf ByteArray.empty y421 (Int.tmod (wrap64 (a0)) 5))).bind fun bt425 => (if 3 + (rdOf ByteArray.empty y421 (Int.tmod (wrap64 (a0)) 5)).size ≤ 9223372036854775807 then (if ((⟨#[92, 102, 91]⟩ : ByteArray) ++ (rdOf ByteArray.empty y421 (Int.tmod (wrap64 (a0)) 5))).size + 1 ≤ 9223372036854775807 then ((escape_Scan.f k (((⟨#[92, 102, 91]⟩ : ByteArray) ++ (rdOf ByteArray.empty y421 (Int.tmod (wrap64 (a0)) 5))) ++ (⟨#[93]⟩ : ByteArray))).bind fun bt428 => ((some (([(⟨3, bt425.1⟩ : S38)] : List (S38)) : List (S38))).bind fun y434 => (if bt425.2 = true then ((flongref04_Same.f k bt428.1 y434).bind fun t437 => (if t437 = true then (flonglaw04_EscapeFonts.j0 k a1 y421 (Int.tmod (wrap64 (a0)) 5) y434 ((bt428.2.length : Int) != 0)) else (flonglaw04_EscapeFonts.j0 k a1 y421 (Int.tmod (wrap64 (a0)) 5) y434 true))) else (flonglaw04_EscapeFonts.j0 k a1 y421 (Int.tmod (wrap64 (a0)) 5) y434 true)))) else (none)) else (none))) else (none)) else (none))) = some r := h
  clear h
  obtain ⟨y421, hy421⟩ : ∃ y_ : List ByteArray, y_ = (([(⟨#[82]⟩ : ByteArray), (⟨#[66]⟩ : ByteArray), (⟨#[73]⟩ : ByteArray), (⟨#[80]⟩ : ByteArray), (⟨#[66, 73]⟩ : ByteArray)] : List ByteArray)) := ⟨_, rfl⟩
  replace H : (if 0 ≤ (Int.tmod (wrap64 (a0)) 5) then (if (Int.tmod (wrap64 (a0)) 5) < (y421.length : Int) then ((escape_Font.f (rdOf ByteArray.empty y421 (Int.tmod (wrap64 (a0)) 5))).bind fun bt425 => (if 3 + (rdOf ByteArray.empty y421 (Int.tmod (wrap64 (a0)) 5)).size ≤ 9223372036854775807 then (if ((⟨#[92, 102, 91]⟩ : ByteArray) ++ (rdOf ByteArray.empty y421 (Int.tmod (wrap64 (a0)) 5))).size + 1 ≤ 9223372036854775807 then ((escape_Scan.f k (((⟨#[92, 102, 91]⟩ : ByteArray) ++ (rdOf ByteArray.empty y421 (Int.tmod (wrap64 (a0)) 5))) ++ (⟨#[93]⟩ : ByteArray))).bind fun bt428 => ((some (([(⟨3, bt425.1⟩ : S38)] : List (S38)) : List (S38))).bind fun y434 => (if bt425.2 = true then ((flongref04_Same.f k bt428.1 y434).bind fun t437 => (if t437 = true then (flonglaw04_EscapeFonts.j0 k a1 y421 (Int.tmod (wrap64 (a0)) 5) y434 ((bt428.2.length : Int) != 0)) else (flonglaw04_EscapeFonts.j0 k a1 y421 (Int.tmod (wrap64 (a0)) 5) y434 true))) else (flonglaw04_EscapeFonts.j0 k a1 y421 (Int.tmod (wrap64 (a0)) 5) y434 true)))) else (none)) else (none))) else (none)) else (none)) = some r := by first | (rw [hy421]; with_reducible exact H) | (have H2_ := (Option.bind_some _ _).symm.trans H; rw [hy421]; with_reducible exact H2_) | (have H2_ := (Option.bind_some _ _).symm.trans H; with_reducible exact H2_) | with_reducible exact H | (rw [hy421]; exact H) | exact H
  have Ny421 := Aside0.mk hy421
  clear hy421
  obtain ⟨ji3, hji3⟩ : ∃ j_ : Int, (Int.tmod (wrap64 (a0)) 5) = j_ := ⟨_, rfl⟩
  replace H : (if 0 ≤ (ji3) then (if (ji3) < (y421.length : Int) then ((escape_Font.f (rdOf ByteArray.empty y421 (ji3))).bind fun bt425 => (if 3 + (rdOf ByteArray.empty y421 (ji3)).size ≤ 9223372036854775807 then (if ((⟨#[92, 102, 91]⟩ : ByteArray) ++ (rdOf ByteArray.empty y421 (ji3))).size + 1 ≤ 9223372036854775807 then ((escape_Scan.f k (((⟨#[92, 102, 91]⟩ : ByteArray) ++ (rdOf ByteArray.empty y421 (ji3))) ++ (⟨#[93]⟩ : ByteArray))).bind fun bt428 => ((some (([(⟨3, bt425.1⟩ : S38)] : List (S38)) : List (S38))).bind fun y434 => (if bt425.2 = true then ((flongref04_Same.f k bt428.1 y434).bind fun t437 => (if t437 = true then (flonglaw04_EscapeFonts.j0 k a1 y421 ji3 y434 ((bt428.2.length : Int) != 0)) else (flonglaw04_EscapeFonts.j0 k a1 y421 ji3 y434 true))) else (flonglaw04_EscapeFonts.j0 k a1 y421 ji3 y434 true)))) else (none)) else (none))) else (none)) else (none)) = some r := by first | (rw [hji3] at H; exact H) | (simp only [hji3] at H ⊢; exact H)
  by_cases c4 : 0 ≤ (ji3)
  · rw [if_pos c4] at H
    have c4b0 : decide (0 ≤ (ji3)) = true := decide_eq_true c4
    clear c4
    by_cases c5 : (ji3) < (y421.length : Int)
    · rw [if_pos c5] at H
      have c5b0 : decide ((ji3) < (y421.length : Int)) = true := decide_eq_true c5
      clear c5
      replace H := Option.bind_eq_some_iff.mp H
      obtain ⟨⟨t425, t426⟩, A60, H⟩ := H
      replace H : (if 3 + (rdOf ByteArray.empty y421 (ji3)).size ≤ 9223372036854775807 then (if ((⟨#[92, 102, 91]⟩ : ByteArray) ++ (rdOf ByteArray.empty y421 (ji3))).size + 1 ≤ 9223372036854775807 then ((escape_Scan.f k (((⟨#[92, 102, 91]⟩ : ByteArray) ++ (rdOf ByteArray.empty y421 (ji3))) ++ (⟨#[93]⟩ : ByteArray))).bind fun bt428 => ((some (([(⟨3, t425⟩ : S38)] : List (S38)) : List (S38))).bind fun y434 => (if t426 = true then ((flongref04_Same.f k bt428.1 y434).bind fun t437 => (if t437 = true then (flonglaw04_EscapeFonts.j0 k a1 y421 ji3 y434 ((bt428.2.length : Int) != 0)) else (flonglaw04_EscapeFonts.j0 k a1 y421 ji3 y434 true))) else (flonglaw04_EscapeFonts.j0 k a1 y421 ji3 y434 true)))) else (none)) else (none)) = some r := H
      have A6 := Aside0.mk A60
      clear A60
      by_cases c7 : 3 + (rdOf ByteArray.empty y421 (ji3)).size ≤ 9223372036854775807
      · rw [if_pos c7] at H
        have c7b0 := eq_true c7
        have c7b1 : decide (3 + (rdOf ByteArray.empty y421 (ji3)).size ≤ 9223372036854775807) = true := decide_eq_true c7
        try have c7b2 : (9223372036854775807 < 3 + (rdOf ByteArray.empty y421 (ji3)).size) = False := eq_false (Nat.not_lt.2 c7)
        by_cases c8 : ((⟨#[92, 102, 91]⟩ : ByteArray) ++ (rdOf ByteArray.empty y421 (ji3))).size + 1 ≤ 9223372036854775807
        · rw [if_pos c8] at H
          have c8b0 := eq_true c8
          have c8b1 : decide (((⟨#[92, 102, 91]⟩ : ByteArray) ++ (rdOf ByteArray.empty y421 (ji3))).size + 1 ≤ 9223372036854775807) = true := decide_eq_true c8
          try have c8b2 : (9223372036854775807 < ((⟨#[92, 102, 91]⟩ : ByteArray) ++ (rdOf ByteArray.empty y421 (ji3))).size + 1) = False := eq_false (Nat.not_lt.2 c8)
          try have c8b3 := by have h_ := c8b2; simp only [ByteArray.size_append] at h_; exact h_
          try have c8n := by have h_ := c8; simp only [ByteArray.size_append, ByteArray.size_extract] at h_; exact h_
          try have c8m := by have h_ := c8; simp at h_; exact h_
          try have c8b4 := by have h_ := c8b2; simp only [ByteArray.size_append, ByteArray.size_mk', List.size_toArray, List.length_cons, List.length_nil, Nat.zero_add, Nat.reduceAdd] at h_; exact h_
          replace H := Option.bind_eq_some_iff.mp H
          obtain ⟨⟨t428, t429⟩, A90, H⟩ := H
          replace H : ((some (([(⟨3, t425⟩ : S38)] : List (S38)) : List (S38))).bind fun y434 => (if t426 = true then ((flongref04_Same.f k t428 y434).bind fun t437 => (if t437 = true then (flonglaw04_EscapeFonts.j0 k a1 y421 ji3 y434 ((t429.length : Int) != 0)) else (flonglaw04_EscapeFonts.j0 k a1 y421 ji3 y434 true))) else (flonglaw04_EscapeFonts.j0 k a1 y421 ji3 y434 true))) = some r := H
          have A9 := Aside0.mk A90
          clear A90
          obtain ⟨y434, hy434⟩ : ∃ y_ : List (S38), y_ = (([(⟨3, t425⟩ : S38)] : List (S38))) := ⟨_, rfl⟩
          replace H : (if t426 = true then ((flongref04_Same.f k t428 y434).bind fun t437 => (if t437 = true then (flonglaw04_EscapeFonts.j0 k a1 y421 ji3 y434 ((t429.length : Int) != 0)) else (flonglaw04_EscapeFonts.j0 k a1 y421 ji3 y434 true))) else (flonglaw04_EscapeFonts.j0 k a1 y421 ji3 y434 true)) = some r := by first | (rw [hy434]; with_reducible exact H) | (have H2_ := (Option.bind_some _ _).symm.trans H; rw [hy434]; with_reducible exact H2_) | (have H2_ := (Option.bind_some _ _).symm.trans H; with_reducible exact H2_) | with_reducible exact H | (rw [hy434]; exact H) | exact H
          have Ny434 := Aside0.mk hy434
          clear hy434
          have HC10 := Aside0.mk H
          clear H
          go_enter Tryd.func7, Tryd.ntmps7
          go_upto_region 6 with (first | ((with_reducible refine gate_dst (N := 17) rfl ?_); (try (refine gate_guard (by rfl) ?_; dsimp only)); refine Kd.R_lit Kd.string _ 9 ?hg (N := 17) ?hd (xs := ([(⟨#[82]⟩ : ByteArray), (⟨#[66]⟩ : ByteArray), (⟨#[73]⟩ : ByteArray), (⟨#[80]⟩ : ByteArray), (⟨#[66, 73]⟩ : ByteArray)] : List ByteArray)) (inner := [.string (⟨#[82]⟩ : ByteArray), .string (⟨#[66]⟩ : ByteArray), .string (⟨#[73]⟩ : ByteArray), .string (⟨#[80]⟩ : ByteArray), .string (⟨#[66, 73]⟩ : ByteArray)]) (ok := fun _ => True) (okp := fun _ => True) ?hr ?hp (fun _ hk => hk) trivial (Below.refl _ _) (Nat.le_refl _) (by simp) ?_; (case hd => rfl); (case hg => rfl); (case hr => first | (go_simp; done) | (go_simp; rfl)); (case hp => exact (Reps.one (show Kd.M Kd.string _ _ _ (⟨#[82]⟩ : ByteArray) [.string (⟨#[82]⟩ : ByteArray)] from rfl) (Reps.one (show Kd.M Kd.string _ _ _ (⟨#[66]⟩ : ByteArray) [.string (⟨#[66]⟩ : ByteArray)] from rfl) (Reps.one (show Kd.M Kd.string _ _ _ (⟨#[73]⟩ : ByteArray) [.string (⟨#[73]⟩ : ByteArray)] from rfl) (Reps.one (show Kd.M Kd.string _ _ _ (⟨#[80]⟩ : ByteArray) [.string (⟨#[80]⟩ : ByteArray)] from rfl) (Reps.one (show Kd.M Kd.string _ _ _ (⟨#[66, 73]⟩ : ByteArray) [.string (⟨#[66, 73]⟩ : ByteArray)] from rfl) (Reps.none _ _))))))); intro v422 w11 ho12 hb hg_ hnew_; clear hg_ hnew_; (first | rw [← Ny421.out] at ho12 | (simp only [Int.reduceToNat] at ho12; rw [← Ny421.out] at ho12)); have n0_ := Aside0.mk (Kd.R_lower ho12 (below_size (by repeat (first | (with_reducible first | exact HB.out | apply below_alloc | apply pw_below_drewN | apply below_drew1) | exact HB.out)))); have n1_ := Aside0.mk (below_step (by repeat (first | (with_reducible first | exact HB.out | apply below_alloc | apply pw_below_drewN | apply below_drew1) | exact HB.out)) hb); clear HB; have HO423 := n0_; have HB := n1_; clear n0_ n1_; clear hb ho12; obtain ⟨Ao13, co13, eo13⟩ := Kd.R_slice HO423.out; subst eo13; have p424 : 0 ≤ ((ji3) : Int) := of_decide_eq_true (by first | (with_reducible assumption) | assumption); have q424 : (ji3) < (y421.length : Int) := of_decide_eq_true (by first | (with_reducible assumption) | assumption); obtain ⟨ad424, e424, hx424_0⟩ := Kd.at_string (Kd.R_reads' HO423.out).2.2 (ji3) p424 q424; cases e424; replace p424 := eq_true p424; replace q424 := eq_true q424) | ((with_reducible refine gate_callee (f := 20) rfl ?_); refine goesL_ (some 26) rfl rfl Tryd.func20 (by kernel_rfl) rfl #[.string (rdOf ByteArray.empty y421 (ji3))] rfl (by (try simp only [List.map_toArray, List.map_cons, List.map_nil]); first | done | (simp only [hji3]; rfl) | rfl | (simp only [List.length_drop, List.length_take]; rfl)) ?_; (with_reducible refine (escape_Font.calls (rdOf ByteArray.empty y421 (ji3)) t425 t426 _ ?side1 A6.out).mono ?_); (case side1 => exact GL.below HG.out (by repeat (first | (with_reducible first | exact HB.out | apply below_alloc | apply pw_below_drewN | apply below_drew1) | exact HB.out))); rintro e w' ⟨rfl, ⟨nd, rfl⟩⟩; refine ⟨_, rfl, ?_⟩; have p427 : 0 ≤ ((ji3) : Int) := of_decide_eq_true (by first | (with_reducible assumption) | assumption); have q427 : (ji3) < (y421.length : Int) := of_decide_eq_true (by first | (with_reducible assumption) | assumption); obtain ⟨ad427, e427, hx427_0⟩ := Kd.at_string (Kd.R_reads' HO423.out).2.2 (ji3) p427 q427; obtain rfl : ad424 = ad427 := (by injection e427); replace p427 := eq_true p427; replace q427 := eq_true q427) | ((with_reducible refine gate_callee (f := 15) rfl ?_); refine goesL_ (some 36) rfl rfl Tryd.func15 (by kernel_rfl) rfl #[.string (((⟨#[92, 102, 91]⟩ : ByteArray) ++ (rdOf ByteArray.empty y421 (ji3))) ++ (⟨#[93]⟩ : ByteArray))] rfl (by (try simp only [List.map_toArray, List.map_cons, List.map_nil]); first | done | (simp only [hji3]; rfl) | rfl | (simp only [List.length_drop, List.length_take]; rfl)) ?_; (with_reducible refine (escape_Scan.calls k (((⟨#[92, 102, 91]⟩ : ByteArray) ++ (rdOf ByteArray.empty y421 (ji3))) ++ (⟨#[93]⟩ : ByteArray)) t428 t429 _ ?side1 A9.out).mono ?_); (case side1 => exact GL.below HG.out (by repeat (first | (with_reducible first | exact HB.out | apply below_alloc | apply pw_below_drewN | apply below_drew1) | exact HB.out))); rintro e w14 ⟨v430, v432, rfl, ho0, ho1, hb⟩; refine ⟨_, rfl, ?_⟩; have n0_ := Aside0.mk (Kd.R_below (by (with_reducible repeat (first | apply Kd.R_alloc | apply Kd.R_drewN | apply Kd.R_drew)); exact HO423.out) hb); have n1_ := Aside0.mk (Kd.R_lower ho0 (below_size (by repeat (first | (with_reducible first | exact HB.out | apply below_alloc | apply pw_below_drewN | apply below_drew1) | exact HB.out)))); have n2_ := Aside0.mk (Kd.R_lower ho1 (below_size (by repeat (first | (with_reducible first | exact HB.out | apply below_alloc | apply pw_below_drewN | apply below_drew1) | exact HB.out)))); have n3_ := Aside0.mk (below_step (by repeat (first | (with_reducible first | exact HB.out | apply below_alloc | apply pw_below_drewN | apply below_drew1) | exact HB.out)) hb); clear HO423; clear HB; have HO423 := n0_; have HO431 := n1_; have HO433 := n2_; have HB := n3_; clear n0_ n1_ n2_ n3_; (try clear hb); (try clear hb2); (try clear hk); (try clear hi); (try clear ho0); (try clear ho1)) | ((with_reducible refine gate_dst (N := 41) rfl ?_); (try (refine gate_guard (by rfl) ?_; dsimp only)); refine Kd.R_lit k38 _ 38 ?hg (N := 41) ?hd (xs := ([(⟨3, t425⟩ : S38)] : List (S38))) (inner := [.int .i64 3, .int .i32 t425]) (ok := fun _ => True) (okp := fun _ => True) ?hr ?hp (fun _ hk => hk) trivial (Below.refl _ _) (Nat.le_refl _) (by simp) ?_; (case hd => rfl); (case hg => rfl); (case hr => first | (go_simp; done) | (go_simp; rfl)); (case hp => exact (Reps.c2 (show Kd.M k38 _ _ _ (⟨3, t425⟩ : S38) [.int .i64 3, .int .i32 t425] from (k38_mkM _ _ _ (⟨3, t425⟩ : S38) )) (Reps.none _ _))); intro v435 w15 ho16 hb hg_ hnew_; clear hg_ hnew_; (first | rw [← Ny434.out] at ho16 | (simp only [Int.reduceToNat] at ho16; rw [← Ny434.out] at ho16)); have n0_ := Aside0.mk (Kd.R_below (by (with_reducible repeat (first | apply Kd.R_alloc | apply Kd.R_drewN | apply Kd.R_drew)); exact HO423.out) hb); have n1_ := Aside0.mk (Kd.R_elder' (by (with_reducible repeat (first | apply Kd.R_alloc | apply Kd.R_drewN | apply Kd.R_drew)); exact HO431.out) (Kd.R_base ho16) hb); have n2_ := Aside0.mk (Kd.R_below (by (with_reducible repeat (first | apply Kd.R_alloc | apply Kd.R_drewN | apply Kd.R_drew)); exact HO433.out) hb); have n3_ := Aside0.mk (Kd.R_lower (Kd.R_new' ho16 (Kd.R_lt (by (with_reducible repeat (first | apply Kd.R_alloc | apply Kd.R_drewN | apply Kd.R_drew)); exact HO431.out))) (below_size (by repeat (first | (with_reducible first | exact HB.out | apply below_alloc | apply pw_below_drewN | apply below_drew1) | exact HB.out)))); have n4_ := Aside0.mk (below_step (by repeat (first | (with_reducible first | exact HB.out | apply below_alloc | apply pw_below_drewN | apply below_drew1) | exact HB.out)) hb); clear HO423; clear HO431; clear HO433; clear HB; have HO423 := n0_; have HO431 := n1_; have HO433 := n2_; have HO436 := n3_; have HB := n4_; clear n0_ n1_ n2_ n3_ n4_; clear hb ho16))
          (try simp only [Act.put, List.setIfInBounds_toArray, List.set_cons_zero, List.set_cons_succ])
          go_cut [54] (fun v54 wc => ∃ (kq : Nat) (x54_9 : Bool), v54 = .bool x54_9 ∧ Aside0 (flonglaw04_EscapeFonts.j0 kq a1 y421 ji3 y434 x54_9 = some r) ∧ Aside0 (kq ≤ k) ∧ Aside0 (Kd.R Kd.string 9 wc w.heap.size (fun _ => True) (.slice (some ad424) y421.length co13) y421) ∧ Aside0 (Kd.R k38 38 wc w.heap.size (fun _ => True) v435 y434) ∧ Aside0 (Below w.heap.size w wc))
          case first =>
            have H := HC10.out
            clear HC10
            by_cases c17 : t426 = true
            · subst c17
              have H1 : ((flongref04_Same.f k t428 y434).bind fun t437 => (if t437 = true then (flonglaw04_EscapeFonts.j0 k a1 y421 ji3 y434 ((t429.length : Int) != 0)) else (flonglaw04_EscapeFonts.j0 k a1 y421 ji3 y434 true))) = some r := by rw [if_pos rfl] at H; exact H
              clear H
              have H := H1
              clear H1
              replace H := Option.bind_eq_some_iff.mp H
              obtain ⟨t437, A180, H⟩ := H
              replace H : (if t437 = true then (flonglaw04_EscapeFonts.j0 k a1 y421 ji3 y434 ((t429.length : Int) != 0)) else (flonglaw04_EscapeFonts.j0 k a1 y421 ji3 y434 true)) = some r := H
              have A18 := Aside0.mk A180
              clear A180
              by_cases c19 : t437 = true
              · subst c19
                have H1 : (flonglaw04_EscapeFonts.j0 k a1 y421 ji3 y434 ((t429.length : Int) != 0)) = some r := by rw [if_pos rfl] at H; exact H
                clear H
                have H := H1
                clear H1
                have H' := Aside0.mk H
                clear H
                obtain ⟨Ao20, co20, eo20⟩ := Kd.R_slice HO431.out
                subst eo20
                obtain ⟨Ao21, co21, eo21⟩ := Kd.R_slice HO436.out
                subst eo21
                go_wp2_with (first | (go_at_call 17; (with_reducible refine (flongref04_Same.calls k _ _ t428 _ _ y434 true _ ?side1 ?side2 ?side3 ?side4 A18.out).mono ?_); (case side1 => repeat (first | exact (Kd.R_reads' HO431.out).2.2 | (with_reducible refine Kd.C_alloc ?_ _) | (with_reducible refine Kd.C_drewN ?_ _) | (with_reducible refine Kd.C_drew ?_))); (case side2 => exact (Kd.R_reads' HO431.out).2.1); (case side3 => repeat (first | exact (Kd.R_reads' HO436.out).2.2 | (with_reducible refine Kd.C_alloc ?_ _) | (with_reducible refine Kd.C_drewN ?_ _) | (with_reducible refine Kd.C_drew ?_))); (case side4 => exact (Kd.R_reads' HO436.out).2.1); rintro e w' ⟨rfl, ⟨nd, rfl⟩⟩; obtain ⟨Ao22, co22, eo22⟩ := Kd.R_slice HO433.out; subst eo22))
                go_meet
                case rel => exact ⟨_, (((t429.length : Int) != 0)), (by first | rfl | (simp; done) | (simp [*]; done)), H', ⟨by first | omega | exact Nat.le_refl _⟩, ⟨by (with_reducible repeat (first | apply Kd.R_alloc | apply Kd.R_drewN | apply Kd.R_drew)); exact HO423.out⟩, ⟨by (with_reducible repeat (first | apply Kd.R_alloc | apply Kd.R_drewN | apply Kd.R_drew)); exact Kd.R_mono HO436.out (fun _ hk => trivial)⟩, ⟨by repeat (first | (with_reducible first | exact HB.out | apply below_alloc | apply pw_below_drewN | apply below_drew1) | exact HB.out)⟩⟩
              · replace c19 := Bool.eq_false_iff.mpr c19
                subst c19
                have H1 : (flonglaw04_EscapeFonts.j0 k a1 y421 ji3 y434 true) = some r := by rw [if_neg (show ¬ (false = true) by decide)] at H; exact H
                clear H
                have H := H1
                clear H1
                have H' := Aside0.mk H
                clear H
                obtain ⟨Ao23, co23, eo23⟩ := Kd.R_slice HO431.out
                subst eo23
                obtain ⟨Ao24, co24, eo24⟩ := Kd.R_slice HO436.out
                subst eo24
                go_wp2_with (first | (go_at_call 17; (with_reducible refine (flongref04_Same.calls k _ _ t428 _ _ y434 false _ ?side1 ?side2 ?side3 ?side4 A18.out).mono ?_); (case side1 => repeat (first | exact (Kd.R_reads' HO431.out).2.2 | (with_reducible refine Kd.C_alloc ?_ _) | (with_reducible refine Kd.C_drewN ?_ _) | (with_reducible refine Kd.C_drew ?_))); (case side2 => exact (Kd.R_reads' HO431.out).2.1); (case side3 => repeat (first | exact (Kd.R_reads' HO436.out).2.2 | (with_reducible refine Kd.C_alloc ?_ _) | (with_reducible refine Kd.C_drewN ?_ _) | (with_reducible refine Kd.C_drew ?_))); (case side4 => exact (Kd.R_reads' HO436.out).2.1); rintro e w' ⟨rfl, ⟨nd, rfl⟩⟩))
                go_meet
                case rel => exact ⟨_, (true), (by first | rfl | (simp; done) | (simp [*]; done)), H', ⟨by first | omega | exact Nat.le_refl _⟩, ⟨by (with_reducible repeat (first | apply Kd.R_alloc | apply Kd.R_drewN | apply Kd.R_drew)); exact HO423.out⟩, ⟨by (with_reducible repeat (first | apply Kd.R_alloc | apply Kd.R_drewN | apply Kd.R_drew)); exact Kd.R_mono HO436.out (fun _ hk => trivial)⟩, ⟨by repeat (first | (with_reducible first | exact HB.out | apply below_alloc | apply pw_below_drewN | apply below_drew1) | exact HB.out)⟩⟩
            · replace c17 := Bool.eq_false_iff.mpr c17
              subst c17
              have H1 : (flonglaw04_EscapeFonts.j0 k a1 y421 ji3 y434 true) = some r := by rw [if_neg (show ¬ (false = true) by decide)] at H; exact H
              clear H
              have H := H1
              clear H1
              have H' := Aside0.mk H
              clear H
              go_wp2
              go_meet
              case rel => exact ⟨_, (true), (by first | rfl | (simp; done) | (simp [*]; done)), H', ⟨by first | omega | exact Nat.le_refl _⟩, ⟨by (with_reducible repeat (first | apply Kd.R_alloc | apply Kd.R_drewN | apply Kd.R_drew)); exact HO423.out⟩, ⟨by (with_reducible repeat (first | apply Kd.R_alloc | apply Kd.R_drewN | apply Kd.R_drew)); exact Kd.R_mono HO436.out (fun _ hk => trivial)⟩, ⟨by repeat (first | (with_reducible first | exact HB.out | apply below_alloc | apply pw_below_drewN | apply below_drew1) | exact HB.out)⟩⟩
          case rest =>
            clear HC10
            try clear c1
            try clear c2
            try clear p2
            try clear c4
            try clear c4b0
            try clear p4
            try clear q4
            try clear hx4
            try clear c5
            try clear c5b0
            try clear p6
            try clear c7
            try clear c7b0
            try clear c7b1
            try clear c7b2
            try clear c8
            try clear c8b0
            try clear c8b1
            try clear c8b2
            try clear c15
            try clear c17
            try clear c19
            try clear c20
            try clear hx424_0
            try clear hx427_0
            try clear p424
            try clear p427
            try clear q424
            try clear q427
            obtain ⟨kq, x54_9, rfl, HA, HJ9, HO_5, HO_11, HB⟩ := hcut
            cases kq with
            | zero => exact absurd HA.out (by simp [flonglaw04_EscapeFonts.j0])
            | succ kj9 =>
              have H := HA.out
              clear HA
              simp only [flonglaw04_EscapeFonts.j0] at H
              by_cases c25 : x54_9 = true
              · subst c25
                have H1 : (some false) = some r := by rw [if_pos rfl] at H; exact H
                clear H
                have H := H1
                clear H1
                obtain rfl := Option.some.inj H
                go_wp2
                go_ret
                exact ⟨by first | rfl | (simp [errW_none, errW_some] <;> rfl) | (simp only [← hji3]; first | rfl | (simp [errW_none, errW_some] <;> rfl)) | (simp [*, errW_none, errW_some] <;> rfl), by repeat (first | (with_reducible first | exact HB.out | apply below_alloc | apply pw_below_drewN | apply below_drew1) | exact HB.out)⟩
              · replace c25 := Bool.eq_false_iff.mpr c25
                subst c25
                have H1 : (if ji3 < 4 then (if 0 ≤ ji3 then (if ji3 < (y421.length : Int) then (if 2 + (rdOf ByteArray.empty y421 ji3).size ≤ 9223372036854775807 then ((escape_Scan.f kj9 ((⟨#[92, 102]⟩ : ByteArray) ++ (rdOf ByteArray.empty y421 ji3))).bind fun bt439 => ((flongref04_Same.f kj9 bt439.1 y434).bind fun t445 => (if t445 = true then (if (bt439.2.length : Int) = 0 then (flonglaw04_EscapeFonts.j1 kj9 a1) else (some false)) else (some false)))) else (none)) else (none)) else (none)) else (flonglaw04_EscapeFonts.j1 kj9 a1)) = some r := by rw [if_neg (show ¬ (false = true) by decide)] at H; exact H
                clear H
                have H := H1
                clear H1
                have HC26 := Aside0.mk H
                clear H
                go_upto_if 56 with (fail)
                go_cut [] (fun wc => ∃ (kq : Nat), Aside0 (flonglaw04_EscapeFonts.j1 kq a1 = some r) ∧ Aside0 (kq ≤ kj9) ∧ Aside0 (Below w.heap.size w wc))
                case first =>
                  have H := HC26.out
                  clear HC26
                  by_cases c27 : ji3 < 4
                  · rw [if_pos c27] at H
                    have c27b0 : decide (ji3 < 4) = true := decide_eq_true c27
                    clear c27
                    (first | rw [c27b0] | (simp only [i64_w, i32_w]; rw [c27b0]) | skip)
                    by_cases c28 : 0 ≤ ji3
                    · rw [if_pos c28] at H
                      have c28b0 : decide (0 ≤ ji3) = true := decide_eq_true c28
                      clear c28
                      by_cases c29 : ji3 < (y421.length : Int)
                      · rw [if_pos c29] at H
                        have c29b0 : decide (ji3 < (y421.length : Int)) = true := decide_eq_true c29
                        clear c29
                        by_cases c30 : 2 + (rdOf ByteArray.empty y421 ji3).size ≤ 9223372036854775807
                        · rw [if_pos c30] at H
                          have c30b0 := eq_true c30
                          have c30b1 : decide (2 + (rdOf ByteArray.empty y421 ji3).size ≤ 9223372036854775807) = true := decide_eq_true c30
                          try have c30b2 : (9223372036854775807 < 2 + (rdOf ByteArray.empty y421 ji3).size) = False := eq_false (Nat.not_lt.2 c30)
                          replace H := Option.bind_eq_some_iff.mp H
                          obtain ⟨⟨t439, t440⟩, A310, H⟩ := H
                          replace H : ((flongref04_Same.f kj9 t439 y434).bind fun t445 => (if t445 = true then (if (t440.length : Int) = 0 then (flonglaw04_EscapeFonts.j1 kj9 a1) else (some false)) else (some false))) = some r := H
                          have A31 := Aside0.mk A310
                          clear A310
                          replace H := Option.bind_eq_some_iff.mp H
                          obtain ⟨t445, A320, H⟩ := H
                          replace H : (if t445 = true then (if (t440.length : Int) = 0 then (flonglaw04_EscapeFonts.j1 kj9 a1) else (some false)) else (some false)) = some r := H
                          have A32 := Aside0.mk A320
                          clear A320
                          by_cases c33 : t445 = true
                          · subst c33
                            have H1 : (if (t440.length : Int) = 0 then (flonglaw04_EscapeFonts.j1 kj9 a1) else (some false)) = some r := by rw [if_pos rfl] at H; exact H
                            clear H
                            have H := H1
                            clear H1
                            by_cases c34 : (t440.length : Int) = 0
                            · rw [if_pos c34] at H
                              have c34b0 : ((t440.length : Int) == 0) = true := beq_iff_eq.mpr c34
                              have c34b1 : ((t440.length : Int) != 0) = false := bne_eq_false_iff_eq.mpr c34
                              clear c34
                              have H' := Aside0.mk H
                              clear H
                              have p438 : 0 ≤ (ji3 : Int) := of_decide_eq_true (by first | (with_reducible assumption) | assumption)
                              have q438 : ji3 < (y421.length : Int) := of_decide_eq_true (by first | (with_reducible assumption) | assumption)
                              obtain ⟨ad438, e438, hx438_0⟩ := Kd.at_string (Kd.R_reads' HO_5.out).2.2 ji3 p438 q438
                              obtain rfl : ad424 = ad438 := (by injection e438)
                              replace p438 := eq_true p438
                              replace q438 := eq_true q438
                              go_wp2_with (first | ((with_reducible refine gate_callee (f := 15) rfl ?_); refine goesL_ (some 63) rfl rfl Tryd.func15 (by kernel_rfl) rfl #[.string ((⟨#[92, 102]⟩ : ByteArray) ++ (rdOf ByteArray.empty y421 ji3))] rfl (by (try simp only [List.map_toArray, List.map_cons, List.map_nil]); first | done | (simp only [hji3]; rfl) | rfl | (simp only [List.length_drop, List.length_take]; rfl)) ?_; (with_reducible refine (escape_Scan.calls kj9 ((⟨#[92, 102]⟩ : ByteArray) ++ (rdOf ByteArray.empty y421 ji3)) t439 t440 _ ?side1 A31.out).mono ?_); (case side1 => exact GL.below HG.out (by repeat (first | (with_reducible first | exact HB.out | apply below_alloc | apply pw_below_drewN | apply below_drew1) | exact HB.out))); rintro e w35 ⟨v441, v443, rfl, ho0, ho1, hb⟩; refine ⟨_, rfl, ?_⟩; have n0_ := Aside0.mk (Kd.R_below (by (with_reducible repeat (first | apply Kd.R_alloc | apply Kd.R_drewN | apply Kd.R_drew)); exact HO_5.out) hb); have n1_ := Aside0.mk (Kd.R_elder' (by (with_reducible repeat (first | apply Kd.R_alloc | apply Kd.R_drewN | apply Kd.R_drew)); exact HO_11.out) (Kd.R_base ho0) hb); have n2_ := Aside0.mk (Kd.R_lower (Kd.R_new' ho0 (Kd.R_lt (by (with_reducible repeat (first | apply Kd.R_alloc | apply Kd.R_drewN | apply Kd.R_drew)); exact HO_11.out))) (below_size (by repeat (first | (with_reducible first | exact HB.out | apply below_alloc | apply pw_below_drewN | apply below_drew1) | exact HB.out)))); have n3_ := Aside0.mk (Kd.R_lower ho1 (below_size (by repeat (first | (with_reducible first | exact HB.out | apply below_alloc | apply pw_below_drewN | apply below_drew1) | exact HB.out)))); have n4_ := Aside0.mk (below_step (by repeat (first | (with_reducible first | exact HB.out | apply below_alloc | apply pw_below_drewN | apply below_drew1) | exact HB.out)) hb); clear HO_5; clear HO_11; clear HB; have HO_5 := n0_; have HO_11 := n1_; have HO442 := n2_; have HO444 := n3_; have HB := n4_; clear n0_ n1_ n2_ n3_ n4_; (try clear hb); (try clear hb2); (try clear hk); (try clear hi); (try clear ho0); (try clear ho1); obtain ⟨Ao36, co36, eo36⟩ := Kd.R_slice HO442.out; subst eo36; obtain ⟨Ao37, co37, eo37⟩ := Kd.R_slice HO_11.out; subst eo37) | ((with_reducible refine gate_callee (f := 17) rfl ?_); refine goesL_ (some 68) rfl rfl Tryd.func17 (by kernel_rfl) rfl #[.slice Ao36 t439.length co36, .slice Ao37 y434.length co37] rfl (by (try simp only [List.map_toArray, List.map_cons, List.map_nil]); first | done | rfl | (simp only [List.length_drop, List.length_take]; rfl)) ?_; (with_reducible refine (flongref04_Same.calls kj9 _ _ t439 _ _ y434 true _ ?side1 ?side2 ?side3 ?side4 A32.out).mono ?_); (case side1 => repeat (first | exact (Kd.R_reads' HO442.out).2.2 | (with_reducible refine Kd.C_alloc ?_ _) | (with_reducible refine Kd.C_drewN ?_ _) | (with_reducible refine Kd.C_drew ?_))); (case side2 => exact (Kd.R_reads' HO442.out).2.1); (case side3 => repeat (first | exact (Kd.R_reads' HO_11.out).2.2 | (with_reducible refine Kd.C_alloc ?_ _) | (with_reducible refine Kd.C_drewN ?_ _) | (with_reducible refine Kd.C_drew ?_))); (case side4 => exact (Kd.R_reads' HO_11.out).2.1); rintro e w' ⟨rfl, ⟨nd, rfl⟩⟩; refine ⟨_, rfl, ?_⟩; obtain ⟨Ao38, co38, eo38⟩ := Kd.R_slice HO444.out; subst eo38))
                              go_meet
                              case rel => exact ⟨_, H', ⟨by have := HJ9.out; first | omega | exact Nat.le_refl _⟩, ⟨by repeat (first | (with_reducible first | exact HB.out | apply below_alloc | apply pw_below_drewN | apply below_drew1) | exact HB.out)⟩⟩
                            · rw [if_neg c34] at H
                              have c34b0 : ((t440.length : Int) == 0) = false := beq_eq_false_iff_ne.mpr c34
                              have c34b1 : ((t440.length : Int) != 0) = true := bne_iff_ne.mpr c34
                              have c34b2 : ¬ (t440 = []) := fun h_ => c34 (by rw [h_]; rfl)
                              obtain rfl := Option.some.inj H
                              have p438 : 0 ≤ (ji3 : Int) := of_decide_eq_true (by first | (with_reducible assumption) | assumption)
                              have q438 : ji3 < (y421.length : Int) := of_decide_eq_true (by first | (with_reducible assumption) | assumption)
                              obtain ⟨ad438, e438, hx438_0⟩ := Kd.at_string (Kd.R_reads' HO_5.out).2.2 ji3 p438 q438
                              obtain rfl : ad424 = ad438 := (by injection e438)
                              replace p438 := eq_true p438
                              replace q438 := eq_true q438
                              go_wp2_with (first | ((with_reducible refine gate_callee (f := 15) rfl ?_); refine goesL_ (some 63) rfl rfl Tryd.func15 (by kernel_rfl) rfl #[.string ((⟨#[92, 102]⟩ : ByteArray) ++ (rdOf ByteArray.empty y421 ji3))] rfl (by (try simp only [List.map_toArray, List.map_cons, List.map_nil]); first | done | (simp only [hji3]; rfl) | rfl | (simp only [List.length_drop, List.length_take]; rfl)) ?_; (with_reducible refine (escape_Scan.calls kj9 ((⟨#[92, 102]⟩ : ByteArray) ++ (rdOf ByteArray.empty y421 ji3)) t439 t440 _ ?side1 A31.out).mono ?_); (case side1 => exact GL.below HG.out (by repeat (first | (with_reducible first | exact HB.out | apply below_alloc | apply pw_below_drewN | apply below_drew1) | exact HB.out))); rintro e w39 ⟨v441, v443, rfl, ho0, ho1, hb⟩; refine ⟨_, rfl, ?_⟩; have n0_ := Aside0.mk (Kd.R_below (by (with_reducible repeat (first | apply Kd.R_alloc | apply Kd.R_drewN | apply Kd.R_drew)); exact HO_5.out) hb); have n1_ := Aside0.mk (Kd.R_elder' (by (with_reducible repeat (first | apply Kd.R_alloc | apply Kd.R_drewN | apply Kd.R_drew)); exact HO_11.out) (Kd.R_base ho0) hb); have n2_ := Aside0.mk (Kd.R_lower (Kd.R_new' ho0 (Kd.R_lt (by (with_reducible repeat (first | apply Kd.R_alloc | apply Kd.R_drewN | apply Kd.R_drew)); exact HO_11.out))) (below_size (by repeat (first | (with_reducible first | exact HB.out | apply below_alloc | apply pw_below_drewN | apply below_drew1) | exact HB.out)))); have n3_ := Aside0.mk (Kd.R_lower ho1 (below_size (by repeat (first | (with_reducible first | exact HB.out | apply below_alloc | apply pw_below_drewN | apply below_drew1) | exact HB.out)))); have n4_ := Aside0.mk (below_step (by repeat (first | (with_reducible first | exact HB.out | apply below_alloc | apply pw_below_drewN | apply below_drew1) | exact HB.out)) hb); clear HO_5; clear HO_11; clear HB; have HO_5 := n0_; have HO_11 := n1_; have HO442 := n2_; have HO444 := n3_; have HB := n4_; clear n0_ n1_ n2_ n3_ n4_; (try clear hb); (try clear hb2); (try clear hk); (try clear hi); (try clear ho0); (try clear ho1); obtain ⟨Ao40, co40, eo40⟩ := Kd.R_slice HO442.out; subst eo40; obtain ⟨Ao41, co41, eo41⟩ := Kd.R_slice HO_11.out; subst eo41) | ((with_reducible refine gate_callee (f := 17) rfl ?_); refine goesL_ (some 68) rfl rfl Tryd.func17 (by kernel_rfl) rfl #[.slice Ao40 t439.length co40, .slice Ao41 y434.length co41] rfl (by (try simp only [List.map_toArray, List.map_cons, List.map_nil]); first | done | rfl | (simp only [List.length_drop, List.length_take]; rfl)) ?_; (with_reducible refine (flongref04_Same.calls kj9 _ _ t439 _ _ y434 true _ ?side1 ?side2 ?side3 ?side4 A32.out).mono ?_); (case side1 => repeat (first | exact (Kd.R_reads' HO442.out).2.2 | (with_reducible refine Kd.C_alloc ?_ _) | (with_reducible refine Kd.C_drewN ?_ _) | (with_reducible refine Kd.C_drew ?_))); (case side2 => exact (Kd.R_reads' HO442.out).2.1); (case side3 => repeat (first | exact (Kd.R_reads' HO_11.out).2.2 | (with_reducible refine Kd.C_alloc ?_ _) | (with_reducible refine Kd.C_drewN ?_ _) | (with_reducible refine Kd.C_drew ?_))); (case side4 => exact (Kd.R_reads' HO_11.out).2.1); rintro e w' ⟨rfl, ⟨nd, rfl⟩⟩; refine ⟨_, rfl, ?_⟩; obtain ⟨Ao42, co42, eo42⟩ := Kd.R_slice HO444.out; subst eo42))
                              go_ret
                              exact ⟨by first | rfl | (simp [errW_none, errW_some] <;> rfl) | (simp only [← hji3]; first | rfl | (simp [errW_none, errW_some] <;> rfl)) | (simp [*, errW_none, errW_some] <;> rfl), by repeat (first | (with_reducible first | exact HB.out | apply below_alloc | apply pw_below_drewN | apply below_drew1) | exact HB.out)⟩
                          · replace c33 := Bool.eq_false_iff.mpr c33
                            subst c33
                            have H1 : (some false) = some r := by rw [if_neg (show ¬ (false = true) by decide)] at H; exact H
                            clear H
                            have H := H1
                            clear H1
                            obtain rfl := Option.some.inj H
                            have p438 : 0 ≤ (ji3 : Int) := of_decide_eq_true (by first | (with_reducible assumption) | assumption)
                            have q438 : ji3 < (y421.length : Int) := of_decide_eq_true (by first | (with_reducible assumption) | assumption)
                            obtain ⟨ad438, e438, hx438_0⟩ := Kd.at_string (Kd.R_reads' HO_5.out).2.2 ji3 p438 q438
                            obtain rfl : ad424 = ad438 := (by injection e438)
                            replace p438 := eq_true p438
                            replace q438 := eq_true q438
                            go_wp2_with (first | ((with_reducible refine gate_callee (f := 15) rfl ?_); refine goesL_ (some 63) rfl rfl Tryd.func15 (by kernel_rfl) rfl #[.string ((⟨#[92, 102]⟩ : ByteArray) ++ (rdOf ByteArray.empty y421 ji3))] rfl (by (try simp only [List.map_toArray, List.map_cons, List.map_nil]); first | done | (simp only [hji3]; rfl) | rfl | (simp only [List.length_drop, List.length_take]; rfl)) ?_; (with_reducible refine (escape_Scan.calls kj9 ((⟨#[92, 102]⟩ : ByteArray) ++ (rdOf ByteArray.empty y421 ji3)) t439 t440 _ ?side1 A31.out).mono ?_); (case side1 => exact GL.below HG.out (by repeat (first | (with_reducible first | exact HB.out | apply below_alloc | apply pw_below_drewN | apply below_drew1) | exact HB.out))); rintro e w43 ⟨v441, v443, rfl, ho0, ho1, hb⟩; refine ⟨_, rfl, ?_⟩; have n0_ := Aside0.mk (Kd.R_below (by (with_reducible repeat (first | apply Kd.R_alloc | apply Kd.R_drewN | apply Kd.R_drew)); exact HO_5.out) hb); have n1_ := Aside0.mk (Kd.R_elder' (by (with_reducible repeat (first | apply Kd.R_alloc | apply Kd.R_drewN | apply Kd.R_drew)); exact HO_11.out) (Kd.R_base ho0) hb); have n2_ := Aside0.mk (Kd.R_lower (Kd.R_new' ho0 (Kd.R_lt (by (with_reducible repeat (first | apply Kd.R_alloc | apply Kd.R_drewN | apply Kd.R_drew)); exact HO_11.out))) (below_size (by repeat (first | (with_reducible first | exact HB.out | apply below_alloc | apply pw_below_drewN | apply below_drew1) | exact HB.out)))); have n3_ := Aside0.mk (Kd.R_lower ho1 (below_size (by repeat (first | (with_reducible first | exact HB.out | apply below_alloc | apply pw_below_drewN | apply below_drew1) | exact HB.out)))); have n4_ := Aside0.mk (below_step (by repeat (first | (with_reducible first | exact HB.out | apply below_alloc | apply pw_below_drewN | apply below_drew1) | exact HB.out)) hb); clear HO_5; clear HO_11; clear HB; have HO_5 := n0_; have HO_11 := n1_; have HO442 := n2_; have HO444 := n3_; have HB := n4_; clear n0_ n1_ n2_ n3_ n4_; (try clear hb); (try clear hb2); (try clear hk); (try clear hi); (try clear ho0); (try clear ho1); obtain ⟨Ao44, co44, eo44⟩ := Kd.R_slice HO442.out; subst eo44; obtain ⟨Ao45, co45, eo45⟩ := Kd.R_slice HO_11.out; subst eo45) | ((with_reducible refine gate_callee (f := 17) rfl ?_); refine goesL_ (some 68) rfl rfl Tryd.func17 (by kernel_rfl) rfl #[.slice Ao44 t439.length co44, .slice Ao45 y434.length co45] rfl (by (try simp only [List.map_toArray, List.map_cons, List.map_nil]); first | done | rfl | (simp only [List.length_drop, List.length_take]; rfl)) ?_; (with_reducible refine (flongref04_Same.calls kj9 _ _ t439 _ _ y434 false _ ?side1 ?side2 ?side3 ?side4 A32.out).mono ?_); (case side1 => repeat (first | exact (Kd.R_reads' HO442.out).2.2 | (with_reducible refine Kd.C_alloc ?_ _) | (with_reducible refine Kd.C_drewN ?_ _) | (with_reducible refine Kd.C_drew ?_))); (case side2 => exact (Kd.R_reads' HO442.out).2.1); (case side3 => repeat (first | exact (Kd.R_reads' HO_11.out).2.2 | (with_reducible refine Kd.C_alloc ?_ _) | (with_reducible refine Kd.C_drewN ?_ _) | (with_reducible refine Kd.C_drew ?_))); (case side4 => exact (Kd.R_reads' HO_11.out).2.1); rintro e w' ⟨rfl, ⟨nd, rfl⟩⟩; refine ⟨_, rfl, ?_⟩))
                            go_ret
                            exact ⟨by first | rfl | (simp [errW_none, errW_some] <;> rfl) | (simp only [← hji3]; first | rfl | (simp [errW_none, errW_some] <;> rfl)) | (simp [*, errW_none, errW_some] <;> rfl), by repeat (first | (with_reducible first | exact HB.out | apply below_alloc | apply pw_below_drewN | apply below_drew1) | exact HB.out)⟩
                        · rw [if_neg c30] at H
                          exact absurd H (by simp)
                      · rw [if_neg c29] at H
                        exact absurd H (by simp)
                    · rw [if_neg c28] at H
                      exact absurd H (by simp)
                  · rw [if_neg c27] at H
                    have c27b0 : decide (ji3 < 4) = false := decide_eq_false c27
                    clear c27
                    (first | rw [c27b0] | (simp only [i64_w, i32_w]; rw [c27b0]) | skip)
                    have H' := Aside0.mk H
                    clear H
                    go_wp2
                    go_meet
                    case rel => exact ⟨_, H', ⟨by have := HJ9.out; first | omega | exact Nat.le_refl _⟩, ⟨by repeat (first | (with_reducible first | exact HB.out | apply below_alloc | apply pw_below_drewN | apply below_drew1) | exact HB.out)⟩⟩
                case rest =>
                  clear HC26
                  try clear c1
                  try clear c2
                  try clear p2
                  try clear c3
                  try clear c4
                  try clear c4b0
                  try clear p4
                  try clear q4
                  try clear hx4
                  try clear c5
                  try clear c5b0
                  try clear p6
                  try clear c7
                  try clear c7b0
                  try clear c7b1
                  try clear c7b2
                  try clear c8
                  try clear c8b0
                  try clear c8b1
                  try clear c8b2
                  try clear c15
                  try clear c17
                  try clear c19
                  try clear c20
                  try clear c25
                  try clear c27
                  try clear c27b0
                  try clear c28
                  try clear c28b0
                  try clear c29
                  try clear c29b0
                  try clear c30
                  try clear c30b0
                  try clear c30b1
                  try clear c30b2
                  try clear c33
                  try clear c34
                  try clear c34b0
                  try clear c34b1
                  try clear c34b2
                  try clear p42
                  try clear q42
                  try clear hx42
                  try clear p43
                  try clear q43
                  try clear hx43
                  try clear hx424_0
                  try clear hx427_0
                  try clear hx438_0
                  try clear p2
                  try clear p4
                  try clear p424
                  try clear p427
                  try clear p438
                  try clear p6
                  try clear q4
                  try clear q424
                  try clear q427
                  try clear q438
                  obtain ⟨kq, HA, HJ25, HB⟩ := hcut
                  cases kq with
                  | zero => exact absurd HA.out (by simp [flonglaw04_EscapeFonts.j1])
                  | succ kj25 =>
                    have H := HA.out
                    clear HA
                    simp only [flonglaw04_EscapeFonts.j1] at H
                    have H' := Aside0.mk H
                    clear H
                    go_wp2
                    go_loopg [14] kj25 (fun kq v14 w' => ∃ (x14_3 : Int), v14 = .int .i64 x14_3 ∧ Aside0 (flonglaw04_EscapeFonts.l0 kq a1 x14_3 = some r) ∧ Aside0 (kq ≤ kj25) ∧ Aside0 (Below w.heap.size w w'))
                    case atStart => exact ⟨(0), (by first | rfl | (simp; done) | (simp [*]; done)), H', ⟨Nat.le_refl _⟩, ⟨by repeat (first | (with_reducible first | exact HB.out | apply below_alloc | apply pw_below_drewN | apply below_drew1) | exact HB.out)⟩⟩
                    case round =>
                      clear H'
                      try clear c1
                      try clear c2
                      try clear p2
                      try clear c3
                      try clear c4
                      try clear c4b0
                      try clear p4
                      try clear q4
                      try clear hx4
                      try clear c5
                      try clear c5b0
                      try clear p6
                      try clear c7
                      try clear c7b0
                      try clear c7b1
                      try clear c7b2
                      try clear c8
                      try clear c8b0
                      try clear c8b1
                      try clear c8b2
                      try clear c15
                      try clear c17
                      try clear c19
                      try clear c20
                      try clear c25
                      try clear c27
                      try clear c27b0
                      try clear c28
                      try clear c28b0
                      try clear c29
                      try clear c29b0
                      try clear c30
                      try clear c30b0
                      try clear c30b1
                      try clear c30b2
                      try clear c33
                      try clear c34
                      try clear c34b0
                      try clear c34b1
                      try clear c34b2
                      try clear p42
                      try clear q42
                      try clear hx42
                      try clear p43
                      try clear q43
                      try clear hx43
                      try clear hx424_0
                      try clear hx427_0
                      try clear hx438_0
                      try clear p2
                      try clear p4
                      try clear p42
                      try clear p424
                      try clear p427
                      try clear p43
                      try clear p438
                      try clear p6
                      try clear q4
                      try clear q42
                      try clear q424
                      try clear q427
                      try clear q43
                      try clear q438
                      obtain ⟨x14_3, rfl, HA, HK3, HB⟩ := hrel
                      cases gk with
                      | zero => exact absurd HA.out (by simp [flonglaw04_EscapeFonts.l0])
                      | succ k3 =>
                        have H := HA.out
                        clear HA
                        simp only [flonglaw04_EscapeFonts.l0] at H
                        by_cases c46 : x14_3 < (a1.size : Int)
                        · rw [if_pos c46] at H
                          have c46b0 : decide (x14_3 < (a1.size : Int)) = true := decide_eq_true c46
                          clear c46
                          by_cases c47 : 0 ≤ x14_3
                          · rw [if_pos c47] at H
                            have c47b0 : decide (0 ≤ x14_3) = true := decide_eq_true c47
                            clear c47
                            by_cases c49 : (bt a1 x14_3) < 97
                            · rw [if_pos c49] at H
                              have c49b0 : decide ((bt a1 x14_3) < 97) = true := decide_eq_true c49
                              clear c49
                              replace H := Option.bind_eq_some_iff.mp H
                              obtain ⟨t446, A500, H⟩ := H
                              replace H : (some t446) = some r := H
                              have A50 := Aside0.mk A500
                              clear A500
                              obtain rfl := Option.some.inj H
                              have p48 : 0 ≤ (x14_3 : Int) := of_decide_eq_true (by first | (with_reducible assumption) | assumption)
                              have q48 : x14_3 < (a1.size : Int) := of_decide_eq_true (by first | (with_reducible assumption) | assumption)
                              have hx48 := bt_at a1 x14_3
                              replace p48 := eq_true p48
                              replace q48 := eq_true q48
                              go_wp2_with (first | ((with_reducible refine gate_callee (f := 14) rfl ?_); refine goesL_ (some 91) rfl rfl Tryd.func14 (by kernel_rfl) rfl #[] rfl (by (try simp only [List.map_toArray, List.map_cons, List.map_nil]); first | done | rfl | (simp only [List.length_drop, List.length_take]; rfl)) ?_; (with_reducible refine (flonglaw04_known.calls k3  t446 _ ?side1 A50.out).mono ?_); (case side1 => exact GL.below HG.out (by repeat (first | (with_reducible first | exact HB.out | apply below_alloc | apply pw_below_drewN | apply below_drew1) | exact HB.out))); rintro e w51 ⟨rfl, hb⟩; refine ⟨_, rfl, ?_⟩; have n0_ := Aside0.mk (below_step (by repeat (first | (with_reducible first | exact HB.out | apply below_alloc | apply pw_below_drewN | apply below_drew1) | exact HB.out)) hb); clear HB; have HB := n0_; clear n0_; (try clear hb); (try clear hb2); (try clear hk); (try clear hi)))
                              go_ret
                              exact ⟨by first | rfl | (simp [errW_none, errW_some] <;> rfl) | (simp only [← hji3]; first | rfl | (simp [errW_none, errW_some] <;> rfl)) | (simp [*, errW_none, errW_some] <;> rfl), by repeat (first | (with_reducible first | exact HB.out | apply below_alloc | apply pw_below_drewN | apply below_drew1) | exact HB.out)⟩
                            · rw [if_neg c49] at H
                              have c49b0 : decide ((bt a1 x14_3) < 97) = false := decide_eq_false c49
                              clear c49
                              by_cases c53 : (bt a1 x14_3) > 122
                              · rw [if_pos c53] at H
                                have c53b0 : decide (122 < (bt a1 x14_3)) = true := decide_eq_true c53
                                clear c53
                                replace H := Option.bind_eq_some_iff.mp H
                                obtain ⟨t447, A540, H⟩ := H
                                replace H : (some t447) = some r := H
                                have A54 := Aside0.mk A540
                                clear A540
                                obtain rfl := Option.some.inj H
                                have p48 : 0 ≤ (x14_3 : Int) := of_decide_eq_true (by first | (with_reducible assumption) | assumption)
                                have q48 : x14_3 < (a1.size : Int) := of_decide_eq_true (by first | (with_reducible assumption) | assumption)
                                have hx48 := bt_at a1 x14_3
                                replace p48 := eq_true p48
                                replace q48 := eq_true q48
                                have p52 : 0 ≤ (x14_3 : Int) := of_decide_eq_true (by first | (with_reducible assumption) | assumption)
                                have q52 : x14_3 < (a1.size : Int) := of_decide_eq_true (by first | (with_reducible assumption) | assumption)
                                have hx52 := bt_at a1 x14_3
                                replace p52 := eq_true p52
                                replace q52 := eq_true q52
                                go_wp2_with (first | ((with_reducible refine gate_callee (f := 14) rfl ?_); refine goesL_ (some 91) rfl rfl Tryd.func14 (by kernel_rfl) rfl #[] rfl (by (try simp only [List.map_toArray, List.map_cons, List.map_nil]); first | done | rfl | (simp only [List.length_drop, List.length_take]; rfl)) ?_; (with_reducible refine (flonglaw04_known.calls k3  t447 _ ?side1 A54.out).mono ?_); (case side1 => exact GL.below HG.out (by repeat (first | (with_reducible first | exact HB.out | apply below_alloc | apply pw_below_drewN | apply below_drew1) | exact HB.out))); rintro e w55 ⟨rfl, hb⟩; refine ⟨_, rfl, ?_⟩; have n0_ := Aside0.mk (below_step (by repeat (first | (with_reducible first | exact HB.out | apply below_alloc | apply pw_below_drewN | apply below_drew1) | exact HB.out)) hb); clear HB; have HB := n0_; clear n0_; (try clear hb); (try clear hb2); (try clear hk); (try clear hi)))
                                go_ret
                                exact ⟨by first | rfl | (simp [errW_none, errW_some] <;> rfl) | (simp only [← hji3]; first | rfl | (simp [errW_none, errW_some] <;> rfl)) | (simp [*, errW_none, errW_some] <;> rfl), by repeat (first | (with_reducible first | exact HB.out | apply below_alloc | apply pw_below_drewN | apply below_drew1) | exact HB.out)⟩
                              · rw [if_neg c53] at H
                                have c53b0 : decide (122 < (bt a1 x14_3)) = false := decide_eq_false c53
                                clear c53
                                have H' := Aside0.mk H
                                clear H
                                have p48 : 0 ≤ (x14_3 : Int) := of_decide_eq_true (by first | (with_reducible assumption) | assumption)
                                have q48 : x14_3 < (a1.size : Int) := of_decide_eq_true (by first | (with_reducible assumption) | assumption)
                                have hx48 := bt_at a1 x14_3
                                replace p48 := eq_true p48
                                replace q48 := eq_true q48
                                have p52 : 0 ≤ (x14_3 : Int) := of_decide_eq_true (by first | (with_reducible assumption) | assumption)
                                have q52 : x14_3 < (a1.size : Int) := of_decide_eq_true (by first | (with_reducible assumption) | assumption)
                                have hx52 := bt_at a1 x14_3
                                replace p52 := eq_true p52
                                replace q52 := eq_true q52
                                go_wp2
                                go_roundg k3
                                case measure => have := HJ9.out; have := HJ25.out; have := HK3.out; omega
                                case rel => exact ⟨(wrap64 (x14_3 + 1)), (by first | rfl | (simp; done) | (simp [*]; done)), H', ⟨by have := HJ9.out; have := HJ25.out; have := HK3.out; omega⟩, ⟨by repeat (first | (with_reducible first | exact HB.out | apply below_alloc | apply pw_below_drewN | apply below_drew1) | exact HB.out)⟩⟩
                          · rw [if_neg c47] at H
                            exact absurd H (by simp)
                        · rw [if_neg c46] at H
                          have c46b0 : decide (x14_3 < (a1.size : Int)) = false := decide_eq_false c46
                          clear c46
                          have HC56 := Aside0.mk H
                          clear H
                          go_upto_region 17 with (fail)
                          go_cut [99] (fun v99 wc => ∃ (kq : Nat) (x99_55 : Bool), v99 = .bool x99_55 ∧ Aside0 (flonglaw04_EscapeFonts.j3 kq a1 x99_55 = some r) ∧ Aside0 (kq ≤ k3) ∧ Aside0 (Below w.heap.size w wc))
                          case first =>
                            have H := HC56.out
                            clear HC56
                            replace H := Option.bind_eq_some_iff.mp H
                            obtain ⟨t448, A570, H⟩ := H
                            replace H : (if t448 ≥ 0 then (flonglaw04_EscapeFonts.j3 k3 a1 true) else (flonglaw04_EscapeFonts.j3 k3 a1 (decide ((a1.size : Int) > 50)))) = some r := H
                            have A57 := Aside0.mk A570
                            clear A570
                            by_cases c58 : t448 ≥ 0
                            · rw [if_pos c58] at H
                              have c58b0 : decide (0 ≤ t448) = true := decide_eq_true c58
                              clear c58
                              (first | rw [c58b0] | (simp only [i64_w, i32_w]; rw [c58b0]) | skip)
                              have H' := Aside0.mk H
                              clear H
                              go_wp2_with (first | ((with_reducible refine gate_callee (f := 21) rfl ?_); refine goesL_ (some 93) rfl rfl Tryd.func21 (by kernel_rfl) rfl #[.string a1] rfl (by (try simp only [List.map_toArray, List.map_cons, List.map_nil]); first | done | rfl | (simp only [List.length_drop, List.length_take]; rfl)) ?_; (with_reducible refine (flongref04_Name.calls k3 a1 t448 _ A57.out).mono ?_); rintro e w59 ⟨rfl, hb⟩; refine ⟨_, rfl, ?_⟩; have n0_ := Aside0.mk (below_step (by repeat (first | (with_reducible first | exact HB.out | apply below_alloc | apply pw_below_drewN | apply below_drew1) | exact HB.out)) hb); clear HB; have HB := n0_; clear n0_; (try clear hb); (try clear hb2); (try clear hk); (try clear hi)))
                              go_meet
                              case rel => exact ⟨_, (true), (by first | rfl | (simp; done) | (simp [*]; done)), H', ⟨by have := HJ9.out; have := HJ25.out; have := HK3.out; first | omega | exact Nat.le_refl _⟩, ⟨by repeat (first | (with_reducible first | exact HB.out | apply below_alloc | apply pw_below_drewN | apply below_drew1) | exact HB.out)⟩⟩
                            · rw [if_neg c58] at H
                              have c58b0 : decide (0 ≤ t448) = false := decide_eq_false c58
                              clear c58
                              (first | rw [c58b0] | (simp only [i64_w, i32_w]; rw [c58b0]) | skip)
                              have H' := Aside0.mk H
                              clear H
                              go_wp2_with (first | ((with_reducible refine gate_callee (f := 21) rfl ?_); refine goesL_ (some 93) rfl rfl Tryd.func21 (by kernel_rfl) rfl #[.string a1] rfl (by (try simp only [List.map_toArray, List.map_cons, List.map_nil]); first | done | rfl | (simp only [List.length_drop, List.length_take]; rfl)) ?_; (with_reducible refine (flongref04_Name.calls k3 a1 t448 _ A57.out).mono ?_); rintro e w60 ⟨rfl, hb⟩; refine ⟨_, rfl, ?_⟩; have n0_ := Aside0.mk (below_step (by repeat (first | (with_reducible first | exact HB.out | apply below_alloc | apply pw_below_drewN | apply below_drew1) | exact HB.out)) hb); clear HB; have HB := n0_; clear n0_; (try clear hb); (try clear hb2); (try clear hk); (try clear hi)))
                              go_meet
                              case rel => exact ⟨_, (decide ((a1.size : Int) > 50)), (by first | rfl | (simp; done) | (simp [*]; done)), H', ⟨by have := HJ9.out; have := HJ25.out; have := HK3.out; first | omega | exact Nat.le_refl _⟩, ⟨by repeat (first | (with_reducible first | exact HB.out | apply below_alloc | apply pw_below_drewN | apply below_drew1) | exact HB.out)⟩⟩
                          case rest =>
                            clear HC56
                            try clear c1
                            try clear c2
                            try clear p2
                            try clear c3
                            try clear c4
                            try clear c4b0
                            try clear p4
                            try clear q4
                            try clear hx4
                            try clear c5
                            try clear c5b0
                            try clear p5
                            try clear q5
                            try clear hx5
                            try clear p6
                            try clear c7
                            try clear c7b0
                            try clear c7b1
                            try clear c7b2
                            try clear c8
                            try clear c8b0
                            try clear c8b1
                            try clear c8b2
                            try clear c14
                            try clear c15
                            try clear c17
                            try clear c19
                            try clear c20
                            try clear c21
                            try clear c25
                            try clear c27
                            try clear c27b0
                            try clear c28
                            try clear c28b0
                            try clear c29
                            try clear c29b0
                            try clear c30
                            try clear c30b0
                            try clear c30b1
                            try clear c30b2
                            try clear c33
                            try clear c34
                            try clear c34b0
                            try clear c34b1
                            try clear c34b2
                            try clear p42
                            try clear q42
                            try clear hx42
                            try clear p43
                            try clear q43
                            try clear hx43
                            try clear c46
                            try clear c46b0
                            try clear c47
                            try clear c47b0
                            try clear p48
                            try clear q48
                            try clear hx48
                            try clear c49
                            try clear c49b0
                            try clear p52
                            try clear q52
                            try clear hx52
                            try clear c53
                            try clear c53b0
                            try clear c58
                            try clear c58b0
                            try clear hx424_0
                            try clear hx427_0
                            try clear hx438_0
                            try clear p2
                            try clear p4
                            try clear p42
                            try clear p424
                            try clear p427
                            try clear p43
                            try clear p438
                            try clear p48
                            try clear p52
                            try clear p6
                            try clear q4
                            try clear q42
                            try clear q424
                            try clear q427
                            try clear q43
                            try clear q438
                            try clear q48
                            try clear q52
                            obtain ⟨kq, x99_55, rfl, HA, HJ55, HB⟩ := hcut
                            cases kq with
                            | zero => exact absurd HA.out (by simp [flonglaw04_EscapeFonts.j3])
                            | succ kj55 =>
                              have H := HA.out
                              clear HA
                              simp only [flonglaw04_EscapeFonts.j3] at H
                              by_cases c61 : x99_55 = true
                              · subst c61
                                have H1 : ((flonglaw04_known.f kj55).bind fun t449 => (some t449)) = some r := by rw [if_pos rfl] at H; exact H
                                clear H
                                have H := H1
                                clear H1
                                replace H := Option.bind_eq_some_iff.mp H
                                obtain ⟨t449, A620, H⟩ := H
                                replace H : (some t449) = some r := H
                                have A62 := Aside0.mk A620
                                clear A620
                                obtain rfl := Option.some.inj H
                                go_wp2_with (first | ((with_reducible refine gate_callee (f := 14) rfl ?_); refine goesL_ (some 100) rfl rfl Tryd.func14 (by kernel_rfl) rfl #[] rfl (by (try simp only [List.map_toArray, List.map_cons, List.map_nil]); first | done | rfl | (simp only [List.length_drop, List.length_take]; rfl)) ?_; (with_reducible refine (flonglaw04_known.calls kj55  t449 _ ?side1 A62.out).mono ?_); (case side1 => exact GL.below HG.out (by repeat (first | (with_reducible first | exact HB.out | apply below_alloc | apply pw_below_drewN | apply below_drew1) | exact HB.out))); rintro e w63 ⟨rfl, hb⟩; refine ⟨_, rfl, ?_⟩; have n0_ := Aside0.mk (below_step (by repeat (first | (with_reducible first | exact HB.out | apply below_alloc | apply pw_below_drewN | apply below_drew1) | exact HB.out)) hb); clear HB; have HB := n0_; clear n0_; (try clear hb); (try clear hb2); (try clear hk); (try clear hi)))
                                go_ret
                                exact ⟨by first | rfl | (simp [errW_none, errW_some] <;> rfl) | (simp only [← hji3]; first | rfl | (simp [errW_none, errW_some] <;> rfl)) | (simp [*, errW_none, errW_some] <;> rfl), by repeat (first | (with_reducible first | exact HB.out | apply below_alloc | apply pw_below_drewN | apply below_drew1) | exact HB.out)⟩
                              · replace c61 := Bool.eq_false_iff.mpr c61
                                subst c61
                                have H1 : (if 2 + a1.size ≤ 9223372036854775807 then (if ((⟨#[92, 91]⟩ : ByteArray) ++ a1).size + 1 ≤ 9223372036854775807 then ((escape_Scan.f kj55 (((⟨#[92, 91]⟩ : ByteArray) ++ a1) ++ (⟨#[93]⟩ : ByteArray))).bind fun bt450 => (if (bt450.1.length : Int) = 0 then (if (bt450.2.length : Int) = 1 then (if 0 < (bt450.2.length : Int) then (if (((rd_T41 bt450.2 0).f0) == 2 && (((rd_T41 bt450.2 0).f1) == 0 && (((rd_T41 bt450.2 0).f2) == 1))) = true then ((flonglaw04_known.f kj55).bind fun t457 => (some t457)) else (some false)) else (none)) else (some false)) else (some false))) else (none)) else (none)) = some r := by rw [if_neg (show ¬ (false = true) by decide)] at H; exact H
                                clear H
                                have H := H1
                                clear H1
                                by_cases c64 : 2 + a1.size ≤ 9223372036854775807
                                · rw [if_pos c64] at H
                                  have c64b0 := eq_true c64
                                  have c64b1 : decide (2 + a1.size ≤ 9223372036854775807) = true := decide_eq_true c64
                                  try have c64b2 : (9223372036854775807 < 2 + a1.size) = False := eq_false (Nat.not_lt.2 c64)
                                  by_cases c65 : ((⟨#[92, 91]⟩ : ByteArray) ++ a1).size + 1 ≤ 9223372036854775807
                                  · rw [if_pos c65] at H
                                    have c65b0 := eq_true c65
                                    have c65b1 : decide (((⟨#[92, 91]⟩ : ByteArray) ++ a1).size + 1 ≤ 9223372036854775807) = true := decide_eq_true c65
                                    try have c65b2 : (9223372036854775807 < ((⟨#[92, 91]⟩ : ByteArray) ++ a1).size + 1) = False := eq_false (Nat.not_lt.2 c65)
                                    try have c65b3 := by have h_ := c65b2; simp only [ByteArray.size_append] at h_; exact h_
                                    try have c65n := by have h_ := c65; simp only [ByteArray.size_append, ByteArray.size_extract] at h_; exact h_
                                    try have c65m := by have h_ := c65; simp at h_; exact h_
                                    try have c65b4 := by have h_ := c65b2; simp only [ByteArray.size_append, ByteArray.size_mk', List.size_toArray, List.length_cons, List.length_nil, Nat.zero_add, Nat.reduceAdd] at h_; exact h_
                                    replace H := Option.bind_eq_some_iff.mp H
                                    obtain ⟨⟨t450, t451⟩, A660, H⟩ := H
                                    replace H : (if (t450.length : Int) = 0 then (if (t451.length : Int) = 1 then (if 0 < (t451.length : Int) then (if (((rd_T41 t451 0).f0) == 2 && (((rd_T41 t451 0).f1) == 0 && (((rd_T41 t451 0).f2) == 1))) = true then ((flonglaw04_known.f kj55).bind fun t457 => (some t457)) else (some false)) else (none)) else (some false)) else (some false)) = some r := H
                                    have A66 := Aside0.mk A660
                                    clear A660
                                    by_cases c67 : (t450.length : Int) = 0
                                    · rw [if_pos c67] at H
                                      have c67b0 : ((t450.length : Int) == 0) = true := beq_iff_eq.mpr c67
                                      have c67b1 : ((t450.length : Int) != 0) = false := bne_eq_false_iff_eq.mpr c67
                                      clear c67
                                      by_cases c68 : (t451.length : Int) = 1
                                      · rw [if_pos c68] at H
                                        have c68b0 : ((t451.length : Int) == 1) = true := beq_iff_eq.mpr c68
                                        have c68b1 : ((t451.length : Int) != 1) = false := bne_eq_false_iff_eq.mpr c68
                                        clear c68
                                        by_cases c69 : 0 < (t451.length : Int)
                                        · rw [if_pos c69] at H
                                          have c69b0 : decide (0 < (t451.length : Int)) = true := decide_eq_true c69
                                          have c69b1 : decide (0 < t451.length) = true := decide_eq_true (by omega)
                                          clear c69
                                          by_cases c70 : (((rd_T41 t451 0).f0) == 2 && (((rd_T41 t451 0).f1) == 0 && (((rd_T41 t451 0).f2) == 1))) = true
                                          · rw [if_pos c70] at H
                                            have c70b0 : (((rd_T41 t451 0).f0) == 2 && (((rd_T41 t451 0).f1) == 0 && (((rd_T41 t451 0).f2) == 1))) = true := c70
                                            (try (have c70b1 : decide (((rd_T41 t451 0).f0) = 2 && (((rd_T41 t451 0).f1) == 0 && (((rd_T41 t451 0).f2) == 1))) = true := by simpa using c70))
                                            (try (have c70b2 : (((rd_T41 t451 0).f0) == 2 && (((rd_T41 t451 0).f1) == 0 && (((rd_T41 t451 0).f2) == 1))) = true := by simpa using c70))
                                            clear c70
                                            replace H := Option.bind_eq_some_iff.mp H
                                            obtain ⟨t457, A710, H⟩ := H
                                            replace H : (some t457) = some r := H
                                            have A71 := Aside0.mk A710
                                            clear A710
                                            obtain rfl := Option.some.inj H
                                            go_wp2_with (first | ((with_reducible refine gate_callee (f := 15) rfl ?_); refine goesL_ (some 105) rfl rfl Tryd.func15 (by kernel_rfl) rfl #[.string (((⟨#[92, 91]⟩ : ByteArray) ++ a1) ++ (⟨#[93]⟩ : ByteArray))] rfl (by (try simp only [List.map_toArray, List.map_cons, List.map_nil]); first | done | rfl | (simp only [List.length_drop, List.length_take]; rfl)) ?_; (with_reducible refine (escape_Scan.calls kj55 (((⟨#[92, 91]⟩ : ByteArray) ++ a1) ++ (⟨#[93]⟩ : ByteArray)) t450 t451 _ ?side1 A66.out).mono ?_); (case side1 => exact GL.below HG.out (by repeat (first | (with_reducible first | exact HB.out | apply below_alloc | apply pw_below_drewN | apply below_drew1) | exact HB.out))); rintro e w72 ⟨v452, v454, rfl, ho0, ho1, hb⟩; refine ⟨_, rfl, ?_⟩; have n0_ := Aside0.mk (Kd.R_lower ho0 (below_size (by repeat (first | (with_reducible first | exact HB.out | apply below_alloc | apply pw_below_drewN | apply below_drew1) | exact HB.out)))); have n1_ := Aside0.mk (Kd.R_lower ho1 (below_size (by repeat (first | (with_reducible first | exact HB.out | apply below_alloc | apply pw_below_drewN | apply below_drew1) | exact HB.out)))); have n2_ := Aside0.mk (below_step (by repeat (first | (with_reducible first | exact HB.out | apply below_alloc | apply pw_below_drewN | apply below_drew1) | exact HB.out)) hb); clear HB; have HO453 := n0_; have HO455 := n1_; have HB := n2_; clear n0_ n1_ n2_; (try clear hb); (try clear hb2); (try clear hk); (try clear hi); (try clear ho0); (try clear ho1); obtain ⟨Ao73, co73, eo73⟩ := Kd.R_slice HO453.out; subst eo73; obtain ⟨Ao74, co74, eo74⟩ := Kd.R_slice HO455.out; subst eo74; have p456 : 0 ≤ (0 : Int) := (by omega); have q456 : 0 < (t451.length : Int) := of_decide_eq_true (by first | (with_reducible assumption) | assumption); obtain ⟨ad456, e456, hx456_0, hx456_1, hx456_2⟩ := at_T41 (Kd.R_reads' HO455.out).2.2 0 p456 q456; cases e456; have qi456 : (0 < t451.length) = True := eq_true (by omega); (try rw [show ((0 : Int)).toNat = 0 from rfl] at hx456_0); (try rw [show 0 * 3 = 0 from rfl] at hx456_0); (try rw [Addr.add_zero'] at hx456_0); (try rw [show ((0 : Int)).toNat = 0 from rfl] at hx456_1); (try rw [show 0 * 3 = 0 from rfl] at hx456_1); (try rw [Addr.add_zero'] at hx456_1); (try rw [show ((0 : Int)).toNat = 0 from rfl] at hx456_2); (try rw [show 0 * 3 = 0 from rfl] at hx456_2); (try rw [Addr.add_zero'] at hx456_2); replace p456 := eq_true p456; replace q456 := eq_true q456) | (go_at_call 14; (with_reducible refine (flonglaw04_known.calls kj55  t457 _ ?side1 A71.out).mono ?_); (case side1 => exact GL.below HG.out (by repeat (first | (with_reducible first | exact HB.out | apply below_alloc | apply pw_below_drewN | apply below_drew1) | exact HB.out))); rintro e w75 ⟨rfl, hb⟩; have n0_ := Aside0.mk (Kd.R_below (by (with_reducible repeat (first | apply Kd.R_alloc | apply Kd.R_drewN | apply Kd.R_drew)); exact HO453.out) hb); have n1_ := Aside0.mk (Kd.R_below (by (with_reducible repeat (first | apply Kd.R_alloc | apply Kd.R_drewN | apply Kd.R_drew)); exact HO455.out) hb); have n2_ := Aside0.mk (below_step (by repeat (first | (with_reducible first | exact HB.out | apply below_alloc | apply pw_below_drewN | apply below_drew1) | exact HB.out)) hb); clear HO453; clear HO455; clear HB; have HO453 := n0_; have HO455 := n1_; have HB := n2_; clear n0_ n1_ n2_; (try clear hb); (try clear hb2); (try clear hk); (try clear hi)))
                                            go_ret
                                            exact ⟨by first | rfl | (simp [errW_none, errW_some] <;> rfl) | (simp only [← hji3]; first | rfl | (simp [errW_none, errW_some] <;> rfl)) | (simp [*, errW_none, errW_some] <;> rfl), by repeat (first | (with_reducible first | exact HB.out | apply below_alloc | apply pw_below_drewN | apply below_drew1) | exact HB.out)⟩
                                          · rw [if_neg c70] at H
                                            have c70b0 : (((rd_T41 t451 0).f0) == 2 && (((rd_T41 t451 0).f1) == 0 && (((rd_T41 t451 0).f2) == 1))) = false := by simpa using c70
                                            (try (have c70b1 : decide (((rd_T41 t451 0).f0) = 2 && (((rd_T41 t451 0).f1) == 0 && (((rd_T41 t451 0).f2) == 1))) = false := by simpa using c70))
                                            (try (have c70b2 : (((rd_T41 t451 0).f0) == 2 && (((rd_T41 t451 0).f1) == 0 && (((rd_T41 t451 0).f2) == 1))) = false := by simpa using c70))
                                            (try (have c70b3 : ¬ (((rd_T41 t451 0).f0) = 2 && (((rd_T41 t451 0).f1) == 0 && (((rd_T41 t451 0).f2) == 1))) := by simpa using c70))
                                            clear c70
                                            obtain rfl := Option.some.inj H
                                            go_wp2_with (first | ((with_reducible refine gate_callee (f := 15) rfl ?_); refine goesL_ (some 105) rfl rfl Tryd.func15 (by kernel_rfl) rfl #[.string (((⟨#[92, 91]⟩ : ByteArray) ++ a1) ++ (⟨#[93]⟩ : ByteArray))] rfl (by (try simp only [List.map_toArray, List.map_cons, List.map_nil]); first | done | rfl | (simp only [List.length_drop, List.length_take]; rfl)) ?_; (with_reducible refine (escape_Scan.calls kj55 (((⟨#[92, 91]⟩ : ByteArray) ++ a1) ++ (⟨#[93]⟩ : ByteArray)) t450 t451 _ ?side1 A66.out).mono ?_); (case side1 => exact GL.below HG.out (by repeat (first | (with_reducible first | exact HB.out | apply below_alloc | apply pw_below_drewN | apply below_drew1) | exact HB.out))); rintro e w76 ⟨v452, v454, rfl, ho0, ho1, hb⟩; refine ⟨_, rfl, ?_⟩; have n0_ := Aside0.mk (Kd.R_lower ho0 (below_size (by repeat (first | (with_reducible first | exact HB.out | apply below_alloc | apply pw_below_drewN | apply below_drew1) | exact HB.out)))); have n1_ := Aside0.mk (Kd.R_lower ho1 (below_size (by repeat (first | (with_reducible first | exact HB.out | apply below_alloc | apply pw_below_drewN | apply below_drew1) | exact HB.out)))); have n2_ := Aside0.mk (below_step (by repeat (first | (with_reducible first | exact HB.out | apply below_alloc | apply pw_below_drewN | apply below_drew1) | exact HB.out)) hb); clear HB; have HO453 := n0_; have HO455 := n1_; have HB := n2_; clear n0_ n1_ n2_; (try clear hb); (try clear hb2); (try clear hk); (try clear hi); (try clear ho0); (try clear ho1); obtain ⟨Ao77, co77, eo77⟩ := Kd.R_slice HO453.out; subst eo77; obtain ⟨Ao78, co78, eo78⟩ := Kd.R_slice HO455.out; subst eo78; have p456 : 0 ≤ (0 : Int) := (by omega); have q456 : 0 < (t451.length : Int) := of_decide_eq_true (by first | (with_reducible assumption) | assumption); obtain ⟨ad456, e456, hx456_0, hx456_1, hx456_2⟩ := at_T41 (Kd.R_reads' HO455.out).2.2 0 p456 q456; cases e456; have qi456 : (0 < t451.length) = True := eq_true (by omega); (try rw [show ((0 : Int)).toNat = 0 from rfl] at hx456_0); (try rw [show 0 * 3 = 0 from rfl] at hx456_0); (try rw [Addr.add_zero'] at hx456_0); (try rw [show ((0 : Int)).toNat = 0 from rfl] at hx456_1); (try rw [show 0 * 3 = 0 from rfl] at hx456_1); (try rw [Addr.add_zero'] at hx456_1); (try rw [show ((0 : Int)).toNat = 0 from rfl] at hx456_2); (try rw [show 0 * 3 = 0 from rfl] at hx456_2); (try rw [Addr.add_zero'] at hx456_2); replace p456 := eq_true p456; replace q456 := eq_true q456))
                                            go_ret
                                            exact ⟨by first | rfl | (simp [errW_none, errW_some] <;> rfl) | (simp only [← hji3]; first | rfl | (simp [errW_none, errW_some] <;> rfl)) | (simp [*, errW_none, errW_some] <;> rfl), by repeat (first | (with_reducible first | exact HB.out | apply below_alloc | apply pw_below_drewN | apply below_drew1) | exact HB.out)⟩
                                        · rw [if_neg c69] at H
                                          exact absurd H (by simp)
                                      · rw [if_neg c68] at H
                                        have c68b0 : ((t451.length : Int) == 1) = false := beq_eq_false_iff_ne.mpr c68
                                        have c68b1 : ((t451.length : Int) != 1) = true := bne_iff_ne.mpr c68
                                        obtain rfl := Option.some.inj H
                                        go_wp2_with (first | ((with_reducible refine gate_callee (f := 15) rfl ?_); refine goesL_ (some 105) rfl rfl Tryd.func15 (by kernel_rfl) rfl #[.string (((⟨#[92, 91]⟩ : ByteArray) ++ a1) ++ (⟨#[93]⟩ : ByteArray))] rfl (by (try simp only [List.map_toArray, List.map_cons, List.map_nil]); first | done | rfl | (simp only [List.length_drop, List.length_take]; rfl)) ?_; (with_reducible refine (escape_Scan.calls kj55 (((⟨#[92, 91]⟩ : ByteArray) ++ a1) ++ (⟨#[93]⟩ : ByteArray)) t450 t451 _ ?side1 A66.out).mono ?_); (case side1 => exact GL.below HG.out (by repeat (first | (with_reducible first | exact HB.out | apply below_alloc | apply pw_below_drewN | apply below_drew1) | exact HB.out))); rintro e w79 ⟨v452, v454, rfl, ho0, ho1, hb⟩; refine ⟨_, rfl, ?_⟩; have n0_ := Aside0.mk (Kd.R_lower ho0 (below_size (by repeat (first | (with_reducible first | exact HB.out | apply below_alloc | apply pw_below_drewN | apply below_drew1) | exact HB.out)))); have n1_ := Aside0.mk (Kd.R_lower ho1 (below_size (by repeat (first | (with_reducible first | exact HB.out | apply below_alloc | apply pw_below_drewN | apply below_drew1) | exact HB.out)))); have n2_ := Aside0.mk (below_step (by repeat (first | (with_reducible first | exact HB.out | apply below_alloc | apply pw_below_drewN | apply below_drew1) | exact HB.out)) hb); clear HB; have HO453 := n0_; have HO455 := n1_; have HB := n2_; clear n0_ n1_ n2_; (try clear hb); (try clear hb2); (try clear hk); (try clear hi); (try clear ho0); (try clear ho1); obtain ⟨Ao80, co80, eo80⟩ := Kd.R_slice HO453.out; subst eo80; obtain ⟨Ao81, co81, eo81⟩ := Kd.R_slice HO455.out; subst eo81))
                                        go_ret
                                        exact ⟨by first | rfl | (simp [errW_none, errW_some] <;> rfl) | (simp only [← hji3]; first | rfl | (simp [errW_none, errW_some] <;> rfl)) | (simp [*, errW_none, errW_some] <;> rfl), by repeat (first | (with_reducible first | exact HB.out | apply below_alloc | apply pw_below_drewN | apply below_drew1) | exact HB.out)⟩
                                    · rw [if_neg c67] at H
                                      have c67b0 : ((t450.length : Int) == 0) = false := beq_eq_false_iff_ne.mpr c67
                                      have c67b1 : ((t450.length : Int) != 0) = true := bne_iff_ne.mpr c67
                                      have c67b2 : ¬ (t450 = []) := fun h_ => c67 (by rw [h_]; rfl)
                                      obtain rfl := Option.some.inj H
                                      go_wp2_with (first | ((with_reducible refine gate_callee (f := 15) rfl ?_); refine goesL_ (some 105) rfl rfl Tryd.func15 (by kernel_rfl) rfl #[.string (((⟨#[92, 91]⟩ : ByteArray) ++ a1) ++ (⟨#[93]⟩ : ByteArray))] rfl (by (try simp only [List.map_toArray, List.map_cons, List.map_nil]); first | done | rfl | (simp only [List.length_drop, List.length_take]; rfl)) ?_; (with_reducible refine (escape_Scan.calls kj55 (((⟨#[92, 91]⟩ : ByteArray) ++ a1) ++ (⟨#[93]⟩ : ByteArray)) t450 t451 _ ?side1 A66.out).mono ?_); (case side1 => exact GL.below HG.out (by repeat (first | (with_reducible first | exact HB.out | apply below_alloc | apply pw_below_drewN | apply below_drew1) | exact HB.out))); rintro e w82 ⟨v452, v454, rfl, ho0, ho1, hb⟩; refine ⟨_, rfl, ?_⟩; have n0_ := Aside0.mk (Kd.R_lower ho0 (below_size (by repeat (first | (with_reducible first | exact HB.out | apply below_alloc | apply pw_below_drewN | apply below_drew1) | exact HB.out)))); have n1_ := Aside0.mk (Kd.R_lower ho1 (below_size (by repeat (first | (with_reducible first | exact HB.out | apply below_alloc | apply pw_below_drewN | apply below_drew1) | exact HB.out)))); have n2_ := Aside0.mk (below_step (by repeat (first | (with_reducible first | exact HB.out | apply below_alloc | apply pw_below_drewN | apply below_drew1) | exact HB.out)) hb); clear HB; have HO453 := n0_; have HO455 := n1_; have HB := n2_; clear n0_ n1_ n2_; (try clear hb); (try clear hb2); (try clear hk); (try clear hi); (try clear ho0); (try clear ho1); obtain ⟨Ao83, co83, eo83⟩ := Kd.R_slice HO453.out; subst eo83))
                                      go_ret
                                      exact ⟨by first | rfl | (simp [errW_none, errW_some] <;> rfl) | (simp only [← hji3]; first | rfl | (simp [errW_none, errW_some] <;> rfl)) | (simp [*, errW_none, errW_some] <;> rfl), by repeat (first | (with_reducible first | exact HB.out | apply below_alloc | apply pw_below_drewN | apply below_drew1) | exact HB.out)⟩
                                  · rw [if_neg c65] at H
                                    exact absurd H (by simp)
                                · rw [if_neg c64] at H
                                  exact absurd H (by simp)
        · rw [if_neg c8] at H
          exact absurd H (by simp)
      · rw [if_neg c7] at H
        exact absurd H (by simp)
    · rw [if_neg c5] at H
      exact absurd H (by simp)
  · rw [if_neg c4] at H
    exact absurd H (by simp)
def flonglaw04_EscapeFonts.Pure : Prop := ∀ (a0 : Int) (a1 : ByteArray), (Lit.int .u8 a0).wf = true → a1.size ≤ 140737488351232 → ∃ k, flonglaw04_EscapeFonts.f k a0 a1 = some true
theorem flonglaw04_EscapeFonts.walk (P : flonglaw04_EscapeFonts.Pure) (a0 : Int) (a1 : ByteArray) (w : World) (hG : GL w) (w0 : (Lit.int .u8 a0).wf = true) (w1 : a1.size ≤ 140737488351232) :
    Calls Tryd.prog 7 #[.int .u8 a0, .string a1] w fun e w' => e = .returned (.bool true) ∧ Below w.heap.size w w' := by
  obtain ⟨k, h⟩ := P a0 a1 w0 w1
  refine (flonglaw04_EscapeFonts.calls k a0 a1 true w hG h).mono ?_
  rintro e w' ⟨rfl, hd⟩
  exact ⟨rfl, hd⟩
end Go.Proofs.YtdogljnddalgdaaDoor.A4
end
