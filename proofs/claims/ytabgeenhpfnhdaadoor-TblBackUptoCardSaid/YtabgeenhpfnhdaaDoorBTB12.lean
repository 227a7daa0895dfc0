/- Of what the law TblBack needs: part 12. -/
import Derived.Lib.MapLaws
import Derived.Test.YtabgeenhpfnhdaaDoorBTB7
import Derived.Test.YtabgeenhpfnhdaaDoorBTB10
set_option linter.unusedSimpArgs false
set_option linter.unusedVariables false
section
namespace Go.Proofs.YtabgeenhpfnhdaaDoor.Ev
open Go
theorem HInv.tabs {H : Heap} {W : Wd} (h : HInv C0 H W) : Go.Lib.Utf8Tabs 2 3 W.w := by
  refine ⟨fun c hc => ?_, fun i hi => ⟨?_, ?_⟩⟩
  · obtain ⟨_, _, v, hv, hr⟩ := h.laid _ firstPV laidFirst c (.int .u8 (Go.Lib.firstT c : Nat)) (by simp [firstPV, hc])
    cases hr; exact hv
  · obtain ⟨_, _, v, hv, hr⟩ := h.laid _ acceptPV laidAccept (2 * i) (.int .u8 (Go.Lib.accLo i : Nat)) (by
      have : 2 * i < 32 := by omega
      simp [acceptPV, this])
    cases hr; exact hv
  · obtain ⟨_, _, v, hv, hr⟩ := h.laid _ acceptPV laidAccept (2 * i + 1) (.int .u8 (Go.Lib.accHi i : Nat)) (by
      have h1 : 2 * i + 1 < 32 := by omega
      have h2 : (2 * i + 1) % 2 = 1 := by omega
      have h3 : (2 * i + 1) / 2 = i := by omega
      simp [acceptPV, h1, h2, h3])
    cases hr; exact hv
def lcr : ByteArray := ⟨#[108, 99, 114]⟩
theorem conValid (r : Int) : PCon C0 87 [.sc (.int .i32 r)] (.sc (.bool (Go.Lib.validRune r))) :=
  pcon_below rfl (fun _ _ => .bool) fun vs W hl ha hH => by
    obtain ⟨u, rfl, hu⟩ := args1 hl ha
    rw [hu.int]
    exact (Tryd.utf8_ValidRune r W.w).mono fun e w' ⟨he, hw⟩ => ⟨he, by rw [hw]; exact RowKit.Below.refl _ _⟩
theorem conIndexByte (s : ByteArray) (c : Int) : PCon C0 28 [.sc (.str s), .sc (.int .u8 c)] (.sc (.int .i64 (Go.Lib.indexByte s.data.toList c.toNat.toUInt8))) :=
  pcon_below rfl (fun _ _ => .int) fun vs W hl ha hH => by
    obtain ⟨u, v, rfl, hu, hv⟩ := args2 hl ha
    rw [hu.str, hv.int]
    exact (Tryd.strings_IndexByte s c W.w).mono fun e w' ⟨he, hw⟩ => ⟨he, by rw [hw]; exact RowKit.Below.refl _ _⟩
theorem ofNat_ge {n : Nat} (h1 : 128 ≤ n) (h2 : n < 256) : 128 ≤ (UInt8.ofNat n).toNat := by
  simp [Nat.mod_eq_of_lt h2, h1]
theorem enc_shape (r : Int) (h1 : 128 ≤ r) (h2 : r ≤ 1114111) (hv : Go.Lib.validRune r = true) :
    (∃ a b, Utf8.encode r = ⟨#[a, b]⟩ ∧ 128 ≤ b.toNat) ∨ (∃ a b c, Utf8.encode r = ⟨#[a, b, c]⟩ ∧ 128 ≤ c.toNat) ∨ ∃ a b c d, Utf8.encode r = ⟨#[a, b, c, d]⟩ := by
  have hv' : Utf8.valid r = true := by
    simp [Go.Lib.validRune] at hv
    simp [Utf8.valid]; omega
  unfold Utf8.encode
  rw [if_pos hv']
  simp only
  rw [if_neg (by omega)]
  split
  · exact .inl ⟨_, _, rfl, ofNat_ge (by omega) (by omega)⟩
  · split
    · exact .inr (.inl ⟨_, _, _, rfl, ofNat_ge (by omega) (by omega)⟩)
    · exact .inr (.inr ⟨_, _, _, _, rfl⟩)
theorem wr1 : IntKind.i64.wrap 1 = 1 := by decide
theorem wr2 : IntKind.i64.wrap 2 = 2 := by decide
theorem wr3 : IntKind.i64.wrap 3 = 3 := by decide
theorem idx_none {b : UInt8} (h : 128 ≤ b.toNat) : Go.Lib.indexByte ((⟨#[108, 99, 114]⟩ : ByteArray).extract 2 3).data.toList ((b.toNat : Nat) : Int).toNat.toUInt8 = -1 := by
  have e1 : ((⟨#[108, 99, 114]⟩ : ByteArray).extract 2 3).data.toList = [114] := by decide
  have e2 : ((b.toNat : Nat) : Int).toNat.toUInt8 = b := by simp
  rw [e1, e2]
  have : ((114 : UInt8) == b) = false := by
    apply beq_eq_false_iff_ne.2
    intro hh
    rw [← hh] at h
    simp at h
  simp [Go.Lib.indexByte, this]
theorem idx_none' (b : UInt8) : Go.Lib.indexByte ((⟨#[108, 99, 114]⟩ : ByteArray).extract 3 3).data.toList ((b.toNat : Nat) : Int).toNat.toUInt8 = -1 := by
  have e1 : ((⟨#[108, 99, 114]⟩ : ByteArray).extract 3 3).data.toList = [] := by decide
  rw [e1]
  rfl
set_option linter.unusedSimpArgs false in
set_option maxRecDepth 20000 in
set_option maxHeartbeats 8000000 in
theorem conIndexRune (r : Int) (h1 : 128 ≤ r) (h2 : r ≤ 1114111) : PCon C0 73 [.sc (.str lcr), .sc (.int .i32 r)] (.sc (.int .i64 (-1))) := by
  by_cases h3 : r = 65533
  · subst h3
    refine pcon_below rfl (fun _ _ => .int) fun vs W hl ha hH => ?_
    obtain ⟨u, v, rfl, hu, hv⟩ := args2 hl ha
    rw [hu.str, hv.int]
    exact EvG.idx_fffd _
  · have cv := conValid r
    have h4 : 0 ≤ r := by omega
    have h5 : ¬ r < 128 := by omega
    refine penter73 ?_
    simp [Tryd.f73, h3, h4, h5]
    refine CallQ.mk (Call.pure callable87 (by simp) (by simp) cv) ?_
    cases hv : Go.Lib.validRune r
    · simp
    · rcases enc_shape r h1 h2 hv with ⟨a, b, he, hb⟩ | ⟨a, b, c, he, hb⟩ | ⟨a, b, c, d, he⟩
      · have hne : ¬ (99 : Int) = b.toNat := by omega
        have ci := conIndexByte ((⟨#[108, 99, 114]⟩ : ByteArray).extract 2 3) b.toNat
        rw [idx_none hb] at ci
        simp [he]
        refine loopC (fun d e H => d = 0 ∧ e = _ ∧ H = _) (d := 0) ⟨rfl, rfl, rfl⟩ ?_
        rintro _ _ _ ⟨rfl, rfl, rfl⟩
        simp [lcr, hne, ByteArray.size, wr1, wr2, wr3]
        refine CallQ.mk (CallP.pure callable28 (by simp) (by simp) ci) ?_
        simp
      · have hne : ¬ (114 : Int) = c.toNat := by omega
        have ci := conIndexByte ((⟨#[108, 99, 114]⟩ : ByteArray).extract 3 3) c.toNat
        rw [idx_none' c] at ci
        simp [he]
        refine loopC (fun d e H => d = 0 ∧ e = _ ∧ H = _) (d := 0) ⟨rfl, rfl, rfl⟩ ?_
        rintro _ _ _ ⟨rfl, rfl, rfl⟩
        simp [lcr, hne, ByteArray.size, wr1, wr2, wr3]
        refine CallQ.mk (CallP.pure callable28 (by simp) (by simp) ci) ?_
        simp
      · simp [he]
        refine loopC (fun d e H => d = 0 ∧ e = _ ∧ H = _) (d := 0) ⟨rfl, rfl, rfl⟩ ?_
        rintro _ _ _ ⟨rfl, rfl, rfl⟩
        simp [lcr, ByteArray.size, wr1, wr2, wr3]
end Go.Proofs.YtabgeenhpfnhdaaDoor.Ev
end
section
namespace Go.Proofs.YtabgeenhpfnhdaaDoor.Ev
open Go
def sideF (x : Int) : Int := if x = 108 ∨ x = 99 ∨ x = 114 then x else -1
set_option maxRecDepth 20000 in
theorem side_dec : ∀ n : Nat, n < 128 → decide (0 ≤ Go.Lib.indexByte [108, 99, 114] n.toUInt8) = decide (n = 108 ∨ n = 99 ∨ n = 114) := by decide
set_option maxRecDepth 20000 in
set_option maxHeartbeats 4000000 in
theorem conContains (r : Nat) (h2 : r ≤ 1114111) : PCon C0 52 [.sc (.str lcr), .sc (.int .i32 r)] (.sc (.bool (decide (r = 108 ∨ r = 99 ∨ r = 114)))) := by
  by_cases h1 : r < 128
  · refine pcon_below rfl (fun _ _ => .bool) fun vs W hl ha hH => ?_
    obtain ⟨u, v, rfl, hu, hv⟩ := args2 hl ha
    rw [hu.str, hv.int]
    refine (Tryd.strings_ContainsRune_ascii lcr r W.w (by omega) (by omega)).mono fun e w' ⟨he, hw⟩ => ⟨?_, by rw [hw]; exact RowKit.Below.refl _ _⟩
    rw [he, ← side_dec r h1]
    rfl
  · have ci := conIndexRune r (by omega) (by omega)
    have hn : ¬ (r = 108 ∨ r = 99 ∨ r = 114) := by omega
    refine penter52 ?_
    simp [Tryd.f52]
    refine CallQ.mk (Call.pure callable73 (by simp) (by simp) ci) ?_
    simp
    omega
set_option maxRecDepth 20000 in
set_option maxHeartbeats 4000000 in
theorem conSide (r : Nat) (h2 : r ≤ 1114111) : PCon C0 51 [.sc (.int .i32 r)] (.sc (.int .i32 (sideF r))) := by
  have cc := conContains r h2
  refine penter51 ?_
  by_cases h : r = 108 ∨ r = 99 ∨ r = 114
  · have h' : (r : Int) = 108 ∨ (r : Int) = 99 ∨ (r : Int) = 114 := by omega
    rw [decide_eq_true h] at cc
    simp [Tryd.f51, lcr] at cc ⊢
    refine CallQ.mk (Call.pure callable52 (by simp) (by simp) cc) ?_
    simp [sideF, h']
  · have h' : ¬ ((r : Int) = 108 ∨ (r : Int) = 99 ∨ (r : Int) = 114) := by omega
    rw [decide_eq_false h] at cc
    simp [Tryd.f51, lcr] at cc ⊢
    refine CallQ.mk (Call.pure callable52 (by simp) (by simp) cc) ?_
    simp [sideF, h']
theorem side_iff (b : UInt8) : isSide b = decide ((b.toNat : Int) = 108 ∨ (b.toNat : Int) = 99 ∨ (b.toNat : Int) = 114) := by
  have h : ∀ c : UInt8, (b == c) = decide ((b.toNat : Int) = c.toNat) := fun c => by
    apply Bool.eq_iff_iff.2
    simp only [beq_iff_eq, decide_eq_true_eq]
    exact ⟨fun h => by rw [h], fun h => UInt8.toNat_inj.1 (by omega)⟩
  simp only [isSide, h]
  apply Bool.eq_iff_iff.2
  simp [or_assoc]
theorem big_side {b : UInt8} (h : 128 ≤ b.toNat) : isSide b = false := by
  rw [side_iff]
  apply decide_eq_false
  omega
theorem big_filter {l : List UInt8} (h : ∀ b ∈ l, 128 ≤ b.toNat) : l.filter isSide = [] := by
  rw [List.filter_eq_nil_iff]
  intro b hb
  simp [big_side (h b hb)]
theorem decL_ascii (b : UInt8) (t : List UInt8) (h : b.toNat < 128) : Go.Lib.decodeL (b :: t) = (b.toNat, 1) := by
  rw [Go.Lib.decodeL_N]
  unfold Go.Lib.decodeN
  rw [if_pos (by simpa using h)]
  rfl
theorem map_side : ∀ (n : Nat) (l : List UInt8), l.length ≤ n → Go.Lib.mapGoD sideF n l = l.filter isSide := by
  intro n
  induction n with
  | zero =>
    intro l h
    obtain rfl : l = [] := List.eq_nil_of_length_eq_zero (by omega)
    rfl
  | succ n ih =>
    intro l h
    cases l with
    | nil => simp [Go.Lib.mapGoD]
    | cons b t =>
      rw [Go.Lib.mapGoD, if_neg (by simp)]
      by_cases hb : b.toNat < 128
      · rw [decL_ascii b t hb]
        simp only [List.drop_succ_cons, List.drop_zero]
        rw [ih t (by simpa using h)]
        have hs := side_iff b
        by_cases hc : (b.toNat : Int) = 108 ∨ (b.toNat : Int) = 99 ∨ (b.toNat : Int) = 114
        · rw [List.filter_cons_of_pos (by rw [hs]; simp [hc]), sideF, if_pos hc, if_pos (by omega)]
          have := Go.Lib.encode_decode (b :: t) (by simp) (by rw [decL_ascii b t hb]; simp; omega)
          rw [decL_ascii b t hb] at this
          simp at this
          rw [this]; rfl
        · rw [List.filter_cons_of_neg (by rw [hs]; simp [hc]), sideF, if_neg hc, if_neg (by omega)]
          rfl
      · have hw : ∀ k, k ≤ n + 1 → 1 ≤ k → (∀ x ∈ (b :: t).take k, 128 ≤ x.toNat) → Go.Lib.mapGoD sideF n ((b :: t).drop k) = (b :: t).filter isSide := fun k hk h1 hx => by
          have e := List.take_append_drop k (b :: t)
          conv => rhs; rw [← e, List.filter_append, big_filter hx, List.nil_append]
          exact ih _ (by rw [List.length_drop]; omega)
        have big : ∀ x : Nat, 128 ≤ x → ¬ (0 : Int) ≤ sideF x := fun x hx => by
          rw [sideF, if_neg (by omega)]; omega
        have k0 := ((b :: t).getD 0 0).toNat_lt
        have hb0 : ((b :: t).getD 0 0) = b := rfl
        have hN := Go.Lib.decodeL_N (b :: t)
        rw [hN]
        rcases Go.Lib.decodeN_shape (b :: t).length ((b :: t).getD 0 0).toNat ((b :: t).getD 1 0).toNat ((b :: t).getD 2 0).toNat ((b :: t).getD 3 0).toNat with ⟨c, e⟩ | ⟨c1, c2, c3, cv, e⟩ | ⟨c1, c2, c3, c4, cv, cs, e⟩ | ⟨c1, c2, c3, c4, c5, cv, cw, e⟩ | e
        · rw [hb0] at c; omega
        · rw [e]
          simp only
          rw [if_neg (big _ cv), List.nil_append]
          refine hw 2 (by omega) (by omega) ?_
          rw [Go.Lib.takeB _ c2]
          intro x hx
          simp at hx
          rcases hx with hx | hx
          · rw [hx]; omega
          · rw [hx]; simp at c3 ⊢; omega
        · rw [e]
          simp only
          rw [if_neg (big _ (by omega)), List.nil_append]
          refine hw 3 (by omega) (by omega) ?_
          rw [Go.Lib.takeC _ c2]
          intro x hx
          simp at hx
          rcases hx with hx | hx | hx
          · rw [hx]; omega
          · rw [hx]; simp at c3 ⊢; omega
          · rw [hx]; simp at c4 ⊢; omega
        · rw [e]
          simp only
          rw [if_neg (big _ (by omega)), List.nil_append]
          refine hw 4 (by omega) (by omega) ?_
          rw [Go.Lib.takeD _ c2]
          intro x hx
          simp at hx
          rcases hx with hx | hx | hx | hx
          · rw [hx]; omega
          · rw [hx]; simp at c3 ⊢; omega
          · rw [hx]; simp at c4 ⊢; omega
          · rw [hx]; simp at c5 ⊢; omega
        · rw [e]
          simp only
          rw [if_neg (big 65533 (by omega)), List.nil_append]
          refine hw 1 (by omega) (by omega) ?_
          intro x hx
          simp at hx
          subst hx; omega
theorem conMap (s : ByteArray) (hs : s.size < 35184372088832) : PCon C0 50 [.fn 51 [] [], .sc (.str s)] (.sc (.str ⟨(s.data.toList.filter isSide).toArray⟩)) := by
  refine pcon_below rfl (fun _ _ => .str) fun vs W hl ha hH => ?_
  obtain ⟨u, v, rfl, hu, hv⟩ := args2 hl ha
  rw [hu.fn0, hv.str]
  have := Tryd.strings_Map_grows 51 #[] (enters_of Tryd.func51 (by kernel_rfl) rfl) sideF s W.w hs (fun W' x hx hb => by
      have := (conSide x hx).call1 (hH.below hb).2
      simpa using this) (fun x hx => by unfold sideF; split <;> omega) hH.tabs
  rw [Go.Lib.mapD, map_side _ _ (Nat.le_refl _)] at this
  exact this
end Go.Proofs.YtabgeenhpfnhdaaDoor.Ev
end
section
namespace Go.Proofs.YtabgeenhpfnhdaaDoor.Ev
open Go
def cellM (r : TRow) (k : Nat) : List Glyph := if k < r.cells.length then squeeze (r.cells.getD k []) else []
theorem mendRow_eq (n : Nat) (r : TRow) : mendRow n r = ⟨r.rule, if r.rule = true then [] else (List.range n).map (cellM r)⟩ := rfl
structure TblS (t : Tbl) : Prop where
  cols : t.cols.size ≤ 1073741824
  rows : t.rows.length ≤ 1073741824
  cells : ∀ r ∈ t.rows, r.cells.length ≤ 1073741824 ∧ ∀ c ∈ r.cells, c.length ≤ 1073741824
theorem sizedGl (l : List (List Glyph)) : Sized 1 (l.map gl) := by
  intro p hp
  obtain ⟨x, _, rfl⟩ := List.mem_map.1 hp
  rfl
theorem sizedGlC (r : TRow) (k : Nat) : Sized 1 ((List.range k).map (gl ∘ cellM r)) := by
  intro p hp
  obtain ⟨x, _, rfl⟩ := List.mem_map.1 hp
  rfl
theorem sizedTR2 (f : TRow → TRow) (l : List TRow) (i : Nat) : Sized 2 ((l.map (TRow.pv ∘ f)).take i) := by
  intro p hp
  obtain ⟨x, _, rfl⟩ := List.mem_map.1 (List.mem_of_mem_take hp)
  rfl
theorem sizedAgg2 {a b : PV} : Sized 2 [PV.agg [a, b]] := by
  intro p hp
  rw [List.mem_singleton.1 hp]; rfl
theorem sized1l {l : List PV} : Sized 1 [PV.sl l] := by
  intro p hp
  rw [List.mem_singleton.1 hp]; rfl
set_option linter.unusedSimpArgs false in
set_option maxRecDepth 20000 in
set_option maxHeartbeats 4000000 in
theorem treeMend (t : Tbl) (ht : TblS t) : PCon C0 33 [t.pv.toFV] (mendT t).pv.toFV := by
  refine penter33 ?_
  have cm := conMap t.cols (by have := ht.cols; omega)
  obtain ⟨F, hF⟩ : ∃ F, t.cols.data.toList.filter isSide = F := ⟨_, rfl⟩
  rw [hF] at cm
  have hmc : mendCols t.cols = ⟨(if F.take 20 = [] then [108] else F.take 20).toArray⟩ := by rw [mendCols, hF]
  obtain ⟨S, hS⟩ : ∃ S : ByteArray, (⟨F.toArray⟩ : ByteArray) = S := ⟨_, rfl⟩
  have hSs : S.size = F.length := by rw [← hS]; simp [ByteArray.size]
  obtain ⟨M, hM⟩ : ∃ M : ByteArray, (⟨(F.take 20).toArray⟩ : ByteArray) = M := ⟨_, rfl⟩
  obtain ⟨m, hm, hml, hme⟩ : ∃ m : Nat, (if (20 : Int) < (S.size : Int) then (20 : Int) else (S.size : Int)) = (m : Nat) ∧ m ≤ S.size ∧ S.extract 0 m = M := by
    have hex : ∀ k, S.extract 0 k = ⟨(F.take k).toArray⟩ := fun k => by
      rw [← hS]
      apply ByteArray.ext
      rw [ByteArray.data_extract]
      apply Array.toList_inj.1
      simp
    by_cases h : (20 : Int) < S.size
    · exact ⟨20, by rw [if_pos h]; rfl, by omega, by rw [hex, hM]⟩
    · refine ⟨S.size, by rw [if_neg h], Nat.le_refl _, ?_⟩
      rw [hex, ← hM, List.take_of_length_le (by omega), List.take_of_length_le (by omega)]
  rw [hS] at cm
  have hml' : (m : Int) ≤ S.size := by omega
  simp [Tryd.f33, Tbl.pv]
  refine CallQ.mk (Call.pure callable50 (by simp) (by simp) cm) ?_
  simp [hm, hml', hme]
  have hn20 : (mendCols t.cols).size ≤ 20 := by
    rw [hmc]
    show (if F.take 20 = [] then [108] else F.take 20).toArray.size ≤ 20
    split
    · simp
    · simp; omega
  have hCM : (if M = ⟨#[]⟩ then (⟨#[108]⟩ : ByteArray) else M) = mendCols t.cols := by
    rw [hmc, ← hM]
    by_cases he : F.take 20 = []
    · rw [if_pos he, if_pos (by rw [he])]
    · rw [if_neg he, if_neg (fun h => he (by
        have := congrArg (fun b : ByteArray => b.data.toList) h
        simpa using this))]
  obtain ⟨n, hn⟩ : ∃ n, (mendCols t.cols).size = n := ⟨_, rfl⟩
  rw [hn] at hn20
  refine CondC.mk (fun hc => ?_) (fun hc => ?_)
  · rw [if_pos (by simpa using hc)] at hCM
    simp
    rw [hCM]
    cases hall : t.all
    · simp
      refine loopC (fun d e H => ∃ (i : Nat) (X : Heap) (x0 x6 x7 x8 x9 x19 x34 x48 x55 : FV), d = t.rows.length - i ∧ i ≤ t.rows.length ∧
        H = [FV.sc (PV.str t.cols), FV.sc (PV.sl (List.map TRow.pv t.rows)), FV.sc (PV.bool t.box), FV.sc (PV.bool false)] :: [FV.sc (PV.str ByteArray.empty), FV.own [], FV.sc (PV.bool false), FV.sc (PV.bool false)] :: [FV.sc (PV.str (mendCols t.cols)), FV.own (((t.rows.take i).map (mendRow n)).map TRow.pv), FV.sc (PV.bool t.box), FV.sc (PV.bool false)] :: X ∧
        e = [(0, x0), (1, .ptr 0 0), (2, .ptr 1 0), (3, .sc (.str (mendCols t.cols))), (4, .ptr 2 0), (6, x6), (7, x7), (8, x8), (9, x9), (19, x19), (31, .sc (.sl (t.rows.map TRow.pv))), (32, .sc (.int .i64 t.rows.length)), (33, .sc (.int .i64 i)), (34, x34), (48, x48), (55, x55)]) (d := t.rows.length)
        ⟨0, [], _, _, _, _, _, _, _, _, _, rfl, by omega, by simp, rfl⟩ ?_
      rintro d e H ⟨i, X, x0, x6, x7, x8, x9, x19, x34, x48, x55, rfl, hi, rfl, rfl⟩
      simp
      refine CondC.mk (fun hlt => ?_) (fun hlt => ?_)
      · simp at hlt
        have hr := ht.cells _ (List.getElem_mem hlt)
        have htk : t.rows.take (i + 1) = t.rows.take i ++ [t.rows[i]] := List.take_succ_eq_append_getElem hlt
        have hrl := ht.rows
        simp [hlt, TRow.pv]
        obtain ⟨r, hrr⟩ : ∃ r, t.rows[i] = r := ⟨_, rfl⟩
        rw [hrr] at hr htk
        simp only [hrr]
        obtain ⟨c0, hc0⟩ : ∃ c0 : List FV, [FV.sc (PV.str t.cols), FV.sc (PV.sl (List.map TRow.pv t.rows)), FV.sc (PV.bool t.box), FV.sc (PV.bool false)] = c0 := ⟨_, rfl⟩
        refine loopC (fun d e H => ∃ (k : Nat) (x9 x48 x55 : FV), d = n - k ∧ k ≤ n ∧ (r.rule = true → k = 0) ∧
          H = c0 :: [FV.sc (PV.str ByteArray.empty), FV.own [], FV.sc (PV.bool false), FV.sc (PV.bool false)] :: [FV.sc (PV.str (mendCols t.cols)), FV.own (((t.rows.take i).map (mendRow n)).map TRow.pv), FV.sc (PV.bool t.box), FV.sc (PV.bool false)] :: (X ++ [[FV.sc (.bool r.rule), FV.sc (.sl (r.cells.map gl))], [FV.sc (.bool r.rule), FV.own (((List.range k).map (cellM r)).map gl)]]) ∧
          e = [(0, x0), (1, .ptr 0 0), (2, .ptr 1 0), (3, .sc (.str (mendCols t.cols))), (4, .ptr 2 0), (6, .ptr (X.length + 1 + 1 + 1) 0), (7, .ptr (X.length + 1 + 1 + 1 + 1) 0), (8, .sc (.int .i64 k)), (9, x9), (19, x19), (31, .sc (.sl (t.rows.map TRow.pv))), (32, .sc (.int .i64 t.rows.length)), (33, .sc (.int .i64 i)), (34, .sc (.bool true)), (48, x48), (55, x55)]) (d := n)
          ⟨0, x9, x48, x55, rfl, by omega, by simp, ?_, ?_⟩ ?_
        · rw [hc0]; simp
        · rfl
        · rintro d e H ⟨k, x9, x48, x55, rfl, hk, hrk, rfl, rfl⟩
          have hmr := mendRow_eq n r
          by_cases hkn : k < n ∧ r.rule = false
          · obtain ⟨hkn, hrule⟩ := hkn
            have hkn' : k < (mendCols t.cols).size := by omega
            have hnk : (List.range (k + 1)).map (cellM r) = (List.range k).map (cellM r) ++ [cellM r k] := by rw [List.range_succ, List.map_append]; rfl
            simp [hkn', hrule]
            by_cases hkc : k < r.cells.length
            · have sq := treeSqueeze r.cells[k] (hr.2 _ (List.getElem_mem hkc))
              have hcm : cellM r k = squeeze r.cells[k] := by simp [cellM, hkc]
              simp only [gl] at sq
              simp [hkc, gl]
              refine CallQ.mk (Call.pure callable53 (by simp) (by simp) sq) ?_
              simp
              exact ⟨sized1l, sizedGlC r k, sized1l, by unfold lenMax; omega, n - (k + 1), by omega, k + 1, rfl, by omega, by rw [List.range_succ, List.map_append]; simp [hcm, gl], by rw [wrap64 (by omega) (by omega)]; omega⟩
            · have hcm : cellM r k = [] := by simp [cellM, hkc]
              simp [hkc]
              exact ⟨sized1l, sizedGlC r k, sized1l, by unfold lenMax; omega, n - (k + 1), by omega, k + 1, rfl, by omega, by rw [List.range_succ, List.map_append]; simp [hcm, gl], by rw [wrap64 (by omega) (by omega)]; omega⟩
          · have hcells : (mendRow n r).cells = (List.range k).map (cellM r) := by
              rw [hmr]
              cases hrule : r.rule
              · simp only [hrule, and_true] at hkn
                obtain rfl : k = n := by omega
                rfl
              · rw [hrk hrule]; rfl
            have hrow : (mendRow n r).pv = .agg [.bool r.rule, .sl (((List.range k).map (cellM r)).map gl)] := by
              rw [TRow.pv, hcells]; rfl
            by_cases hk2 : k < (mendCols t.cols).size
            · have hrule : r.rule = true := by
                cases hrule : r.rule
                · exact absurd ⟨by omega, hrule⟩ hkn
                · rfl
              simp [hk2, hrule]
              exact ⟨sizedAgg2, sizedTR2 _ _ _, sizedAgg2, by unfold lenMax; omega, t.rows.length - (i + 1), by omega, i + 1, rfl, by omega, ⟨hc0.symm, by rw [← List.map_take, ← List.map_take, htk, List.map_append]; simp [hrow, hrule]⟩, by rw [wrap64 (by omega) (by omega)]; omega⟩
            · simp [hk2]
              exact ⟨sizedAgg2, sizedTR2 _ _ _, sizedAgg2, by unfold lenMax; omega, t.rows.length - (i + 1), by omega, i + 1, rfl, by omega, ⟨hc0.symm, by rw [← List.map_take, ← List.map_take, htk, List.map_append]; simp [hrow]⟩, by rw [wrap64 (by omega) (by omega)]; omega⟩
      · simp at hlt
        simp [List.take_of_length_le hlt]
        exact ⟨rfl, by simp [mendT, hn]; exact List.take_of_length_le (by simpa using hlt), rfl, by simp [mendT, hall]⟩
    · simp
      refine loopC (fun d e H => ∃ (i : Nat) (X : Heap) (x0 x6 x7 x8 x9 x19 x34 x48 x55 : FV), d = t.rows.length - i ∧ i ≤ t.rows.length ∧
        H = [FV.sc (PV.str t.cols), FV.sc (PV.sl (List.map TRow.pv t.rows)), FV.sc (PV.bool t.box), FV.sc (PV.bool true)] :: [FV.sc (PV.str ByteArray.empty), FV.own [], FV.sc (PV.bool false), FV.sc (PV.bool false)] :: [FV.sc (PV.str (mendCols t.cols)), FV.own (((t.rows.take i).map (mendRow n)).map TRow.pv), FV.sc (PV.bool t.box), FV.sc (PV.bool t.box)] :: X ∧
        e = [(0, x0), (1, .ptr 0 0), (2, .ptr 1 0), (3, .sc (.str (mendCols t.cols))), (4, .ptr 2 0), (6, x6), (7, x7), (8, x8), (9, x9), (19, x19), (31, .sc (.sl (t.rows.map TRow.pv))), (32, .sc (.int .i64 t.rows.length)), (33, .sc (.int .i64 i)), (34, x34), (48, x48), (55, x55)]) (d := t.rows.length)
        ⟨0, [], _, _, _, _, _, _, _, _, _, rfl, by omega, by simp, rfl⟩ ?_
      rintro d e H ⟨i, X, x0, x6, x7, x8, x9, x19, x34, x48, x55, rfl, hi, rfl, rfl⟩
      simp
      refine CondC.mk (fun hlt => ?_) (fun hlt => ?_)
      · simp at hlt
        have hr := ht.cells _ (List.getElem_mem hlt)
        have htk : t.rows.take (i + 1) = t.rows.take i ++ [t.rows[i]] := List.take_succ_eq_append_getElem hlt
        have hrl := ht.rows
        simp [hlt, TRow.pv]
        obtain ⟨r, hrr⟩ : ∃ r, t.rows[i] = r := ⟨_, rfl⟩
        rw [hrr] at hr htk
        simp only [hrr]
        obtain ⟨c0, hc0⟩ : ∃ c0 : List FV, [FV.sc (PV.str t.cols), FV.sc (PV.sl (List.map TRow.pv t.rows)), FV.sc (PV.bool t.box), FV.sc (PV.bool true)] = c0 := ⟨_, rfl⟩
        refine loopC (fun d e H => ∃ (k : Nat) (x9 x48 x55 : FV), d = n - k ∧ k ≤ n ∧ (r.rule = true → k = 0) ∧
          H = c0 :: [FV.sc (PV.str ByteArray.empty), FV.own [], FV.sc (PV.bool false), FV.sc (PV.bool false)] :: [FV.sc (PV.str (mendCols t.cols)), FV.own (((t.rows.take i).map (mendRow n)).map TRow.pv), FV.sc (PV.bool t.box), FV.sc (PV.bool t.box)] :: (X ++ [[FV.sc (.bool r.rule), FV.sc (.sl (r.cells.map gl))], [FV.sc (.bool r.rule), FV.own (((List.range k).map (cellM r)).map gl)]]) ∧
          e = [(0, x0), (1, .ptr 0 0), (2, .ptr 1 0), (3, .sc (.str (mendCols t.cols))), (4, .ptr 2 0), (6, .ptr (X.length + 1 + 1 + 1) 0), (7, .ptr (X.length + 1 + 1 + 1 + 1) 0), (8, .sc (.int .i64 k)), (9, x9), (19, x19), (31, .sc (.sl (t.rows.map TRow.pv))), (32, .sc (.int .i64 t.rows.length)), (33, .sc (.int .i64 i)), (34, .sc (.bool true)), (48, x48), (55, x55)]) (d := n)
          ⟨0, x9, x48, x55, rfl, by omega, by simp, ?_, ?_⟩ ?_
        · rw [hc0]; simp
        · rfl
        · rintro d e H ⟨k, x9, x48, x55, rfl, hk, hrk, rfl, rfl⟩
          have hmr := mendRow_eq n r
          by_cases hkn : k < n ∧ r.rule = false
          · obtain ⟨hkn, hrule⟩ := hkn
            have hkn' : k < (mendCols t.cols).size := by omega
            have hnk : (List.range (k + 1)).map (cellM r) = (List.range k).map (cellM r) ++ [cellM r k] := by rw [List.range_succ, List.map_append]; rfl
            simp [hkn', hrule]
            by_cases hkc : k < r.cells.length
            · have sq := treeSqueeze r.cells[k] (hr.2 _ (List.getElem_mem hkc))
              have hcm : cellM r k = squeeze r.cells[k] := by simp [cellM, hkc]
              simp only [gl] at sq
              simp [hkc, gl]
              refine CallQ.mk (Call.pure callable53 (by simp) (by simp) sq) ?_
              simp
              exact ⟨sized1l, sizedGlC r k, sized1l, by unfold lenMax; omega, n - (k + 1), by omega, k + 1, rfl, by omega, by rw [List.range_succ, List.map_append]; simp [hcm, gl], by rw [wrap64 (by omega) (by omega)]; omega⟩
            · have hcm : cellM r k = [] := by simp [cellM, hkc]
              simp [hkc]
              exact ⟨sized1l, sizedGlC r k, sized1l, by unfold lenMax; omega, n - (k + 1), by omega, k + 1, rfl, by omega, by rw [List.range_succ, List.map_append]; simp [hcm, gl], by rw [wrap64 (by omega) (by omega)]; omega⟩
          · have hcells : (mendRow n r).cells = (List.range k).map (cellM r) := by
              rw [hmr]
              cases hrule : r.rule
              · simp only [hrule, and_true] at hkn
                obtain rfl : k = n := by omega
                rfl
              · rw [hrk hrule]; rfl
            have hrow : (mendRow n r).pv = .agg [.bool r.rule, .sl (((List.range k).map (cellM r)).map gl)] := by
              rw [TRow.pv, hcells]; rfl
            by_cases hk2 : k < (mendCols t.cols).size
            · have hrule : r.rule = true := by
                cases hrule : r.rule
                · exact absurd ⟨by omega, hrule⟩ hkn
                · rfl
              simp [hk2, hrule]
              exact ⟨sizedAgg2, sizedTR2 _ _ _, sizedAgg2, by unfold lenMax; omega, t.rows.length - (i + 1), by omega, i + 1, rfl, by omega, ⟨hc0.symm, by rw [← List.map_take, ← List.map_take, htk, List.map_append]; simp [hrow, hrule]⟩, by rw [wrap64 (by omega) (by omega)]; omega⟩
            · simp [hk2]
              exact ⟨sizedAgg2, sizedTR2 _ _ _, sizedAgg2, by unfold lenMax; omega, t.rows.length - (i + 1), by omega, i + 1, rfl, by omega, ⟨hc0.symm, by rw [← List.map_take, ← List.map_take, htk, List.map_append]; simp [hrow]⟩, by rw [wrap64 (by omega) (by omega)]; omega⟩
      · simp at hlt
        simp [List.take_of_length_le hlt]
        exact ⟨rfl, by simp [mendT, hn]; exact List.take_of_length_le (by simpa using hlt), rfl, by simp [mendT, hall]⟩
  · rw [if_neg (by simpa using hc)] at hCM
    simp
    rw [hCM]
    cases hall : t.all
    · simp
      refine loopC (fun d e H => ∃ (i : Nat) (X : Heap) (x0 x6 x7 x8 x9 x19 x34 x48 x55 : FV), d = t.rows.length - i ∧ i ≤ t.rows.length ∧
        H = [FV.sc (PV.str t.cols), FV.sc (PV.sl (List.map TRow.pv t.rows)), FV.sc (PV.bool t.box), FV.sc (PV.bool false)] :: [FV.sc (PV.str ByteArray.empty), FV.own [], FV.sc (PV.bool false), FV.sc (PV.bool false)] :: [FV.sc (PV.str (mendCols t.cols)), FV.own (((t.rows.take i).map (mendRow n)).map TRow.pv), FV.sc (PV.bool t.box), FV.sc (PV.bool false)] :: X ∧
        e = [(0, x0), (1, .ptr 0 0), (2, .ptr 1 0), (3, .sc (.str (mendCols t.cols))), (4, .ptr 2 0), (6, x6), (7, x7), (8, x8), (9, x9), (19, x19), (31, .sc (.sl (t.rows.map TRow.pv))), (32, .sc (.int .i64 t.rows.length)), (33, .sc (.int .i64 i)), (34, x34), (48, x48), (55, x55)]) (d := t.rows.length)
        ⟨0, [], _, _, _, _, _, _, _, _, _, rfl, by omega, by simp, rfl⟩ ?_
      rintro d e H ⟨i, X, x0, x6, x7, x8, x9, x19, x34, x48, x55, rfl, hi, rfl, rfl⟩
      simp
      refine CondC.mk (fun hlt => ?_) (fun hlt => ?_)
      · simp at hlt
        have hr := ht.cells _ (List.getElem_mem hlt)
        have htk : t.rows.take (i + 1) = t.rows.take i ++ [t.rows[i]] := List.take_succ_eq_append_getElem hlt
        have hrl := ht.rows
        simp [hlt, TRow.pv]
        obtain ⟨r, hrr⟩ : ∃ r, t.rows[i] = r := ⟨_, rfl⟩
        rw [hrr] at hr htk
        simp only [hrr]
        obtain ⟨c0, hc0⟩ : ∃ c0 : List FV, [FV.sc (PV.str t.cols), FV.sc (PV.sl (List.map TRow.pv t.rows)), FV.sc (PV.bool t.box), FV.sc (PV.bool false)] = c0 := ⟨_, rfl⟩
        refine loopC (fun d e H => ∃ (k : Nat) (x9 x48 x55 : FV), d = n - k ∧ k ≤ n ∧ (r.rule = true → k = 0) ∧
          H = c0 :: [FV.sc (PV.str ByteArray.empty), FV.own [], FV.sc (PV.bool false), FV.sc (PV.bool false)] :: [FV.sc (PV.str (mendCols t.cols)), FV.own (((t.rows.take i).map (mendRow n)).map TRow.pv), FV.sc (PV.bool t.box), FV.sc (PV.bool false)] :: (X ++ [[FV.sc (.bool r.rule), FV.sc (.sl (r.cells.map gl))], [FV.sc (.bool r.rule), FV.own (((List.range k).map (cellM r)).map gl)]]) ∧
          e = [(0, x0), (1, .ptr 0 0), (2, .ptr 1 0), (3, .sc (.str (mendCols t.cols))), (4, .ptr 2 0), (6, .ptr (X.length + 1 + 1 + 1) 0), (7, .ptr (X.length + 1 + 1 + 1 + 1) 0), (8, .sc (.int .i64 k)), (9, x9), (19, x19), (31, .sc (.sl (t.rows.map TRow.pv))), (32, .sc (.int .i64 t.rows.length)), (33, .sc (.int .i64 i)), (34, .sc (.bool true)), (48, x48), (55, x55)]) (d := n)
          ⟨0, x9, x48, x55, rfl, by omega, by simp, ?_, ?_⟩ ?_
        · rw [hc0]; simp
        · rfl
        · rintro d e H ⟨k, x9, x48, x55, rfl, hk, hrk, rfl, rfl⟩
          have hmr := mendRow_eq n r
          by_cases hkn : k < n ∧ r.rule = false
          · obtain ⟨hkn, hrule⟩ := hkn
            have hkn' : k < (mendCols t.cols).size := by omega
            have hnk : (List.range (k + 1)).map (cellM r) = (List.range k).map (cellM r) ++ [cellM r k] := by rw [List.range_succ, List.map_append]; rfl
            simp [hkn', hrule]
            by_cases hkc : k < r.cells.length
            · have sq := treeSqueeze r.cells[k] (hr.2 _ (List.getElem_mem hkc))
              have hcm : cellM r k = squeeze r.cells[k] := by simp [cellM, hkc]
              simp only [gl] at sq
              simp [hkc, gl]
              refine CallQ.mk (Call.pure callable53 (by simp) (by simp) sq) ?_
              simp
              exact ⟨sized1l, sizedGlC r k, sized1l, by unfold lenMax; omega, n - (k + 1), by omega, k + 1, rfl, by omega, by rw [List.range_succ, List.map_append]; simp [hcm, gl], by rw [wrap64 (by omega) (by omega)]; omega⟩
            · have hcm : cellM r k = [] := by simp [cellM, hkc]
              simp [hkc]
              exact ⟨sized1l, sizedGlC r k, sized1l, by unfold lenMax; omega, n - (k + 1), by omega, k + 1, rfl, by omega, by rw [List.range_succ, List.map_append]; simp [hcm, gl], by rw [wrap64 (by omega) (by omega)]; omega⟩
          · have hcells : (mendRow n r).cells = (List.range k).map (cellM r) := by
              rw [hmr]
              cases hrule : r.rule
              · simp only [hrule, and_true] at hkn
                obtain rfl : k = n := by omega
                rfl
              · rw [hrk hrule]; rfl
            have hrow : (mendRow n r).pv = .agg [.bool r.rule, .sl (((List.range k).map (cellM r)).map gl)] := by
              rw [TRow.pv, hcells]; rfl
            by_cases hk2 : k < (mendCols t.cols).size
            · have hrule : r.rule = true := by
                cases hrule : r.rule
                · exact absurd ⟨by omega, hrule⟩ hkn
                · rfl
              simp [hk2, hrule]
              exact ⟨sizedAgg2, sizedTR2 _ _ _, sizedAgg2, by unfold lenMax; omega, t.rows.length - (i + 1), by omega, i + 1, rfl, by omega, ⟨hc0.symm, by rw [← List.map_take, ← List.map_take, htk, List.map_append]; simp [hrow, hrule]⟩, by rw [wrap64 (by omega) (by omega)]; omega⟩
            · simp [hk2]
              exact ⟨sizedAgg2, sizedTR2 _ _ _, sizedAgg2, by unfold lenMax; omega, t.rows.length - (i + 1), by omega, i + 1, rfl, by omega, ⟨hc0.symm, by rw [← List.map_take, ← List.map_take, htk, List.map_append]; simp [hrow]⟩, by rw [wrap64 (by omega) (by omega)]; omega⟩
      · simp at hlt
        simp [List.take_of_length_le hlt]
        exact ⟨rfl, by simp [mendT, hn]; exact List.take_of_length_le (by simpa using hlt), rfl, by simp [mendT, hall]⟩
    · simp
      refine loopC (fun d e H => ∃ (i : Nat) (X : Heap) (x0 x6 x7 x8 x9 x19 x34 x48 x55 : FV), d = t.rows.length - i ∧ i ≤ t.rows.length ∧
        H = [FV.sc (PV.str t.cols), FV.sc (PV.sl (List.map TRow.pv t.rows)), FV.sc (PV.bool t.box), FV.sc (PV.bool true)] :: [FV.sc (PV.str ByteArray.empty), FV.own [], FV.sc (PV.bool false), FV.sc (PV.bool false)] :: [FV.sc (PV.str (mendCols t.cols)), FV.own (((t.rows.take i).map (mendRow n)).map TRow.pv), FV.sc (PV.bool t.box), FV.sc (PV.bool t.box)] :: X ∧
        e = [(0, x0), (1, .ptr 0 0), (2, .ptr 1 0), (3, .sc (.str (mendCols t.cols))), (4, .ptr 2 0), (6, x6), (7, x7), (8, x8), (9, x9), (19, x19), (31, .sc (.sl (t.rows.map TRow.pv))), (32, .sc (.int .i64 t.rows.length)), (33, .sc (.int .i64 i)), (34, x34), (48, x48), (55, x55)]) (d := t.rows.length)
        ⟨0, [], _, _, _, _, _, _, _, _, _, rfl, by omega, by simp, rfl⟩ ?_
      rintro d e H ⟨i, X, x0, x6, x7, x8, x9, x19, x34, x48, x55, rfl, hi, rfl, rfl⟩
      simp
      refine CondC.mk (fun hlt => ?_) (fun hlt => ?_)
      · simp at hlt
        have hr := ht.cells _ (List.getElem_mem hlt)
        have htk : t.rows.take (i + 1) = t.rows.take i ++ [t.rows[i]] := List.take_succ_eq_append_getElem hlt
        have hrl := ht.rows
        simp [hlt, TRow.pv]
        obtain ⟨r, hrr⟩ : ∃ r, t.rows[i] = r := ⟨_, rfl⟩
        rw [hrr] at hr htk
        simp only [hrr]
        obtain ⟨c0, hc0⟩ : ∃ c0 : List FV, [FV.sc (PV.str t.cols), FV.sc (PV.sl (List.map TRow.pv t.rows)), FV.sc (PV.bool t.box), FV.sc (PV.bool true)] = c0 := ⟨_, rfl⟩
        refine loopC (fun d e H => ∃ (k : Nat) (x9 x48 x55 : FV), d = n - k ∧ k ≤ n ∧ (r.rule = true → k = 0) ∧
          H = c0 :: [FV.sc (PV.str ByteArray.empty), FV.own [], FV.sc (PV.bool false), FV.sc (PV.bool false)] :: [FV.sc (PV.str (mendCols t.cols)), FV.own (((t.rows.take i).map (mendRow n)).map TRow.pv), FV.sc (PV.bool t.box), FV.sc (PV.bool t.box)] :: (X ++ [[FV.sc (.bool r.rule), FV.sc (.sl (r.cells.map gl))], [FV.sc (.bool r.rule), FV.own (((List.range k).map (cellM r)).map gl)]]) ∧
          e = [(0, x0), (1, .ptr 0 0), (2, .ptr 1 0), (3, .sc (.str (mendCols t.cols))), (4, .ptr 2 0), (6, .ptr (X.length + 1 + 1 + 1) 0), (7, .ptr (X.length + 1 + 1 + 1 + 1) 0), (8, .sc (.int .i64 k)), (9, x9), (19, x19), (31, .sc (.sl (t.rows.map TRow.pv))), (32, .sc (.int .i64 t.rows.length)), (33, .sc (.int .i64 i)), (34, .sc (.bool true)), (48, x48), (55, x55)]) (d := n)
          ⟨0, x9, x48, x55, rfl, by omega, by simp, ?_, ?_⟩ ?_
        · rw [hc0]; simp
        · rfl
        · rintro d e H ⟨k, x9, x48, x55, rfl, hk, hrk, rfl, rfl⟩
          have hmr := mendRow_eq n r
          by_cases hkn : k < n ∧ r.rule = false
          · obtain ⟨hkn, hrule⟩ := hkn
            have hkn' : k < (mendCols t.cols).size := by omega
            have hnk : (List.range (k + 1)).map (cellM r) = (List.range k).map (cellM r) ++ [cellM r k] := by rw [List.range_succ, List.map_append]; rfl
            simp [hkn', hrule]
            by_cases hkc : k < r.cells.length
            · have sq := treeSqueeze r.cells[k] (hr.2 _ (List.getElem_mem hkc))
              have hcm : cellM r k = squeeze r.cells[k] := by simp [cellM, hkc]
              simp only [gl] at sq
              simp [hkc, gl]
              refine CallQ.mk (Call.pure callable53 (by simp) (by simp) sq) ?_
              simp
              exact ⟨sized1l, sizedGlC r k, sized1l, by unfold lenMax; omega, n - (k + 1), by omega, k + 1, rfl, by omega, by rw [List.range_succ, List.map_append]; simp [hcm, gl], by rw [wrap64 (by omega) (by omega)]; omega⟩
            · have hcm : cellM r k = [] := by simp [cellM, hkc]
              simp [hkc]
              exact ⟨sized1l, sizedGlC r k, sized1l, by unfold lenMax; omega, n - (k + 1), by omega, k + 1, rfl, by omega, by rw [List.range_succ, List.map_append]; simp [hcm, gl], by rw [wrap64 (by omega) (by omega)]; omega⟩
          · have hcells : (mendRow n r).cells = (List.range k).map (cellM r) := by
              rw [hmr]
              cases hrule : r.rule
              · simp only [hrule, and_true] at hkn
                obtain rfl : k = n := by omega
                rfl
              · rw [hrk hrule]; rfl
            have hrow : (mendRow n r).pv = .agg [.bool r.rule, .sl (((List.range k).map (cellM r)).map gl)] := by
              rw [TRow.pv, hcells]; rfl
            by_cases hk2 : k < (mendCols t.cols).size
            · have hrule : r.rule = true := by
                cases hrule : r.rule
                · exact absurd ⟨by omega, hrule⟩ hkn
                · rfl
              simp [hk2, hrule]
              exact ⟨sizedAgg2, sizedTR2 _ _ _, sizedAgg2, by unfold lenMax; omega, t.rows.length - (i + 1), by omega, i + 1, rfl, by omega, ⟨hc0.symm, by rw [← List.map_take, ← List.map_take, htk, List.map_append]; simp [hrow, hrule]⟩, by rw [wrap64 (by omega) (by omega)]; omega⟩
            · simp [hk2]
              exact ⟨sizedAgg2, sizedTR2 _ _ _, sizedAgg2, by unfold lenMax; omega, t.rows.length - (i + 1), by omega, i + 1, rfl, by omega, ⟨hc0.symm, by rw [← List.map_take, ← List.map_take, htk, List.map_append]; simp [hrow]⟩, by rw [wrap64 (by omega) (by omega)]; omega⟩
      · simp at hlt
        simp [List.take_of_length_le hlt]
        exact ⟨rfl, by simp [mendT, hn]; exact List.take_of_length_le (by simpa using hlt), rfl, by simp [mendT, hall]⟩
end Go.Proofs.YtabgeenhpfnhdaaDoor.Ev
end
section
namespace Go.Proofs.YtabgeenhpfnhdaaDoor.Ev
open Go
theorem sumBy_mem' {α : Type} (f : α → Nat) {l : List α} {x : α} (h : x ∈ l) : f x ≤ sumBy f l := by
  induction l with
  | nil => cases h
  | cons y l ih =>
    rw [sumBy]
    rcases List.mem_cons.1 h with rfl | h
    · omega
    · have := ih h; omega
theorem len_le_sum {α : Type} (f : α → Nat) (h : ∀ x, 1 ≤ f x) (l : List α) : l.length ≤ sumBy f l := by
  induction l with
  | nil => simp
  | cons x l ih => rw [sumBy, List.length_cons]; have := h x; omega
theorem tblS_of {t : Tbl} (h : t.cols.size + sumBy trowLong t.rows ≤ 1073741824) : TblS t where
  cols := by omega
  rows := by have := len_le_sum trowLong (fun r => by unfold trowLong; omega) t.rows; omega
  cells r hr := by
    have h1 := sumBy_mem' trowLong hr
    simp only [trowLong] at h1
    refine ⟨by omega, fun c hc => ?_⟩
    have h2 := sumBy_mem' List.length hc
    omega
end Go.Proofs.YtabgeenhpfnhdaaDoor.Ev
end
section
namespace Go.Proofs.YtabgeenhpfnhdaaDoor.Ev
open Go
theorem sumMem {α : Type} (f : α → Nat) {l : List α} {x : α} (hx : x ∈ l) : f x ≤ sumBy f l := by
  induction l with
  | nil => cases hx
  | cons y l ih =>
    rw [sumBy]
    rcases List.mem_cons.1 hx with rfl | h
    · omega
    · have := ih h; omega
theorem sumLen {α : Type} (f : α → Nat) (h : ∀ x, 1 ≤ f x) (l : List α) : l.length ≤ sumBy f l := by
  induction l with
  | nil => simp [sumBy]
  | cons x l ih => rw [sumBy, List.length_cons]; have := h x; omega
theorem sizedSl {l : List PV} : Sized 1 [PV.sl l] := fun p hp => by rw [List.mem_singleton.1 hp]; rfl
theorem sizedT (l : List TRow) : Sized 2 (l.map TRow.pv) := fun p hp => by simp only [List.mem_map] at hp; obtain ⟨x, _, rfl⟩ := hp; rfl
end Go.Proofs.YtabgeenhpfnhdaaDoor.Ev
end
