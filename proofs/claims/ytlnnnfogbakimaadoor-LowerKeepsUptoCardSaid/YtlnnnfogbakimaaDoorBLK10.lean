/- Of what the law LowerKeeps needs: part 10. -/
import Derived.Lib.MapLaws
import Derived.Test.YtlnnnfogbakimaaDoorBLK6
import Derived.Test.YtlnnnfogbakimaaDoorBLK9
set_option linter.unusedSimpArgs false
set_option linter.unusedVariables false
section
namespace Go.Proofs.YtlnnnfogbakimaaDoor.Ev
open Go
theorem HInv.tabs {H : Heap} {W : Wd} (h : HInv C0 H W) : Go.Lib.Utf8Tabs 1 2 W.w := by
  refine ⟨fun c hc => ?_, fun i hi => ⟨?_, ?_⟩⟩
  · obtain ⟨_, _, v, hv, hr⟩ := h.laid _ firstPV laidFirst c (.int .u8 (Go.Lib.firstT c : Nat)) (by simp [firstPV, hc])
    cases hr; exact hv
  · obtain ⟨_, _, v, hv, hr⟩ := h.laid _ acceptPV laidAccept (2 * i) (.int .u8 (Go.Lib.accLo i : Nat)) (by
      have : 2 * i < 32 := by omega
      simp [acceptPV, this])
    cases hr; exact hv
  · obtain ⟨_, _, v, hv, hr⟩ := h.laid _ acceptPV laidAccept (2 * i + 1) (.int .u8 (Go.Lib.accHi i : Nat)) (by
      have h1 : 2 * i + 1 < 32 := by omega
      have h2 : (2 * i + 1) % 2 = 1 := by omega
      have h3 : (2 * i + 1) / 2 = i := by omega
      simp [acceptPV, h1, h2, h3])
    cases hr; exact hv
def lcr : ByteArray := ⟨#[108, 99, 114]⟩
theorem conValid (r : Int) : PCon C0 132 [.sc (.int .i32 r)] (.sc (.bool (Go.Lib.validRune r))) :=
  pcon_below rfl (fun _ _ => .bool) fun vs W hl ha hH => by
    obtain ⟨u, rfl, hu⟩ := args1 hl ha
    rw [hu.int]
    exact (Tryd.utf8_ValidRune r W.w).mono fun e w' ⟨he, hw⟩ => ⟨he, by rw [hw]; exact RowKit.Below.refl _ _⟩
theorem conIndexByte (s : ByteArray) (c : Int) : PCon C0 131 [.sc (.str s), .sc (.int .u8 c)] (.sc (.int .i64 (Go.Lib.indexByte s.data.toList c.toNat.toUInt8))) :=
  pcon_below rfl (fun _ _ => .int) fun vs W hl ha hH => by
    obtain ⟨u, v, rfl, hu, hv⟩ := args2 hl ha
    rw [hu.str, hv.int]
    exact (Tryd.strings_IndexByte s c W.w).mono fun e w' ⟨he, hw⟩ => ⟨he, by rw [hw]; exact RowKit.Below.refl _ _⟩
theorem ofNat_ge {n : Nat} (h1 : 128 ≤ n) (h2 : n < 256) : 128 ≤ (UInt8.ofNat n).toNat := by
  simp [Nat.mod_eq_of_lt h2, h1]
theorem enc_shape (r : Int) (h1 : 128 ≤ r) (h2 : r ≤ 1114111) (hv : Go.Lib.validRune r = true) :
    (∃ a b, Utf8.encode r = ⟨#[a, b]⟩ ∧ 128 ≤ b.toNat) ∨ (∃ a b c, Utf8.encode r = ⟨#[a, b, c]⟩ ∧ 128 ≤ c.toNat) ∨ ∃ a b c d, Utf8.encode r = ⟨#[a, b, c, d]⟩ := by
  have hv' : Utf8.valid r = true := by
    simp [Go.Lib.validRune] at hv
    simp [Utf8.valid]; omega
  unfold Utf8.encode
  rw [if_pos hv']
  simp only
  rw [if_neg (by omega)]
  split
  · exact .inl ⟨_, _, rfl, ofNat_ge (by omega) (by omega)⟩
  · split
    · exact .inr (.inl ⟨_, _, _, rfl, ofNat_ge (by omega) (by omega)⟩)
    · exact .inr (.inr ⟨_, _, _, _, rfl⟩)
theorem wr1 : IntKind.i64.wrap 1 = 1 := by decide
theorem wr2 : IntKind.i64.wrap 2 = 2 := by decide
theorem wr3 : IntKind.i64.wrap 3 = 3 := by decide
theorem idx_none {b : UInt8} (h : 128 ≤ b.toNat) : Go.Lib.indexByte ((⟨#[108, 99, 114]⟩ : ByteArray).extract 2 3).data.toList ((b.toNat : Nat) : Int).toNat.toUInt8 = -1 := by
  have e1 : ((⟨#[108, 99, 114]⟩ : ByteArray).extract 2 3).data.toList = [114] := by decide
  have e2 : ((b.toNat : Nat) : Int).toNat.toUInt8 = b := by simp
  rw [e1, e2]
  have : ((114 : UInt8) == b) = false := by
    apply beq_eq_false_iff_ne.2
    intro hh
    rw [← hh] at h
    simp at h
  simp [Go.Lib.indexByte, this]
theorem idx_none' (b : UInt8) : Go.Lib.indexByte ((⟨#[108, 99, 114]⟩ : ByteArray).extract 3 3).data.toList ((b.toNat : Nat) : Int).toNat.toUInt8 = -1 := by
  have e1 : ((⟨#[108, 99, 114]⟩ : ByteArray).extract 3 3).data.toList = [] := by decide
  rw [e1]
  rfl
set_option linter.unusedSimpArgs false in
set_option maxRecDepth 20000 in
set_option maxHeartbeats 8000000 in
theorem conIndexRune (r : Int) (h1 : 128 ≤ r) (h2 : r ≤ 1114111) : PCon C0 108 [.sc (.str lcr), .sc (.int .i32 r)] (.sc (.int .i64 (-1))) := by
  by_cases h3 : r = 65533
  · subst h3
    refine pcon_below rfl (fun _ _ => .int) fun vs W hl ha hH => ?_
    obtain ⟨u, v, rfl, hu, hv⟩ := args2 hl ha
    rw [hu.str, hv.int]
    exact EvG.idx_fffd _
  · have cv := conValid r
    have h4 : 0 ≤ r := by omega
    have h5 : ¬ r < 128 := by omega
    refine penter108 ?_
    simp [Tryd.f108, h3, h4, h5]
    refine CallQ.mk (Call.pure callable132 (by simp) (by simp) cv) ?_
    cases hv : Go.Lib.validRune r
    · simp
    · rcases enc_shape r h1 h2 hv with ⟨a, b, he, hb⟩ | ⟨a, b, c, he, hb⟩ | ⟨a, b, c, d, he⟩
      · have hne : ¬ (99 : Int) = b.toNat := by omega
        have ci := conIndexByte ((⟨#[108, 99, 114]⟩ : ByteArray).extract 2 3) b.toNat
        rw [idx_none hb] at ci
        simp [he]
        refine loopC (fun d e H => d = 0 ∧ e = _ ∧ H = _) (d := 0) ⟨rfl, rfl, rfl⟩ ?_
        rintro _ _ _ ⟨rfl, rfl, rfl⟩
        simp [lcr, hne, ByteArray.size, wr1, wr2, wr3]
        refine CallQ.mk (CallP.pure callable131 (by simp) (by simp) ci) ?_
        simp
      · have hne : ¬ (114 : Int) = c.toNat := by omega
        have ci := conIndexByte ((⟨#[108, 99, 114]⟩ : ByteArray).extract 3 3) c.toNat
        rw [idx_none' c] at ci
        simp [he]
        refine loopC (fun d e H => d = 0 ∧ e = _ ∧ H = _) (d := 0) ⟨rfl, rfl, rfl⟩ ?_
        rintro _ _ _ ⟨rfl, rfl, rfl⟩
        simp [lcr, hne, ByteArray.size, wr1, wr2, wr3]
        refine CallQ.mk (CallP.pure callable131 (by simp) (by simp) ci) ?_
        simp
      · simp [he]
        refine loopC (fun d e H => d = 0 ∧ e = _ ∧ H = _) (d := 0) ⟨rfl, rfl, rfl⟩ ?_
        rintro _ _ _ ⟨rfl, rfl, rfl⟩
        simp [lcr, ByteArray.size, wr1, wr2, wr3]
end Go.Proofs.YtlnnnfogbakimaaDoor.Ev
end
section
namespace Go.Proofs.YtlnnnfogbakimaaDoor.Ev
open Go
def sideF (x : Int) : Int := if x = 108 ∨ x = 99 ∨ x = 114 then x else -1
set_option maxRecDepth 20000 in
theorem side_dec : ∀ n : Nat, n < 128 → decide (0 ≤ Go.Lib.indexByte [108, 99, 114] n.toUInt8) = decide (n = 108 ∨ n = 99 ∨ n = 114) := by decide
set_option maxRecDepth 20000 in
set_option maxHeartbeats 4000000 in
theorem conContains (r : Nat) (h2 : r ≤ 1114111) : PCon C0 69 [.sc (.str lcr), .sc (.int .i32 r)] (.sc (.bool (decide (r = 108 ∨ r = 99 ∨ r = 114)))) := by
  by_cases h1 : r < 128
  · refine pcon_below rfl (fun _ _ => .bool) fun vs W hl ha hH => ?_
    obtain ⟨u, v, rfl, hu, hv⟩ := args2 hl ha
    rw [hu.str, hv.int]
    refine (Tryd.strings_ContainsRune_ascii lcr r W.w (by omega) (by omega)).mono fun e w' ⟨he, hw⟩ => ⟨?_, by rw [hw]; exact RowKit.Below.refl _ _⟩
    rw [he, ← side_dec r h1]
    rfl
  · have ci := conIndexRune r (by omega) (by omega)
    have hn : ¬ (r = 108 ∨ r = 99 ∨ r = 114) := by omega
    refine penter69 ?_
    simp [Tryd.f69]
    refine CallQ.mk (Call.pure callable108 (by simp) (by simp) ci) ?_
    simp
    omega
set_option maxRecDepth 20000 in
set_option maxHeartbeats 4000000 in
theorem conSide (r : Nat) (h2 : r ≤ 1114111) : PCon C0 68 [.sc (.int .i32 r)] (.sc (.int .i32 (sideF r))) := by
  have cc := conContains r h2
  refine penter68 ?_
  by_cases h : r = 108 ∨ r = 99 ∨ r = 114
  · have h' : (r : Int) = 108 ∨ (r : Int) = 99 ∨ (r : Int) = 114 := by omega
    rw [decide_eq_true h] at cc
    simp [Tryd.f68, lcr] at cc ⊢
    refine CallQ.mk (Call.pure callable69 (by simp) (by simp) cc) ?_
    simp [sideF, h']
  · have h' : ¬ ((r : Int) = 108 ∨ (r : Int) = 99 ∨ (r : Int) = 114) := by omega
    rw [decide_eq_false h] at cc
    simp [Tryd.f68, lcr] at cc ⊢
    refine CallQ.mk (Call.pure callable69 (by simp) (by simp) cc) ?_
    simp [sideF, h']
theorem side_iff (b : UInt8) : isSide b = decide ((b.toNat : Int) = 108 ∨ (b.toNat : Int) = 99 ∨ (b.toNat : Int) = 114) := by
  have h : ∀ c : UInt8, (b == c) = decide ((b.toNat : Int) = c.toNat) := fun c => by
    apply Bool.eq_iff_iff.2
    simp only [beq_iff_eq, decide_eq_true_eq]
    exact ⟨fun h => by rw [h], fun h => UInt8.toNat_inj.1 (by omega)⟩
  simp only [isSide, h]
  apply Bool.eq_iff_iff.2
  simp [or_assoc]
theorem big_side {b : UInt8} (h : 128 ≤ b.toNat) : isSide b = false := by
  rw [side_iff]
  apply decide_eq_false
  omega
theorem big_filter {l : List UInt8} (h : ∀ b ∈ l, 128 ≤ b.toNat) : l.filter isSide = [] := by
  rw [List.filter_eq_nil_iff]
  intro b hb
  simp [big_side (h b hb)]
theorem decL_ascii (b : UInt8) (t : List UInt8) (h : b.toNat < 128) : Go.Lib.decodeL (b :: t) = (b.toNat, 1) := by
  rw [Go.Lib.decodeL_N]
  unfold Go.Lib.decodeN
  rw [if_pos (by simpa using h)]
  rfl
theorem map_side : ∀ (n : Nat) (l : List UInt8), l.length ≤ n → Go.Lib.mapGoD sideF n l = l.filter isSide := by
  intro n
  induction n with
  | zero =>
    intro l h
    obtain rfl : l = [] := List.eq_nil_of_length_eq_zero (by omega)
    rfl
  | succ n ih =>
    intro l h
    cases l with
    | nil => simp [Go.Lib.mapGoD]
    | cons b t =>
      rw [Go.Lib.mapGoD, if_neg (by simp)]
      by_cases hb : b.toNat < 128
      · rw [decL_ascii b t hb]
        simp only [List.drop_succ_cons, List.drop_zero]
        rw [ih t (by simpa using h)]
        have hs := side_iff b
        by_cases hc : (b.toNat : Int) = 108 ∨ (b.toNat : Int) = 99 ∨ (b.toNat : Int) = 114
        · rw [List.filter_cons_of_pos (by rw [hs]; simp [hc]), sideF, if_pos hc, if_pos (by omega)]
          have := Go.Lib.encode_decode (b :: t) (by simp) (by rw [decL_ascii b t hb]; simp; omega)
          rw [decL_ascii b t hb] at this
          simp at this
          rw [this]; rfl
        · rw [List.filter_cons_of_neg (by rw [hs]; simp [hc]), sideF, if_neg hc, if_neg (by omega)]
          rfl
      · have hw : ∀ k, k ≤ n + 1 → 1 ≤ k → (∀ x ∈ (b :: t).take k, 128 ≤ x.toNat) → Go.Lib.mapGoD sideF n ((b :: t).drop k) = (b :: t).filter isSide := fun k hk h1 hx => by
          have e := List.take_append_drop k (b :: t)
          conv => rhs; rw [← e, List.filter_append, big_filter hx, List.nil_append]
          exact ih _ (by rw [List.length_drop]; omega)
        have big : ∀ x : Nat, 128 ≤ x → ¬ (0 : Int) ≤ sideF x := fun x hx => by
          rw [sideF, if_neg (by omega)]; omega
        have k0 := ((b :: t).getD 0 0).toNat_lt
        have hb0 : ((b :: t).getD 0 0) = b := rfl
        have hN := Go.Lib.decodeL_N (b :: t)
        rw [hN]
        rcases Go.Lib.decodeN_shape (b :: t).length ((b :: t).getD 0 0).toNat ((b :: t).getD 1 0).toNat ((b :: t).getD 2 0).toNat ((b :: t).getD 3 0).toNat with ⟨c, e⟩ | ⟨c1, c2, c3, cv, e⟩ | ⟨c1, c2, c3, c4, cv, cs, e⟩ | ⟨c1, c2, c3, c4, c5, cv, cw, e⟩ | e
        · rw [hb0] at c; omega
        · rw [e]
          simp only
          rw [if_neg (big _ cv), List.nil_append]
          refine hw 2 (by omega) (by omega) ?_
          rw [Go.Lib.takeB _ c2]
          intro x hx
          simp at hx
          rcases hx with hx | hx
          · rw [hx]; omega
          · rw [hx]; simp at c3 ⊢; omega
        · rw [e]
          simp only
          rw [if_neg (big _ (by omega)), List.nil_append]
          refine hw 3 (by omega) (by omega) ?_
          rw [Go.Lib.takeC _ c2]
          intro x hx
          simp at hx
          rcases hx with hx | hx | hx
          · rw [hx]; omega
          · rw [hx]; simp at c3 ⊢; omega
          · rw [hx]; simp at c4 ⊢; omega
        · rw [e]
          simp only
          rw [if_neg (big _ (by omega)), List.nil_append]
          refine hw 4 (by omega) (by omega) ?_
          rw [Go.Lib.takeD _ c2]
          intro x hx
          simp at hx
          rcases hx with hx | hx | hx | hx
          · rw [hx]; omega
          · rw [hx]; simp at c3 ⊢; omega
          · rw [hx]; simp at c4 ⊢; omega
          · rw [hx]; simp at c5 ⊢; omega
        · rw [e]
          simp only
          rw [if_neg (big 65533 (by omega)), List.nil_append]
          refine hw 1 (by omega) (by omega) ?_
          intro x hx
          simp at hx
          subst hx; omega
theorem conMap (s : ByteArray) (hs : s.size < 35184372088832) : PCon C0 67 [.fn 68 [] [], .sc (.str s)] (.sc (.str ⟨(s.data.toList.filter isSide).toArray⟩)) := by
  refine pcon_below rfl (fun _ _ => .str) fun vs W hl ha hH => ?_
  obtain ⟨u, v, rfl, hu, hv⟩ := args2 hl ha
  rw [hu.fn0, hv.str]
  have := Tryd.strings_Map_grows 68 #[] (enters_of Tryd.func68 (by kernel_rfl) rfl) sideF s W.w hs (fun W' x hx hb => by
      have := (conSide x hx).call1 (hH.below hb).2
      simpa using this) (fun x hx => by unfold sideF; split <;> omega) hH.tabs
  rw [Go.Lib.mapD, map_side _ _ (Nat.le_refl _)] at this
  exact this
end Go.Proofs.YtlnnnfogbakimaaDoor.Ev
end
section
namespace Go.Proofs.YtlnnnfogbakimaaDoor.Ev
open Go
def cellM (r : TRow) (k : Nat) : List Glyph := if k < r.cells.length then squeeze (r.cells.getD k []) else []
theorem mendRow_eq (n : Nat) (r : TRow) : mendRow n r = ⟨r.rule, if r.rule = true then [] else (List.range n).map (cellM r)⟩ := rfl
structure TblS (t : Tbl) : Prop where
  cols : t.cols.size ≤ 1073741824
  rows : t.rows.length ≤ 1073741824
  cells : ∀ r ∈ t.rows, r.cells.length ≤ 1073741824 ∧ ∀ c ∈ r.cells, c.length ≤ 1073741824
theorem sizedGl (l : List (List Glyph)) : Sized 1 (l.map gl) := by
  intro p hp
  obtain ⟨x, _, rfl⟩ := List.mem_map.1 hp
  rfl
theorem sizedGlC (r : TRow) (k : Nat) : Sized 1 ((List.range k).map (gl ∘ cellM r)) := by
  intro p hp
  obtain ⟨x, _, rfl⟩ := List.mem_map.1 hp
  rfl
theorem sizedTR2 (f : TRow → TRow) (l : List TRow) (i : Nat) : Sized 2 ((l.map (TRow.pv ∘ f)).take i) := by
  intro p hp
  obtain ⟨x, _, rfl⟩ := List.mem_map.1 (List.mem_of_mem_take hp)
  rfl
theorem sizedAgg2 {a b : PV} : Sized 2 [PV.agg [a, b]] := by
  intro p hp
  rw [List.mem_singleton.1 hp]; rfl
theorem sized1l {l : List PV} : Sized 1 [PV.sl l] := by
  intro p hp
  rw [List.mem_singleton.1 hp]; rfl
set_option linter.unusedSimpArgs false in
set_option maxRecDepth 20000 in
set_option maxHeartbeats 4000000 in
theorem treeMend (t : Tbl) (ht : TblS t) : PCon C0 40 [t.pv.toFV] (mendT t).pv.toFV := by
  refine penter40 ?_
  have cm := conMap t.cols (by have := ht.cols; omega)
  obtain ⟨F, hF⟩ : ∃ F, t.cols.data.toList.filter isSide = F := ⟨_, rfl⟩
  rw [hF] at cm
  have hmc : mendCols t.cols = ⟨(if F.take 20 = [] then [108] else F.take 20).toArray⟩ := by rw [mendCols, hF]
  obtain ⟨S, hS⟩ : ∃ S : ByteArray, (⟨F.toArray⟩ : ByteArray) = S := ⟨_, rfl⟩
  have hSs : S.size = F.length := by rw [← hS]; simp [ByteArray.size]
  obtain ⟨M, hM⟩ : ∃ M : ByteArray, (⟨(F.take 20).toArray⟩ : ByteArray) = M := ⟨_, rfl⟩
  obtain ⟨m, hm, hml, hme⟩ : ∃ m : Nat, (if (20 : Int) < (S.size : Int) then (20 : Int) else (S.size : Int)) = (m : Nat) ∧ m ≤ S.size ∧ S.extract 0 m = M := by
    have hex : ∀ k, S.extract 0 k = ⟨(F.take k).toArray⟩ := fun k => by
      rw [← hS]
      apply ByteArray.ext
      rw [ByteArray.data_extract]
      apply Array.toList_inj.1
      simp
    by_cases h : (20 : Int) < S.size
    · exact ⟨20, by rw [if_pos h]; rfl, by omega, by rw [hex, hM]⟩
    · refine ⟨S.size, by rw [if_neg h], Nat.le_refl _, ?_⟩
      rw [hex, ← hM, List.take_of_length_le (by omega), List.take_of_length_le (by omega)]
  rw [hS] at cm
  have hml' : (m : Int) ≤ S.size := by omega
  simp [Tryd.f40, Tbl.pv]
  refine CallQ.mk (Call.pure callable67 (by simp) (by simp) cm) ?_
  simp [hm, hml', hme]
  have hn20 : (mendCols t.cols).size ≤ 20 := by
    rw [hmc]
    show (if F.take 20 = [] then [108] else F.take 20).toArray.size ≤ 20
    split
    · simp
    · simp; omega
  have hCM : (if M = ⟨#[]⟩ then (⟨#[108]⟩ : ByteArray) else M) = mendCols t.cols := by
    rw [hmc, ← hM]
    by_cases he : F.take 20 = []
    · rw [if_pos he, if_pos (by rw [he])]
    · rw [if_neg he, if_neg (fun h => he (by
        have := congrArg (fun b : ByteArray => b.data.toList) h
        simpa using this))]
  obtain ⟨n, hn⟩ : ∃ n, (mendCols t.cols).size = n := ⟨_, rfl⟩
  rw [hn] at hn20
  refine CondC.mk (fun hc => ?_) (fun hc => ?_)
  · rw [if_pos (by simpa using hc)] at hCM
    simp
    rw [hCM]
    cases hall : t.all
    · simp
      refine loopC (fun d e H => ∃ (i : Nat) (X : Heap) (x0 x6 x7 x8 x9 x19 x34 x48 x55 : FV), d = t.rows.length - i ∧ i ≤ t.rows.length ∧
        H = [FV.sc (PV.str t.cols), FV.sc (PV.sl (List.map TRow.pv t.rows)), FV.sc (PV.bool t.box), FV.sc (PV.bool false)] :: [FV.sc (PV.str ByteArray.empty), FV.own [], FV.sc (PV.bool false), FV.sc (PV.bool false)] :: [FV.sc (PV.str (mendCols t.cols)), FV.own (((t.rows.take i).map (mendRow n)).map TRow.pv), FV.sc (PV.bool t.box), FV.sc (PV.bool false)] :: X ∧
        e = [(0, x0), (1, .ptr 0 0), (2, .ptr 1 0), (3, .sc (.str (mendCols t.cols))), (4, .ptr 2 0), (6, x6), (7, x7), (8, x8), (9, x9), (19, x19), (31, .sc (.sl (t.rows.map TRow.pv))), (32, .sc (.int .i64 t.rows.length)), (33, .sc (.int .i64 i)), (34, x34), (48, x48), (55, x55)]) (d := t.rows.length)
        ⟨0, [], _, _, _, _, _, _, _, _, _, rfl, by omega, by simp, rfl⟩ ?_
      rintro d e H ⟨i, X, x0, x6, x7, x8, x9, x19, x34, x48, x55, rfl, hi, rfl, rfl⟩
      simp
      refine CondC.mk (fun hlt => ?_) (fun hlt => ?_)
      · simp at hlt
        have hr := ht.cells _ (List.getElem_mem hlt)
        have htk : t.rows.take (i + 1) = t.rows.take i ++ [t.rows[i]] := List.take_succ_eq_append_getElem hlt
        have hrl := ht.rows
        simp [hlt, TRow.pv]
        obtain ⟨r, hrr⟩ : ∃ r, t.rows[i] = r := ⟨_, rfl⟩
        rw [hrr] at hr htk
        simp only [hrr]
        obtain ⟨c0, hc0⟩ : ∃ c0 : List FV, [FV.sc (PV.str t.cols), FV.sc (PV.sl (List.map TRow.pv t.rows)), FV.sc (PV.bool t.box), FV.sc (PV.bool false)] = c0 := ⟨_, rfl⟩
        refine loopC (fun d e H => ∃ (k : Nat) (x9 x48 x55 : FV), d = n - k ∧ k ≤ n ∧ (r.rule = true → k = 0) ∧
          H = c0 :: [FV.sc (PV.str ByteArray.empty), FV.own [], FV.sc (PV.bool false), FV.sc (PV.bool false)] :: [FV.sc (PV.str (mendCols t.cols)), FV.own (((t.rows.take i).map (mendRow n)).map TRow.pv), FV.sc (PV.bool t.box), FV.sc (PV.bool false)] :: (X ++ [[FV.sc (.bool r.rule), FV.sc (.sl (r.cells.map gl))], [FV.sc (.bool r.rule), FV.own (((List.range k).map (cellM r)).map gl)]]) ∧
          e = [(0, x0), (1, .ptr 0 0), (2, .ptr 1 0), (3, .sc (.str (mendCols t.cols))), (4, .ptr 2 0), (6, .ptr (X.length + 1 + 1 + 1) 0), (7, .ptr (X.length + 1 + 1 + 1 + 1) 0), (8, .sc (.int .i64 k)), (9, x9), (19, x19), (31, .sc (.sl (t.rows.map TRow.pv))), (32, .sc (.int .i64 t.rows.length)), (33, .sc (.int .i64 i)), (34, .sc (.bool true)), (48, x48), (55, x55)]) (d := n)
          ⟨0, x9, x48, x55, rfl, by omega, by simp, ?_, ?_⟩ ?_
        · rw [hc0]; simp
        · rfl
        · rintro d e H ⟨k, x9, x48, x55, rfl, hk, hrk, rfl, rfl⟩
          have hmr := mendRow_eq n r
          by_cases hkn : k < n ∧ r.rule = false
          · obtain ⟨hkn, hrule⟩ := hkn
            have hkn' : k < (mendCols t.cols).size := by omega
            have hnk : (List.range (k + 1)).map (cellM r) = (List.range k).map (cellM r) ++ [cellM r k] := by rw [List.range_succ, List.map_append]; rfl
            simp [hkn', hrule]
            by_cases hkc : k < r.cells.length
            · have sq := treeSqueeze r.cells[k] (hr.2 _ (List.getElem_mem hkc))
              have hcm : cellM r k = squeeze r.cells[k] := by simp [cellM, hkc]
              simp only [gl] at sq
              simp [hkc, gl]
              refine CallQ.mk (Call.pure callable70 (by simp) (by simp) sq) ?_
              simp
              exact ⟨sized1l, sizedGlC r k, sized1l, by unfold lenMax; omega, n - (k + 1), by omega, k + 1, rfl, by omega, by rw [List.range_succ, List.map_append]; simp [hcm, gl], by rw [wrap64 (by omega) (by omega)]; omega⟩
            · have hcm : cellM r k = [] := by simp [cellM, hkc]
              simp [hkc]
              exact ⟨sized1l, sizedGlC r k, sized1l, by unfold lenMax; omega, n - (k + 1), by omega, k + 1, rfl, by omega, by rw [List.range_succ, List.map_append]; simp [hcm, gl], by rw [wrap64 (by omega) (by omega)]; omega⟩
          · have hcells : (mendRow n r).cells = (List.range k).map (cellM r) := by
              rw [hmr]
              cases hrule : r.rule
              · simp only [hrule, and_true] at hkn
                obtain rfl : k = n := by omega
                rfl
              · rw [hrk hrule]; rfl
            have hrow : (mendRow n r).pv = .agg [.bool r.rule, .sl (((List.range k).map (cellM r)).map gl)] := by
              rw [TRow.pv, hcells]; rfl
            by_cases hk2 : k < (mendCols t.cols).size
            · have hrule : r.rule = true := by
                cases hrule : r.rule
                · exact absurd ⟨by omega, hrule⟩ hkn
                · rfl
              simp [hk2, hrule]
              exact ⟨sizedAgg2, sizedTR2 _ _ _, sizedAgg2, by unfold lenMax; omega, t.rows.length - (i + 1), by omega, i + 1, rfl, by omega, ⟨hc0.symm, by rw [← List.map_take, ← List.map_take, htk, List.map_append]; simp [hrow, hrule]⟩, by rw [wrap64 (by omega) (by omega)]; omega⟩
            · simp [hk2]
              exact ⟨sizedAgg2, sizedTR2 _ _ _, sizedAgg2, by unfold lenMax; omega, t.rows.length - (i + 1), by omega, i + 1, rfl, by omega, ⟨hc0.symm, by rw [← List.map_take, ← List.map_take, htk, List.map_append]; simp [hrow]⟩, by rw [wrap64 (by omega) (by omega)]; omega⟩
      · simp at hlt
        simp [List.take_of_length_le hlt]
        exact ⟨rfl, by simp [mendT, hn]; exact List.take_of_length_le (by simpa using hlt), rfl, by simp [mendT, hall]⟩
    · simp
      refine loopC (fun d e H => ∃ (i : Nat) (X : Heap) (x0 x6 x7 x8 x9 x19 x34 x48 x55 : FV), d = t.rows.length - i ∧ i ≤ t.rows.length ∧
        H = [FV.sc (PV.str t.cols), FV.sc (PV.sl (List.map TRow.pv t.rows)), FV.sc (PV.bool t.box), FV.sc (PV.bool true)] :: [FV.sc (PV.str ByteArray.empty), FV.own [], FV.sc (PV.bool false), FV.sc (PV.bool false)] :: [FV.sc (PV.str (mendCols t.cols)), FV.own (((t.rows.take i).map (mendRow n)).map TRow.pv), FV.sc (PV.bool t.box), FV.sc (PV.bool t.box)] :: X ∧
        e = [(0, x0), (1, .ptr 0 0), (2, .ptr 1 0), (3, .sc (.str (mendCols t.cols))), (4, .ptr 2 0), (6, x6), (7, x7), (8, x8), (9, x9), (19, x19), (31, .sc (.sl (t.rows.map TRow.pv))), (32, .sc (.int .i64 t.rows.length)), (33, .sc (.int .i64 i)), (34, x34), (48, x48), (55, x55)]) (d := t.rows.length)
        ⟨0, [], _, _, _, _, _, _, _, _, _, rfl, by omega, by simp, rfl⟩ ?_
      rintro d e H ⟨i, X, x0, x6, x7, x8, x9, x19, x34, x48, x55, rfl, hi, rfl, rfl⟩
      simp
      refine CondC.mk (fun hlt => ?_) (fun hlt => ?_)
      · simp at hlt
        have hr := ht.cells _ (List.getElem_mem hlt)
        have htk : t.rows.take (i + 1) = t.rows.take i ++ [t.rows[i]] := List.take_succ_eq_append_getElem hlt
        have hrl := ht.rows
        simp [hlt, TRow.pv]
        obtain ⟨r, hrr⟩ : ∃ r, t.rows[i] = r := ⟨_, rfl⟩
        rw [hrr] at hr htk
        simp only [hrr]
        obtain ⟨c0, hc0⟩ : ∃ c0 : List FV, [FV.sc (PV.str t.cols), FV.sc (PV.sl (List.map TRow.pv t.rows)), FV.sc (PV.bool t.box), FV.sc (PV.bool true)] = c0 := ⟨_, rfl⟩
        refine loopC (fun d e H => ∃ (k : Nat) (x9 x48 x55 : FV), d = n - k ∧ k ≤ n ∧ (r.rule = true → k = 0) ∧
          H = c0 :: [FV.sc (PV.str ByteArray.empty), FV.own [], FV.sc (PV.bool false), FV.sc (PV.bool false)] :: [FV.sc (PV.str (mendCols t.cols)), FV.own (((t.rows.take i).map (mendRow n)).map TRow.pv), FV.sc (PV.bool t.box), FV.sc (PV.bool t.box)] :: (X ++ [[FV.sc (.bool r.rule), FV.sc (.sl (r.cells.map gl))], [FV.sc (.bool r.rule), FV.own (((List.range k).map (cellM r)).map gl)]]) ∧
          e = [(0, x0), (1, .ptr 0 0), (2, .ptr 1 0), (3, .sc (.str (mendCols t.cols))), (4, .ptr 2 0), (6, .ptr (X.length + 1 + 1 + 1) 0), (7, .ptr (X.length + 1 + 1 + 1 + 1) 0), (8, .sc (.int .i64 k)), (9, x9), (19, x19), (31, .sc (.sl (t.rows.map TRow.pv))), (32, .sc (.int .i64 t.rows.length)), (33, .sc (.int .i64 i)), (34, .sc (.bool true)), (48, x48), (55, x55)]) (d := n)
          ⟨0, x9, x48, x55, rfl, by omega, by simp, ?_, ?_⟩ ?_
        · rw [hc0]; simp
        · rfl
        · rintro d e H ⟨k, x9, x48, x55, rfl, hk, hrk, rfl, rfl⟩
          have hmr := mendRow_eq n r
          by_cases hkn : k < n ∧ r.rule = false
          · obtain ⟨hkn, hrule⟩ := hkn
            have hkn' : k < (mendCols t.cols).size := by omega
            have hnk : (List.range (k + 1)).map (cellM r) = (List.range k).map (cellM r) ++ [cellM r k] := by rw [List.range_succ, List.map_append]; rfl
            simp [hkn', hrule]
            by_cases hkc : k < r.cells.length
            · have sq := treeSqueeze r.cells[k] (hr.2 _ (List.getElem_mem hkc))
              have hcm : cellM r k = squeeze r.cells[k] := by simp [cellM, hkc]
              simp only [gl] at sq
              simp [hkc, gl]
              refine CallQ.mk (Call.pure callable70 (by simp) (by simp) sq) ?_
              simp
              exact ⟨sized1l, sizedGlC r k, sized1l, by unfold lenMax; omega, n - (k + 1), by omega, k + 1, rfl, by omega, by rw [List.range_succ, List.map_append]; simp [hcm, gl], by rw [wrap64 (by omega) (by omega)]; omega⟩
            · have hcm : cellM r k = [] := by simp [cellM, hkc]
              simp [hkc]
              exact ⟨sized1l, sizedGlC r k, sized1l, by unfold lenMax; omega, n - (k + 1), by omega, k + 1, rfl, by omega, by rw [List.range_succ, List.map_append]; simp [hcm, gl], by rw [wrap64 (by omega) (by omega)]; omega⟩
          · have hcells : (mendRow n r).cells = (List.range k).map (cellM r) := by
              rw [hmr]
              cases hrule : r.rule
              · simp only [hrule, and_true] at hkn
                obtain rfl : k = n := by omega
                rfl
              · rw [hrk hrule]; rfl
            have hrow : (mendRow n r).pv = .agg [.bool r.rule, .sl (((List.range k).map (cellM r)).map gl)] := by
              rw [TRow.pv, hcells]; rfl
            by_cases hk2 : k < (mendCols t.cols).size
            · have hrule : r.rule = true := by
                cases hrule : r.rule
                · exact absurd ⟨by omega, hrule⟩ hkn
                · rfl
              simp [hk2, hrule]
              exact ⟨sizedAgg2, sizedTR2 _ _ _, sizedAgg2, by unfold lenMax; omega, t.rows.length - (i + 1), by omega, i + 1, rfl, by omega, ⟨hc0.symm, by rw [← List.map_take, ← List.map_take, htk, List.map_append]; simp [hrow, hrule]⟩, by rw [wrap64 (by omega) (by omega)]; omega⟩
            · simp [hk2]
              exact ⟨sizedAgg2, sizedTR2 _ _ _, sizedAgg2, by unfold lenMax; omega, t.rows.length - (i + 1), by omega, i + 1, rfl, by omega, ⟨hc0.symm, by rw [← List.map_take, ← List.map_take, htk, List.map_append]; simp [hrow]⟩, by rw [wrap64 (by omega) (by omega)]; omega⟩
      · simp at hlt
        simp [List.take_of_length_le hlt]
        exact ⟨rfl, by simp [mendT, hn]; exact List.take_of_length_le (by simpa using hlt), rfl, by simp [mendT, hall]⟩
  · rw [if_neg (by simpa using hc)] at hCM
    simp
    rw [hCM]
    cases hall : t.all
    · simp
      refine loopC (fun d e H => ∃ (i : Nat) (X : Heap) (x0 x6 x7 x8 x9 x19 x34 x48 x55 : FV), d = t.rows.length - i ∧ i ≤ t.rows.length ∧
        H = [FV.sc (PV.str t.cols), FV.sc (PV.sl (List.map TRow.pv t.rows)), FV.sc (PV.bool t.box), FV.sc (PV.bool false)] :: [FV.sc (PV.str ByteArray.empty), FV.own [], FV.sc (PV.bool false), FV.sc (PV.bool false)] :: [FV.sc (PV.str (mendCols t.cols)), FV.own (((t.rows.take i).map (mendRow n)).map TRow.pv), FV.sc (PV.bool t.box), FV.sc (PV.bool false)] :: X ∧
        e = [(0, x0), (1, .ptr 0 0), (2, .ptr 1 0), (3, .sc (.str (mendCols t.cols))), (4, .ptr 2 0), (6, x6), (7, x7), (8, x8), (9, x9), (19, x19), (31, .sc (.sl (t.rows.map TRow.pv))), (32, .sc (.int .i64 t.rows.length)), (33, .sc (.int .i64 i)), (34, x34), (48, x48), (55, x55)]) (d := t.rows.length)
        ⟨0, [], _, _, _, _, _, _, _, _, _, rfl, by omega, by simp, rfl⟩ ?_
      rintro d e H ⟨i, X, x0, x6, x7, x8, x9, x19, x34, x48, x55, rfl, hi, rfl, rfl⟩
      simp
      refine CondC.mk (fun hlt => ?_) (fun hlt => ?_)
      · simp at hlt
        have hr := ht.cells _ (List.getElem_mem hlt)
        have htk : t.rows.take (i + 1) = t.rows.take i ++ [t.rows[i]] := List.take_succ_eq_append_getElem hlt
        have hrl := ht.rows
        simp [hlt, TRow.pv]
        obtain ⟨r, hrr⟩ : ∃ r, t.rows[i] = r := ⟨_, rfl⟩
        rw [hrr] at hr htk
        simp only [hrr]
        obtain ⟨c0, hc0⟩ : ∃ c0 : List FV, [FV.sc (PV.str t.cols), FV.sc (PV.sl (List.map TRow.pv t.rows)), FV.sc (PV.bool t.box), FV.sc (PV.bool false)] = c0 := ⟨_, rfl⟩
        refine loopC (fun d e H => ∃ (k : Nat) (x9 x48 x55 : FV), d = n - k ∧ k ≤ n ∧ (r.rule = true → k = 0) ∧
          H = c0 :: [FV.sc (PV.str ByteArray.empty), FV.own [], FV.sc (PV.bool false), FV.sc (PV.bool false)] :: [FV.sc (PV.str (mendCols t.cols)), FV.own (((t.rows.take i).map (mendRow n)).map TRow.pv), FV.sc (PV.bool t.box), FV.sc (PV.bool false)] :: (X ++ [[FV.sc (.bool r.rule), FV.sc (.sl (r.cells.map gl))], [FV.sc (.bool r.rule), FV.own (((List.range k).map (cellM r)).map gl)]]) ∧
          e = [(0, x0), (1, .ptr 0 0), (2, .ptr 1 0), (3, .sc (.str (mendCols t.cols))), (4, .ptr 2 0), (6, .ptr (X.length + 1 + 1 + 1) 0), (7, .ptr (X.length + 1 + 1 + 1 + 1) 0), (8, .sc (.int .i64 k)), (9, x9), (19, x19), (31, .sc (.sl (t.rows.map TRow.pv))), (32, .sc (.int .i64 t.rows.length)), (33, .sc (.int .i64 i)), (34, .sc (.bool true)), (48, x48), (55, x55)]) (d := n)
          ⟨0, x9, x48, x55, rfl, by omega, by simp, ?_, ?_⟩ ?_
        · rw [hc0]; simp
        · rfl
        · rintro d e H ⟨k, x9, x48, x55, rfl, hk, hrk, rfl, rfl⟩
          have hmr := mendRow_eq n r
          by_cases hkn : k < n ∧ r.rule = false
          · obtain ⟨hkn, hrule⟩ := hkn
            have hkn' : k < (mendCols t.cols).size := by omega
            have hnk : (List.range (k + 1)).map (cellM r) = (List.range k).map (cellM r) ++ [cellM r k] := by rw [List.range_succ, List.map_append]; rfl
            simp [hkn', hrule]
            by_cases hkc : k < r.cells.length
            · have sq := treeSqueeze r.cells[k] (hr.2 _ (List.getElem_mem hkc))
              have hcm : cellM r k = squeeze r.cells[k] := by simp [cellM, hkc]
              simp only [gl] at sq
              simp [hkc, gl]
              refine CallQ.mk (Call.pure callable70 (by simp) (by simp) sq) ?_
              simp
              exact ⟨sized1l, sizedGlC r k, sized1l, by unfold lenMax; omega, n - (k + 1), by omega, k + 1, rfl, by omega, by rw [List.range_succ, List.map_append]; simp [hcm, gl], by rw [wrap64 (by omega) (by omega)]; omega⟩
            · have hcm : cellM r k = [] := by simp [cellM, hkc]
              simp [hkc]
              exact ⟨sized1l, sizedGlC r k, sized1l, by unfold lenMax; omega, n - (k + 1), by omega, k + 1, rfl, by omega, by rw [List.range_succ, List.map_append]; simp [hcm, gl], by rw [wrap64 (by omega) (by omega)]; omega⟩
          · have hcells : (mendRow n r).cells = (List.range k).map (cellM r) := by
              rw [hmr]
              cases hrule : r.rule
              · simp only [hrule, and_true] at hkn
                obtain rfl : k = n := by omega
                rfl
              · rw [hrk hrule]; rfl
            have hrow : (mendRow n r).pv = .agg [.bool r.rule, .sl (((List.range k).map (cellM r)).map gl)] := by
              rw [TRow.pv, hcells]; rfl
            by_cases hk2 : k < (mendCols t.cols).size
            · have hrule : r.rule = true := by
                cases hrule : r.rule
                · exact absurd ⟨by omega, hrule⟩ hkn
                · rfl
              simp [hk2, hrule]
              exact ⟨sizedAgg2, sizedTR2 _ _ _, sizedAgg2, by unfold lenMax; omega, t.rows.length - (i + 1), by omega, i + 1, rfl, by omega, ⟨hc0.symm, by rw [← List.map_take, ← List.map_take, htk, List.map_append]; simp [hrow, hrule]⟩, by rw [wrap64 (by omega) (by omega)]; omega⟩
            · simp [hk2]
              exact ⟨sizedAgg2, sizedTR2 _ _ _, sizedAgg2, by unfold lenMax; omega, t.rows.length - (i + 1), by omega, i + 1, rfl, by omega, ⟨hc0.symm, by rw [← List.map_take, ← List.map_take, htk, List.map_append]; simp [hrow]⟩, by rw [wrap64 (by omega) (by omega)]; omega⟩
      · simp at hlt
        simp [List.take_of_length_le hlt]
        exact ⟨rfl, by simp [mendT, hn]; exact List.take_of_length_le (by simpa using hlt), rfl, by simp [mendT, hall]⟩
    · simp
      refine loopC (fun d e H => ∃ (i : Nat) (X : Heap) (x0 x6 x7 x8 x9 x19 x34 x48 x55 : FV), d = t.rows.length - i ∧ i ≤ t.rows.length ∧
        H = [FV.sc (PV.str t.cols), FV.sc (PV.sl (List.map TRow.pv t.rows)), FV.sc (PV.bool t.box), FV.sc (PV.bool true)] :: [FV.sc (PV.str ByteArray.empty), FV.own [], FV.sc (PV.bool false), FV.sc (PV.bool false)] :: [FV.sc (PV.str (mendCols t.cols)), FV.own (((t.rows.take i).map (mendRow n)).map TRow.pv), FV.sc (PV.bool t.box), FV.sc (PV.bool t.box)] :: X ∧
        e = [(0, x0), (1, .ptr 0 0), (2, .ptr 1 0), (3, .sc (.str (mendCols t.cols))), (4, .ptr 2 0), (6, x6), (7, x7), (8, x8), (9, x9), (19, x19), (31, .sc (.sl (t.rows.map TRow.pv))), (32, .sc (.int .i64 t.rows.length)), (33, .sc (.int .i64 i)), (34, x34), (48, x48), (55, x55)]) (d := t.rows.length)
        ⟨0, [], _, _, _, _, _, _, _, _, _, rfl, by omega, by simp, rfl⟩ ?_
      rintro d e H ⟨i, X, x0, x6, x7, x8, x9, x19, x34, x48, x55, rfl, hi, rfl, rfl⟩
      simp
      refine CondC.mk (fun hlt => ?_) (fun hlt => ?_)
      · simp at hlt
        have hr := ht.cells _ (List.getElem_mem hlt)
        have htk : t.rows.take (i + 1) = t.rows.take i ++ [t.rows[i]] := List.take_succ_eq_append_getElem hlt
        have hrl := ht.rows
        simp [hlt, TRow.pv]
        obtain ⟨r, hrr⟩ : ∃ r, t.rows[i] = r := ⟨_, rfl⟩
        rw [hrr] at hr htk
        simp only [hrr]
        obtain ⟨c0, hc0⟩ : ∃ c0 : List FV, [FV.sc (PV.str t.cols), FV.sc (PV.sl (List.map TRow.pv t.rows)), FV.sc (PV.bool t.box), FV.sc (PV.bool true)] = c0 := ⟨_, rfl⟩
        refine loopC (fun d e H => ∃ (k : Nat) (x9 x48 x55 : FV), d = n - k ∧ k ≤ n ∧ (r.rule = true → k = 0) ∧
          H = c0 :: [FV.sc (PV.str ByteArray.empty), FV.own [], FV.sc (PV.bool false), FV.sc (PV.bool false)] :: [FV.sc (PV.str (mendCols t.cols)), FV.own (((t.rows.take i).map (mendRow n)).map TRow.pv), FV.sc (PV.bool t.box), FV.sc (PV.bool t.box)] :: (X ++ [[FV.sc (.bool r.rule), FV.sc (.sl (r.cells.map gl))], [FV.sc (.bool r.rule), FV.own (((List.range k).map (cellM r)).map gl)]]) ∧
          e = [(0, x0), (1, .ptr 0 0), (2, .ptr 1 0), (3, .sc (.str (mendCols t.cols))), (4, .ptr 2 0), (6, .ptr (X.length + 1 + 1 + 1) 0), (7, .ptr (X.length + 1 + 1 + 1 + 1) 0), (8, .sc (.int .i64 k)), (9, x9), (19, x19), (31, .sc (.sl (t.rows.map TRow.pv))), (32, .sc (.int .i64 t.rows.length)), (33, .sc (.int .i64 i)), (34, .sc (.bool true)), (48, x48), (55, x55)]) (d := n)
          ⟨0, x9, x48, x55, rfl, by omega, by simp, ?_, ?_⟩ ?_
        · rw [hc0]; simp
        · rfl
        · rintro d e H ⟨k, x9, x48, x55, rfl, hk, hrk, rfl, rfl⟩
          have hmr := mendRow_eq n r
          by_cases hkn : k < n ∧ r.rule = false
          · obtain ⟨hkn, hrule⟩ := hkn
            have hkn' : k < (mendCols t.cols).size := by omega
            have hnk : (List.range (k + 1)).map (cellM r) = (List.range k).map (cellM r) ++ [cellM r k] := by rw [List.range_succ, List.map_append]; rfl
            simp [hkn', hrule]
            by_cases hkc : k < r.cells.length
            · have sq := treeSqueeze r.cells[k] (hr.2 _ (List.getElem_mem hkc))
              have hcm : cellM r k = squeeze r.cells[k] := by simp [cellM, hkc]
              simp only [gl] at sq
              simp [hkc, gl]
              refine CallQ.mk (Call.pure callable70 (by simp) (by simp) sq) ?_
              simp
              exact ⟨sized1l, sizedGlC r k, sized1l, by unfold lenMax; omega, n - (k + 1), by omega, k + 1, rfl, by omega, by rw [List.range_succ, List.map_append]; simp [hcm, gl], by rw [wrap64 (by omega) (by omega)]; omega⟩
            · have hcm : cellM r k = [] := by simp [cellM, hkc]
              simp [hkc]
              exact ⟨sized1l, sizedGlC r k, sized1l, by unfold lenMax; omega, n - (k + 1), by omega, k + 1, rfl, by omega, by rw [List.range_succ, List.map_append]; simp [hcm, gl], by rw [wrap64 (by omega) (by omega)]; omega⟩
          · have hcells : (mendRow n r).cells = (List.range k).map (cellM r) := by
              rw [hmr]
              cases hrule : r.rule
              · simp only [hrule, and_true] at hkn
                obtain rfl : k = n := by omega
                rfl
              · rw [hrk hrule]; rfl
            have hrow : (mendRow n r).pv = .agg [.bool r.rule, .sl (((List.range k).map (cellM r)).map gl)] := by
              rw [TRow.pv, hcells]; rfl
            by_cases hk2 : k < (mendCols t.cols).size
            · have hrule : r.rule = true := by
                cases hrule : r.rule
                · exact absurd ⟨by omega, hrule⟩ hkn
                · rfl
              simp [hk2, hrule]
              exact ⟨sizedAgg2, sizedTR2 _ _ _, sizedAgg2, by unfold lenMax; omega, t.rows.length - (i + 1), by omega, i + 1, rfl, by omega, ⟨hc0.symm, by rw [← List.map_take, ← List.map_take, htk, List.map_append]; simp [hrow, hrule]⟩, by rw [wrap64 (by omega) (by omega)]; omega⟩
            · simp [hk2]
              exact ⟨sizedAgg2, sizedTR2 _ _ _, sizedAgg2, by unfold lenMax; omega, t.rows.length - (i + 1), by omega, i + 1, rfl, by omega, ⟨hc0.symm, by rw [← List.map_take, ← List.map_take, htk, List.map_append]; simp [hrow]⟩, by rw [wrap64 (by omega) (by omega)]; omega⟩
      · simp at hlt
        simp [List.take_of_length_le hlt]
        exact ⟨rfl, by simp [mendT, hn]; exact List.take_of_length_le (by simpa using hlt), rfl, by simp [mendT, hall]⟩
end Go.Proofs.YtlnnnfogbakimaaDoor.Ev
end
section
namespace Go.Proofs.YtlnnnfogbakimaaDoor.Ev
open Go
def grow (r : List (List Glyph)) : PV := .sl (r.map gl)
def rowR2 (l : List (List Glyph)) : List FV := ((l.map gl).flatMap PV.leaves).map .sc
theorem rowR2_eq (l : List (List Glyph)) : rowR2 l = l.map fun x => .sc (gl x) := by
  unfold rowR2
  induction l with
  | nil => rfl
  | cons x l ih => simp only [List.map_cons, List.flatMap_cons, List.map_append] at ih ⊢; rw [ih]; rfl
theorem rowR2_len (l : List (List Glyph)) : (rowR2 l).length = l.length * 1 := by rw [rowR2_eq, List.length_map]; omega
theorem rowR2_app (a b : List (List Glyph)) : rowR2 (a ++ b) = rowR2 a ++ rowR2 b := by simp [rowR2_eq]
set_option linter.unusedSimpArgs false in
set_option maxRecDepth 20000 in
theorem conGrow2 (n : Nat) (h0 : 0 < n) (hn : n ≤ 1073741824) (H : Heap) :
    Con C0 99 [.emp, .sc (.int .i64 n)] H (.gr H.length 0 1 0) (H ++ [[.row 0 []]]) := by
  refine con_of (C := C0) (fn := Tryd.f99) (mv := [26, 4000022]) (vars := [0, 1, 4, 6, 16]) (c := Tryd.f99.body.getD .skip) Tryd.func99 rfl (by decide) mixed rfl ?_
  have w0 : IntKind.i64.wrap 0 = 0 := by decide
  have w1 : IntKind.i64.wrap (n : Int) = n := wrap64 (by omega) (by omega)
  have n0 : ¬ (n : Int) < 0 := by omega
  have n1 : (0 : Int) < n := by omega
  have n2 : (n : Int) ≤ 137438953472 := by omega
  simp [Tryd.f99, w0, w1, n0, n1, h0, n2, lenMax, hn]
def catR (l : List (List (List Glyph))) : List (List Glyph) := l.flatten
theorem catR_take {l : List (List (List Glyph))} {i : Nat} (h : i < l.length) : catR (l.take (i + 1)) = catR (l.take i) ++ l[i] := by
  rw [List.take_succ_eq_append_getElem h]; unfold catR; rw [List.flatten_append]; simp
theorem catR_len (l : List (List (List Glyph))) (i : Nat) : (catR (l.take i)).length ≤ (catR l).length := by
  conv => rhs; rw [← List.take_append_drop i l]
  unfold catR; rw [List.flatten_append, List.length_append]; omega
set_option linter.unusedSimpArgs false in
set_option maxRecDepth 20000 in
set_option maxHeartbeats 8000000 in
theorem conConcat2 (l : List (List (List Glyph))) (h0 : 0 < (catR l).length) (hn : (catR l).length ≤ 1073741824) (hl : l.length ≤ 1073741824) :
    Con C0 65 [.sc (.sl (l.map grow))] [] (.sc (.sl ((catR l).map gl))) [] := by
  refine con_freezeR (C := C0) (s := 1) (l := (catR l).map gl) (fn := Tryd.f65) Tryd.func65 rfl (by decide) mixed (mv := [31, 35, 2000033]) (vars := vars65) (c := Tryd.f65.body.getD .skip) rfl ?_ ?_ ?_ ?_
  · decide
  · exact sizedGl (catR l)
  · intro fs h; simp at h
  simp [Tryd.f65]
  refine loopC (fun d e H' => ∃ (i : Nat) (x5 x12 x20 : FV), H' = [] ∧ d = l.length - i ∧ i ≤ l.length ∧ e = [(0, .sc (.sl (l.map grow))), (2, .own []), (3, .sc (.int .i64 (catR (l.take i)).length)), (5, x5), (6, .undef), (8, .undef), (9, .sc (.sl (l.map grow))), (10, .sc (.int .i64 l.length)), (11, .sc (.int .i64 i)), (12, x12), (20, x20), (25, .undef), (26, .undef), (27, .undef), (28, .undef)]) (d := l.length) ⟨0, .undef, .undef, .undef, rfl, rfl, Nat.zero_le _, ?_⟩ ?_
  · simp [catR]
  · rintro d e H' ⟨i, x5, x12, x20, rfl, rfl, hi, rfl⟩
    simp
    refine CondC.mk (fun hlt => ?_) (fun hlt => ?_)
    · simp at hlt
      have hw : IntKind.i64.wrap ((i : Int) + 1) = ((i + 1 : Nat) : Int) := by rw [wrap64 (by omega) (by omega)]; omega
      have hq : (l.map grow)[i]? = some (grow l[i]) := by simp [hlt]
      have ht := catR_take hlt
      have hle := catR_len l (i + 1)
      have hl2 : (catR (l.take (i + 1))).length = (catR (l.take i)).length + l[i].length := by rw [ht, List.length_append]
      have w1 : IntKind.i64.wrap (((catR (l.take i)).length : Int) + (l[i].length : Int)) = ((catR (l.take (i + 1))).length : Int) := by rw [wrap64 (by omega) (by omega)]; omega
      have n0 : ¬ ((catR (l.take (i + 1))).length : Int) < 0 := by omega
      simp [hq, grow, w1, n0, hw]
      exact ⟨l.length - (i + 1), by omega, i + 1, rfl, by omega, rfl, by omega⟩
    · simp at hlt
      obtain rfl : i = l.length := by omega
      rw [List.take_length]
      simp
      refine CallQ.mk (Call.shared callable99 (conGrow2 (catR l).length h0 hn [])) ?_
      simp
      refine loopC (fun d e H' => ∃ (i : Nat) (x8 x28 : FV), H' = [[.row i (rowR2 (catR (l.take i)))]] ∧ d = l.length - i ∧ i ≤ l.length ∧ e = [(0, .sc (.sl (l.map grow))), (2, .own []), (3, .sc (.int .i64 (catR l).length)), (5, x5), (6, .gr 0 i 1 (catR (l.take i)).length), (8, x8), (9, .sc (.sl (l.map grow))), (10, .sc (.int .i64 l.length)), (11, .sc (.int .i64 l.length)), (12, .sc (.bool false)), (20, x20), (25, .sc (.sl (l.map grow))), (26, .sc (.int .i64 l.length)), (27, .sc (.int .i64 i)), (28, x28)]) (d := l.length) ⟨0, .undef, .undef, rfl, rfl, Nat.zero_le _, ?_⟩ ?_
      · simp [catR]
      · rintro d e H'2 ⟨i, x8, x28, rfl, rfl, hi2, rfl⟩
        simp
        refine CondC.mk (fun hlt2 => ?_) (fun hlt2 => ?_)
        · simp at hlt2
          have hw : IntKind.i64.wrap ((i : Int) + 1) = ((i + 1 : Nat) : Int) := by rw [wrap64 (by omega) (by omega)]; omega
          have hq : (l.map grow)[i]? = some (grow l[i]) := by simp [hlt2]
          have ht := catR_take hlt2
          have hle := catR_len l (i + 1)
          have hl2 : (catR (l.take (i + 1))).length = (catR (l.take i)).length + l[i].length := by rw [ht, List.length_append]
          have ol := rowR2_len (catR (l.take i))
          have tk : (rowR2 (catR (l.take i))).take ((catR (l.take i)).length * 1) = rowR2 (catR (l.take i)) := List.take_of_length_le (by omega)
          have sl := sizedGl l[i]
          simp [hq, grow, hw, ol, tk, sl, lenMax]
          exact ⟨by omega, l.length - (i + 1), by omega, i + 1, ⟨rfl, by rw [ht, rowR2_app, List.take_of_length_le (by rw [ol]; omega)]; rfl⟩, rfl, by omega, ⟨rfl, by omega⟩, by omega⟩
        · simp at hlt2
          obtain rfl : i = l.length := by omega
          rw [List.take_length]
          simp
          refine ⟨0, l.length, ⟨rfl, rfl⟩, rowR2 (catR l), rfl, ?_⟩
          intro k q hq
          refine ⟨.sc q, ?_, rfl⟩
          unfold rowR2
          rw [List.getElem?_map]
          simp only [hq, Option.map_some]
set_option linter.unusedSimpArgs false in
set_option maxRecDepth 20000 in
theorem conGrow0 (H : Heap) : Con C0 98 [.emp, .sc (.int .i64 0)] H (.own []) H := by
  refine con_of (C := C0) (fn := Tryd.f98) (mv := [26]) (vars := [0, 1, 4, 6, 16]) (c := Tryd.f98.body.getD .skip) Tryd.func98 rfl (by decide) mixed rfl ?_
  have w0 : IntKind.i64.wrap 0 = 0 := by decide
  simp [Tryd.f98, w0]
theorem catG_nil {l : List (List Glyph)} (h : catG l = []) {i : Nat} (hi : i < l.length) : l[i] = [] := by
  unfold catG at h
  exact List.flatten_eq_nil_iff.1 h _ (List.getElem_mem hi)
set_option linter.unusedSimpArgs false in
set_option maxRecDepth 20000 in
set_option maxHeartbeats 8000000 in
theorem conConcat0 (l : List (List Glyph)) (h0 : catG l = []) (hl : l.length ≤ 1073741824) : PCon C0 64 [.sc (.sl (l.map gl))] (.own []) := by
  refine Con.pcon (H' := []) ?_
  refine con_of (C := C0) (fn := Tryd.f64) (mv := [31, 35]) (vars := [0, 2, 3, 5, 6, 8, 9, 10, 11, 12, 20, 25, 26, 27, 28]) (c := Tryd.f64.body.getD .skip) Tryd.func64 rfl (by decide) mixed rfl ?_
  have w00 : IntKind.i64.wrap (0 + 0) = 0 := by decide
  have w0 : IntKind.i64.wrap 0 = 0 := by decide
  simp [Tryd.f64]
  refine loopC (fun d e H' => ∃ (i : Nat) (x5 x12 x20 : FV), H' = [] ∧ d = l.length - i ∧ i ≤ l.length ∧ e = [(0, .sc (.sl (l.map gl))), (2, .own []), (3, .sc (.int .i64 0)), (5, x5), (6, .undef), (8, .undef), (9, .sc (.sl (l.map gl))), (10, .sc (.int .i64 l.length)), (11, .sc (.int .i64 i)), (12, x12), (20, x20), (25, .undef), (26, .undef), (27, .undef), (28, .undef)]) (d := l.length) ⟨0, .undef, .undef, .undef, rfl, rfl, Nat.zero_le _, rfl⟩ ?_
  rintro d e H' ⟨i, x5, x12, x20, rfl, rfl, hi, rfl⟩
  simp
  refine CondC.mk (fun hlt => ?_) (fun hlt => ?_)
  · simp at hlt
    have hw : IntKind.i64.wrap ((i : Int) + 1) = ((i + 1 : Nat) : Int) := by rw [wrap64 (by omega) (by omega)]; omega
    have hq : (l.map gl)[i]? = some (gl []) := by simp [hlt, catG_nil h0 hlt]
    simp [hq, gl, w0, hw]
    exact ⟨l.length - (i + 1), by omega, i + 1, rfl, by omega, by omega⟩
  · simp at hlt
    obtain rfl : i = l.length := by omega
    simp
    refine CallQ.mk (Call.shared callable98 (conGrow0 [])) ?_
    simp
    refine loopC (fun d e H' => ∃ (i : Nat) (x8 x28 : FV), H' = [] ∧ d = l.length - i ∧ i ≤ l.length ∧ e = [(0, .sc (.sl (l.map gl))), (2, .own []), (3, .sc (.int .i64 0)), (5, x5), (6, .own []), (8, x8), (9, .sc (.sl (l.map gl))), (10, .sc (.int .i64 l.length)), (11, .sc (.int .i64 l.length)), (12, .sc (.bool false)), (20, x20), (25, .sc (.sl (l.map gl))), (26, .sc (.int .i64 l.length)), (27, .sc (.int .i64 i)), (28, x28)]) (d := l.length) ⟨0, .undef, .undef, rfl, rfl, Nat.zero_le _, by simp⟩ ?_
    rintro d e H' ⟨i, x8, x28, rfl, rfl, hi2, rfl⟩
    simp
    refine CondC.mk (fun hlt2 => ?_) (fun hlt2 => ?_)
    · simp at hlt2
      have hw : IntKind.i64.wrap ((i : Int) + 1) = ((i + 1 : Nat) : Int) := by rw [wrap64 (by omega) (by omega)]; omega
      have hq : (l.map gl)[i]? = some (gl []) := by simp [hlt2, catG_nil h0 hlt2]
      have sz0 : ∀ n, Sized n [] := fun n p hp => by cases hp
      simp [hq, gl, sz0, lenMax, hw]
      exact ⟨l.length - (i + 1), by omega, i + 1, rfl, by omega, by omega⟩
    · simp at hlt2
      simp
end Go.Proofs.YtlnnnfogbakimaaDoor.Ev
end
section
namespace Go.Proofs.YtlnnnfogbakimaaDoor.Ev
open Go
theorem ink_cat (l : List (List Glyph)) : ink (catG l) = l.flatMap ink := by
  unfold catG
  induction l with
  | nil => rfl
  | cons x l ih => rw [List.flatten_cons, ink_append, ih]; rfl
theorem catG_size (l : List (List Glyph)) : (catG l).length = sumBy List.length l := by
  unfold catG
  induction l with
  | nil => rfl
  | cons x l ih => rw [List.flatten_cons, List.length_append, ih]; rfl
theorem conCatInk (l : List (List Glyph)) (hn : sumBy List.length l ≤ 1073741824) (hl : l.length ≤ 1073741824) : ∃ r : FV, (r = .own [] ∧ catG l = [] ∨ r = .sc (.sl ((catG l).map Glyph.pv))) ∧ PCon C0 64 [.sc (.sl (l.map gl))] r := by
  by_cases h : catG l = []
  · exact ⟨_, .inl ⟨rfl, h⟩, conConcat0 l h hl⟩
  · exact ⟨_, .inr rfl, (conConcat l (List.length_pos_iff.2 h) (by rw [catG_size]; exact hn) hl).pcon⟩
set_option linter.unusedSimpArgs false in
set_option maxRecDepth 20000 in
set_option maxHeartbeats 8000000 in
theorem treeLeavesA : ∀ (n : Nat) (a : List Node), SizeOf.sizeOf a < n → sumBy Node.long a ≤ 1073741824 → PCon C0 37 [.sc (.sl (a.map Node.pv))] (.own ((Node.lvsL a).map Glyph.pv)) := by
  intro n
  induction n with
  | zero => intro a h; omega
  | succ n ih =>
    intro a hn hsz
    have hla := len_le_long a
    have sg : ∀ l : List Glyph, Sized 2 (l.map Glyph.pv) := sizedG
    refine penter37 ?_
    simp [Tryd.f37]
    refine loopC (fun d e H => ∃ (i : Nat) (x5 x7 x9 x13 x22 x23 x24 x25 x35 x36 x37 x38 : FV), d = a.length - i ∧ i ≤ a.length ∧
      e = [(0, .sc (.sl (a.map Node.pv))), (2, .own []), (3, .own (((a.take i).flatMap Node.lvs).map Glyph.pv)), (5, x5), (7, x7), (9, x9), (10, .sc (.sl (a.map Node.pv))), (11, .sc (.int .i64 a.length)), (12, .sc (.int .i64 i)), (13, x13), (22, x22), (23, x23), (24, x24), (25, x25), (35, x35), (36, x36), (37, x37), (38, x38)]) (d := a.length)
      ⟨0, _, _, _, _, _, _, _, _, _, _, _, _, rfl, by omega, rfl⟩ ?_
    rintro d e H ⟨i, x5, x7, x9, x13, x22, x23, x24, x25, x35, x36, x37, x38, rfl, hi, rfl⟩
    simp
    refine CondC.mk (fun hlt => ?_) (fun hlt => ?_)
    · simp at hlt
      have ea := Node.pv_eq a[i]
      have ht := flat_take Node.lvs hlt
      rw [Node.lvs_eq] at ht
      have hll := sumBy_mem Node.long hlt
      have hel := Node.long_eq a[i]
      have hsl : ((a.take i).flatMap Node.lvs).length ≤ sumBy Node.long (a.take i) := by
        have := lvs_len _ (a.take i) (Nat.lt_succ_self _)
        rwa [Node.lvsL_eq] at this
      have hk := ih a[i].kids (by have := Node.kids_lt (List.getElem_mem hlt); omega) (by omega)
      have hkl := lvs_len _ a[i].kids (Nat.lt_succ_self _)
      have htl := ink_len a[i].text
      have hrl := rowInk_len a[i].rows
      have hgl := ltr_len a[i].grid.rows
      have hw : IntKind.i64.wrap ((i : Int) + 1) = ((i + 1 : Nat) : Int) := by rw [wrap64 (by omega) (by omega)]; omega
      have hrw : a[i].rows.length ≤ rowsLong a[i].rows := sumLen' _ (fun r => by omega) _
      have hgw : a[i].grid.rows.length ≤ sumBy trowLong a[i].grid.rows := sumLen' _ (fun r => by unfold trowLong; omega) _
      have hi1 := treeInked a[i].text (by unfold lenMax; omega)
      generalize (a.take i).flatMap Node.lvs = S at *
      simp only [gl] at hi1
      simp [hlt, ea, gl]
      refine CallQ.mk (Call.pure callable63 (by simp) (by simp) hi1) ?_
      have s1 := sg S
      have s2 := sg (ink a[i].text)
      simp [s1, s2, lenMax]
      refine ⟨by omega, ?_⟩
      obtain ⟨b0, hb0⟩ : ∃ b0, b0 = H.length := ⟨_, rfl⟩
      obtain ⟨CX, hCX⟩ : ∃ CX : List FV, CX = [.sc (.int .i64 a[i].kind), .sc (.int .i64 a[i].line), .sc (.int .i64 a[i].n), .sc (gl a[i].text), .sc (.sl (a[i].kids.map Node.pv)), .sc (.sl (a[i].rows.map gl)), .sc (.str a[i].grid.cols), .sc (.sl (a[i].grid.rows.map TRow.pv)), .sc (.bool a[i].grid.box), .sc (.bool a[i].grid.all)] := ⟨_, rfl⟩
      obtain ⟨T, hT⟩ : ∃ T, T = S ++ ink a[i].text := ⟨_, rfl⟩
      have hTl : T.length = S.length + (ink a[i].text).length := by rw [hT, List.length_append]
      refine loopC (fun d e H' => ∃ (k : Nat) (x7 x25 : FV), d = a[i].rows.length - k ∧ k ≤ a[i].rows.length ∧ H'[b0]? = some CX ∧ b0 < H'.length ∧
        e = [(0, .sc (.sl (a.map Node.pv))), (2, .own []), (3, .own ((T ++ (a[i].rows.take k).flatMap ink).map Glyph.pv)), (5, .ptr b0 0), (7, x7), (9, x9), (10, .sc (.sl (a.map Node.pv))), (11, .sc (.int .i64 a.length)), (12, .sc (.int .i64 i)), (13, .sc (.bool true)), (22, .sc (.sl (a[i].rows.map gl))), (23, .sc (.int .i64 a[i].rows.length)), (24, .sc (.int .i64 k)), (25, x25), (35, x35), (36, x36), (37, x37), (38, x38)]) (d := a[i].rows.length)
        ⟨0, x7, x25, rfl, Nat.zero_le _, by rw [hb0, hCX]; simp [gl], by rw [hb0]; simp, by rw [hT, hb0]; simp [gl]⟩ ?_
      rintro d e H1 ⟨k, x7, x25, rfl, hk', hcx, hbl, rfl⟩
      simp
      refine CondC.mk (fun hlk => ?_) (fun hlk => ?_)
      · simp at hlk
        have hlk' : (k : Int) < (a[i].rows.length : Int) := by omega
        have ht2 := flat_take ink hlk
        have hr2 := rowInk_len (a[i].rows.take k)
        have hr3 := sumBy_mem (fun r : List Glyph => 1 + r.length) hlk
        have hr4 : rowsLong a[i].rows = sumBy (fun r : List Glyph => 1 + r.length) a[i].rows := rfl
        have hr5 : rowsLong (a[i].rows.take k) = sumBy (fun r : List Glyph => 1 + r.length) (a[i].rows.take k) := rfl
        have hr6 := ink_len a[i].rows[k]
        have hwk : IntKind.i64.wrap ((k : Int) + 1) = ((k + 1 : Nat) : Int) := by rw [wrap64 (by omega) (by omega)]; omega
        have hik := treeInked a[i].rows[k] (by unfold lenMax; omega)
        generalize (a[i].rows.take k).flatMap ink = R at *
        obtain ⟨r, hre⟩ : ∃ r, a[i].rows[k] = r := ⟨_, rfl⟩
        rw [hre] at hik ht2 hr3 hr6
        simp only [gl] at hik
        have s3 := sg (T ++ R)
        have s4 := sg (ink r)
        simp only [List.map_append] at s3
        simp [hlk, hlk', hre, gl]
        refine CallQ.mk (Call.pure callable63 (by simp) (by simp) hik) ?_
        simp [s3, s4, lenMax, hwk]
        exact ⟨by omega, a[i].rows.length - (k + 1), by omega, k + 1, rfl, by omega, hcx, hbl, by rw [ht2]; simp, by omega⟩
      · simp at hlk
        have hke : k = a[i].rows.length := by omega
        subst hke
        rw [List.take_length]
        have hcx' := hcx
        rw [hCX] at hcx'
        simp only [gl] at hcx'
        simp [hcx']
        obtain ⟨U, hU⟩ : ∃ U, U = T ++ a[i].rows.flatMap ink := ⟨_, rfl⟩
        have hUl : U.length = T.length + (a[i].rows.flatMap ink).length := by rw [hU, List.length_append]
        refine loopC (fun d e H' => ∃ (j : Nat) (x9 x38 : FV), d = a[i].grid.rows.length - j ∧ j ≤ a[i].grid.rows.length ∧ H'[b0]? = some CX ∧ b0 < H'.length ∧
          e = [(0, .sc (.sl (a.map Node.pv))), (2, .own []), (3, .own ((U ++ ltr (a[i].grid.rows.take j)).map Glyph.pv)), (5, .ptr b0 0), (7, x7), (9, x9), (10, .sc (.sl (a.map Node.pv))), (11, .sc (.int .i64 a.length)), (12, .sc (.int .i64 i)), (13, .sc (.bool true)), (22, .sc (.sl (a[i].rows.map gl))), (23, .sc (.int .i64 a[i].rows.length)), (24, .sc (.int .i64 a[i].rows.length)), (25, .sc (.bool false)), (35, .sc (.sl (a[i].grid.rows.map TRow.pv))), (36, .sc (.int .i64 a[i].grid.rows.length)), (37, .sc (.int .i64 j)), (38, x38)]) (d := a[i].grid.rows.length)
          ⟨0, x9, x38, rfl, Nat.zero_le _, hcx, hbl, by rw [hU]; simp [gl, ltr]⟩ ?_
        rintro d e H2 ⟨j, x9, x38, rfl, hj', hcx2, hbl2, rfl⟩
        simp
        refine CondC.mk (fun hlj => ?_) (fun hlj => ?_)
        · simp at hlj
          have hlj' : (j : Int) < (a[i].grid.rows.length : Int) := by omega
          have ht3 : ltr (a[i].grid.rows.take (j + 1)) = ltr (a[i].grid.rows.take j) ++ a[i].grid.rows[j].cells.flatMap ink := flat_take (fun r : TRow => r.cells.flatMap ink) hlj
          have hq2 := ltr_len (a[i].grid.rows.take j)
          have hq3 := sumBy_mem trowLong hlj
          have hwj : IntKind.i64.wrap ((j : Int) + 1) = ((j + 1 : Nat) : Int) := by rw [wrap64 (by omega) (by omega)]; omega
          generalize ltr (a[i].grid.rows.take j) = R at *
          obtain ⟨r, hre⟩ : ∃ r, a[i].grid.rows[j] = r := ⟨_, rfl⟩
          rw [hre] at ht3 hq3
          obtain ⟨rl, cs⟩ := r
          have hq4 : trowLong ⟨rl, cs⟩ = 1 + cs.length + sumBy List.length cs := rfl
          simp only at ht3
          have hcc := cellInk_len cs
          obtain ⟨cr, hcr, hcat⟩ := conCatInk cs (by omega) (by omega)
          have hik := treeInked (catG cs) (by rw [catG_size]; unfold lenMax; omega)
          rw [ink_cat] at hik
          simp only [gl] at hik
          have s3 := sg (U ++ R)
          have s4 := sg (cs.flatMap ink)
          simp only [List.map_append] at s3
          have hcn : catG cs = [] → cs.flatMap ink = [] := fun h => by rw [← ink_cat, h]; rfl
          generalize cs.flatMap ink = V at *
          have hcx3 : (H2 ++ [[.sc (.bool rl), .sc (.sl (cs.map gl))]])[b0]? = some CX := by rw [heap_old hbl2]; exact hcx2
          simp [hlj, hlj', hre, TRow.pv]
          refine CallQ.mk (Call.pure callable64 (by simp) (by rcases hcr with ⟨rfl, _⟩ | rfl <;> rfl) hcat) ?_
          rcases hcr with ⟨rfl, hce⟩ | rfl
          · rw [hce] at hik
            simp
            refine CallQ.mk (Call.pure callable63 (by simp) (by simp) hik) ?_
            simp [s3, s4, lenMax, hwj]
            exact ⟨by omega, a[i].grid.rows.length - (j + 1), by omega, j + 1, rfl, by omega, hcx3, by omega, by rw [ht3]; simp, by omega⟩
          · simp
            refine CallQ.mk (Call.pure callable63 (by simp) (by simp) hik) ?_
            simp [s3, s4, lenMax, hwj]
            exact ⟨by omega, a[i].grid.rows.length - (j + 1), by omega, j + 1, rfl, by omega, hcx3, by omega, by rw [ht3]; simp, by omega⟩
        · simp at hlj
          have hje : j = a[i].grid.rows.length := by omega
          subst hje
          rw [List.take_length]
          have hcx' := hcx2
          rw [hCX] at hcx'
          simp only [gl] at hcx'
          simp [hcx']
          refine CallQ.mk (Call.pure callable37 (by simp) (by simp) hk) ?_
          have s3 := sg (U ++ ltr a[i].grid.rows)
          have s4 := sg (Node.lvsL a[i].kids)
          simp only [List.map_append] at s3
          simp [s3, s4, lenMax, hw]
          exact ⟨by omega, a.length - (i + 1), by omega, i + 1, rfl, by omega, by rw [ht, hU, hT]; simp, by omega⟩
    · simp at hlt
      obtain rfl : i = a.length := by omega
      simp [Node.lvsL_eq]
end Go.Proofs.YtlnnnfogbakimaaDoor.Ev
end
section
namespace Go.Proofs.YtlnnnfogbakimaaDoor.Ev
open Go
set_option linter.unusedSimpArgs false in
set_option maxRecDepth 20000 in
set_option maxHeartbeats 4000000 in
theorem treeCopied (l : List (List Glyph)) (hl : l.length ≤ 1073741824) (hs : ∀ r ∈ l, r.length ≤ 1073741824) : PCon C0 122 [.sc (.sl (l.map gl))] (.own (l.map gl)) := by
  refine penter122 ?_
  simp [Tryd.f122]
  refine loopC (fun d e H => ∃ (i : Nat) (x5 x9 : FV), d = l.length - i ∧ i ≤ l.length ∧ e = [(0, .sc (.sl (l.map gl))), (2, .own []), (3, .own ((l.take i).map gl)), (5, x5), (6, .sc (.sl (l.map gl))), (7, .sc (.int .i64 l.length)), (8, .sc (.int .i64 i)), (9, x9)]) (d := l.length) ⟨0, _, _, rfl, by omega, rfl⟩ ?_
  rintro d e H ⟨i, x5, x9, rfl, hi, rfl⟩
  simp
  refine CondC.mk (fun hlt => ?_) (fun hlt => ?_)
  · simp at hlt
    have cl := cloneG l[i] (by have := hs _ (List.getElem_mem hlt); unfold lenMax; omega)
    have htk : l.take (i + 1) = l.take i ++ [l[i]] := List.take_succ_eq_append_getElem hlt
    simp only [gl] at cl
    simp [hlt, gl]
    refine CallQ.mk (Call.pure callable62 (by simp) (by simp) cl) ?_
    simp
    have s1 : Sized 1 ((l.map gl).take i) := by
      intro p hp
      obtain ⟨x, _, rfl⟩ := List.mem_map.1 (List.mem_of_mem_take hp)
      rfl
    refine ⟨sized1l, s1, sized1l, by unfold lenMax; omega, l.length - (i + 1), by omega, i + 1, rfl, by omega, ?_, by rw [wrap64 (by omega) (by omega)]; omega⟩
    rw [← List.map_take, ← List.map_take, htk, List.map_append]; rfl
  · simp at hlt
    simp
    exact List.take_of_length_le (by simpa using hlt)
theorem sumBy_mem' {α : Type} (f : α → Nat) {l : List α} {x : α} (h : x ∈ l) : f x ≤ sumBy f l := by
  induction l with
  | nil => cases h
  | cons y l ih =>
    rw [sumBy]
    rcases List.mem_cons.1 h with rfl | h
    · omega
    · have := ih h; omega
theorem len_le_sum {α : Type} (f : α → Nat) (h : ∀ x, 1 ≤ f x) (l : List α) : l.length ≤ sumBy f l := by
  induction l with
  | nil => simp
  | cons x l ih => rw [sumBy, List.length_cons]; have := h x; omega
def Node.Small (x : Node) : Prop := x.long ≤ 1073741824
theorem tblS_of {t : Tbl} (h : t.cols.size + sumBy trowLong t.rows ≤ 1073741824) : TblS t where
  cols := by omega
  rows := by have := len_le_sum trowLong (fun r => by unfold trowLong; omega) t.rows; omega
  cells r hr := by
    have h1 := sumBy_mem' trowLong hr
    simp only [trowLong] at h1
    refine ⟨by omega, fun c hc => ?_⟩
    have h2 := sumBy_mem' List.length hc
    omega
theorem Node.Small.tbl {x : Node} (h : x.Small) : TblS x.grid := tblS_of (by unfold Node.Small at h; rw [Node.long_eq] at h; omega)
theorem Node.Small.text {x : Node} (h : x.Small) : x.text.length ≤ 1073741824 := by unfold Node.Small at h; rw [Node.long_eq] at h; omega
theorem Node.Small.rows {x : Node} (h : x.Small) : x.rows.length ≤ 1073741824 ∧ ∀ r ∈ x.rows, r.length ≤ 1073741824 := by
  unfold Node.Small at h; rw [Node.long_eq, rowsLong] at h
  refine ⟨?_, fun r hr => ?_⟩
  · have := len_le_sum (fun r : List Glyph => 1 + r.length) (fun r => by omega) x.rows; omega
  · have := sumBy_mem' (fun r : List Glyph => 1 + r.length) hr; omega
theorem Node.Small.kids {x : Node} (h : x.Small) : x.kids.length ≤ 1073741824 ∧ ∀ y ∈ x.kids, y.Small := by
  unfold Node.Small at h; rw [Node.long_eq] at h
  refine ⟨?_, fun y hy => ?_⟩
  · have := len_le_long x.kids; omega
  · have := long_mem hy; unfold Node.Small; omega
set_option linter.unusedSimpArgs false in
set_option maxRecDepth 20000 in
set_option maxHeartbeats 4000000 in
theorem treeOwn (x : Node) (k : Int) (hx : x.Small) : PCon C0 88 [x.pv.toFV, .sc (.int .i64 k)] (ownN x k).pv.toFV := by
  by_cases h5 : 1 ≤ k ∧ k ≤ 5
  · exact treeOwn5 x k h5 hx.text
  · have ht : hasText k = false := by simp [hasText]; omega
    have hn : hasN k = false := by simp [hasN]; omega
    refine penter88 ?_
    rw [Node.pv_eq]
    have cf := treeFull k
    rw [ht, hn] at cf
    simp [Tryd.f88, gl]
    refine CallQ.mk (Call.pure callable90 (by simp) (by simp) cf) ?_
    by_cases h6 : k = 6
    · have cc := treeCopied x.rows hx.rows.1 hx.rows.2
      subst h6
      simp
      refine CallQ.mk (Call.pure callable122 (by simp) (by simp) cc) ?_
      simp [Node.pv_eq, gl, ownN, ht, hn, clamp, noTbl]
    · by_cases h7 : k = 7
      · have cc := treeMend x.grid hx.tbl
        subst h7
        simp [Tbl.pv] at cc ⊢
        refine CallQ.mk (Call.pure callable40 (by simp) (by simp) cc) ?_
        simp [Node.pv_eq, gl, ownN, ht, hn, clamp, noTbl]
      · simp [h6, h7]
        simp [Node.pv_eq, gl, ownN, ht, hn, clamp, h6, h7, noTbl]
theorem fitS : Fit Node.Small where
  own x hx := treeOwn x x.kind hx
  para x hx := treeOwn x 3 hx
  kids x hx := hx.kids.2
  len x hx := by have := hx.kids.1; omega
end Go.Proofs.YtlnnnfogbakimaaDoor.Ev
end
