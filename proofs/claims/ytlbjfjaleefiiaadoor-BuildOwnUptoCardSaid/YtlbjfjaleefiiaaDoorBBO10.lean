/- Of what the law BuildOwn needs: part 10. -/
import Derived.Lib.MapLaws
import Derived.Test.YtlbjfjaleefiiaaDoorBBO6
import Derived.Test.YtlbjfjaleefiiaaDoorBBO9
set_option linter.unusedSimpArgs false
set_option linter.unusedVariables false
section
namespace Go.Proofs.YtlbjfjaleefiiaaDoor.Ev
open Go
theorem HInv.tabs {H : Heap} {W : Wd} (h : HInv C0 H W) : Go.Lib.Utf8Tabs 2 3 W.w := by
  refine ⟨fun c hc => ?_, fun i hi => ⟨?_, ?_⟩⟩
  · obtain ⟨_, _, v, hv, hr⟩ := h.laid _ firstPV laidFirst c (.int .u8 (Go.Lib.firstT c : Nat)) (by simp [firstPV, hc])
    cases hr; exact hv
  · obtain ⟨_, _, v, hv, hr⟩ := h.laid _ acceptPV laidAccept (2 * i) (.int .u8 (Go.Lib.accLo i : Nat)) (by
      have : 2 * i < 32 := by omega
      simp [acceptPV, this])
    cases hr; exact hv
  · obtain ⟨_, _, v, hv, hr⟩ := h.laid _ acceptPV laidAccept (2 * i + 1) (.int .u8 (Go.Lib.accHi i : Nat)) (by
      have h1 : 2 * i + 1 < 32 := by omega
      have h2 : (2 * i + 1) % 2 = 1 := by omega
      have h3 : (2 * i + 1) / 2 = i := by omega
      simp [acceptPV, h1, h2, h3])
    cases hr; exact hv
def lcr : ByteArray := ⟨#[108, 99, 114]⟩
theorem conValid (r : Int) : PCon C0 98 [.sc (.int .i32 r)] (.sc (.bool (Go.Lib.validRune r))) :=
  pcon_below rfl (fun _ _ => .bool) fun vs W hl ha hH => by
    obtain ⟨u, rfl, hu⟩ := args1 hl ha
    rw [hu.int]
    exact (Tryd.utf8_ValidRune r W.w).mono fun e w' ⟨he, hw⟩ => ⟨he, by rw [hw]; exact RowKit.Below.refl _ _⟩
theorem conIndexByte (s : ByteArray) (c : Int) : PCon C0 97 [.sc (.str s), .sc (.int .u8 c)] (.sc (.int .i64 (Go.Lib.indexByte s.data.toList c.toNat.toUInt8))) :=
  pcon_below rfl (fun _ _ => .int) fun vs W hl ha hH => by
    obtain ⟨u, v, rfl, hu, hv⟩ := args2 hl ha
    rw [hu.str, hv.int]
    exact (Tryd.strings_IndexByte s c W.w).mono fun e w' ⟨he, hw⟩ => ⟨he, by rw [hw]; exact RowKit.Below.refl _ _⟩
theorem ofNat_ge {n : Nat} (h1 : 128 ≤ n) (h2 : n < 256) : 128 ≤ (UInt8.ofNat n).toNat := by
  simp [Nat.mod_eq_of_lt h2, h1]
theorem enc_shape (r : Int) (h1 : 128 ≤ r) (h2 : r ≤ 1114111) (hv : Go.Lib.validRune r = true) :
    (∃ a b, Utf8.encode r = ⟨#[a, b]⟩ ∧ 128 ≤ b.toNat) ∨ (∃ a b c, Utf8.encode r = ⟨#[a, b, c]⟩ ∧ 128 ≤ c.toNat) ∨ ∃ a b c d, Utf8.encode r = ⟨#[a, b, c, d]⟩ := by
  have hv' : Utf8.valid r = true := by
    simp [Go.Lib.validRune] at hv
    simp [Utf8.valid]; omega
  unfold Utf8.encode
  rw [if_pos hv']
  simp only
  rw [if_neg (by omega)]
  split
  · exact .inl ⟨_, _, rfl, ofNat_ge (by omega) (by omega)⟩
  · split
    · exact .inr (.inl ⟨_, _, _, rfl, ofNat_ge (by omega) (by omega)⟩)
    · exact .inr (.inr ⟨_, _, _, _, rfl⟩)
theorem wr1 : IntKind.i64.wrap 1 = 1 := by decide
theorem wr2 : IntKind.i64.wrap 2 = 2 := by decide
theorem wr3 : IntKind.i64.wrap 3 = 3 := by decide
theorem idx_none {b : UInt8} (h : 128 ≤ b.toNat) : Go.Lib.indexByte ((⟨#[108, 99, 114]⟩ : ByteArray).extract 2 3).data.toList ((b.toNat : Nat) : Int).toNat.toUInt8 = -1 := by
  have e1 : ((⟨#[108, 99, 114]⟩ : ByteArray).extract 2 3).data.toList = [114] := by decide
  have e2 : ((b.toNat : Nat) : Int).toNat.toUInt8 = b := by simp
  rw [e1, e2]
  have : ((114 : UInt8) == b) = false := by
    apply beq_eq_false_iff_ne.2
    intro hh
    rw [← hh] at h
    simp at h
  simp [Go.Lib.indexByte, this]
theorem idx_none' (b : UInt8) : Go.Lib.indexByte ((⟨#[108, 99, 114]⟩ : ByteArray).extract 3 3).data.toList ((b.toNat : Nat) : Int).toNat.toUInt8 = -1 := by
  have e1 : ((⟨#[108, 99, 114]⟩ : ByteArray).extract 3 3).data.toList = [] := by decide
  rw [e1]
  rfl
set_option linter.unusedSimpArgs false in
set_option maxRecDepth 20000 in
set_option maxHeartbeats 8000000 in
theorem conIndexRune (r : Int) (h1 : 128 ≤ r) (h2 : r ≤ 1114111) : PCon C0 92 [.sc (.str lcr), .sc (.int .i32 r)] (.sc (.int .i64 (-1))) := by
  by_cases h3 : r = 65533
  · subst h3
    refine pcon_below rfl (fun _ _ => .int) fun vs W hl ha hH => ?_
    obtain ⟨u, v, rfl, hu, hv⟩ := args2 hl ha
    rw [hu.str, hv.int]
    exact EvG.idx_fffd _
  · have cv := conValid r
    have h4 : 0 ≤ r := by omega
    have h5 : ¬ r < 128 := by omega
    refine penter92 ?_
    simp [Tryd.f92, h3, h4, h5]
    refine CallQ.mk (Call.pure callable98 (by simp) (by simp) cv) ?_
    cases hv : Go.Lib.validRune r
    · simp
    · rcases enc_shape r h1 h2 hv with ⟨a, b, he, hb⟩ | ⟨a, b, c, he, hb⟩ | ⟨a, b, c, d, he⟩
      · have hne : ¬ (99 : Int) = b.toNat := by omega
        have ci := conIndexByte ((⟨#[108, 99, 114]⟩ : ByteArray).extract 2 3) b.toNat
        rw [idx_none hb] at ci
        simp [he]
        refine loopC (fun d e H => d = 0 ∧ e = _ ∧ H = _) (d := 0) ⟨rfl, rfl, rfl⟩ ?_
        rintro _ _ _ ⟨rfl, rfl, rfl⟩
        simp [lcr, hne, ByteArray.size, wr1, wr2, wr3]
        refine CallQ.mk (CallP.pure callable97 (by simp) (by simp) ci) ?_
        simp
      · have hne : ¬ (114 : Int) = c.toNat := by omega
        have ci := conIndexByte ((⟨#[108, 99, 114]⟩ : ByteArray).extract 3 3) c.toNat
        rw [idx_none' c] at ci
        simp [he]
        refine loopC (fun d e H => d = 0 ∧ e = _ ∧ H = _) (d := 0) ⟨rfl, rfl, rfl⟩ ?_
        rintro _ _ _ ⟨rfl, rfl, rfl⟩
        simp [lcr, hne, ByteArray.size, wr1, wr2, wr3]
        refine CallQ.mk (CallP.pure callable97 (by simp) (by simp) ci) ?_
        simp
      · simp [he]
        refine loopC (fun d e H => d = 0 ∧ e = _ ∧ H = _) (d := 0) ⟨rfl, rfl, rfl⟩ ?_
        rintro _ _ _ ⟨rfl, rfl, rfl⟩
        simp [lcr, ByteArray.size, wr1, wr2, wr3]
end Go.Proofs.YtlbjfjaleefiiaaDoor.Ev
end
section
namespace Go.Proofs.YtlbjfjaleefiiaaDoor.Ev
open Go
def sideF (x : Int) : Int := if x = 108 ∨ x = 99 ∨ x = 114 then x else -1
set_option maxRecDepth 20000 in
theorem side_dec : ∀ n : Nat, n < 128 → decide (0 ≤ Go.Lib.indexByte [108, 99, 114] n.toUInt8) = decide (n = 108 ∨ n = 99 ∨ n = 114) := by decide
set_option maxRecDepth 20000 in
set_option maxHeartbeats 4000000 in
theorem conContains (r : Nat) (h2 : r ≤ 1114111) : PCon C0 83 [.sc (.str lcr), .sc (.int .i32 r)] (.sc (.bool (decide (r = 108 ∨ r = 99 ∨ r = 114)))) := by
  by_cases h1 : r < 128
  · refine pcon_below rfl (fun _ _ => .bool) fun vs W hl ha hH => ?_
    obtain ⟨u, v, rfl, hu, hv⟩ := args2 hl ha
    rw [hu.str, hv.int]
    refine (Tryd.strings_ContainsRune_ascii lcr r W.w (by omega) (by omega)).mono fun e w' ⟨he, hw⟩ => ⟨?_, by rw [hw]; exact RowKit.Below.refl _ _⟩
    rw [he, ← side_dec r h1]
    rfl
  · have ci := conIndexRune r (by omega) (by omega)
    have hn : ¬ (r = 108 ∨ r = 99 ∨ r = 114) := by omega
    refine penter83 ?_
    simp [Tryd.f83]
    refine CallQ.mk (Call.pure callable92 (by simp) (by simp) ci) ?_
    simp
    omega
set_option maxRecDepth 20000 in
set_option maxHeartbeats 4000000 in
theorem conSide (r : Nat) (h2 : r ≤ 1114111) : PCon C0 82 [.sc (.int .i32 r)] (.sc (.int .i32 (sideF r))) := by
  have cc := conContains r h2
  refine penter82 ?_
  by_cases h : r = 108 ∨ r = 99 ∨ r = 114
  · have h' : (r : Int) = 108 ∨ (r : Int) = 99 ∨ (r : Int) = 114 := by omega
    rw [decide_eq_true h] at cc
    simp [Tryd.f82, lcr] at cc ⊢
    refine CallQ.mk (Call.pure callable83 (by simp) (by simp) cc) ?_
    simp [sideF, h']
  · have h' : ¬ ((r : Int) = 108 ∨ (r : Int) = 99 ∨ (r : Int) = 114) := by omega
    rw [decide_eq_false h] at cc
    simp [Tryd.f82, lcr] at cc ⊢
    refine CallQ.mk (Call.pure callable83 (by simp) (by simp) cc) ?_
    simp [sideF, h']
theorem side_iff (b : UInt8) : isSide b = decide ((b.toNat : Int) = 108 ∨ (b.toNat : Int) = 99 ∨ (b.toNat : Int) = 114) := by
  have h : ∀ c : UInt8, (b == c) = decide ((b.toNat : Int) = c.toNat) := fun c => by
    apply Bool.eq_iff_iff.2
    simp only [beq_iff_eq, decide_eq_true_eq]
    exact ⟨fun h => by rw [h], fun h => UInt8.toNat_inj.1 (by omega)⟩
  simp only [isSide, h]
  apply Bool.eq_iff_iff.2
  simp [or_assoc]
theorem big_side {b : UInt8} (h : 128 ≤ b.toNat) : isSide b = false := by
  rw [side_iff]
  apply decide_eq_false
  omega
theorem big_filter {l : List UInt8} (h : ∀ b ∈ l, 128 ≤ b.toNat) : l.filter isSide = [] := by
  rw [List.filter_eq_nil_iff]
  intro b hb
  simp [big_side (h b hb)]
theorem decL_ascii (b : UInt8) (t : List UInt8) (h : b.toNat < 128) : Go.Lib.decodeL (b :: t) = (b.toNat, 1) := by
  rw [Go.Lib.decodeL_N]
  unfold Go.Lib.decodeN
  rw [if_pos (by simpa using h)]
  rfl
theorem map_side : ∀ (n : Nat) (l : List UInt8), l.length ≤ n → Go.Lib.mapGoD sideF n l = l.filter isSide := by
  intro n
  induction n with
  | zero =>
    intro l h
    obtain rfl : l = [] := List.eq_nil_of_length_eq_zero (by omega)
    rfl
  | succ n ih =>
    intro l h
    cases l with
    | nil => simp [Go.Lib.mapGoD]
    | cons b t =>
      rw [Go.Lib.mapGoD, if_neg (by simp)]
      by_cases hb : b.toNat < 128
      · rw [decL_ascii b t hb]
        simp only [List.drop_succ_cons, List.drop_zero]
        rw [ih t (by simpa using h)]
        have hs := side_iff b
        by_cases hc : (b.toNat : Int) = 108 ∨ (b.toNat : Int) = 99 ∨ (b.toNat : Int) = 114
        · rw [List.filter_cons_of_pos (by rw [hs]; simp [hc]), sideF, if_pos hc, if_pos (by omega)]
          have := Go.Lib.encode_decode (b :: t) (by simp) (by rw [decL_ascii b t hb]; simp; omega)
          rw [decL_ascii b t hb] at this
          simp at this
          rw [this]; rfl
        · rw [List.filter_cons_of_neg (by rw [hs]; simp [hc]), sideF, if_neg hc, if_neg (by omega)]
          rfl
      · have hw : ∀ k, k ≤ n + 1 → 1 ≤ k → (∀ x ∈ (b :: t).take k, 128 ≤ x.toNat) → Go.Lib.mapGoD sideF n ((b :: t).drop k) = (b :: t).filter isSide := fun k hk h1 hx => by
          have e := List.take_append_drop k (b :: t)
          conv => rhs; rw [← e, List.filter_append, big_filter hx, List.nil_append]
          exact ih _ (by rw [List.length_drop]; omega)
        have big : ∀ x : Nat, 128 ≤ x → ¬ (0 : Int) ≤ sideF x := fun x hx => by
          rw [sideF, if_neg (by omega)]; omega
        have k0 := ((b :: t).getD 0 0).toNat_lt
        have hb0 : ((b :: t).getD 0 0) = b := rfl
        have hN := Go.Lib.decodeL_N (b :: t)
        rw [hN]
        rcases Go.Lib.decodeN_shape (b :: t).length ((b :: t).getD 0 0).toNat ((b :: t).getD 1 0).toNat ((b :: t).getD 2 0).toNat ((b :: t).getD 3 0).toNat with ⟨c, e⟩ | ⟨c1, c2, c3, cv, e⟩ | ⟨c1, c2, c3, c4, cv, cs, e⟩ | ⟨c1, c2, c3, c4, c5, cv, cw, e⟩ | e
        · rw [hb0] at c; omega
        · rw [e]
          simp only
          rw [if_neg (big _ cv), List.nil_append]
          refine hw 2 (by omega) (by omega) ?_
          rw [Go.Lib.takeB _ c2]
          intro x hx
          simp at hx
          rcases hx with hx | hx
          · rw [hx]; omega
          · rw [hx]; simp at c3 ⊢; omega
        · rw [e]
          simp only
          rw [if_neg (big _ (by omega)), List.nil_append]
          refine hw 3 (by omega) (by omega) ?_
          rw [Go.Lib.takeC _ c2]
          intro x hx
          simp at hx
          rcases hx with hx | hx | hx
          · rw [hx]; omega
          · rw [hx]; simp at c3 ⊢; omega
          · rw [hx]; simp at c4 ⊢; omega
        · rw [e]
          simp only
          rw [if_neg (big _ (by omega)), List.nil_append]
          refine hw 4 (by omega) (by omega) ?_
          rw [Go.Lib.takeD _ c2]
          intro x hx
          simp at hx
          rcases hx with hx | hx | hx | hx
          · rw [hx]; omega
          · rw [hx]; simp at c3 ⊢; omega
          · rw [hx]; simp at c4 ⊢; omega
          · rw [hx]; simp at c5 ⊢; omega
        · rw [e]
          simp only
          rw [if_neg (big 65533 (by omega)), List.nil_append]
          refine hw 1 (by omega) (by omega) ?_
          intro x hx
          simp at hx
          subst hx; omega
theorem conMap (s : ByteArray) (hs : s.size < 35184372088832) : PCon C0 81 [.fn 82 [] [], .sc (.str s)] (.sc (.str ⟨(s.data.toList.filter isSide).toArray⟩)) := by
  refine pcon_below rfl (fun _ _ => .str) fun vs W hl ha hH => ?_
  obtain ⟨u, v, rfl, hu, hv⟩ := args2 hl ha
  rw [hu.fn0, hv.str]
  have := Tryd.strings_Map_grows 82 #[] (enters_of Tryd.func82 (by kernel_rfl) rfl) sideF s W.w hs (fun W' x hx hb => by
      have := (conSide x hx).call1 (hH.below hb).2
      simpa using this) (fun x hx => by unfold sideF; split <;> omega) hH.tabs
  rw [Go.Lib.mapD, map_side _ _ (Nat.le_refl _)] at this
  exact this
end Go.Proofs.YtlbjfjaleefiiaaDoor.Ev
end
section
namespace Go.Proofs.YtlbjfjaleefiiaaDoor.Ev
open Go
def cellM (r : TRow) (k : Nat) : List Glyph := if k < r.cells.length then squeeze (r.cells.getD k []) else []
theorem mendRow_eq (n : Nat) (r : TRow) : mendRow n r = ⟨r.rule, if r.rule = true then [] else (List.range n).map (cellM r)⟩ := rfl
structure TblS (t : Tbl) : Prop where
  cols : t.cols.size ≤ 1073741824
  rows : t.rows.length ≤ 1073741824
  cells : ∀ r ∈ t.rows, r.cells.length ≤ 1073741824 ∧ ∀ c ∈ r.cells, c.length ≤ 1073741824
theorem sizedGl (l : List (List Glyph)) : Sized 1 (l.map gl) := by
  intro p hp
  obtain ⟨x, _, rfl⟩ := List.mem_map.1 hp
  rfl
theorem sizedGlC (r : TRow) (k : Nat) : Sized 1 ((List.range k).map (gl ∘ cellM r)) := by
  intro p hp
  obtain ⟨x, _, rfl⟩ := List.mem_map.1 hp
  rfl
theorem sizedTR2 (f : TRow → TRow) (l : List TRow) (i : Nat) : Sized 2 ((l.map (TRow.pv ∘ f)).take i) := by
  intro p hp
  obtain ⟨x, _, rfl⟩ := List.mem_map.1 (List.mem_of_mem_take hp)
  rfl
theorem sizedAgg2 {a b : PV} : Sized 2 [PV.agg [a, b]] := by
  intro p hp
  rw [List.mem_singleton.1 hp]; rfl
theorem sized1l {l : List PV} : Sized 1 [PV.sl l] := by
  intro p hp
  rw [List.mem_singleton.1 hp]; rfl
set_option linter.unusedSimpArgs false in
set_option maxRecDepth 20000 in
set_option maxHeartbeats 4000000 in
theorem treeMend (t : Tbl) (ht : TblS t) : PCon C0 79 [t.pv.toFV] (mendT t).pv.toFV := by
  refine penter79 ?_
  have cm := conMap t.cols (by have := ht.cols; omega)
  obtain ⟨F, hF⟩ : ∃ F, t.cols.data.toList.filter isSide = F := ⟨_, rfl⟩
  rw [hF] at cm
  have hmc : mendCols t.cols = ⟨(if F.take 20 = [] then [108] else F.take 20).toArray⟩ := by rw [mendCols, hF]
  obtain ⟨S, hS⟩ : ∃ S : ByteArray, (⟨F.toArray⟩ : ByteArray) = S := ⟨_, rfl⟩
  have hSs : S.size = F.length := by rw [← hS]; simp [ByteArray.size]
  obtain ⟨M, hM⟩ : ∃ M : ByteArray, (⟨(F.take 20).toArray⟩ : ByteArray) = M := ⟨_, rfl⟩
  obtain ⟨m, hm, hml, hme⟩ : ∃ m : Nat, (if (20 : Int) < (S.size : Int) then (20 : Int) else (S.size : Int)) = (m : Nat) ∧ m ≤ S.size ∧ S.extract 0 m = M := by
    have hex : ∀ k, S.extract 0 k = ⟨(F.take k).toArray⟩ := fun k => by
      rw [← hS]
      apply ByteArray.ext
      rw [ByteArray.data_extract]
      apply Array.toList_inj.1
      simp
    by_cases h : (20 : Int) < S.size
    · exact ⟨20, by rw [if_pos h]; rfl, by omega, by rw [hex, hM]⟩
    · refine ⟨S.size, by rw [if_neg h], Nat.le_refl _, ?_⟩
      rw [hex, ← hM, List.take_of_length_le (by omega), List.take_of_length_le (by omega)]
  rw [hS] at cm
  have hml' : (m : Int) ≤ S.size := by omega
  simp [Tryd.f79, Tbl.pv]
  refine CallQ.mk (Call.pure callable81 (by simp) (by simp) cm) ?_
  simp [hm, hml', hme]
  have hn20 : (mendCols t.cols).size ≤ 20 := by
    rw [hmc]
    show (if F.take 20 = [] then [108] else F.take 20).toArray.size ≤ 20
    split
    · simp
    · simp; omega
  have hCM : (if M = ⟨#[]⟩ then (⟨#[108]⟩ : ByteArray) else M) = mendCols t.cols := by
    rw [hmc, ← hM]
    by_cases he : F.take 20 = []
    · rw [if_pos he, if_pos (by rw [he])]
    · rw [if_neg he, if_neg (fun h => he (by
        have := congrArg (fun b : ByteArray => b.data.toList) h
        simpa using this))]
  obtain ⟨n, hn⟩ : ∃ n, (mendCols t.cols).size = n := ⟨_, rfl⟩
  rw [hn] at hn20
  refine CondC.mk (fun hc => ?_) (fun hc => ?_)
  · rw [if_pos (by simpa using hc)] at hCM
    simp
    rw [hCM]
    cases hall : t.all
    · simp
      refine loopC (fun d e H => ∃ (i : Nat) (X : Heap) (x0 x6 x7 x8 x9 x19 x34 x48 x55 : FV), d = t.rows.length - i ∧ i ≤ t.rows.length ∧
        H = [FV.sc (PV.str t.cols), FV.sc (PV.sl (List.map TRow.pv t.rows)), FV.sc (PV.bool t.box), FV.sc (PV.bool false)] :: [FV.sc (PV.str ByteArray.empty), FV.own [], FV.sc (PV.bool false), FV.sc (PV.bool false)] :: [FV.sc (PV.str (mendCols t.cols)), FV.own (((t.rows.take i).map (mendRow n)).map TRow.pv), FV.sc (PV.bool t.box), FV.sc (PV.bool false)] :: X ∧
        e = [(0, x0), (1, .ptr 0 0), (2, .ptr 1 0), (3, .sc (.str (mendCols t.cols))), (4, .ptr 2 0), (6, x6), (7, x7), (8, x8), (9, x9), (19, x19), (31, .sc (.sl (t.rows.map TRow.pv))), (32, .sc (.int .i64 t.rows.length)), (33, .sc (.int .i64 i)), (34, x34), (48, x48), (55, x55)]) (d := t.rows.length)
        ⟨0, [], _, _, _, _, _, _, _, _, _, rfl, by omega, by simp, rfl⟩ ?_
      rintro d e H ⟨i, X, x0, x6, x7, x8, x9, x19, x34, x48, x55, rfl, hi, rfl, rfl⟩
      simp
      refine CondC.mk (fun hlt => ?_) (fun hlt => ?_)
      · simp at hlt
        have hr := ht.cells _ (List.getElem_mem hlt)
        have htk : t.rows.take (i + 1) = t.rows.take i ++ [t.rows[i]] := List.take_succ_eq_append_getElem hlt
        have hrl := ht.rows
        simp [hlt, TRow.pv]
        obtain ⟨r, hrr⟩ : ∃ r, t.rows[i] = r := ⟨_, rfl⟩
        rw [hrr] at hr htk
        simp only [hrr]
        obtain ⟨c0, hc0⟩ : ∃ c0 : List FV, [FV.sc (PV.str t.cols), FV.sc (PV.sl (List.map TRow.pv t.rows)), FV.sc (PV.bool t.box), FV.sc (PV.bool false)] = c0 := ⟨_, rfl⟩
        refine loopC (fun d e H => ∃ (k : Nat) (x9 x48 x55 : FV), d = n - k ∧ k ≤ n ∧ (r.rule = true → k = 0) ∧
          H = c0 :: [FV.sc (PV.str ByteArray.empty), FV.own [], FV.sc (PV.bool false), FV.sc (PV.bool false)] :: [FV.sc (PV.str (mendCols t.cols)), FV.own (((t.rows.take i).map (mendRow n)).map TRow.pv), FV.sc (PV.bool t.box), FV.sc (PV.bool false)] :: (X ++ [[FV.sc (.bool r.rule), FV.sc (.sl (r.cells.map gl))], [FV.sc (.bool r.rule), FV.own (((List.range k).map (cellM r)).map gl)]]) ∧
          e = [(0, x0), (1, .ptr 0 0), (2, .ptr 1 0), (3, .sc (.str (mendCols t.cols))), (4, .ptr 2 0), (6, .ptr (X.length + 1 + 1 + 1) 0), (7, .ptr (X.length + 1 + 1 + 1 + 1) 0), (8, .sc (.int .i64 k)), (9, x9), (19, x19), (31, .sc (.sl (t.rows.map TRow.pv))), (32, .sc (.int .i64 t.rows.length)), (33, .sc (.int .i64 i)), (34, .sc (.bool true)), (48, x48), (55, x55)]) (d := n)
          ⟨0, x9, x48, x55, rfl, by omega, by simp, ?_, ?_⟩ ?_
        · rw [hc0]; simp
        · rfl
        · rintro d e H ⟨k, x9, x48, x55, rfl, hk, hrk, rfl, rfl⟩
          have hmr := mendRow_eq n r
          by_cases hkn : k < n ∧ r.rule = false
          · obtain ⟨hkn, hrule⟩ := hkn
            have hkn' : k < (mendCols t.cols).size := by omega
            have hnk : (List.range (k + 1)).map (cellM r) = (List.range k).map (cellM r) ++ [cellM r k] := by rw [List.range_succ, List.map_append]; rfl
            simp [hkn', hrule]
            by_cases hkc : k < r.cells.length
            · have sq := treeSqueeze r.cells[k] (hr.2 _ (List.getElem_mem hkc))
              have hcm : cellM r k = squeeze r.cells[k] := by simp [cellM, hkc]
              simp only [gl] at sq
              simp [hkc, gl]
              refine CallQ.mk (Call.pure callable77 (by simp) (by simp) sq) ?_
              simp
              exact ⟨sized1l, sizedGlC r k, sized1l, by unfold lenMax; omega, n - (k + 1), by omega, k + 1, rfl, by omega, by rw [List.range_succ, List.map_append]; simp [hcm, gl], by rw [wrap64 (by omega) (by omega)]; omega⟩
            · have hcm : cellM r k = [] := by simp [cellM, hkc]
              simp [hkc]
              exact ⟨sized1l, sizedGlC r k, sized1l, by unfold lenMax; omega, n - (k + 1), by omega, k + 1, rfl, by omega, by rw [List.range_succ, List.map_append]; simp [hcm, gl], by rw [wrap64 (by omega) (by omega)]; omega⟩
          · have hcells : (mendRow n r).cells = (List.range k).map (cellM r) := by
              rw [hmr]
              cases hrule : r.rule
              · simp only [hrule, and_true] at hkn
                obtain rfl : k = n := by omega
                rfl
              · rw [hrk hrule]; rfl
            have hrow : (mendRow n r).pv = .agg [.bool r.rule, .sl (((List.range k).map (cellM r)).map gl)] := by
              rw [TRow.pv, hcells]; rfl
            by_cases hk2 : k < (mendCols t.cols).size
            · have hrule : r.rule = true := by
                cases hrule : r.rule
                · exact absurd ⟨by omega, hrule⟩ hkn
                · rfl
              simp [hk2, hrule]
              exact ⟨sizedAgg2, sizedTR2 _ _ _, sizedAgg2, by unfold lenMax; omega, t.rows.length - (i + 1), by omega, i + 1, rfl, by omega, ⟨hc0.symm, by rw [← List.map_take, ← List.map_take, htk, List.map_append]; simp [hrow, hrule]⟩, by rw [wrap64 (by omega) (by omega)]; omega⟩
            · simp [hk2]
              exact ⟨sizedAgg2, sizedTR2 _ _ _, sizedAgg2, by unfold lenMax; omega, t.rows.length - (i + 1), by omega, i + 1, rfl, by omega, ⟨hc0.symm, by rw [← List.map_take, ← List.map_take, htk, List.map_append]; simp [hrow]⟩, by rw [wrap64 (by omega) (by omega)]; omega⟩
      · simp at hlt
        simp [List.take_of_length_le hlt]
        exact ⟨rfl, by simp [mendT, hn]; exact List.take_of_length_le (by simpa using hlt), rfl, by simp [mendT, hall]⟩
    · simp
      refine loopC (fun d e H => ∃ (i : Nat) (X : Heap) (x0 x6 x7 x8 x9 x19 x34 x48 x55 : FV), d = t.rows.length - i ∧ i ≤ t.rows.length ∧
        H = [FV.sc (PV.str t.cols), FV.sc (PV.sl (List.map TRow.pv t.rows)), FV.sc (PV.bool t.box), FV.sc (PV.bool true)] :: [FV.sc (PV.str ByteArray.empty), FV.own [], FV.sc (PV.bool false), FV.sc (PV.bool false)] :: [FV.sc (PV.str (mendCols t.cols)), FV.own (((t.rows.take i).map (mendRow n)).map TRow.pv), FV.sc (PV.bool t.box), FV.sc (PV.bool t.box)] :: X ∧
        e = [(0, x0), (1, .ptr 0 0), (2, .ptr 1 0), (3, .sc (.str (mendCols t.cols))), (4, .ptr 2 0), (6, x6), (7, x7), (8, x8), (9, x9), (19, x19), (31, .sc (.sl (t.rows.map TRow.pv))), (32, .sc (.int .i64 t.rows.length)), (33, .sc (.int .i64 i)), (34, x34), (48, x48), (55, x55)]) (d := t.rows.length)
        ⟨0, [], _, _, _, _, _, _, _, _, _, rfl, by omega, by simp, rfl⟩ ?_
      rintro d e H ⟨i, X, x0, x6, x7, x8, x9, x19, x34, x48, x55, rfl, hi, rfl, rfl⟩
      simp
      refine CondC.mk (fun hlt => ?_) (fun hlt => ?_)
      · simp at hlt
        have hr := ht.cells _ (List.getElem_mem hlt)
        have htk : t.rows.take (i + 1) = t.rows.take i ++ [t.rows[i]] := List.take_succ_eq_append_getElem hlt
        have hrl := ht.rows
        simp [hlt, TRow.pv]
        obtain ⟨r, hrr⟩ : ∃ r, t.rows[i] = r := ⟨_, rfl⟩
        rw [hrr] at hr htk
        simp only [hrr]
        obtain ⟨c0, hc0⟩ : ∃ c0 : List FV, [FV.sc (PV.str t.cols), FV.sc (PV.sl (List.map TRow.pv t.rows)), FV.sc (PV.bool t.box), FV.sc (PV.bool true)] = c0 := ⟨_, rfl⟩
        refine loopC (fun d e H => ∃ (k : Nat) (x9 x48 x55 : FV), d = n - k ∧ k ≤ n ∧ (r.rule = true → k = 0) ∧
          H = c0 :: [FV.sc (PV.str ByteArray.empty), FV.own [], FV.sc (PV.bool false), FV.sc (PV.bool false)] :: [FV.sc (PV.str (mendCols t.cols)), FV.own (((t.rows.take i).map (mendRow n)).map TRow.pv), FV.sc (PV.bool t.box), FV.sc (PV.bool t.box)] :: (X ++ [[FV.sc (.bool r.rule), FV.sc (.sl (r.cells.map gl))], [FV.sc (.bool r.rule), FV.own (((List.range k).map (cellM r)).map gl)]]) ∧
          e = [(0, x0), (1, .ptr 0 0), (2, .ptr 1 0), (3, .sc (.str (mendCols t.cols))), (4, .ptr 2 0), (6, .ptr (X.length + 1 + 1 + 1) 0), (7, .ptr (X.length + 1 + 1 + 1 + 1) 0), (8, .sc (.int .i64 k)), (9, x9), (19, x19), (31, .sc (.sl (t.rows.map TRow.pv))), (32, .sc (.int .i64 t.rows.length)), (33, .sc (.int .i64 i)), (34, .sc (.bool true)), (48, x48), (55, x55)]) (d := n)
          ⟨0, x9, x48, x55, rfl, by omega, by simp, ?_, ?_⟩ ?_
        · rw [hc0]; simp
        · rfl
        · rintro d e H ⟨k, x9, x48, x55, rfl, hk, hrk, rfl, rfl⟩
          have hmr := mendRow_eq n r
          by_cases hkn : k < n ∧ r.rule = false
          · obtain ⟨hkn, hrule⟩ := hkn
            have hkn' : k < (mendCols t.cols).size := by omega
            have hnk : (List.range (k + 1)).map (cellM r) = (List.range k).map (cellM r) ++ [cellM r k] := by rw [List.range_succ, List.map_append]; rfl
            simp [hkn', hrule]
            by_cases hkc : k < r.cells.length
            · have sq := treeSqueeze r.cells[k] (hr.2 _ (List.getElem_mem hkc))
              have hcm : cellM r k = squeeze r.cells[k] := by simp [cellM, hkc]
              simp only [gl] at sq
              simp [hkc, gl]
              refine CallQ.mk (Call.pure callable77 (by simp) (by simp) sq) ?_
              simp
              exact ⟨sized1l, sizedGlC r k, sized1l, by unfold lenMax; omega, n - (k + 1), by omega, k + 1, rfl, by omega, by rw [List.range_succ, List.map_append]; simp [hcm, gl], by rw [wrap64 (by omega) (by omega)]; omega⟩
            · have hcm : cellM r k = [] := by simp [cellM, hkc]
              simp [hkc]
              exact ⟨sized1l, sizedGlC r k, sized1l, by unfold lenMax; omega, n - (k + 1), by omega, k + 1, rfl, by omega, by rw [List.range_succ, List.map_append]; simp [hcm, gl], by rw [wrap64 (by omega) (by omega)]; omega⟩
          · have hcells : (mendRow n r).cells = (List.range k).map (cellM r) := by
              rw [hmr]
              cases hrule : r.rule
              · simp only [hrule, and_true] at hkn
                obtain rfl : k = n := by omega
                rfl
              · rw [hrk hrule]; rfl
            have hrow : (mendRow n r).pv = .agg [.bool r.rule, .sl (((List.range k).map (cellM r)).map gl)] := by
              rw [TRow.pv, hcells]; rfl
            by_cases hk2 : k < (mendCols t.cols).size
            · have hrule : r.rule = true := by
                cases hrule : r.rule
                · exact absurd ⟨by omega, hrule⟩ hkn
                · rfl
              simp [hk2, hrule]
              exact ⟨sizedAgg2, sizedTR2 _ _ _, sizedAgg2, by unfold lenMax; omega, t.rows.length - (i + 1), by omega, i + 1, rfl, by omega, ⟨hc0.symm, by rw [← List.map_take, ← List.map_take, htk, List.map_append]; simp [hrow, hrule]⟩, by rw [wrap64 (by omega) (by omega)]; omega⟩
            · simp [hk2]
              exact ⟨sizedAgg2, sizedTR2 _ _ _, sizedAgg2, by unfold lenMax; omega, t.rows.length - (i + 1), by omega, i + 1, rfl, by omega, ⟨hc0.symm, by rw [← List.map_take, ← List.map_take, htk, List.map_append]; simp [hrow]⟩, by rw [wrap64 (by omega) (by omega)]; omega⟩
      · simp at hlt
        simp [List.take_of_length_le hlt]
        exact ⟨rfl, by simp [mendT, hn]; exact List.take_of_length_le (by simpa using hlt), rfl, by simp [mendT, hall]⟩
  · rw [if_neg (by simpa using hc)] at hCM
    simp
    rw [hCM]
    cases hall : t.all
    · simp
      refine loopC (fun d e H => ∃ (i : Nat) (X : Heap) (x0 x6 x7 x8 x9 x19 x34 x48 x55 : FV), d = t.rows.length - i ∧ i ≤ t.rows.length ∧
        H = [FV.sc (PV.str t.cols), FV.sc (PV.sl (List.map TRow.pv t.rows)), FV.sc (PV.bool t.box), FV.sc (PV.bool false)] :: [FV.sc (PV.str ByteArray.empty), FV.own [], FV.sc (PV.bool false), FV.sc (PV.bool false)] :: [FV.sc (PV.str (mendCols t.cols)), FV.own (((t.rows.take i).map (mendRow n)).map TRow.pv), FV.sc (PV.bool t.box), FV.sc (PV.bool false)] :: X ∧
        e = [(0, x0), (1, .ptr 0 0), (2, .ptr 1 0), (3, .sc (.str (mendCols t.cols))), (4, .ptr 2 0), (6, x6), (7, x7), (8, x8), (9, x9), (19, x19), (31, .sc (.sl (t.rows.map TRow.pv))), (32, .sc (.int .i64 t.rows.length)), (33, .sc (.int .i64 i)), (34, x34), (48, x48), (55, x55)]) (d := t.rows.length)
        ⟨0, [], _, _, _, _, _, _, _, _, _, rfl, by omega, by simp, rfl⟩ ?_
      rintro d e H ⟨i, X, x0, x6, x7, x8, x9, x19, x34, x48, x55, rfl, hi, rfl, rfl⟩
      simp
      refine CondC.mk (fun hlt => ?_) (fun hlt => ?_)
      · simp at hlt
        have hr := ht.cells _ (List.getElem_mem hlt)
        have htk : t.rows.take (i + 1) = t.rows.take i ++ [t.rows[i]] := List.take_succ_eq_append_getElem hlt
        have hrl := ht.rows
        simp [hlt, TRow.pv]
        obtain ⟨r, hrr⟩ : ∃ r, t.rows[i] = r := ⟨_, rfl⟩
        rw [hrr] at hr htk
        simp only [hrr]
        obtain ⟨c0, hc0⟩ : ∃ c0 : List FV, [FV.sc (PV.str t.cols), FV.sc (PV.sl (List.map TRow.pv t.rows)), FV.sc (PV.bool t.box), FV.sc (PV.bool false)] = c0 := ⟨_, rfl⟩
        refine loopC (fun d e H => ∃ (k : Nat) (x9 x48 x55 : FV), d = n - k ∧ k ≤ n ∧ (r.rule = true → k = 0) ∧
          H = c0 :: [FV.sc (PV.str ByteArray.empty), FV.own [], FV.sc (PV.bool false), FV.sc (PV.bool false)] :: [FV.sc (PV.str (mendCols t.cols)), FV.own (((t.rows.take i).map (mendRow n)).map TRow.pv), FV.sc (PV.bool t.box), FV.sc (PV.bool false)] :: (X ++ [[FV.sc (.bool r.rule), FV.sc (.sl (r.cells.map gl))], [FV.sc (.bool r.rule), FV.own (((List.range k).map (cellM r)).map gl)]]) ∧
          e = [(0, x0), (1, .ptr 0 0), (2, .ptr 1 0), (3, .sc (.str (mendCols t.cols))), (4, .ptr 2 0), (6, .ptr (X.length + 1 + 1 + 1) 0), (7, .ptr (X.length + 1 + 1 + 1 + 1) 0), (8, .sc (.int .i64 k)), (9, x9), (19, x19), (31, .sc (.sl (t.rows.map TRow.pv))), (32, .sc (.int .i64 t.rows.length)), (33, .sc (.int .i64 i)), (34, .sc (.bool true)), (48, x48), (55, x55)]) (d := n)
          ⟨0, x9, x48, x55, rfl, by omega, by simp, ?_, ?_⟩ ?_
        · rw [hc0]; simp
        · rfl
        · rintro d e H ⟨k, x9, x48, x55, rfl, hk, hrk, rfl, rfl⟩
          have hmr := mendRow_eq n r
          by_cases hkn : k < n ∧ r.rule = false
          · obtain ⟨hkn, hrule⟩ := hkn
            have hkn' : k < (mendCols t.cols).size := by omega
            have hnk : (List.range (k + 1)).map (cellM r) = (List.range k).map (cellM r) ++ [cellM r k] := by rw [List.range_succ, List.map_append]; rfl
            simp [hkn', hrule]
            by_cases hkc : k < r.cells.length
            · have sq := treeSqueeze r.cells[k] (hr.2 _ (List.getElem_mem hkc))
              have hcm : cellM r k = squeeze r.cells[k] := by simp [cellM, hkc]
              simp only [gl] at sq
              simp [hkc, gl]
              refine CallQ.mk (Call.pure callable77 (by simp) (by simp) sq) ?_
              simp
              exact ⟨sized1l, sizedGlC r k, sized1l, by unfold lenMax; omega, n - (k + 1), by omega, k + 1, rfl, by omega, by rw [List.range_succ, List.map_append]; simp [hcm, gl], by rw [wrap64 (by omega) (by omega)]; omega⟩
            · have hcm : cellM r k = [] := by simp [cellM, hkc]
              simp [hkc]
              exact ⟨sized1l, sizedGlC r k, sized1l, by unfold lenMax; omega, n - (k + 1), by omega, k + 1, rfl, by omega, by rw [List.range_succ, List.map_append]; simp [hcm, gl], by rw [wrap64 (by omega) (by omega)]; omega⟩
          · have hcells : (mendRow n r).cells = (List.range k).map (cellM r) := by
              rw [hmr]
              cases hrule : r.rule
              · simp only [hrule, and_true] at hkn
                obtain rfl : k = n := by omega
                rfl
              · rw [hrk hrule]; rfl
            have hrow : (mendRow n r).pv = .agg [.bool r.rule, .sl (((List.range k).map (cellM r)).map gl)] := by
              rw [TRow.pv, hcells]; rfl
            by_cases hk2 : k < (mendCols t.cols).size
            · have hrule : r.rule = true := by
                cases hrule : r.rule
                · exact absurd ⟨by omega, hrule⟩ hkn
                · rfl
              simp [hk2, hrule]
              exact ⟨sizedAgg2, sizedTR2 _ _ _, sizedAgg2, by unfold lenMax; omega, t.rows.length - (i + 1), by omega, i + 1, rfl, by omega, ⟨hc0.symm, by rw [← List.map_take, ← List.map_take, htk, List.map_append]; simp [hrow, hrule]⟩, by rw [wrap64 (by omega) (by omega)]; omega⟩
            · simp [hk2]
              exact ⟨sizedAgg2, sizedTR2 _ _ _, sizedAgg2, by unfold lenMax; omega, t.rows.length - (i + 1), by omega, i + 1, rfl, by omega, ⟨hc0.symm, by rw [← List.map_take, ← List.map_take, htk, List.map_append]; simp [hrow]⟩, by rw [wrap64 (by omega) (by omega)]; omega⟩
      · simp at hlt
        simp [List.take_of_length_le hlt]
        exact ⟨rfl, by simp [mendT, hn]; exact List.take_of_length_le (by simpa using hlt), rfl, by simp [mendT, hall]⟩
    · simp
      refine loopC (fun d e H => ∃ (i : Nat) (X : Heap) (x0 x6 x7 x8 x9 x19 x34 x48 x55 : FV), d = t.rows.length - i ∧ i ≤ t.rows.length ∧
        H = [FV.sc (PV.str t.cols), FV.sc (PV.sl (List.map TRow.pv t.rows)), FV.sc (PV.bool t.box), FV.sc (PV.bool true)] :: [FV.sc (PV.str ByteArray.empty), FV.own [], FV.sc (PV.bool false), FV.sc (PV.bool false)] :: [FV.sc (PV.str (mendCols t.cols)), FV.own (((t.rows.take i).map (mendRow n)).map TRow.pv), FV.sc (PV.bool t.box), FV.sc (PV.bool t.box)] :: X ∧
        e = [(0, x0), (1, .ptr 0 0), (2, .ptr 1 0), (3, .sc (.str (mendCols t.cols))), (4, .ptr 2 0), (6, x6), (7, x7), (8, x8), (9, x9), (19, x19), (31, .sc (.sl (t.rows.map TRow.pv))), (32, .sc (.int .i64 t.rows.length)), (33, .sc (.int .i64 i)), (34, x34), (48, x48), (55, x55)]) (d := t.rows.length)
        ⟨0, [], _, _, _, _, _, _, _, _, _, rfl, by omega, by simp, rfl⟩ ?_
      rintro d e H ⟨i, X, x0, x6, x7, x8, x9, x19, x34, x48, x55, rfl, hi, rfl, rfl⟩
      simp
      refine CondC.mk (fun hlt => ?_) (fun hlt => ?_)
      · simp at hlt
        have hr := ht.cells _ (List.getElem_mem hlt)
        have htk : t.rows.take (i + 1) = t.rows.take i ++ [t.rows[i]] := List.take_succ_eq_append_getElem hlt
        have hrl := ht.rows
        simp [hlt, TRow.pv]
        obtain ⟨r, hrr⟩ : ∃ r, t.rows[i] = r := ⟨_, rfl⟩
        rw [hrr] at hr htk
        simp only [hrr]
        obtain ⟨c0, hc0⟩ : ∃ c0 : List FV, [FV.sc (PV.str t.cols), FV.sc (PV.sl (List.map TRow.pv t.rows)), FV.sc (PV.bool t.box), FV.sc (PV.bool true)] = c0 := ⟨_, rfl⟩
        refine loopC (fun d e H => ∃ (k : Nat) (x9 x48 x55 : FV), d = n - k ∧ k ≤ n ∧ (r.rule = true → k = 0) ∧
          H = c0 :: [FV.sc (PV.str ByteArray.empty), FV.own [], FV.sc (PV.bool false), FV.sc (PV.bool false)] :: [FV.sc (PV.str (mendCols t.cols)), FV.own (((t.rows.take i).map (mendRow n)).map TRow.pv), FV.sc (PV.bool t.box), FV.sc (PV.bool t.box)] :: (X ++ [[FV.sc (.bool r.rule), FV.sc (.sl (r.cells.map gl))], [FV.sc (.bool r.rule), FV.own (((List.range k).map (cellM r)).map gl)]]) ∧
          e = [(0, x0), (1, .ptr 0 0), (2, .ptr 1 0), (3, .sc (.str (mendCols t.cols))), (4, .ptr 2 0), (6, .ptr (X.length + 1 + 1 + 1) 0), (7, .ptr (X.length + 1 + 1 + 1 + 1) 0), (8, .sc (.int .i64 k)), (9, x9), (19, x19), (31, .sc (.sl (t.rows.map TRow.pv))), (32, .sc (.int .i64 t.rows.length)), (33, .sc (.int .i64 i)), (34, .sc (.bool true)), (48, x48), (55, x55)]) (d := n)
          ⟨0, x9, x48, x55, rfl, by omega, by simp, ?_, ?_⟩ ?_
        · rw [hc0]; simp
        · rfl
        · rintro d e H ⟨k, x9, x48, x55, rfl, hk, hrk, rfl, rfl⟩
          have hmr := mendRow_eq n r
          by_cases hkn : k < n ∧ r.rule = false
          · obtain ⟨hkn, hrule⟩ := hkn
            have hkn' : k < (mendCols t.cols).size := by omega
            have hnk : (List.range (k + 1)).map (cellM r) = (List.range k).map (cellM r) ++ [cellM r k] := by rw [List.range_succ, List.map_append]; rfl
            simp [hkn', hrule]
            by_cases hkc : k < r.cells.length
            · have sq := treeSqueeze r.cells[k] (hr.2 _ (List.getElem_mem hkc))
              have hcm : cellM r k = squeeze r.cells[k] := by simp [cellM, hkc]
              simp only [gl] at sq
              simp [hkc, gl]
              refine CallQ.mk (Call.pure callable77 (by simp) (by simp) sq) ?_
              simp
              exact ⟨sized1l, sizedGlC r k, sized1l, by unfold lenMax; omega, n - (k + 1), by omega, k + 1, rfl, by omega, by rw [List.range_succ, List.map_append]; simp [hcm, gl], by rw [wrap64 (by omega) (by omega)]; omega⟩
            · have hcm : cellM r k = [] := by simp [cellM, hkc]
              simp [hkc]
              exact ⟨sized1l, sizedGlC r k, sized1l, by unfold lenMax; omega, n - (k + 1), by omega, k + 1, rfl, by omega, by rw [List.range_succ, List.map_append]; simp [hcm, gl], by rw [wrap64 (by omega) (by omega)]; omega⟩
          · have hcells : (mendRow n r).cells = (List.range k).map (cellM r) := by
              rw [hmr]
              cases hrule : r.rule
              · simp only [hrule, and_true] at hkn
                obtain rfl : k = n := by omega
                rfl
              · rw [hrk hrule]; rfl
            have hrow : (mendRow n r).pv = .agg [.bool r.rule, .sl (((List.range k).map (cellM r)).map gl)] := by
              rw [TRow.pv, hcells]; rfl
            by_cases hk2 : k < (mendCols t.cols).size
            · have hrule : r.rule = true := by
                cases hrule : r.rule
                · exact absurd ⟨by omega, hrule⟩ hkn
                · rfl
              simp [hk2, hrule]
              exact ⟨sizedAgg2, sizedTR2 _ _ _, sizedAgg2, by unfold lenMax; omega, t.rows.length - (i + 1), by omega, i + 1, rfl, by omega, ⟨hc0.symm, by rw [← List.map_take, ← List.map_take, htk, List.map_append]; simp [hrow, hrule]⟩, by rw [wrap64 (by omega) (by omega)]; omega⟩
            · simp [hk2]
              exact ⟨sizedAgg2, sizedTR2 _ _ _, sizedAgg2, by unfold lenMax; omega, t.rows.length - (i + 1), by omega, i + 1, rfl, by omega, ⟨hc0.symm, by rw [← List.map_take, ← List.map_take, htk, List.map_append]; simp [hrow]⟩, by rw [wrap64 (by omega) (by omega)]; omega⟩
      · simp at hlt
        simp [List.take_of_length_le hlt]
        exact ⟨rfl, by simp [mendT, hn]; exact List.take_of_length_le (by simpa using hlt), rfl, by simp [mendT, hall]⟩
end Go.Proofs.YtlbjfjaleefiiaaDoor.Ev
end
section
namespace Go.Proofs.YtlbjfjaleefiiaaDoor.Ev
open Go
def nodeO (x : Node) : List FV := [.sc (.int .i64 x.kind), .sc (.int .i64 x.line), .sc (.int .i64 x.n), .own (x.text.map Glyph.pv), .own (x.kids.map Node.pv), .own (x.rows.map gl), .sc (.str x.grid.cols), .own (x.grid.rows.map TRow.pv), .sc (.bool x.grid.box), .sc (.bool x.grid.all)]
theorem sumMem {α : Type} (f : α → Nat) {l : List α} {x : α} (hx : x ∈ l) : f x ≤ sumBy f l := by
  induction l with
  | nil => cases hx
  | cons y l ih =>
    rw [sumBy]
    rcases List.mem_cons.1 hx with rfl | h
    · omega
    · have := ih h; omega
theorem sumLen {α : Type} (f : α → Nat) (h : ∀ x, 1 ≤ f x) (l : List α) : l.length ≤ sumBy f l := by
  induction l with
  | nil => simp [sumBy]
  | cons x l ih => rw [sumBy, List.length_cons]; have := h x; omega
theorem long_sizes {x : Node} (h : x.long ≤ 1073741824) : x.text.length ≤ 1073741824 ∧ x.kids.length ≤ 1073741824 ∧ x.rows.length ≤ 1073741824 ∧ x.grid.rows.length ≤ 1073741824 ∧ (∀ r ∈ x.rows, r.length ≤ 1073741824) ∧ (∀ r ∈ x.grid.rows, r.cells.length ≤ 1073741824 ∧ ∀ c ∈ r.cells, c.length ≤ 1073741824) ∧ ∀ y ∈ x.kids, y.long ≤ 1073741824 := by
  have he := Node.long_eq x
  have h1 := len_le_long x.kids
  have h2 : x.rows.length ≤ rowsLong x.rows := sumLen _ (fun r => by omega) _
  have h3 : x.grid.rows.length ≤ sumBy trowLong x.grid.rows := sumLen _ (fun r => by unfold trowLong; omega) _
  refine ⟨by omega, by omega, by omega, by omega, fun r hr => ?_, fun r hr => ?_, fun y hy => ?_⟩
  · have : 1 + r.length ≤ rowsLong x.rows := sumMem (fun r : List Glyph => 1 + r.length) hr
    omega
  · have h4 := sumMem trowLong hr
    have h5 : trowLong r = 1 + r.cells.length + sumBy List.length r.cells := rfl
    refine ⟨by omega, fun c hc => ?_⟩
    have := sumMem List.length hc
    omega
  · have := long_mem hy
    omega
theorem szNil {n : Nat} : Sized n [] := fun p hp => by simp at hp
theorem sizedSl {l : List PV} : Sized 1 [PV.sl l] := fun p hp => by rw [List.mem_singleton.1 hp]; rfl
theorem sizedTake {n : Nat} {l : List PV} (h : Sized n l) (i : Nat) : Sized n (l.take i) := fun p hp => h p (List.mem_of_mem_take hp)
theorem takeMap {l : List PV} {i : Nat} {x : PV} (h : l[i]? = some x) : l.take i ++ [x] = l.take (i + 1) := by
  rw [List.take_add_one, h]; rfl
theorem sizedT (l : List TRow) : Sized 2 (l.map TRow.pv) := fun p hp => by simp only [List.mem_map] at hp; obtain ⟨x, _, rfl⟩ := hp; rfl
set_option linter.unusedSimpArgs false in
set_option maxRecDepth 20000 in
set_option maxHeartbeats 16000000 in
theorem conCopied : ∀ (m : Nat) (x : Node), SizeOf.sizeOf x < m → x.long ≤ 1073741824 → PCon C0 34 [x.pv.toFV] (.oagg (nodeO x)) := by
  intro m
  induction m with
  | zero => intro x h; omega
  | succ m ih =>
    intro x hm hx
    obtain ⟨l1, l2, l3, l4, l5, l6, l7⟩ := long_sizes hx
    have hks : ∀ y ∈ x.kids, SizeOf.sizeOf y < m := fun y hy => by
      have h1 := List.sizeOf_lt_of_mem hy
      cases x; simp only [Node.kids_mk] at h1; simp at hm; omega
    rw [Node.pv_eq]
    obtain ⟨k, ln, n, text, kids, rows, grid⟩ := x
    obtain ⟨cols, trows, box, all⟩ := grid
    simp only [Node.kind_mk, Node.line_mk, Node.n_mk, Node.text_mk, Node.kids_mk, Node.rows_mk, Node.grid_mk] at *
    have sg := sized_gl text
    refine pcon_cellO (C := C0) (fn := Tryd.f34) Tryd.func34 rfl (t := 2) (n := 10) (ty := 48) rfl (by simp [aggOf]) (by simp) mixed (mv := mv34) (vars := vars34) (c := Tryd.f34.body.getD .skip) (by kernel_rfl) ?_
    have XC : ∀ (r1 r2 r3 : List PV), True := fun _ _ _ => trivial
    simp [Tryd.f34, gl, sg, lenMax, szNil]
    refine ⟨by omega, ?_⟩
    have w1 : ∀ {i : Nat}, i < 1073741824 → IntKind.i64.wrap ((i : Int) + 1) = ((i + 1 : Nat) : Int) := fun {i} h => by rw [wrap64 (by omega) (by omega)]; omega
    refine loopC (fun d e H' => ∃ (i : Nat) (x7 x33 : FV), H' = [[.sc (.int .i64 k), .sc (.int .i64 ln), .sc (.int .i64 n), .own (text.map Glyph.pv), .own [], .own ((rows.take i).map gl), .sc (.str cols), .own [], .sc (.bool box), .sc (.bool all)], nodeO Node.zero] ∧ d = rows.length - i ∧ i ≤ rows.length ∧
      e = [(0, .agg [.sc (.int .i64 k), .sc (.int .i64 ln), .sc (.int .i64 n), .sc (.sl (text.map Glyph.pv)), .sc (.sl (kids.map Node.pv)), .sc (.sl (rows.map gl)), .sc (.str cols), .sc (.sl (trows.map TRow.pv)), .sc (.bool box), .sc (.bool all)]), (1, .ptr 0 0), (2, .ptr 1 0), (3, .sc (.sl (rows.map gl))), (4, .sc (.sl (kids.map Node.pv))), (5, .sc (.sl (trows.map TRow.pv))), (7, x7), (9, .undef), (11, .undef), (12, .undef), (14, .undef), (30, .sc (.sl (rows.map gl))), (31, .sc (.int .i64 rows.length)), (32, .sc (.int .i64 i)), (33, x33), (44, .undef), (45, .undef), (46, .undef), (47, .undef), (58, .undef), (59, .undef), (60, .undef), (61, .undef), (68, .undef), (69, .undef), (70, .undef), (71, .undef)]) (d := rows.length) ⟨0, .undef, .undef, ?_, rfl, Nat.zero_le _, ?_⟩ ?_
    · rfl
    · simp
    · rintro d e H' ⟨i, x7, x33, rfl, rfl, hi, rfl⟩
      simp
      refine CondC.mk (fun hlt => ?_) (fun hlt => ?_)
      · simp at hlt
        have hq : (rows.map gl)[i]? = some (gl rows[i]) := by simp [hlt]
        have hr := l5 rows[i] (List.getElem_mem hlt)
        have ht := takeMap hq
        have sr := sizedTake (sizedGl rows) i
        generalize rows[i] = r at hq hr ht
        have s2 := sized_gl r
        simp only [gl] at ht
        simp [hq, gl, s2, lenMax, sr, w1 (i := i) (by omega), szNil, sizedSl]
        exact ⟨by omega, by omega, rows.length - (i + 1), by omega, i + 1, ht, rfl, by omega, by omega⟩
      · simp at hlt
        obtain rfl : i = rows.length := by omega
        have tl : (rows.map gl).take rows.length = rows.map gl := List.take_of_length_le (by simp)
        simp [tl]
        refine loopC (fun d e H' => ∃ (i : Nat) (x9 x47 : FV) (J : Heap), H' = [.sc (.int .i64 k), .sc (.int .i64 ln), .sc (.int .i64 n), .own (text.map Glyph.pv), .own ((kids.map Node.pv).take i), .own (rows.map gl), .sc (.str cols), .own [], .sc (.bool box), .sc (.bool all)] :: nodeO Node.zero :: J ∧ d = kids.length - i ∧ i ≤ kids.length ∧
          e = [(0, .agg [.sc (.int .i64 k), .sc (.int .i64 ln), .sc (.int .i64 n), .sc (.sl (text.map Glyph.pv)), .sc (.sl (kids.map Node.pv)), .sc (.sl (rows.map gl)), .sc (.str cols), .sc (.sl (trows.map TRow.pv)), .sc (.bool box), .sc (.bool all)]), (1, .ptr 0 0), (2, .ptr 1 0), (3, .sc (.sl (rows.map gl))), (4, .sc (.sl (kids.map Node.pv))), (5, .sc (.sl (trows.map TRow.pv))), (7, x7), (9, x9), (11, .undef), (12, .undef), (14, .undef), (30, .sc (.sl (rows.map gl))), (31, .sc (.int .i64 rows.length)), (32, .sc (.int .i64 rows.length)), (33, .sc (.bool false)), (44, .sc (.sl (kids.map Node.pv))), (45, .sc (.int .i64 kids.length)), (46, .sc (.int .i64 i)), (47, x47), (58, .undef), (59, .undef), (60, .undef), (61, .undef), (68, .undef), (69, .undef), (70, .undef), (71, .undef)]) (d := kids.length) ⟨0, .undef, .undef, [], ?_, rfl, Nat.zero_le _, ?_⟩ ?_
        · rfl
        · simp
          done
        · rintro d e H' ⟨i, x9, x47, J, rfl, rfl, hi2, rfl⟩
          simp
          refine CondC.mk (fun hlt2 => ?_) (fun hlt2 => ?_)
          · simp at hlt2
            have hq : (kids.map Node.pv)[i]? = some (kids[i]).pv := by simp [hlt2]
            have hy := List.getElem_mem hlt2
            have hyl := l7 _ hy
            have ihy := ih _ (hks _ hy) hyl
            have ht := takeMap hq
            have sr := sizedTake (sizedN kids) i
            generalize kids[i] = y at hq ht hyl ihy
            rw [Node.pv_eq] at hq ht ihy
            simp only [gl] at hq ht ihy
            simp at ihy
            simp [hq, gl]
            refine CallQ.mk (CallP.pure callable34 (by simp) (by simp [nodeO]) ihy) ?_
            simp [nodeO, lenMax, sr, sized1, w1 (i := i) (by omega)]
            exact ⟨by omega, kids.length - (i + 1), by omega, i + 1, ht, rfl, by omega, by omega⟩
          · simp at hlt2
            obtain rfl : i = kids.length := by omega
            have tk : (kids.map Node.pv).take kids.length = kids.map Node.pv := List.take_of_length_le (by simp)
            simp [tk]
            refine loopC (fun d e H' => ∃ (i : Nat) (x11 x12 x14 x61 x68 x69 x70 x71 : FV) (J : Heap), H' = [.sc (.int .i64 k), .sc (.int .i64 ln), .sc (.int .i64 n), .own (text.map Glyph.pv), .own (kids.map Node.pv), .own (rows.map gl), .sc (.str cols), .own ((trows.map TRow.pv).take i), .sc (.bool box), .sc (.bool all)] :: nodeO Node.zero :: J ∧ d = trows.length - i ∧ i ≤ trows.length ∧
              e = [(0, .agg [.sc (.int .i64 k), .sc (.int .i64 ln), .sc (.int .i64 n), .sc (.sl (text.map Glyph.pv)), .sc (.sl (kids.map Node.pv)), .sc (.sl (rows.map gl)), .sc (.str cols), .sc (.sl (trows.map TRow.pv)), .sc (.bool box), .sc (.bool all)]), (1, .ptr 0 0), (2, .ptr 1 0), (3, .sc (.sl (rows.map gl))), (4, .sc (.sl (kids.map Node.pv))), (5, .sc (.sl (trows.map TRow.pv))), (7, x7), (9, x9), (11, x11), (12, x12), (14, x14), (30, .sc (.sl (rows.map gl))), (31, .sc (.int .i64 rows.length)), (32, .sc (.int .i64 rows.length)), (33, .sc (.bool false)), (44, .sc (.sl (kids.map Node.pv))), (45, .sc (.int .i64 kids.length)), (46, .sc (.int .i64 kids.length)), (47, .sc (.bool false)), (58, .sc (.sl (trows.map TRow.pv))), (59, .sc (.int .i64 trows.length)), (60, .sc (.int .i64 i)), (61, x61), (68, x68), (69, x69), (70, x70), (71, x71)]) (d := trows.length) ⟨0, .undef, .undef, .undef, .undef, .undef, .undef, .undef, .undef, J, ?_, rfl, Nat.zero_le _, ?_⟩ ?_
            · rfl
            · simp
              done
            · rintro d e H' ⟨i, x11, x12, x14, x61, x68, x69, x70, x71, J, rfl, rfl, hi3, rfl⟩
              simp
              refine CondC.mk (fun hlt3 => ?_) (fun hlt3 => ?_)
              · simp at hlt3
                have hq : (trows.map TRow.pv)[i]? = some (trows[i]).pv := by simp [hlt3]
                obtain ⟨hy1, hy2⟩ := l6 _ (List.getElem_mem hlt3)
                have ht := takeMap hq
                have sr := sizedTake (sizedT trows) i
                generalize trows[i] = y at hq ht hy1 hy2
                obtain ⟨rule, cs⟩ := y
                simp only [TRow.pv] at hq ht hy1 hy2
                simp [hq]
                refine loopC (fun d e H' => ∃ (j : Nat) (x14 x71 : FV), H' = [.sc (.int .i64 k), .sc (.int .i64 ln), .sc (.int .i64 n), .own (text.map Glyph.pv), .own (kids.map Node.pv), .own (rows.map gl), .sc (.str cols), .own ((trows.map TRow.pv).take i), .sc (.bool box), .sc (.bool all)] :: nodeO Node.zero :: (J ++ [[.sc (.bool rule), .sc (.sl (cs.map gl))], [.sc (.bool rule), .own ((cs.map gl).take j)]]) ∧ d = cs.length - j ∧ j ≤ cs.length ∧
                  e = [(0, .agg [.sc (.int .i64 k), .sc (.int .i64 ln), .sc (.int .i64 n), .sc (.sl (text.map Glyph.pv)), .sc (.sl (kids.map Node.pv)), .sc (.sl (rows.map gl)), .sc (.str cols), .sc (.sl (trows.map TRow.pv)), .sc (.bool box), .sc (.bool all)]), (1, .ptr 0 0), (2, .ptr 1 0), (3, .sc (.sl (rows.map gl))), (4, .sc (.sl (kids.map Node.pv))), (5, .sc (.sl (trows.map TRow.pv))), (7, x7), (9, x9), (11, .ptr (J.length + 2) 0), (12, .ptr (J.length + 3) 0), (14, x14), (30, .sc (.sl (rows.map gl))), (31, .sc (.int .i64 rows.length)), (32, .sc (.int .i64 rows.length)), (33, .sc (.bool false)), (44, .sc (.sl (kids.map Node.pv))), (45, .sc (.int .i64 kids.length)), (46, .sc (.int .i64 kids.length)), (47, .sc (.bool false)), (58, .sc (.sl (trows.map TRow.pv))), (59, .sc (.int .i64 trows.length)), (60, .sc (.int .i64 i)), (61, .sc (.bool true)), (68, .sc (.sl (cs.map gl))), (69, .sc (.int .i64 cs.length)), (70, .sc (.int .i64 j)), (71, x71)]) (d := cs.length) ⟨0, x14, x71, ?_, rfl, Nat.zero_le _, ?_⟩ ?_
                · simp
                  done
                · simp [hlt3]
                  done
                · rintro d e H' ⟨j, x14, x71, rfl, rfl, hj, rfl⟩
                  simp
                  refine CondC.mk (fun hlt4 => ?_) (fun hlt4 => ?_)
                  · simp at hlt4
                    have hqc : (cs.map gl)[j]? = some (gl cs[j]) := by simp [hlt4]
                    have hr := hy2 cs[j] (List.getElem_mem hlt4)
                    have htc := takeMap hqc
                    have src := sizedTake (sizedGl cs) j
                    generalize cs[j] = r at hqc hr htc
                    have s2 := sized_gl r
                    simp only [gl] at htc
                    simp [hqc, gl, s2, lenMax, src, w1 (i := j) (by omega), szNil, sizedSl]
                    exact ⟨by omega, by omega, cs.length - (j + 1), by omega, j + 1, htc, rfl, by omega, by omega⟩
                  · simp at hlt4
                    obtain rfl : j = cs.length := by omega
                    have tc : (cs.map gl).take cs.length = cs.map gl := List.take_of_length_le (by simp)
                    have s3 : ∀ (b : Bool) (l : List PV), Sized 2 [PV.agg [PV.bool b, PV.sl l]] := fun b l p hp => by rw [List.mem_singleton.1 hp]; rfl
                    simp [tc, lenMax, sr, s3, w1 (i := i) (by omega)]
                    exact ⟨by omega, trows.length - (i + 1), by omega, i + 1, ht, rfl, by omega, by omega⟩
              · simp at hlt3
                obtain rfl : i = trows.length := by omega
                have tt : (trows.map TRow.pv).take trows.length = trows.map TRow.pv := List.take_of_length_le (by simp)
                simp [tt, nodeO]
end Go.Proofs.YtlbjfjaleefiiaaDoor.Ev
end
section
namespace Go.Proofs.YtlbjfjaleefiiaaDoor.Ev
open Go
set_option linter.unusedSimpArgs false in
set_option maxRecDepth 20000 in
set_option maxHeartbeats 4000000 in
theorem treeCopied (l : List (List Glyph)) (hl : l.length ≤ 1073741824) (hs : ∀ r ∈ l, r.length ≤ 1073741824) : PCon C0 78 [.sc (.sl (l.map gl))] (.own (l.map gl)) := by
  refine penter78 ?_
  simp [Tryd.f78]
  refine loopC (fun d e H => ∃ (i : Nat) (x5 x9 : FV), d = l.length - i ∧ i ≤ l.length ∧ e = [(0, .sc (.sl (l.map gl))), (2, .own []), (3, .own ((l.take i).map gl)), (5, x5), (6, .sc (.sl (l.map gl))), (7, .sc (.int .i64 l.length)), (8, .sc (.int .i64 i)), (9, x9)]) (d := l.length) ⟨0, _, _, rfl, by omega, rfl⟩ ?_
  rintro d e H ⟨i, x5, x9, rfl, hi, rfl⟩
  simp
  refine CondC.mk (fun hlt => ?_) (fun hlt => ?_)
  · simp at hlt
    have cl := cloneG l[i] (by have := hs _ (List.getElem_mem hlt); unfold lenMax; omega)
    have htk : l.take (i + 1) = l.take i ++ [l[i]] := List.take_succ_eq_append_getElem hlt
    simp only [gl] at cl
    simp [hlt, gl]
    refine CallQ.mk (Call.pure callable54 (by simp) (by simp) cl) ?_
    simp
    have s1 : Sized 1 ((l.map gl).take i) := by
      intro p hp
      obtain ⟨x, _, rfl⟩ := List.mem_map.1 (List.mem_of_mem_take hp)
      rfl
    refine ⟨sized1l, s1, sized1l, by unfold lenMax; omega, l.length - (i + 1), by omega, i + 1, rfl, by omega, ?_, by rw [wrap64 (by omega) (by omega)]; omega⟩
    rw [← List.map_take, ← List.map_take, htk, List.map_append]; rfl
  · simp at hlt
    simp
    exact List.take_of_length_le (by simpa using hlt)
theorem sumBy_mem' {α : Type} (f : α → Nat) {l : List α} {x : α} (h : x ∈ l) : f x ≤ sumBy f l := by
  induction l with
  | nil => cases h
  | cons y l ih =>
    rw [sumBy]
    rcases List.mem_cons.1 h with rfl | h
    · omega
    · have := ih h; omega
theorem len_le_sum {α : Type} (f : α → Nat) (h : ∀ x, 1 ≤ f x) (l : List α) : l.length ≤ sumBy f l := by
  induction l with
  | nil => simp
  | cons x l ih => rw [sumBy, List.length_cons]; have := h x; omega
def Node.Small (x : Node) : Prop := x.long ≤ 1073741824
theorem tblS_of {t : Tbl} (h : t.cols.size + sumBy trowLong t.rows ≤ 1073741824) : TblS t where
  cols := by omega
  rows := by have := len_le_sum trowLong (fun r => by unfold trowLong; omega) t.rows; omega
  cells r hr := by
    have h1 := sumBy_mem' trowLong hr
    simp only [trowLong] at h1
    refine ⟨by omega, fun c hc => ?_⟩
    have h2 := sumBy_mem' List.length hc
    omega
theorem Node.Small.tbl {x : Node} (h : x.Small) : TblS x.grid := tblS_of (by unfold Node.Small at h; rw [Node.long_eq] at h; omega)
theorem Node.Small.text {x : Node} (h : x.Small) : x.text.length ≤ 1073741824 := by unfold Node.Small at h; rw [Node.long_eq] at h; omega
theorem Node.Small.rows {x : Node} (h : x.Small) : x.rows.length ≤ 1073741824 ∧ ∀ r ∈ x.rows, r.length ≤ 1073741824 := by
  unfold Node.Small at h; rw [Node.long_eq, rowsLong] at h
  refine ⟨?_, fun r hr => ?_⟩
  · have := len_le_sum (fun r : List Glyph => 1 + r.length) (fun r => by omega) x.rows; omega
  · have := sumBy_mem' (fun r : List Glyph => 1 + r.length) hr; omega
theorem Node.Small.kids {x : Node} (h : x.Small) : x.kids.length ≤ 1073741824 ∧ ∀ y ∈ x.kids, y.Small := by
  unfold Node.Small at h; rw [Node.long_eq] at h
  refine ⟨?_, fun y hy => ?_⟩
  · have := len_le_long x.kids; omega
  · have := long_mem hy; unfold Node.Small; omega
set_option linter.unusedSimpArgs false in
set_option maxRecDepth 20000 in
set_option maxHeartbeats 4000000 in
theorem treeOwn (x : Node) (k : Int) (hx : x.Small) : PCon C0 70 [x.pv.toFV, .sc (.int .i64 k)] (ownN x k).pv.toFV := by
  by_cases h5 : 1 ≤ k ∧ k ≤ 5
  · exact treeOwn5 x k h5 hx.text
  · have ht : hasText k = false := by simp [hasText]; omega
    have hn : hasN k = false := by simp [hasN]; omega
    refine penter70 ?_
    rw [Node.pv_eq]
    have cf := treeFull k
    rw [ht, hn] at cf
    simp [Tryd.f70, gl]
    refine CallQ.mk (Call.pure callable72 (by simp) (by simp) cf) ?_
    by_cases h6 : k = 6
    · have cc := treeCopied x.rows hx.rows.1 hx.rows.2
      subst h6
      simp
      refine CallQ.mk (Call.pure callable78 (by simp) (by simp) cc) ?_
      simp [Node.pv_eq, gl, ownN, ht, hn, clamp, noTbl]
    · by_cases h7 : k = 7
      · have cc := treeMend x.grid hx.tbl
        subst h7
        simp [Tbl.pv] at cc ⊢
        refine CallQ.mk (Call.pure callable79 (by simp) (by simp) cc) ?_
        simp [Node.pv_eq, gl, ownN, ht, hn, clamp, noTbl]
      · simp [h6, h7]
        simp [Node.pv_eq, gl, ownN, ht, hn, clamp, h6, h7, noTbl]
theorem fitS : Fit Node.Small where
  own x hx := treeOwn x x.kind hx
  para x hx := treeOwn x 3 hx
  kids x hx := hx.kids.2
  len x hx := by have := hx.kids.1; omega
end Go.Proofs.YtlbjfjaleefiiaaDoor.Ev
end
