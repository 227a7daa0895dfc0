/- Of what the law TblBack needs: part 15. -/
import Derived.Test.YtabgeenhpfnhdaaDoorBTB13
import Derived.Test.YtabgeenhpfnhdaaDoorBTB14
set_option linter.unusedSimpArgs false
set_option linter.unusedVariables false
section
namespace Go.Proofs.YtabgeenhpfnhdaaDoor.Ev
open Go
structure Tr where
  l : List ByteArray
  at_ : Nat
  line : Int
  cols : ByteArray
  rows : List TRow
  box : Bool
  all : Bool
  bad : List Dg
def trC (R : Tr) : List FV := [.sc (.sl (R.l.map .str)), .sc (.int .i64 R.at_), .sc (.int .i64 R.line), .sc (.str R.cols), .own (R.rows.map TRow.pv), .sc (.bool R.box), .sc (.bool R.all), .own (R.bad.map Dg.pv)]
structure TrS (R : Tr) : Prop where
  len : R.l.length ≤ 1073741824
  at_ : R.at_ ≤ 1073741825
  line0 : 0 ≤ R.line
  line1 : R.line ≤ 1073741824
  size : ∀ s ∈ R.l, s.size ≤ 1073741824
  bad : R.bad.length ≤ 68719476736
theorem trC_und (R : Tr) (n : Nat) : ∀ f ∈ body (trC R), f.und0 n = true := fun f hf => by
  simp only [body, trC, List.mem_cons, List.not_mem_nil, or_false] at hf
  rcases hf with rfl | rfl | rfl | rfl | rfl | rfl | rfl | rfl <;> rfl
def HOkT (H : Heap) : Prop := ∀ fs ∈ H, ∀ f ∈ body fs, f.und0 H.length = true
theorem HOkT.set {H : Heap} {b : Nat} {R : Tr} (h : HOkT H) : ∀ fs ∈ H.set b (trC R), ∀ f ∈ body fs, f.und0 H.length = true := fun gs hg f hf' => by
  rcases List.mem_or_eq_of_mem_set hg with h' | rfl
  · exact h gs h' f hf'
  · exact trC_und R _ f hf'
def tellT (R : Tr) (kind : Int) (k : Int) : Tr := { R with bad := R.bad ++ [⟨kind, R.line + k, 0⟩] }
theorem hsT {H : Heap} {b : Nat} (h : b < H.length) {x : List FV} : (H.set b x)[b]? = some x := List.getElem?_set_self h
theorem sizedDg (l : List Dg) : Sized 3 (l.map Dg.pv) := fun p hp => by
  simp only [List.mem_map] at hp; obtain ⟨x, _, rfl⟩ := hp; rfl
theorem sizedDg1 (a b c : Int) : Sized 3 [PV.agg [.int .i64 a, .int .i64 b, .int .i64 c]] := fun p hp => by rw [List.mem_singleton.1 hp]; rfl
set_option linter.unusedSimpArgs false in
set_option maxRecDepth 20000 in
set_option maxHeartbeats 4000000 in
theorem conTellT {H : Heap} {b : Nat} {R : Tr} (hb : H[b]? = some (trC R)) (hR : TrS R) (kind : Int) (k : Nat) (hk : k ≤ 1073741825) :
    Con C0 47 [.ptr b 0, .sc (.int .i64 kind), .sc (.int .i64 k)] H (.tup []) (H.set b (trC (tellT R kind k))) := by
  have hbl : b < H.length := (List.getElem?_eq_some_iff.1 hb).1
  have hw : IntKind.i64.wrap (R.line + (k : Int)) = R.line + k := wrap64 (by have := hR.line0; omega) (by have := hR.line1; omega)
  have sb := sizedDg R.bad
  have hbad := hR.bad
  obtain ⟨l, at_, line, cols, rows, box, all, bad⟩ := R
  simp only [trC, tellT] at *
  refine enter47 ?_
  simp [Tryd.f47, hb, hsT hbl, hw, sb, sizedDg1, lenMax]
  exact ⟨by omega, rfl⟩
def dgAt (ln : Int) (d : Dg) : Dg := ⟨d.kind, ln, d.col⟩
def atL (ln : Int) (l : List Dg) : List Dg := l.map (dgAt ln)
theorem atL_len (ln : Int) (l : List Dg) : (atL ln l).length = l.length := List.length_map _
theorem atL_snoc (ln : Int) (l : List Dg) (d : Dg) : atL ln (l ++ [d]) = atL ln l ++ [dgAt ln d] := List.map_append
def textT (R : Tr) (s : ByteArray) (k : Int) : Tr := { R with bad := R.bad ++ atL (R.line + k) (lineD s) }
def face0 : Face := ⟨0, 0⟩
theorem Face.zero_cells : face0.cells = [.sc (.int .u8 0), .sc (.int .u8 0)] := rfl
set_option linter.unusedSimpArgs false in
set_option maxRecDepth 20000 in
set_option maxHeartbeats 8000000 in
theorem conTextT {H : Heap} {b : Nat} {R : Tr} (hb : H[b]? = some (trC R)) (hR : TrS R) (hH : HOkT H) (s : ByteArray) (k : Nat) (hs : s.size ≤ 1073741824) (hk : k ≤ 1073741825) :
    Con C0 48 [.ptr b 0, .sc (.str s), .sc (.int .i64 k)] H (.sc (gl (lineG face0 s))) (H.set b (trC (textT R s k))) := by
  have hbl : b < H.length := (List.getElem?_eq_some_iff.1 hb).1
  have hw : IntKind.i64.wrap (R.line + (k : Int)) = R.line + k := wrap64 (by have := hR.line0; omega) (by have := hR.line1; omega)
  have cl := conLine face0 s hs
  have hdl := (scan_len s).2
  change (lineD s).length ≤ s.size at hdl
  have hbad := hR.bad
  have hu := hH.set (b := b) (R := textT R s k)
  refine con_trimU (C := C0) (fn := Tryd.f48) Tryd.func48 rfl (by decide) mixed (mv := mv48) (vars := vars48) (c := Tryd.f48.body.getD .skip) (by kernel_rfl) rfl hu ?_
  obtain ⟨l, at_, line, cols, rows, box, all, bad⟩ := R
  simp only [trC, textT, Face.zero_cells] at *
  generalize hG : lineG face0 s = G at *
  obtain ⟨F1, F2, hF⟩ : ∃ a c, (lineF face0 s).cells = [.sc (.int .u8 a), .sc (.int .u8 c)] := ⟨_, _, rfl⟩
  rw [hF] at cl
  generalize hD : lineD s = D at *
  simp [Tryd.f48]
  refine CallQ.mk (Call.pure callable65 (by simp) (by simp) cl) ?_
  simp
  refine loopC (fun d e H' => ∃ (i : Nat) (J : Heap) (x11 x22 : FV), H' = H.set b [.sc (.sl (l.map .str)), .sc (.int .i64 at_), .sc (.int .i64 line), .sc (.str cols), .own (rows.map TRow.pv), .sc (.bool box), .sc (.bool all), .own ((bad ++ atL (line + k) (D.take i)).map Dg.pv)] ++ J ∧ d = D.length - i ∧ i ≤ D.length ∧ e = [(0, .ptr b 0), (1, .sc (.str s)), (2, .sc (.int .i64 k)), (6, .own []), (7, .sc (gl G)), (9, .sc (.sl (D.map Dg.pv))), (11, x11), (19, .sc (.sl (D.map Dg.pv))), (20, .sc (.int .i64 D.length)), (21, .sc (.int .i64 i)), (22, x22)]) (d := D.length) ⟨0, [[.sc (.int .u8 F1), .sc (.int .u8 F2)]], .undef, .undef, ?_, rfl, Nat.zero_le _, rfl⟩ ?_
  · rw [List.take_zero, show atL (line + k) [] = [] from rfl, List.append_nil, set_same hb]
  rintro d e H' ⟨i, J, x11, x22, rfl, rfl, hi, rfl⟩
  simp
  refine CondC.mk (fun hlt => ?_) (fun hlt => ?_)
  · simp at hlt
    have hlt' : (i : Int) < (D.length : Int) := by omega
    have hwi : IntKind.i64.wrap ((i : Int) + 1) = ((i + 1 : Nat) : Int) := by rw [wrap64 (by omega) (by omega)]; omega
    obtain ⟨dk, hdk⟩ : ∃ dk, D[i] = dk := ⟨_, rfl⟩
    have ht : D.take (i + 1) = D.take i ++ [dk] := by rw [List.take_succ_eq_append_getElem hlt, hdk]
    have sb := sizedDg (bad ++ atL (line + k) (D.take i))
    have hml : (atL (line + k) (D.take i)).length ≤ i := by rw [atL_len, List.length_take]; omega
    have hpv : dk.pv = .agg [.int .i64 dk.kind, .int .i64 dk.line, .int .i64 dk.col] := rfl
    generalize hS : atL (line + k) (D.take i) = S at *
    simp only [List.map_append] at sb
    simp [hlt, hlt', hdk, hpv, hs_b hbl, hs_set hbl, hs_at, hsT hbl, heap_old_set hbl, hw, sb, sizedDg1, lenMax, hwi]
    have hpw : (dgAt (line + k) dk).pv = .agg [.int .i64 dk.kind, .int .i64 (line + k), .int .i64 dk.col] := rfl
    refine ⟨by omega, D.length - (i + 1), by omega, i + 1, ⟨J ++ [[.sc (.int .i64 dk.kind), .sc (.int .i64 dk.line), .sc (.int .i64 dk.col)]], ?_⟩, rfl, by omega, by omega⟩
    rw [ht, atL_snoc, hS, List.map_append, List.map_cons, hpw]
    rfl
  · simp at hlt
    obtain rfl : i = D.length := by omega
    simp [gl, heap_old_take_set]
def lookR (R : Tr) : Tr := match R.l with
  | [] => R
  | s :: _ => if sufB s 59 = true then { (if (lookT s).2.2 = true then R else tellT R 10 0) with box := (lookT s).1, all := (lookT s).2.1, at_ := 1 } else R
set_option linter.unusedSimpArgs false in
set_option maxRecDepth 20000 in
set_option maxHeartbeats 8000000 in
theorem conLookR {H : Heap} {b : Nat} {R : Tr} (hb : H[b]? = some (trC R)) (hR : TrS R) :
    Con C0 30 [.ptr b 0] H (.tup []) (H.set b (trC (lookR R))) := by
  have hbl : b < H.length := (List.getElem?_eq_some_iff.1 hb).1
  have ct := conTellT hb hR 10 0 (by omega)
  have hsz := hR.size
  obtain ⟨l, at_, line, cols, rows, box, all, bad⟩ := R
  cases l with
  | nil =>
    simp only [trC, tellT, lookR] at *
    refine enter30 ?_
    simp [Tryd.f30, hb]
    exact (set_same hb).symm
  | cons s l =>
    have hs := hsz s (by simp)
    have c1 := conHasSuffix s 59 hs
    have c2 := conLook s hs
    simp only [trC, tellT, lookR] at *
    refine enter30 ?_
    have hne : ¬ ((l.length : Int) + 1 = 0) := by omega
    simp [Tryd.f30, hb, hne]
    refine CallQ.mk (Call.pure callable46 (by simp) (by simp) c1) ?_
    cases h1 : sufB s 59
    · simp [h1]
      exact (set_same hb).symm
    · simp [hb]
      refine CallQ.mk (Call.pure callable8 (by simp) (by simp) c2) ?_
      obtain ⟨z1, z2, z3⟩ := lookT s
      cases z3
      · simp [hb]
        simp at ct
        refine CallQ.mk (Call.shared callable47 ct) ?_
        simp [hsT hbl]
      · simp [hb, hsT hbl]
end Go.Proofs.YtabgeenhpfnhdaaDoor.Ev
end
section
namespace Go.Proofs.YtabgeenhpfnhdaaDoor.Ev
open Go
def wt (s : ByteArray) : Nat := s.size + 3
structure TrI (c : Nat) (R : Tr) : Prop where
  sum : sumBy wt R.l ≤ 268435456
  line0 : 0 ≤ R.line
  line1 : R.line ≤ 1073741824
  at_ : R.at_ ≤ R.l.length + 1
  bad : R.bad.length ≤ c + sumBy wt (R.l.take R.at_)
theorem TrI.len {c : Nat} {R : Tr} (h : TrI c R) : R.l.length ≤ 1073741824 := by
  have h1 : R.l.length ≤ sumBy wt R.l := sumLen wt (fun s => by unfold wt; omega) R.l
  have := h.sum; omega
theorem TrI.size {c : Nat} {R : Tr} (h : TrI c R) : ∀ s ∈ R.l, s.size ≤ 1073741824 := fun s hs => by
  have h1 := sumMem wt hs
  have := h.sum
  have h2 : wt s = s.size + 3 := rfl
  omega
theorem TrI.s {c : Nat} {R : Tr} (h : TrI c R) (hc : c ≤ 10000000000) : TrS R :=
  ⟨h.len, by have := h.at_; have := h.len; omega, h.line0, h.line1, h.size, by have := h.bad; have := sumBy_take_le wt R.l R.at_; have := h.sum; omega⟩
theorem TrI.tell {c : Nat} {R : Tr} (h : TrI c R) (kind k : Int) : TrI (c + 1) (tellT R kind k) :=
  ⟨h.sum, h.line0, h.line1, h.at_, by have := h.bad; simp only [tellT, List.length_append, List.length_singleton]; omega⟩
def colStep (R : Tr) (s : ByteArray) : Tr :=
  let R1 := if (columnsT s).2 = true then R else tellT R 10 R.at_
  let R2 := if 20 < (columnsT s).1.length then tellT R1 11 R.at_ else R1
  { (if (columnsT s).1.take 20 = [] then R2 else { R2 with cols := ba ((columnsT s).1.take 20) }) with at_ := R.at_ + 1 }
def colLoop : Nat → Tr → Bool → Tr × Bool
  | 0, R, e => (R, e)
  | n + 1, R, e => if e = true then (R, e) else match R.l[R.at_]? with
    | none => (R, e)
    | some s => colLoop n (colStep R s) (sufB s 46)
theorem colStep_l (R : Tr) (s : ByteArray) : (colStep R s).l = R.l ∧ (colStep R s).line = R.line ∧ (colStep R s).at_ = R.at_ + 1 ∧ (colStep R s).bad.length ≤ R.bad.length + 2 := by
  unfold colStep
  refine ⟨?_, ?_, rfl, ?_⟩
  all_goals
    simp only
    split <;> split <;> split <;> simp [tellT]
theorem TrI.colStep {c : Nat} {R : Tr} (h : TrI c R) {s : ByteArray} (hs : R.l[R.at_]? = some s) : TrI c (colStep R s) := by
  obtain ⟨h1, h2, h3, h4⟩ := colStep_l R s
  obtain ⟨g1, g2⟩ := List.getElem?_eq_some_iff.1 hs
  refine ⟨by rw [h1]; exact h.sum, by rw [h2]; exact h.line0, by rw [h2]; exact h.line1, by rw [h1, h3]; omega, ?_⟩
  rw [h1, h3, sumBy_take wt g1]
  have := h.bad
  have h5 : wt R.l[R.at_] = R.l[R.at_].size + 3 := rfl
  omega
def EnF (F : Tr × Bool) (n : Nat) (R : Tr) (f : FV) : Prop := ∃ e, f = .sc (.bool e) ∧ colLoop n R e = F
def columnsEnd (R : Tr) (e : Bool) : Tr :=
  let R1 := if R.cols = ⟨#[]⟩ then { R with cols := ⟨#[108]⟩ } else R
  if e = true then R1 else tellT R1 7 0
def columnsR (R : Tr) : Tr := columnsEnd (colLoop (R.l.length + 1) R false).1 (colLoop (R.l.length + 1) R false).2
theorem ba_take20 (l : List UInt8) : (ba l).extract 0 20 = ba (l.take 20) := by
  have : ((ba l).extract 0 20).data.toList = l.take 20 := by rw [Go.Lib.extract_from_zero, data_ba]
  rw [← ba_data ((ba l).extract 0 20), this]
set_option linter.unusedSimpArgs false in
set_option maxRecDepth 20000 in
set_option maxHeartbeats 16000000 in
theorem conColumnsR {H : Heap} {b c : Nat} {R : Tr} (hb : H[b]? = some (trC R)) (hI : TrI c R) (hc : c ≤ 1000000000) :
    Con C0 31 [.ptr b 0] H (.tup []) (H.set b (trC (columnsR R))) := by
  have hbl : b < H.length := (List.getElem?_eq_some_iff.1 hb).1
  unfold columnsR
  generalize hF : colLoop (R.l.length + 1) R false = F
  refine enter31 ?_
  simp [Tryd.f31]
  refine loopC (fun d e H' => ∃ (n : Nat) (R' : Tr) (x2 x3 x4 x5 x19 x45 x54 x64 x75 x81 : FV), H' = H.set b (trC R') ∧ TrI c R' ∧ EnF F n R' x2 ∧ R'.l.length ≤ R'.at_ + n ∧ n = d ∧ e = [(0, .ptr b 0), (2, x2), (3, x3), (4, x4), (5, x5), (19, x19), (45, x45), (54, x54), (64, x64), (75, x75), (81, x81)]) (d := R.l.length + 1) ⟨R.l.length + 1, R, .sc (.bool false), .undef, .undef, .undef, .undef, .undef, .undef, .undef, .undef, .undef, (set_same hb).symm, hI, ⟨false, rfl, hF⟩, by omega, rfl, rfl⟩ ?_
  rintro d e H' ⟨n, R', x2, x3, x4, x5, x19, x45, x54, x64, x75, x81, rfl, hI', ⟨en, rfl, hF'⟩, hn, rfl, rfl⟩
  have hS := hI'.s (by omega)
  have hlen := hI'.len
  have hat := hI'.at_
  have hb' := hsT (x := trC R') hbl
  have hss : ∀ X, (H.set b (trC R')).set b X = H.set b X := fun X => by simp
  obtain ⟨l, at_, line, cols, rows, box, all, bad⟩ := R'
  simp only at hn hlen hat
  simp only [trC]
  by_cases hlt : at_ < l.length
  · have hlt' : (at_ : Int) < (l.length : Int) := by omega
    obtain ⟨s, hls⟩ : ∃ s, l[at_] = s := ⟨_, rfl⟩
    have hget : l[at_]? = some s := by rw [List.getElem?_eq_getElem hlt, hls]
    cases en
    · obtain ⟨n, rfl⟩ : ∃ m, n = m + 1 := ⟨n - 1, by omega⟩
      rw [colLoop, if_neg (by simp)] at hF'
      simp only [hget] at hF'
      have hs := hS.size s (List.mem_of_getElem? hget)
      have hIs := hI'.colStep (s := s) hget
      obtain ⟨e1, e2, e3, e4⟩ := colStep_l (Tr.mk l at_ line cols rows box all bad) s
      have hw : IntKind.i64.wrap ((at_ : Int) + 1) = ((at_ + 1 : Nat) : Int) := by rw [wrap64 (by omega) (by omega)]; omega
      have fin : ∀ X, trC (colStep (Tr.mk l at_ line cols rows box all bad) s) = X → ∃ d', d' < n + 1 ∧ ∃ n' R', H.set b X = H.set b [FV.sc (PV.sl (List.map PV.str R'.l)), FV.sc (PV.int IntKind.i64 ↑R'.at_), FV.sc (PV.int IntKind.i64 R'.line), FV.sc (PV.str R'.cols), FV.own (List.map TRow.pv R'.rows), FV.sc (PV.bool R'.box), FV.sc (PV.bool R'.all), FV.own (List.map Dg.pv R'.bad)] ∧ TrI c R' ∧ ∃ x, EnF F n' R' x ∧ R'.l.length ≤ R'.at_ + n' ∧ n' = d' ∧ FV.sc (.bool (sufB s 46)) = x :=
        fun X hX => ⟨n, by omega, n, colStep (Tr.mk l at_ line cols rows box all bad) s, by rw [← hX]; rfl, hIs, _, ⟨_, rfl, hF'⟩, by rw [e1, e3]; show l.length ≤ at_ + 1 + n; omega, rfl, rfl⟩
      have c1 := conHasSuffix s 46 hs
      have c2 := conColumns s hs
      have ht1 := conTellT (H := H.set b (trC (Tr.mk l at_ line cols rows box all bad))) hb' hS 10 at_ (by omega)
      have ht2 := conTellT (H := H.set b (trC (Tr.mk l at_ line cols rows box all bad))) hb' hS 11 at_ (by omega)
      have ht3 := conTellT (H := H.set b (trC (tellT (Tr.mk l at_ line cols rows box all bad) 10 at_))) (hsT hbl) ((hI'.tell 10 at_).s (by omega)) 11 at_ (by omega)
      have hext := ba_take20 (columnsT s).1
      have hbsz := ba_size (columnsT s).1
      have hcst : ∀ cs ok, columnsT s = (cs, ok) → colStep (Tr.mk l at_ line cols rows box all bad) s = { (if cs.take 20 = [] then (if 20 < cs.length then tellT (if ok = true then Tr.mk l at_ line cols rows box all bad else tellT (Tr.mk l at_ line cols rows box all bad) 10 at_) 11 at_ else (if ok = true then Tr.mk l at_ line cols rows box all bad else tellT (Tr.mk l at_ line cols rows box all bad) 10 at_)) else { (if 20 < cs.length then tellT (if ok = true then Tr.mk l at_ line cols rows box all bad else tellT (Tr.mk l at_ line cols rows box all bad) 10 at_) 11 at_ else (if ok = true then Tr.mk l at_ line cols rows box all bad else tellT (Tr.mk l at_ line cols rows box all bad) 10 at_)) with cols := ba (cs.take 20) }) with at_ := at_ + 1 } := fun cs ok h => by unfold colStep; rw [h]
      generalize columnsT s = P at *
      obtain ⟨cs, ok⟩ := P
      have hcs2 := hcst cs ok rfl
      simp only at hext hbsz
      have hbe : ∀ q : List UInt8, q ≠ [] → ¬ ba q = (⟨#[]⟩ : ByteArray) := fun q hq h => hq (ba_inj.1 (h.trans (rfl : (⟨#[]⟩ : ByteArray) = ba [])))
      have hb0 : ba [] = (⟨#[]⟩ : ByteArray) := rfl
      have hbz : (⟨#[]⟩ : ByteArray).size = 0 := rfl
      simp [trC, tellT] at ht1 ht2 ht3
      simp [hlt, hlt', hsT hbl]
      simp [hlt, hlt', hsT hbl, hls]
      refine CallQ.mk (Call.pure callable46 (by simp) (by simp) c1) ?_
      simp [hlt, hlt', hsT hbl, hls]
      refine CallQ.mk (Call.pure callable10 (by simp) (by simp) c2) ?_
      simp [hlt, hlt', hsT hbl, hls]
      by_cases h20 : 20 < cs.length
      · have h20' : (20 : Int) < (cs.length : Int) := by omega
        have h21 : 20 ≤ cs.length := by omega
        have h21' : (20 : Int) ≤ (cs.length : Int) := by omega
        have hne : cs.take 20 ≠ [] := by
          intro h
          rw [List.take_eq_nil_iff] at h
          rcases h with h | h
          · omega
          · subst h; simp at h20
        rw [if_neg hne, if_pos h20] at hcs2
        cases ok
        · simp [hsT hbl]
          refine CallQ.mk (Call.shared callable47 ht1) ?_
          simp [hsT hbl, hbsz, h20, h20', h21, h21']
          refine CallQ.mk (Call.shared callable47 ht3) ?_
          simp [hsT hbl, hbsz, h20, h20', h21, h21', hext, hbe _ hne, hw]
          exact fin _ (by rw [hcs2]; simp [tellT, trC])
        · simp [hsT hbl, hbsz, h20, h20', h21, h21']
          refine CallQ.mk (Call.shared callable47 ht2) ?_
          simp [hsT hbl, hbsz, h20, h20', h21, h21', hext, hbe _ hne, hw]
          exact fin _ (by rw [hcs2]; simp [tellT, trC])
      · have h20' : ¬ (20 : Int) < (cs.length : Int) := by omega
        have htk : cs.take 20 = cs := List.take_of_length_le (by omega)
        rw [htk, if_neg h20] at hcs2
        by_cases hce : cs = []
        · rw [if_pos hce] at hcs2
          subst hce
          cases ok
          · simp [hsT hbl]
            refine CallQ.mk (Call.shared callable47 ht1) ?_
            simp [hsT hbl, hb0, hbz, hw]
            exact fin _ (by rw [hcs2]; simp [tellT, trC])
          · simp [hsT hbl, hb0, hbz, hw]
            exact fin _ (by rw [hcs2]; simp [tellT, trC])
        · rw [if_neg hce] at hcs2
          cases ok
          · simp [hsT hbl]
            refine CallQ.mk (Call.shared callable47 ht1) ?_
            simp [hsT hbl, hbsz, h20, h20', hbe _ hce, hw]
            exact fin _ (by rw [hcs2]; simp [tellT, trC])
          · simp [hsT hbl, hbsz, h20, h20', hbe _ hce, hw]
            exact fin _ (by rw [hcs2]; simp [tellT, trC])
    · have hFe : F = (Tr.mk l at_ line cols rows box all bad, true) := by
        rw [← hF']
        cases n <;> simp [colLoop]
      rw [hFe]
      simp [hlt, hlt', hsT hbl]
      by_cases hcz : cols = ⟨#[]⟩
      · subst hcz
        simp [hsT hbl, columnsEnd]
      · simp [hsT hbl, columnsEnd, hcz]
  · have hlt' : ¬ (at_ : Int) < (l.length : Int) := by omega
    have hFe : F = (Tr.mk l at_ line cols rows box all bad, en) := by
      rw [← hF']
      cases n with
      | zero => rfl
      | succ n =>
        rw [colLoop]
        cases en
        · have : l[at_]? = none := List.getElem?_eq_none (by omega)
          simp [this]
        · rfl
    rw [hFe]
    have ht7 := conTellT (H := H.set b (trC (Tr.mk l at_ line cols rows box all bad))) hb' hS 7 0 (by omega)
    have ht8 := conTellT (H := H.set b (trC (Tr.mk l at_ line ⟨#[108]⟩ rows box all bad))) (hsT hbl) ⟨hS.len, hS.at_, hS.line0, hS.line1, hS.size, hS.bad⟩ 7 0 (by omega)
    simp [trC, tellT] at ht7 ht8
    simp [hlt, hlt', hsT hbl]
    by_cases hcz : cols = ⟨#[]⟩
    · subst hcz
      cases en
      · simp [hsT hbl, columnsEnd]
        refine CallQ.mk (Call.shared callable47 ht8) ?_
        simp [tellT, trC]
      · simp [hsT hbl, columnsEnd]
    · cases en
      · simp [hsT hbl, columnsEnd, hcz]
        refine CallQ.mk (Call.shared callable47 ht7) ?_
        simp [tellT, trC]
      · simp [hsT hbl, columnsEnd, hcz]
end Go.Proofs.YtabgeenhpfnhdaaDoor.Ev
end
section
namespace Go.Proofs.YtabgeenhpfnhdaaDoor.Ev
open Go
def RLe (r r' : FV) : Prop := ∀ (W : Wd) (v : Value), FRep W (some .res) 0 r v → FRep W (some .res) 0 r' v
theorem RLe.refl (r : FV) : RLe r r := fun _ _ h => h
theorem RLe.snd (a : FV) (l : List PV) : RLe (.tup [a, .own l]) (.tup [a, .sc (.sl l)]) := fun W v h => by
  cases h with
  | @tup _ _ _ vs h1 h2 =>
    refine .tup h1 fun j f u hf hu => ?_
    match j with
    | 0 => exact h2 0 f u hf hu
    | 1 =>
      simp at hf
      subst hf
      exact ((h2 1 (.own l) u rfl hu).demote1 (r' := some .res) (i' := 1))
    | j + 2 => simp at hf
theorem con_ofW {C : Ctx} {f : FuncId} {fn : Func} {c : Code} {args : List FV} {H H' : Heap} {r' : FV} {mv vars : List Nat} (hf : C.P.funcs[f]? = some fn) (hb : fn.body = some c) (hn : (resTmps fn.results.toList).Nodup) (hmix : C.P.follows .mixedOrders = true) (hk : codeOk mv c = true)
    (h : wpC C fn.ntmps mv vars c (argsEnv 0 args) H fun x e H₁ => (match x with | .exit _ => False | _ => True) ∧ ∃ r, resultOf C e H₁ fn.results.toList = some r ∧ RLe r r' ∧ H₁ = H') : Con C f args H r' H' :=
  fun vs W hlen hargs hH _ => (con_gen2 (G := fun r H₁ => RLe r r' ∧ H₁ = H') hf hb hn hmix hk h vs W hlen hargs hH).mono fun _ _ ⟨v, W', H₁, r, h1, h2, ⟨h3, h3'⟩, h4, h5, h6⟩ => ⟨v, W', h1, h2, h3 _ _ h4, h3' ▸ h5, h6⟩
def endS : ByteArray := ⟨#[84, 125]⟩
def blockF (from_ : Nat) : Nat → Tr → List Glyph → Tr × List Glyph × List ByteArray
  | 0, R, out => (tellT R 7 from_, out, [])
  | n + 1, R, out => match R.l[R.at_]? with
    | none => (tellT R 7 from_, out, [])
    | some s => if preB s endS = true then (R, out, (tabsB s).drop 1) else blockF from_ n { textT R s R.at_ with at_ := R.at_ + 1 } (joinS out (lineG face0 s))
def blockR (R : Tr) (from_ : Nat) : Tr × List Glyph × List ByteArray := blockF from_ (R.l.length + 1) { R with at_ := R.at_ + 1 } []
theorem TrI.text {c : Nat} {R : Tr} (h : TrI c R) {s : ByteArray} (hs : R.l[R.at_]? = some s) : TrI c { textT R s R.at_ with at_ := R.at_ + 1 } := by
  obtain ⟨g1, g2⟩ := List.getElem?_eq_some_iff.1 hs
  have hd := (scan_len s).2
  change (lineD s).length ≤ s.size at hd
  refine ⟨h.sum, h.line0, h.line1, by show R.at_ + 1 ≤ R.l.length + 1; omega, ?_⟩
  show (R.bad ++ atL (R.line + R.at_) (lineD s)).length ≤ c + sumBy wt (R.l.take (R.at_ + 1))
  rw [List.length_append, atL_len, sumBy_take wt g1, g2]
  have := h.bad
  have h5 : wt s = s.size + 3 := rfl
  omega
theorem tabs_len (s : ByteArray) : (tabsB s).length ≤ s.size + 1 := by
  simp only [tabsB, List.length_map, splitC_len]
  have := List.count_le_length (a := (9 : UInt8)) (l := s.data.toList)
  rw [Go.Lib.size_eq]; omega
theorem tabs_size {s w : ByteArray} (h : w ∈ tabsB s) : w.size ≤ s.size := by
  simp only [tabsB, List.mem_map] at h
  obtain ⟨l, hl, rfl⟩ := h
  have : ∀ (m : List UInt8), ∀ x ∈ splitC 9 m, x.length ≤ m.length := by
    intro m
    induction m with
    | nil => intro x hx; simp [splitC] at hx; subst hx; simp
    | cons b m ih =>
      intro x hx
      rw [splitC] at hx
      split at hx
      · rcases List.mem_cons.1 hx with rfl | hx
        · simp
        · have := ih x hx; simp; omega
      · split at hx
        · rw [List.mem_singleton.1 hx]; simp
        · rename_i y r hy
          rcases List.mem_cons.1 hx with rfl | hx
          · have := ih y (by rw [hy]; simp); simp; omega
          · have := ih x (by rw [hy]; simp [hx]); simp; omega
  rw [ba_size, Go.Lib.size_eq]
  exact this _ l hl
set_option linter.unusedSimpArgs false in
set_option maxRecDepth 20000 in
set_option maxHeartbeats 16000000 in
theorem conBlockR {H : Heap} {b c : Nat} {R : Tr} (hb : H[b]? = some (trC R)) (hI : TrI c R) (hc : c ≤ 1000000000) (hat : R.at_ < R.l.length) (from_ : Nat) (hfr : from_ ≤ 1073741825) (hH : HOkT H) :
    Con C0 49 [.ptr b 0, .sc (.int .i64 from_)] H (.tup [.sc (gl (blockR R from_).2.1), .sc (.sl ((blockR R from_).2.2.map .str))]) (H.set b (trC (blockR R from_).1)) := by
  have hbl : b < H.length := (List.getElem?_eq_some_iff.1 hb).1
  unfold blockR
  generalize hF : blockF from_ (R.l.length + 1) { R with at_ := R.at_ + 1 } [] = F
  have hlen := hI.len
  have hw0 : IntKind.i64.wrap ((R.at_ : Int) + 1) = ((R.at_ + 1 : Nat) : Int) := by rw [wrap64 (by omega) (by omega)]; omega
  have hI0 : TrI c { R with at_ := R.at_ + 1 } := ⟨hI.sum, hI.line0, hI.line1, by show R.at_ + 1 ≤ R.l.length + 1; omega, by
    have h1 := hI.bad
    have h2 := sumBy_take wt hat
    show R.bad.length ≤ c + sumBy wt (R.l.take (R.at_ + 1))
    omega⟩
  have hbt : H.set b (trC { R with at_ := R.at_ + 1 }) = H.set b (trC { R with at_ := R.at_ + 1 }) := rfl
  refine con_ofW (C := C0) (fn := Tryd.f49) (c := Tryd.f49.body.getD .skip) Tryd.func49 rfl (by decide) mixed (mv := [8000071]) (vars := vars49) (by kernel_rfl) ?_
  have hb1 : H[b]? = some [.sc (.sl (R.l.map .str)), .sc (.int .i64 R.at_), .sc (.int .i64 R.line), .sc (.str R.cols), .own (R.rows.map TRow.pv), .sc (.bool R.box), .sc (.bool R.all), .own (R.bad.map Dg.pv)] := hb
  simp [Tryd.f49, hb1, hw0]
  refine loopC (fun d e H' => ∃ (n : Nat) (R' : Tr) (out : List Glyph) (x6 x23 x41 : FV), H' = H.set b (trC R') ∧ TrI c R' ∧ blockF from_ n R' out = F ∧ R'.l.length ≤ R'.at_ + n ∧ n = d ∧ out.length ≤ sumBy wt (R'.l.take R'.at_) ∧ (x6 = .sc (gl out) ∨ (out = [] ∧ x6 = .own [])) ∧ e = [(0, .ptr b 0), (1, .sc (.int .i64 from_)), (4, .own []), (5, .own []), (6, x6), (23, x23), (41, x41)]) (d := R.l.length + 1) ⟨R.l.length + 1, { R with at_ := R.at_ + 1 }, [], .own [], .undef, .undef, rfl, hI0, hF, by show R.l.length ≤ R.at_ + 1 + (R.l.length + 1); omega, rfl, Nat.zero_le _, .inr ⟨rfl, rfl⟩, rfl⟩ ?_
  rintro d e H' ⟨n, R', out, x6, x23, x41, rfl, hI', hF', hn, rfl, hol, hx6, rfl⟩
  have hS := hI'.s (by omega)
  have hlen := hI'.len
  have hat := hI'.at_
  have hb' := hsT (x := trC R') hbl
  have hT : HOkT (H.set b (trC R')) := fun fs hfs f hf => by rw [List.length_set]; exact hH.set fs hfs f hf
  have hso := sumBy_take_le wt R'.l R'.at_
  have hsum := hI'.sum
  obtain ⟨l, at_, line, cols, rows, box, all, bad⟩ := R'
  simp only at hn hlen hat hol hso hsum
  simp only [trC]
  by_cases hlt : at_ < l.length
  · have hlt' : (at_ : Int) < (l.length : Int) := by omega
    obtain ⟨s, hls⟩ : ∃ s, l[at_] = s := ⟨_, rfl⟩
    have hget : l[at_]? = some s := by rw [List.getElem?_eq_getElem hlt, hls]
    obtain ⟨n, rfl⟩ : ∃ m, n = m + 1 := ⟨n - 1, by omega⟩
    rw [blockF] at hF'
    simp only [hget] at hF'
    have hs := hS.size s (List.mem_of_getElem? hget)
    have hIs := hI'.text (s := s) hget
    have hw : IntKind.i64.wrap ((at_ : Int) + 1) = ((at_ + 1 : Nat) : Int) := by rw [wrap64 (by omega) (by omega)]; omega
    have c1 := conHasPrefix s endS
    have c2 := conCut s hs
    have c3 := conTextT (H := H.set b (trC (Tr.mk l at_ line cols rows box all bad))) hb' hS hT s at_ hs (by omega)
    have hll := line_len face0 s
    have hst := sumBy_take wt hlt
    rw [hls] at hst
    have hws : wt s = s.size + 3 := rfl
    have hst2 := sumBy_take_le wt l (at_ + 1)
    have c4 := conJoinS out (lineG face0 s) (by omega)
    have hjl := joinS_len out (lineG face0 s)
    have htl := tabs_len s
    have hsz := sizedStr (tabsB s)
    have hdr : (tabsB s).length ≥ 1 := by simp [tabsB, splitC_len]
    have hdr' : (1 : Int) ≤ ((tabsB s).length : Int) := by omega
    simp [trC, textT] at c3
    cases hpre : preB s endS
    · rw [hpre] at c1 hF'
      rw [if_neg (by simp)] at hF'
      rcases hx6 with rfl | ⟨rfl, rfl⟩
      all_goals
        simp [hlt, hlt', hsT hbl]
        simp [hlt, hlt', hsT hbl, hls]
        refine CallQ.mk (CallP.pure callable66 (by simp) (by simp) c1) ?_
        simp [hlt, hlt', hsT hbl, hls]
        refine CallQ.mk (CallP.shared callable48 c3) ?_
        simp [hlt, hlt', hsT hbl, hls]
        refine CallQ.mk (CallP.pure callable67 (by simp) (by simp) c4) ?_
        simp [hlt, hlt', hsT hbl, hls, hw]
        exact ⟨n, by omega, n, { textT (Tr.mk l at_ line cols rows box all bad) s at_ with at_ := at_ + 1 }, by simp [textT], hIs, _, hF', by show l.length ≤ at_ + 1 + n; omega, rfl, by show (joinS _ (lineG face0 s)).length ≤ sumBy wt (l.take (at_ + 1)); omega, rfl⟩
    · rw [hpre] at c1 hF'
      rw [if_pos rfl] at hF'
      subst hF'
      rcases hx6 with rfl | ⟨rfl, rfl⟩
      all_goals
        simp [hlt, hlt', hsT hbl]
        simp [hlt, hlt', hsT hbl, hls]
        refine CallQ.mk (CallP.pure callable66 (by simp) (by simp) c1) ?_
        simp [hlt, hlt', hsT hbl, hls]
        refine CallQ.mk (CallP.pure callable13 (by simp) (by simp) c2) ?_
        simp [hlt, hlt', hsT hbl, hls, sizedB, hdr']
        rw [List.take_of_length_le (by simp)]
        exact RLe.refl _
  · have hlt' : ¬ (at_ : Int) < (l.length : Int) := by omega
    have hFe : F = (tellT (Tr.mk l at_ line cols rows box all bad) 7 from_, out, []) := by
      rw [← hF']
      cases n with
      | zero => rfl
      | succ n =>
        rw [blockF]
        have : l[at_]? = none := List.getElem?_eq_none (by omega)
        simp [this]
    rw [hFe]
    have ht7 := conTellT (H := H.set b (trC (Tr.mk l at_ line cols rows box all bad))) hb' hS 7 from_ hfr
    simp [trC, tellT] at ht7
    rcases hx6 with rfl | ⟨rfl, rfl⟩
    all_goals
      simp [hlt, hlt', hsT hbl]
      refine CallQ.mk (Call.shared callable47 ht7) ?_
      simp [tellT, gl]
      exact RLe.snd _ []
end Go.Proofs.YtabgeenhpfnhdaaDoor.Ev
end
section
namespace Go.Proofs.YtabgeenhpfnhdaaDoor.Ev
open Go
def openS : ByteArray := ⟨#[84, 123]⟩
def cellsF : Nat → Tr → List (List Glyph) → List ByteArray → Tr × List (List Glyph)
  | 0, R, cs, _ => (R, cs)
  | _ + 1, R, cs, [] => (R, cs)
  | n + 1, R, cs, s :: rest => if s = openS then cellsF n (blockR R R.at_).1 (cs ++ [(blockR R R.at_).2.1]) (blockR R R.at_).2.2 else cellsF n (textT R s R.at_) (cs ++ [lineG face0 s]) rest
def fuelR (R : Tr) (rest : List ByteArray) : Nat := sumBy wt (R.l.drop (R.at_ + 1)) + rest.length
def rowR (R : Tr) : Tr := match R.l[R.at_]? with
  | none => R
  | some s => if s = ⟨#[95]⟩ ∨ s = ⟨#[61]⟩ then { R with rows := R.rows ++ [⟨true, []⟩] }
    else
      let C := cellsF (fuelR R (tabsB s)) R [] (tabsB s)
      let R2 := if C.1.cols.size < C.2.length then tellT C.1 11 R.at_ else C.1
      { R2 with rows := R2.rows ++ [⟨false, C.2⟩] }
theorem sumBy_drop {α : Type} (f : α → Nat) (l : List α) (i : Nat) : sumBy f (l.take i) + sumBy f (l.drop i) = sumBy f l := by
  conv => rhs; rw [← List.take_append_drop i l, sumBy_append]
def size1 (s : ByteArray) : Nat := s.size
theorem blockF_spec {c fr : Nat} : ∀ (n : Nat) (R : Tr) (out : List Glyph), TrI c R → R.l.length ≤ R.at_ + n →
    (blockF fr n R out).1.l = R.l ∧ (blockF fr n R out).1.line = R.line ∧ (blockF fr n R out).1.cols = R.cols ∧ (blockF fr n R out).1.rows = R.rows ∧ (blockF fr n R out).1.box = R.box ∧ (blockF fr n R out).1.all = R.all ∧ R.at_ ≤ (blockF fr n R out).1.at_ ∧
    ((TrI c (blockF fr n R out).1 ∧ ∃ s, R.l[(blockF fr n R out).1.at_]? = some s ∧ (blockF fr n R out).2.2 = (tabsB s).drop 1) ∨ ((blockF fr n R out).2.2 = [] ∧ R.l.length ≤ (blockF fr n R out).1.at_ ∧ TrI (c + 1) (blockF fr n R out).1)) ∧
    (out.length ≤ sumBy wt (R.l.take R.at_) → (blockF fr n R out).2.1.length ≤ sumBy wt R.l)
  | 0, R, out, hI, hn => by
    refine ⟨rfl, rfl, rfl, rfl, rfl, rfl, Nat.le_refl _, .inr ⟨rfl, by show R.l.length ≤ R.at_; omega, hI.tell 7 fr⟩, fun h => ?_⟩
    have := sumBy_take_le wt R.l R.at_
    show out.length ≤ _
    omega
  | n + 1, R, out, hI, hn => by
    rw [blockF]
    cases hg : R.l[R.at_]? with
    | none =>
      refine ⟨rfl, rfl, rfl, rfl, rfl, rfl, Nat.le_refl _, .inr ⟨rfl, List.getElem?_eq_none_iff.1 hg, hI.tell 7 fr⟩, fun h => ?_⟩
      have := sumBy_take_le wt R.l R.at_
      show out.length ≤ _
      omega
    | some s =>
      obtain ⟨g1, g2⟩ := List.getElem?_eq_some_iff.1 hg
      simp only
      by_cases hp : preB s endS = true
      · rw [if_pos hp]
        refine ⟨rfl, rfl, rfl, rfl, rfl, rfl, Nat.le_refl _, .inl ⟨hI, s, hg, rfl⟩, fun h => ?_⟩
        have := sumBy_take_le wt R.l R.at_
        show out.length ≤ _
        omega
      · rw [if_neg hp]
        have ih := blockF_spec (fr := fr) n { textT R s R.at_ with at_ := R.at_ + 1 } (joinS out (lineG face0 s)) (hI.text hg) (by show R.l.length ≤ R.at_ + 1 + n; omega)
        obtain ⟨i1, i2, i3, i4, i5, i6, i7, i8, i9⟩ := ih
        refine ⟨i1, i2, i3, i4, i5, i6, by simp only at i7; omega, i8, fun h => i9 ?_⟩
        have h1 := joinS_len out (lineG face0 s)
        have h2 := line_len face0 s
        have h3 := sumBy_take wt g1
        have h4 : wt R.l[R.at_] = s.size + 3 := by rw [g2]; rfl
        show (joinS out (lineG face0 s)).length ≤ sumBy wt (R.l.take (R.at_ + 1))
        omega
theorem tabs_sum (s : ByteArray) : sumBy size1 (tabsB s) ≤ s.size := by
  have key : ∀ m : List UInt8, sumBy List.length (splitC 9 m) ≤ m.length := by
    intro m
    induction m with
    | nil => simp [splitC, sumBy]
    | cons b m ih =>
      rw [splitC]
      split
      · simp only [sumBy, List.length_nil, List.length_cons] <;> omega
      · split
        · simp [sumBy]
        · rename_i y r hy
          rw [hy] at ih
          simp only [sumBy, List.length_cons] at ih ⊢ <;> omega
  have h2 : ∀ l : List (List UInt8), sumBy size1 (l.map ba) = sumBy List.length l := by
    intro l
    induction l with
    | nil => rfl
    | cons x l ih => rw [List.map_cons, sumBy, sumBy, ih, show size1 (ba x) = x.length from ba_size x]
  unfold tabsB
  rw [h2, Go.Lib.size_eq]; exact key _
end Go.Proofs.YtabgeenhpfnhdaaDoor.Ev
end
section
namespace Go.Proofs.YtabgeenhpfnhdaaDoor.Ev
open Go
structure CellI (c : Nat) (R : Tr) (rest : List ByteArray) : Prop where
  sum : sumBy wt R.l ≤ 268435456
  line0 : 0 ≤ R.line
  line1 : R.line ≤ 1073741824
  at_ : R.at_ ≤ R.l.length + 1
  bad : R.bad.length + sumBy size1 rest + 2 ≤ c + sumBy wt (R.l.take (R.at_ + 1))
  more : rest ≠ [] → R.at_ < R.l.length ∧ R.bad.length + sumBy size1 rest + 3 ≤ c + sumBy wt (R.l.take (R.at_ + 1))
theorem CellI.s {c : Nat} {R : Tr} {rest : List ByteArray} (h : CellI c R rest) (hc : c ≤ 1000000000) : TrS R :=
  (TrI.s (c := c + sumBy wt (R.l.take (R.at_ + 1))) ⟨h.sum, h.line0, h.line1, h.at_, by have := h.bad; omega⟩ (by have := sumBy_take_le wt R.l (R.at_ + 1); have := h.sum; omega))
theorem CellI.text {c : Nat} {R : Tr} {s : ByteArray} {rest : List ByteArray} (h : CellI c R (s :: rest)) : CellI c (textT R s R.at_) rest := by
  have hd := (scan_len s).2
  change (lineD s).length ≤ s.size at hd
  obtain ⟨m1, m2⟩ := h.more (by simp)
  have e1 : (textT R s R.at_).bad.length = R.bad.length + (lineD s).length := by simp [textT, atL_len]
  have e2 : sumBy size1 (s :: rest) = s.size + sumBy size1 rest := rfl
  refine ⟨h.sum, h.line0, h.line1, h.at_, ?_, fun _ => ⟨m1, ?_⟩⟩
  · rw [e1]; show _ ≤ c + sumBy wt (R.l.take (R.at_ + 1)); omega
  · rw [e1]; show _ ≤ c + sumBy wt (R.l.take (R.at_ + 1)); omega
theorem CellI.block {c : Nat} {R : Tr} {s : ByteArray} {rest : List ByteArray} (h : CellI c R (s :: rest)) (hc : 3 ≤ c) : CellI c (blockR R R.at_).1 (blockR R R.at_).2.2 ∧ fuelR (blockR R R.at_).1 (blockR R R.at_).2.2 < fuelR R (s :: rest) ∧
    (blockR R R.at_).1.l = R.l ∧ (blockR R R.at_).1.line = R.line ∧ (blockR R R.at_).1.cols = R.cols ∧ (blockR R R.at_).1.rows = R.rows ∧ (blockR R R.at_).1.box = R.box ∧ (blockR R R.at_).1.all = R.all ∧ R.at_ ≤ (blockR R R.at_).1.at_ ∧ (blockR R R.at_).2.1.length ≤ sumBy wt R.l := by
  obtain ⟨m1, m2⟩ := h.more (by simp)
  have hI : TrI (c - 3) { R with at_ := R.at_ + 1 } := ⟨h.sum, h.line0, h.line1, by show R.at_ + 1 ≤ R.l.length + 1; omega, by show R.bad.length ≤ c - 3 + sumBy wt (R.l.take (R.at_ + 1)); omega⟩
  have hsp := blockF_spec (fr := R.at_) (R.l.length + 1) { R with at_ := R.at_ + 1 } [] hI (by show R.l.length ≤ R.at_ + 1 + (R.l.length + 1); omega)
  change (blockR R R.at_).1.l = R.l ∧ (blockR R R.at_).1.line = R.line ∧ (blockR R R.at_).1.cols = R.cols ∧ (blockR R R.at_).1.rows = R.rows ∧ (blockR R R.at_).1.box = R.box ∧ (blockR R R.at_).1.all = R.all ∧ R.at_ + 1 ≤ (blockR R R.at_).1.at_ ∧ ((TrI (c - 3) (blockR R R.at_).1 ∧ ∃ s, R.l[(blockR R R.at_).1.at_]? = some s ∧ (blockR R R.at_).2.2 = (tabsB s).drop 1) ∨ ((blockR R R.at_).2.2 = [] ∧ R.l.length ≤ (blockR R R.at_).1.at_ ∧ TrI (c - 3 + 1) (blockR R R.at_).1)) ∧ (([] : List Glyph).length ≤ sumBy wt (R.l.take (R.at_ + 1)) → (blockR R R.at_).2.1.length ≤ sumBy wt R.l) at hsp
  generalize blockR R R.at_ = B at *
  obtain ⟨B1, B2, B3⟩ := B
  simp only at *
  obtain ⟨i1, i2, i3, i4, i5, i6, i7, i8, i9⟩ := hsp
  refine ⟨?_, ?_, i1, i2, i3, i4, i5, i6, by omega, i9 (Nat.zero_le _)⟩
  · rcases i8 with ⟨hB, z, hz, hr⟩ | ⟨hr, hat, hB⟩
    · have hzl := (List.getElem?_eq_some_iff.1 hz).1
      have hzl' : B1.at_ < B1.l.length := by rw [i1]; exact hzl
      have hsum := tabs_sum z
      have hd : sumBy size1 (tabsB z) = sumBy size1 ((tabsB z).take 1) + sumBy size1 ((tabsB z).drop 1) := (sumBy_drop size1 _ _).symm
      have h3 := sumBy_take wt hzl'
      have h4 : wt B1.l[B1.at_] = z.size + 3 := by
        have e1 : B1.l[B1.at_]? = some z := by rw [i1]; exact hz
        rw [(List.getElem?_eq_some_iff.1 e1).2]; rfl
      have h5 := hB.bad
      subst hr
      exact ⟨hB.sum, hB.line0, hB.line1, hB.at_, by omega, fun _ => ⟨hzl', by omega⟩⟩
    · subst hr
      have h5 := hB.bad
      have h6 : B1.l.take (B1.at_ + 1) = B1.l.take B1.at_ := by rw [List.take_of_length_le (by rw [i1]; omega), List.take_of_length_le (by rw [i1]; omega)]
      have h7 : sumBy size1 [] = 0 := rfl
      exact ⟨hB.sum, hB.line0, hB.line1, hB.at_, by rw [h6, h7]; omega, fun hh => absurd rfl hh⟩
  · unfold fuelR
    have e0 : (s :: rest).length = rest.length + 1 := rfl
    rw [i1, e0]
    rcases i8 with ⟨hB, z, hz, hr⟩ | ⟨hr, hat, hB⟩
    · obtain ⟨hzl, hz2⟩ := List.getElem?_eq_some_iff.1 hz
      have hl := tabs_len z
      subst hr
      have h1 : sumBy wt (R.l.drop B1.at_) = wt z + sumBy wt (R.l.drop (B1.at_ + 1)) := by
        rw [List.drop_eq_getElem_cons hzl, sumBy, hz2]
      have h2 : sumBy wt (R.l.drop B1.at_) ≤ sumBy wt (R.l.drop (R.at_ + 1)) := by
        have e : R.l.drop B1.at_ = (R.l.drop (R.at_ + 1)).drop (B1.at_ - (R.at_ + 1)) := by rw [List.drop_drop]; congr 1; omega
        have := sumBy_drop wt (R.l.drop (R.at_ + 1)) (B1.at_ - (R.at_ + 1))
        rw [e]; omega
      have h3 : wt z = z.size + 3 := rfl
      rw [List.length_drop]
      omega
    · subst hr
      have h1 : R.l.drop (B1.at_ + 1) = [] := List.drop_eq_nil_of_le (by omega)
      rw [h1]
      simp [sumBy]
      omega
theorem HOkT.one {H : Heap} (h : HOkT H) {fs : List FV} (hf : ∀ f ∈ body fs, f.np0 = true) : HOkT (H ++ [fs]) := fun gs hg f hf' => by
  have mono : ∀ {n : Nat} {f : FV}, f.und0 n = true → f.und0 (n + 1) = true := fun {n f} hf => by
    cases f with
    | fn f a b => cases a <;> cases b <;> simp_all [FV.und0]
    | ptr b o => simp only [FV.und0, decide_eq_true_eq] at hf ⊢; omega
    | bs b o k => simp only [FV.und0, decide_eq_true_eq] at hf ⊢; omega
    | gr b g z k => simp only [FV.und0, decide_eq_true_eq] at hf ⊢; omega
    | gp b g o => simp only [FV.und0, decide_eq_true_eq] at hf ⊢; omega
    | _ => simp_all [FV.und0]
  rw [List.length_append, List.length_singleton]
  rcases List.mem_append.1 hg with h' | h'
  · exact mono (h gs h' f hf')
  · rw [List.mem_singleton.1 h'] at hf'; exact FV.und_np (hf f hf')
theorem HOkT.put {H : Heap} {b : Nat} {R : Tr} (h : HOkT H) : HOkT (H.set b (trC R)) := fun fs hfs f hf => by rw [List.length_set]; exact h.set fs hfs f hf
def CelF (F : Tr × List (List Glyph)) (n : Nat) (R : Tr) (cs : List (List Glyph)) (f : FV) : Prop := ∃ rest, (f = .sc (.sl (rest.map .str)) ∨ (rest = [] ∧ f = .own [])) ∧ cellsF n R cs rest = F ∧ fuelR R rest ≤ n ∧ CellI 10 R rest ∧ ∀ s ∈ rest, s.size ≤ 1073741824
set_option linter.unusedSimpArgs false in
set_option maxRecDepth 20000 in
set_option maxHeartbeats 16000000 in
theorem conRowR {H : Heap} {b : Nat} {R : Tr} (hb : H[b]? = some (trC R)) (hI : TrI 10 R) (hat : R.at_ < R.l.length) (hrl : R.rows.length ≤ 1073741824) (hH : HOkT H) :
    Con C0 32 [.ptr b 0] H (.tup []) (H.set b (trC (rowR R))) := by
  have hbl : b < H.length := (List.getElem?_eq_some_iff.1 hb).1
  have hlen := hI.len
  obtain ⟨s, hls⟩ : ∃ s, R.l[R.at_] = s := ⟨_, rfl⟩
  have hget : R.l[R.at_]? = some s := by rw [List.getElem?_eq_getElem hat, hls]
  have hs := hI.size s (List.mem_of_getElem? hget)
  have hb1 : H[b]? = some [.sc (.sl (R.l.map .str)), .sc (.int .i64 R.at_), .sc (.int .i64 R.line), .sc (.str R.cols), .own (R.rows.map TRow.pv), .sc (.bool R.box), .sc (.bool R.all), .own (R.bad.map Dg.pv)] := hb
  have hat' : (R.at_ : Int) < (R.l.length : Int) := by omega
  have hu := hH.set (b := b) (R := rowR R)
  have srow := sizedT R.rows
  have srow1 : ∀ (x : Bool) (y : List PV), Sized 2 [PV.agg [.bool x, .sl y]] := fun x y p hp => by rw [List.mem_singleton.1 hp]; rfl
  refine con_trimU (C := C0) (fn := Tryd.f32) Tryd.func32 rfl (by decide) mixed (mv := mv32) (vars := vars32) (c := Tryd.f32.body.getD .skip) (by kernel_rfl) rfl hu ?_
  have hrow : rowR R = if s = ⟨#[95]⟩ ∨ s = ⟨#[61]⟩ then { R with rows := R.rows ++ [⟨true, []⟩] } else { (if (cellsF (fuelR R (tabsB s)) R [] (tabsB s)).1.cols.size < (cellsF (fuelR R (tabsB s)) R [] (tabsB s)).2.length then tellT (cellsF (fuelR R (tabsB s)) R [] (tabsB s)).1 11 R.at_ else (cellsF (fuelR R (tabsB s)) R [] (tabsB s)).1) with rows := (if (cellsF (fuelR R (tabsB s)) R [] (tabsB s)).1.cols.size < (cellsF (fuelR R (tabsB s)) R [] (tabsB s)).2.length then tellT (cellsF (fuelR R (tabsB s)) R [] (tabsB s)).1 11 R.at_ else (cellsF (fuelR R (tabsB s)) R [] (tabsB s)).1).rows ++ [⟨false, (cellsF (fuelR R (tabsB s)) R [] (tabsB s)).2⟩] } := by
    unfold rowR; rw [hget]
  by_cases h95 : s = ⟨#[95]⟩
  · rw [if_pos (.inl h95)] at hrow
    rw [hrow]
    simp [Tryd.f32, hb1, heap_old hbl, heap_old_set hbl, hs_b hbl, hs_set hbl, hat, hat', hls, h95, srow, srow1, lenMax, hs_at, hs_at0, hs_put0]
    exact ⟨by omega, by simp [trC, TRow.pv]⟩
  by_cases h61 : s = ⟨#[61]⟩
  · rw [if_pos (.inr h61)] at hrow
    rw [hrow]
    have e5 : ¬ ((⟨#[61]⟩ : ByteArray) = ⟨#[95]⟩) := by decide
    simp [Tryd.f32, hb1, heap_old hbl, heap_old_set hbl, hs_b hbl, hs_set hbl, hat, hat', hls, h61, e5, srow, srow1, lenMax, hs_at, hs_at0, hs_put0]
    exact ⟨by omega, by simp [trC, TRow.pv]⟩
  rw [if_neg (by rintro (h | h); exact h95 h; exact h61 h)] at hrow
  have c1 := conCut s hs
  have htl := tabs_len s
  generalize hF : cellsF (fuelR R (tabsB s)) R [] (tabsB s) = F at *
  simp [Tryd.f32, hb1, heap_old hbl, heap_old_set hbl, hs_b hbl, hs_set hbl, hat, hat', hls, h95, h61]
  refine CallQ.mk (Call.pure callable13 (by simp) (by simp) c1) ?_
  simp
  refine loopC (fun d e H' => ∃ (n : Nat) (R' : Tr) (cs : List (List Glyph)) (x4 x5 x6 x7 x19 x20 x46 x53 x68 x94 : FV), H' = H.set b (trC R') ++ [[.sc (.bool false), .own (cs.map gl)]] ∧ R'.l = R.l ∧ R'.line = R.line ∧ R'.cols = R.cols ∧ R'.rows = R.rows ∧ R'.box = R.box ∧ R'.all = R.all ∧ CelF F n R' cs x4 ∧ n = d ∧ cs.length + n ≤ 536870912 ∧ e = [(0, .ptr b 0), (2, .sc (.int .i64 R.at_)), (3, .ptr H.length 0), (4, x4), (5, x5), (6, x6), (7, x7), (19, x19), (20, x20), (46, x46), (53, x53), (68, x68), (94, x94)]) (d := fuelR R (tabsB s))
    ⟨fuelR R (tabsB s), R, [], .sc (.sl ((tabsB s).map .str)), .undef, .undef, .undef, _, _, .undef, .undef, .undef, .undef, by rw [set_same hb]; rfl, rfl, rfl, rfl, rfl, rfl, rfl, ⟨tabsB s, .inl rfl, hF, Nat.le_refl _, ?_, fun w hw => Nat.le_trans (tabs_size hw) hs⟩, rfl, ?_, rfl⟩ ?_
  · have h1 := hI.bad
    have h2 := sumBy_take wt hat
    have h3 : wt R.l[R.at_] = s.size + 3 := by rw [hls]; rfl
    have h4 := tabs_sum s
    exact ⟨hI.sum, hI.line0, hI.line1, hI.at_, by omega, fun _ => ⟨hat, by omega⟩⟩
  · have h1 := sumBy_drop wt R.l (R.at_ + 1)
    have h2 := hI.sum
    have h3 := sumBy_take wt hat
    have h4 : wt R.l[R.at_] = s.size + 3 := by rw [hls]; rfl
    unfold fuelR
    simp only [List.length_nil]
    omega
  rintro d e H' ⟨n, R', cs, x4, x5, x6, x7, x19, x20, x46, x53, x68, x94, rfl, r1, r2, r3, r4, r5, r6, ⟨rest, hx4, hF', hfu, hCI, hsz⟩, rfl, hcn, rfl⟩
  have hbl2 : b < (H.set b (trC R')).length := by simpa using hbl
  have hS := hCI.s (by omega)
  have hb2 : (H.set b (trC R') ++ [[.sc (.bool false), .own (cs.map gl)]])[b]? = some (trC R') := hs_b hbl
  have hT2 : HOkT (H.set b (trC R') ++ [[.sc (.bool false), .own (cs.map gl)]]) := hH.put.one (fun f hf => by simp [body] at hf; rcases hf with rfl | rfl <;> rfl)
  have hRl : R'.rows.length ≤ 1073741824 := by rw [r4]; exact hrl
  have srow := sizedT R'.rows
  have hat1 : R.at_ ≤ 1073741825 := by omega
  cases rest with
  | nil =>
    have hFe : F = (R', cs) := by rw [← hF']; cases n <;> rfl
    have ht11 := conTellT hb2 hS 11 R.at_ hat1
    rw [hrow, hFe]
    obtain ⟨l, at_, line, cols, rows, box, all, bad⟩ := R'
    simp only [trC, tellT, hs_set hbl] at ht11 ⊢
    simp only at hRl srow r3
    have hx4' : x4 = .sc (.sl []) ∨ x4 = .own [] := by
      rcases hx4 with h | ⟨_, h⟩
      · exact .inl h
      · exact .inr h
    have scs := sizedGl cs
    have hd : decide ((cols.size : Int) < (cs.length : Int)) = decide (cols.size < cs.length) := by
      apply decide_eq_decide.2; omega
    rcases hx4' with rfl | rfl
    all_goals
      by_cases hcc : cols.size < cs.length
      · have hcc' : (cols.size : Int) < (cs.length : Int) := by omega
        simp [hcc, hcc', hs_b hbl, hs_set hbl, hs_at, hs_at0]
        refine CallQ.mk (Call.shared callable47 ht11) ?_
        simp [hcc, hcc', hs_b hbl, hs_set hbl, hs_at, hs_at0, srow, srow1, lenMax, heap_old_take_set, TRow.pv]
        omega
      · have hcc' : ¬ (cols.size : Int) < (cs.length : Int) := by omega
        simp [hcc, hcc', hs_b hbl, hs_set hbl, hs_at, hs_at0, srow, srow1, lenMax, heap_old_take_set, TRow.pv]
        omega
  | cons w rest =>
    obtain ⟨m1, m2⟩ := hCI.more (by simp)
    have hx4' : x4 = .sc (.sl (.str w :: rest.map .str)) := by
      rcases hx4 with h | ⟨h, _⟩
      · exact h
      · simp at h
    subst hx4'
    have hws := hsz w (by simp)
    have hfe : fuelR R' (w :: rest) = sumBy wt (R'.l.drop (R'.at_ + 1)) + (rest.length + 1) := rfl
    obtain ⟨n, rfl⟩ : ∃ m, n = m + 1 := ⟨n - 1, by omega⟩
    rw [cellsF] at hF'
    have hrs : rest.length ≤ 536870912 := by omega
    have scs := sizedGl cs
    have hat2 : R'.at_ ≤ 1073741825 := hS.at_
    have hsb : sizedB 1 (rest.map PV.str) = true := by
      unfold sizedB
      rw [List.all_eq_true]
      intro p hp
      simp only [List.mem_map] at hp
      obtain ⟨x, _, rfl⟩ := hp
      rfl
    by_cases hw : w = openS
    · rw [if_pos hw] at hF'
      subst hw
      obtain ⟨q1, q2, q3, q4, q5, q6, q7, q8, q9, q10⟩ := hCI.block (by omega)
      have hTb : TrI (10 + sumBy wt R'.l) R' := ⟨hCI.sum, hCI.line0, hCI.line1, hCI.at_, by have := hCI.bad; have := sumBy_take_le wt R'.l (R'.at_ + 1); omega⟩
      have hsum := hCI.sum
      have cb := conBlockR (H := H.set b (trC R') ++ [[.sc (.bool false), .own (cs.map gl)]]) hb2 hTb (by omega) m1 R'.at_ hat2 hT2
      have hsz2 : ∀ x ∈ (blockR R' R'.at_).2.2, x.size ≤ 1073741824  := fun x hx => by
        have h1 := sumMem size1 hx
        have h2 := q1.bad
        have h3 := sumBy_take_le wt (blockR R' R'.at_).1.l ((blockR R' R'.at_).1.at_ + 1)
        have h4 := q1.sum
        have h5 : size1 x = x.size := rfl
        omega
      generalize blockR R' R'.at_ = B at *
      obtain ⟨B1, B2, B3⟩ := B
      simp only at q1 q2 q3 q4 q5 q6 q7 q8 q9 q10 cb hF' hsz2
      have fin : CelF F n B1 (cs ++ [B2]) (.sc (.sl (B3.map .str))) := ⟨B3, .inl rfl, hF', by omega, q1, hsz2⟩
      have hw' : (openS : ByteArray) = ⟨#[84, 123]⟩ := rfl
      obtain ⟨l, at_, line, cols, rows, box, all, bad⟩ := R'
      obtain ⟨l2, at2, line2, cols2, rows2, box2, all2, bad2⟩ := B1
      simp only at q3 q4 q5 q6 q7 q8 r1 r2 r3 r4 r5 r6
      simp only [trC, hs_set hbl] at cb ⊢
      have hone : (1 : Int) ≤ (rest.length : Int) + 1 := by omega
      have hpos : (0 : Int) < (rest.length : Int) + 1 := by omega
      simp [hw', sizedB, hone, hpos, hs_b hbl, hs_set hbl, hs_at, hs_at0]
      by_cases hr : 0 < rest.length
      all_goals
        simp [hr, hs_b hbl, hs_set hbl, hs_at, hs_at0]
        refine CallQ.mk (Call.shared callable49 cb) ?_
        simp [hs_b hbl, hs_set hbl, hs_at, hs_at0, hs_put0, scs, sizedSl, lenMax]
        exact ⟨fun p hp => by rw [List.mem_singleton.1 hp]; rfl, by omega, n, by omega, n, Tr.mk l2 at2 line2 cols2 rows2 box2 all2 bad2, cs ++ [B2], ⟨rfl, by simp⟩, q3.trans r1, q4.trans r2, q5.trans r3, q6.trans r4, q7.trans r5, q8.trans r6, _, fin, rfl, by rw [List.length_append, List.length_singleton]; omega, rfl⟩
    · rw [if_neg hw] at hF'
      have hw' : ¬ w = ⟨#[84, 123]⟩ := hw
      have hCt := hCI.text
      have hf2 : fuelR (textT R' w R'.at_) rest ≤ n := by
        show sumBy wt (R'.l.drop (R'.at_ + 1)) + rest.length ≤ n
        omega
      have fin : CelF F n (textT R' w R'.at_) (cs ++ [lineG face0 w]) (.sc (.sl (rest.map .str))) := ⟨rest, .inl rfl, hF', hf2, hCt, fun x hx => hsz x (by simp [hx])⟩
      have hT1 : HOkT (H.set b (trC R') ++ [[.sc (.bool false), .sc (.sl (cs.map gl))]]) := hH.put.one (fun f hf => by simp [body] at hf; rcases hf with rfl | rfl <;> rfl)
      have ct1 := conTextT (H := H.set b (trC R') ++ [[.sc (.bool false), .sc (.sl (cs.map gl))]]) (hs_b hbl) hS hT1 w R'.at_ hws hat2
      have ct2 := conTextT hb2 hS hT2 w R'.at_ hws hat2
      obtain ⟨l, at_, line, cols, rows, box, all, bad⟩ := R'
      simp only [trC] at ct1 ct2 ⊢
      simp only at fin
      have hone : (1 : Int) ≤ (rest.length : Int) + 1 := by omega
      have hpos : (0 : Int) < (rest.length : Int) + 1 := by omega
      simp [hw', sizedB, hone, hpos, hs_b hbl, hs_set hbl, hs_at, hs_at0]
      refine DrawC.mk2 ⟨fun _ _ => .undef, fun _ _ Hh => (.sc (gl (lineG face0 w)), Hh.set b (trC (textT (Tr.mk l at_ line cols rows box all bad) w at_)))⟩ ?_
      simp [hs_b hbl, hs_set hbl, hs_at, hs_at0, hs_put0]
      refine ⟨CallQ.mk (CallD.shared callable48 ct1 ⟨rfl, rfl⟩) ?_, CallQ.mk (CallD.shared callable48 ct2 ⟨rfl, rfl⟩) ?_⟩
      all_goals
        simp [trC, textT, hs_b hbl, hs_set hbl, hs_at, hs_at0, hs_put0, scs, sizedSl, lenMax]
        exact ⟨fun p hp => by rw [List.mem_singleton.1 hp]; rfl, by omega, n, by omega, n, textT (Tr.mk l at_ line cols rows box all bad) w at_, cs ++ [lineG face0 w], ⟨by simp [textT], by simp⟩, r1, r2, r3, r4, r5, r6, _, fin, rfl, by rw [List.length_append, List.length_singleton]; omega, by rw [List.take_of_length_le (by simp)]⟩
end Go.Proofs.YtabgeenhpfnhdaaDoor.Ev
end
section
namespace Go.Proofs.YtabgeenhpfnhdaaDoor.Ev
open Go
theorem TrI.mono {c d : Nat} {R : Tr} (h : TrI c R) (hcd : c ≤ d) : TrI d R := ⟨h.sum, h.line0, h.line1, h.at_, by have := h.bad; omega⟩
theorem blockF_at {fr : Nat} : ∀ (n : Nat) (R : Tr) (out : List Glyph), R.at_ ≤ R.l.length → (blockF fr n R out).1.at_ ≤ R.l.length
  | 0, R, out, h => h
  | n + 1, R, out, h => by
    rw [blockF]
    cases hg : R.l[R.at_]? with
    | none => exact h
    | some s =>
      have g1 := (List.getElem?_eq_some_iff.1 hg).1
      simp only
      split
      · exact h
      · exact blockF_at n _ _ (by show R.at_ + 1 ≤ R.l.length; omega)
def CellOk (c : List Glyph) : Prop := c.length ≤ 536870912
theorem cellsF_spec : ∀ (n : Nat) (R : Tr) (cs : List (List Glyph)) (rest : List ByteArray), CellI 10 R rest → fuelR R rest ≤ n → R.at_ ≤ R.l.length → (∀ c ∈ cs, CellOk c) →
    (cellsF n R cs rest).1.l = R.l ∧ (cellsF n R cs rest).1.line = R.line ∧ (cellsF n R cs rest).1.cols = R.cols ∧ (cellsF n R cs rest).1.rows = R.rows ∧ (cellsF n R cs rest).1.box = R.box ∧ (cellsF n R cs rest).1.all = R.all ∧ R.at_ ≤ (cellsF n R cs rest).1.at_ ∧ (cellsF n R cs rest).1.at_ ≤ R.l.length ∧
    CellI 10 (cellsF n R cs rest).1 [] ∧ (cellsF n R cs rest).2.length ≤ cs.length + n ∧ ∀ c ∈ (cellsF n R cs rest).2, CellOk c := by
  intro n
  induction n with
  | zero =>
    intro R cs rest h hf ha hc
    have hr : rest = [] := List.eq_nil_of_length_eq_zero (by unfold fuelR at hf; omega)
    subst hr
    exact ⟨rfl, rfl, rfl, rfl, rfl, rfl, Nat.le_refl _, ha, h, Nat.le_refl _, hc⟩
  | succ n ih =>
    intro R cs rest h hf ha hc
    cases rest with
    | nil =>
      rw [cellsF]
      exact ⟨rfl, rfl, rfl, rfl, rfl, rfl, Nat.le_refl _, ha, h, Nat.le_add_right _ _, hc⟩
    | cons s rest =>
      rw [cellsF]
      have hsum := h.sum
      by_cases hs : s = openS
      · rw [if_pos hs]
        obtain ⟨q1, q2, q3, q4, q5, q6, q7, q8, q9, q10⟩ := h.block (by omega)
        obtain ⟨m1, _⟩ := h.more (by simp)
        have hat : (blockR R R.at_).1.at_ ≤ R.l.length := blockF_at (R.l.length + 1) { R with at_ := R.at_ + 1 } [] (by show R.at_ + 1 ≤ R.l.length; omega)
        obtain ⟨i1, i2, i3, i4, i5, i6, i7, i8, i9, i10, i11⟩ := ih (blockR R R.at_).1 (cs ++ [(blockR R R.at_).2.1]) (blockR R R.at_).2.2 q1 (by omega) (by rw [q3]; exact hat) (fun c hc' => by
          rcases List.mem_append.1 hc' with hc' | hc'
          · exact hc c hc'
          · rw [List.mem_singleton.1 hc']; unfold CellOk; omega)
        exact ⟨i1.trans q3, i2.trans q4, i3.trans q5, i4.trans q6, i5.trans q7, i6.trans q8, by omega, by rw [q3] at i8; exact i8, i9, by rw [List.length_append, List.length_singleton] at i10; omega, i11⟩
      · rw [if_neg hs]
        have hfe : fuelR R (s :: rest) = fuelR (textT R s R.at_) rest + 1 := rfl
        have hll := line_len face0 s
        have hb := h.bad
        have h3 := sumBy_take_le wt R.l (R.at_ + 1)
        have e2 : sumBy size1 (s :: rest) = s.size + sumBy size1 rest := rfl
        obtain ⟨i1, i2, i3, i4, i5, i6, i7, i8, i9, i10, i11⟩ := ih (textT R s R.at_) (cs ++ [lineG face0 s]) rest h.text (by omega) ha (fun c hc' => by
          rcases List.mem_append.1 hc' with hc' | hc'
          · exact hc c hc'
          · rw [List.mem_singleton.1 hc']; unfold CellOk; omega)
        exact ⟨i1, i2, i3, i4, i5, i6, i7, i8, i9, by rw [List.length_append, List.length_singleton] at i10; omega, i11⟩
def RowOk (r : TRow) : Prop := r.cells.length ≤ 1073741824 ∧ ∀ c ∈ r.cells, c.length ≤ 536870912
theorem rowR_spec {R : Tr} (hI : TrI 10 R) (hat : R.at_ < R.l.length) : (rowR R).l = R.l ∧ (rowR R).line = R.line ∧ (rowR R).cols = R.cols ∧ (rowR R).box = R.box ∧ (rowR R).all = R.all ∧ R.at_ ≤ (rowR R).at_ ∧ (∃ r, (rowR R).rows = R.rows ++ [r] ∧ RowOk r) ∧ TrI 10 { rowR R with at_ := (rowR R).at_ + 1 } := by
  obtain ⟨s, hls⟩ : ∃ s, R.l[R.at_] = s := ⟨_, rfl⟩
  have hget : R.l[R.at_]? = some s := by rw [List.getElem?_eq_getElem hat, hls]
  have hbad := hI.bad
  have hst := sumBy_take wt hat
  have hwt : wt R.l[R.at_] = s.size + 3 := by rw [hls]; rfl
  unfold rowR
  simp only [hget]
  by_cases hr : s = ⟨#[95]⟩ ∨ s = ⟨#[61]⟩
  · rw [if_pos hr]
    refine ⟨rfl, rfl, rfl, rfl, rfl, Nat.le_refl _, ⟨_, rfl, by simp [RowOk]⟩, hI.sum, hI.line0, hI.line1, by show R.at_ + 1 ≤ R.l.length + 1; omega, ?_⟩
    show R.bad.length ≤ 10 + sumBy wt (R.l.take (R.at_ + 1))
    omega
  · rw [if_neg hr]
    have h4 := tabs_sum s
    have hC : CellI 10 R (tabsB s) := ⟨hI.sum, hI.line0, hI.line1, hI.at_, by omega, fun _ => ⟨hat, by omega⟩⟩
    obtain ⟨i1, i2, i3, i4, i5, i6, i7, i8, i9, i10, i11⟩ := cellsF_spec (fuelR R (tabsB s)) R [] (tabsB s) hC (Nat.le_refl _) (by omega) (by simp)
    have hfl : fuelR R (tabsB s) ≤ 536870912 := by
      have h1 := sumBy_drop wt R.l (R.at_ + 1)
      have h2 := hI.sum
      have htl := tabs_len s
      unfold fuelR
      omega
    generalize cellsF (fuelR R (tabsB s)) R [] (tabsB s) = C at *
    obtain ⟨C1, C2⟩ := C
    simp only at *
    have hb9 := i9.bad
    have e7 : sumBy size1 [] = 0 := rfl
    rw [e7, i1] at hb9
    have key : ∀ X : Tr, (X = C1 ∨ X = tellT C1 11 R.at_) → X.l = C1.l ∧ X.line = C1.line ∧ X.cols = C1.cols ∧ X.box = C1.box ∧ X.all = C1.all ∧ X.at_ = C1.at_ ∧ X.rows = C1.rows ∧ X.bad.length ≤ C1.bad.length + 1 := fun X hX => by
      rcases hX with rfl | rfl
      · exact ⟨rfl, rfl, rfl, rfl, rfl, rfl, rfl, Nat.le_succ _⟩
      · exact ⟨rfl, rfl, rfl, rfl, rfl, rfl, rfl, by simp [tellT]⟩
    obtain ⟨X, hX⟩ : ∃ X, X = (if C1.cols.size < C2.length then tellT C1 11 R.at_ else C1) := ⟨_, rfl⟩
    rw [← hX]
    obtain ⟨x1, x2, x3, x4, x5, x6, x7, x8⟩ := key X (by rw [hX]; split; exact .inr rfl; exact .inl rfl)
    refine ⟨x1.trans i1, x2.trans i2, x3.trans i3, x4.trans i5, x5.trans i6, by show R.at_ ≤ X.at_; omega, ⟨⟨false, C2⟩, by show X.rows ++ _ = _; rw [x7, i4], by show C2.length ≤ _; simp only [List.length_nil] at i10; omega, i11⟩, ?_, ?_, ?_, ?_, ?_⟩
    · show sumBy wt X.l ≤ _; rw [x1, i1]; exact hI.sum
    · show 0 ≤ X.line; rw [x2, i2]; exact hI.line0
    · show X.line ≤ _; rw [x2, i2]; exact hI.line1
    · show X.at_ + 1 ≤ X.l.length + 1; rw [x1, i1, x6]; omega
    · show X.bad.length ≤ 10 + sumBy wt (X.l.take (X.at_ + 1)); rw [x1, i1, x6]; omega
def rowsF : Nat → Tr → Tr
  | 0, R => R
  | n + 1, R => if R.at_ < R.l.length then rowsF n { rowR R with at_ := (rowR R).at_ + 1 } else R
theorem lookR_I {R : Tr} (h : TrI 0 R) (hat : R.at_ = 0) : TrI 1 (lookR R) ∧ (lookR R).l = R.l ∧ (lookR R).line = R.line ∧ (lookR R).rows = R.rows := by
  unfold lookR
  cases hl : R.l with
  | nil => exact ⟨h.mono (by omega), hl, rfl, rfl⟩
  | cons s l =>
    simp only
    by_cases hs : sufB s 59 = true
    · rw [if_pos hs]
      have h1 : R.l.length = l.length + 1 := by rw [hl]; rfl
      have hb := h.bad
      rw [hat, List.take_zero] at hb
      have e0 : sumBy wt [] = 0 := rfl
      rw [e0] at hb
      split
      · exact ⟨⟨h.sum, h.line0, h.line1, by show 1 ≤ R.l.length + 1; omega, by show R.bad.length ≤ _; omega⟩, hl, rfl, rfl⟩
      · exact ⟨⟨h.sum, h.line0, h.line1, by show 1 ≤ R.l.length + 1; omega, by show (R.bad ++ [_]).length ≤ _; rw [List.length_append, List.length_singleton]; omega⟩, hl, rfl, rfl⟩
    · rw [if_neg hs]
      exact ⟨h.mono (by omega), hl, rfl, rfl⟩
theorem colStep_rows (R : Tr) (s : ByteArray) : (colStep R s).rows = R.rows := by
  unfold colStep
  simp only
  split <;> split <;> split <;> simp [tellT]
theorem colLoop_I {c : Nat} : ∀ (n : Nat) (R : Tr) (e : Bool), TrI c R → TrI c (colLoop n R e).1 ∧ (colLoop n R e).1.l = R.l ∧ (colLoop n R e).1.line = R.line ∧ (colLoop n R e).1.rows = R.rows
  | 0, R, e, h => ⟨h, rfl, rfl, rfl⟩
  | n + 1, R, e, h => by
    rw [colLoop]
    split
    · exact ⟨h, rfl, rfl, rfl⟩
    · cases hg : R.l[R.at_]? with
      | none => exact ⟨h, rfl, rfl, rfl⟩
      | some s =>
        obtain ⟨i1, i2, i3, i4⟩ := colLoop_I n (colStep R s) (sufB s 46) (h.colStep hg)
        obtain ⟨e1, e2, _, _⟩ := colStep_l R s
        exact ⟨i1, i2.trans e1, i3.trans e2, i4.trans (colStep_rows R s)⟩
theorem columnsR_I {c : Nat} {R : Tr} (h : TrI c R) : TrI (c + 1) (columnsR R) ∧ (columnsR R).l = R.l ∧ (columnsR R).line = R.line ∧ (columnsR R).rows = R.rows := by
  obtain ⟨i1, i2, i3, i4⟩ := colLoop_I (R.l.length + 1) R false h
  unfold columnsR columnsEnd
  generalize colLoop (R.l.length + 1) R false = P at *
  obtain ⟨Q, e⟩ := P
  simp only at *
  have key : ∀ X : Tr, (X = Q ∨ X = { Q with cols := ⟨#[108]⟩ }) → TrI c X ∧ X.l = Q.l ∧ X.line = Q.line ∧ X.rows = Q.rows := fun X hX => by
    rcases hX with rfl | rfl
    · exact ⟨i1, rfl, rfl, rfl⟩
    · exact ⟨⟨i1.sum, i1.line0, i1.line1, i1.at_, i1.bad⟩, rfl, rfl, rfl⟩
  obtain ⟨X, hX⟩ : ∃ X, X = (if Q.cols = ⟨#[]⟩ then { Q with cols := ⟨#[108]⟩ } else Q) := ⟨_, rfl⟩
  rw [← hX]
  obtain ⟨k1, k2, k3, k4⟩ := key X (by rw [hX]; split; exact .inr rfl; exact .inl rfl)
  cases e
  · exact ⟨k1.tell 7 0, k2.trans i2, k3.trans i3, k4.trans i4⟩
  · exact ⟨k1.mono (by omega), k2.trans i2, k3.trans i3, k4.trans i4⟩
theorem colStep_cols {R : Tr} (h : R.cols.size ≤ 20) (s : ByteArray) : (colStep R s).cols.size ≤ 20 := by
  unfold colStep
  have key : ∀ X : Tr, X.cols = R.cols → (if (columnsT s).1.take 20 = [] then X else { X with cols := ba ((columnsT s).1.take 20) }).cols.size ≤ 20 := fun X hX => by
    split
    · rw [hX]; exact h
    · show (ba _).size ≤ 20
      rw [ba_size, List.length_take]; omega
  refine key _ ?_
  split <;> split <;> simp [tellT]
theorem colLoop_cols : ∀ (n : Nat) (R : Tr) (e : Bool), R.cols.size ≤ 20 → (colLoop n R e).1.cols.size ≤ 20
  | 0, R, e, h => h
  | n + 1, R, e, h => by
    rw [colLoop]
    split
    · exact h
    · cases R.l[R.at_]? with
      | none => exact h
      | some s => exact colLoop_cols n _ _ (colStep_cols h s)
theorem columnsR_cols {R : Tr} (h : R.cols.size ≤ 20) : (columnsR R).cols.size ≤ 20 := by
  have h1 := colLoop_cols (R.l.length + 1) R false h
  unfold columnsR columnsEnd
  generalize colLoop (R.l.length + 1) R false = P at *
  obtain ⟨Q, e⟩ := P
  simp only at *
  have key : ∀ X : Tr, X.cols.size ≤ 20 → (if e = true then X else tellT X 7 0).cols.size ≤ 20 := fun X hX => by split <;> exact hX
  refine key _ ?_
  split
  · show (⟨#[108]⟩ : ByteArray).size ≤ 20; decide
  · exact h1
theorem lookR_cols (R : Tr) : (lookR R).cols = R.cols := by
  unfold lookR
  split
  · rfl
  · split
    · show (if _ then R else tellT R 10 0).cols = _
      split <;> rfl
    · rfl
def startR (line : Int) (l : List ByteArray) : Tr := ⟨l, 0, line, ByteArray.empty, [], false, false, []⟩
def parseR (line : Int) (l : List ByteArray) : Tr := rowsF (l.length + 1) (columnsR (lookR (startR line l)))
def parseT (line : Int) (l : List ByteArray) : Tbl := mendT ⟨(parseR line l).cols, (parseR line l).rows, (parseR line l).box, (parseR line l).all⟩
end Go.Proofs.YtabgeenhpfnhdaaDoor.Ev
end
section
namespace Go.Proofs.YtabgeenhpfnhdaaDoor.Ev
open Go
structure PrI (F : Tr) (l : List ByteArray) (line : Int) (n : Nat) (R : Tr) : Prop where
  run : rowsF n R = F
  left : l.length ≤ R.at_ + n
  inv : TrI 10 R
  lines : R.l = l
  first : R.line = line
  count : R.rows.length ≤ R.at_
  rows : ∀ r ∈ R.rows, RowOk r
  cols : R.cols.size ≤ 20
theorem PrI.step {F : Tr} {l : List ByteArray} {line : Int} {n : Nat} {R : Tr} (h : PrI F l line (n + 1) R) (hat : R.at_ < R.l.length) : PrI F l line n { rowR R with at_ := (rowR R).at_ + 1 } := by
  obtain ⟨s1, s2, s3, s4, s5, s6, ⟨r, s7, s8⟩, s9⟩ := rowR_spec h.inv hat
  refine ⟨?_, ?_, s9, s1.trans h.lines, s2.trans h.first, ?_, fun q hq => ?_, by show (rowR R).cols.size ≤ 20; rw [s3]; exact h.cols⟩
  · have := h.run
    rw [rowsF, if_pos hat] at this
    exact this
  · show l.length ≤ (rowR R).at_ + 1 + n
    have := h.left; omega
  · show (rowR R).rows.length ≤ (rowR R).at_ + 1
    rw [s7, List.length_append, List.length_singleton]
    have := h.count; omega
  · have hq' : q ∈ R.rows ++ [r] := by rw [← s7]; exact hq
    rcases List.mem_append.1 hq' with hq' | hq'
    · exact h.rows q hq'
    · rw [List.mem_singleton.1 hq']; exact s8
theorem PrI.done {F : Tr} {l : List ByteArray} {line : Int} {n : Nat} {R : Tr} (h : PrI F l line n R) (hat : ¬ R.at_ < R.l.length) : F = R := by
  rw [← h.run]
  cases n with
  | zero => rfl
  | succ n => rw [rowsF, if_neg hat]
theorem PrI.start {l : List ByteArray} {line : Int} (hl : sumBy wt l ≤ 268435456) (h0 : 0 ≤ line) (h1 : line ≤ 1073741824) : TrI 0 (startR line l) ∧ TrI 1 (lookR (startR line l)) ∧ PrI (parseR line l) l line (l.length + 1) (columnsR (lookR (startR line l))) := by
  have i0 : TrI 0 (startR line l) := ⟨hl, h0, h1, Nat.zero_le _, Nat.zero_le _⟩
  obtain ⟨l1, l2, l3, l4⟩ := lookR_I i0 rfl
  obtain ⟨c1, c2, c3, c4⟩ := columnsR_I l1
  refine ⟨i0, l1, rfl, by omega, c1.mono (by omega), c2.trans l2, c3.trans l3, ?_, fun r hr => ?_, columnsR_cols (by rw [lookR_cols]; exact Nat.zero_le _)⟩
  · rw [c4, l4]; exact Nat.zero_le _
  · rw [c4, l4] at hr; simp [startR] at hr
set_option linter.unusedSimpArgs false in
set_option maxRecDepth 20000 in
set_option maxHeartbeats 16000000 in
theorem conParse (line : Int) (l : List ByteArray) (hl : sumBy wt l ≤ 268435456) (h0 : 0 ≤ line) (h1 : line ≤ 1073741824) :
    PCon C0 16 [.sc (.int .i64 line), .sc (.sl (l.map .str))] (.tup [(parseT line l).pv.toFV, .sc (.sl ((parseR line l).bad.map Dg.pv))]) := by
  obtain ⟨i0, i1, hP⟩ := PrI.start hl h0 h1
  refine penter16 ?_
  obtain ⟨T0, hT0⟩ : ∃ T0 : List FV, T0 = [.sc (.str ByteArray.empty), .own [], .sc (.bool false), .sc (.bool false)] := ⟨_, rfl⟩
  have hok : ∀ R : Tr, HOkT [T0, trC R] := fun R fs hfs f hf => by
    simp at hfs
    rcases hfs with rfl | rfl
    · subst hT0; simp [body] at hf; rcases hf with rfl | rfl | rfl | rfl <;> rfl
    · exact trC_und R _ f hf
  have c1 := conLookR (H := [T0, trC (startR line l)]) (b := 1) rfl (i0.s (by omega))
  have c2 := conColumnsR (H := [T0, trC (lookR (startR line l))]) (b := 1) rfl i1 (by omega)
  simp at c1 c2
  have hst : trC (startR line l) = [.sc (.sl (l.map .str)), .sc (.int .i64 0), .sc (.int .i64 line), .sc (.str ByteArray.empty), .own [], .sc (.bool false), .sc (.bool false), .own []] := rfl
  rw [hst] at c1
  subst hT0
  simp [Tryd.f16]
  refine CallQ.mk (Call.shared callable30 c1) ?_
  simp
  refine CallQ.mk (Call.shared callable31 c2) ?_
  simp
  refine loopC (fun d e H' => ∃ (n : Nat) (R : Tr) (x24 : FV), H' = [[.sc (.str ByteArray.empty), .own [], .sc (.bool false), .sc (.bool false)], trC R] ∧ PrI (parseR line l) l line n R ∧ n = d ∧ e = [(0, .sc (.int .i64 line)), (1, .sc (.sl (l.map .str))), (4, .ptr 0 0), (5, .own []), (6, .ptr 1 0), (24, x24)]) (d := l.length + 1) ⟨l.length + 1, _, .undef, rfl, hP, rfl, rfl⟩ ?_
  rintro d e H' ⟨n, R, x24, rfl, hI, rfl, rfl⟩
  have hlen : R.l.length ≤ 268435456 := Nat.le_trans (sumLen wt (fun s => by unfold wt; omega) R.l) hI.inv.sum
  by_cases hat : R.at_ < R.l.length
  · obtain ⟨n, rfl⟩ : ∃ m, n = m + 1 := ⟨n - 1, by have := hI.left; have := hI.lines; rw [← hI.lines] at *; omega⟩
    have hst := hI.step hat
    have hcnt := hI.count
    have cr := conRowR (H := [[.sc (.str ByteArray.empty), .own [], .sc (.bool false), .sc (.bool false)], trC R]) (b := 1) rfl hI.inv hat (by omega) (hok R)
    simp at cr
    obtain ⟨R1, hR1⟩ : ∃ R1, rowR R = R1 := ⟨_, rfl⟩
    have hat1 : R1.at_ ≤ 1073741825 := by
      have h5 := hst.inv.at_
      have h6 := hst.lines
      simp only at h5 h6
      rw [h6] at h5
      have h7 := hI.lines
      rw [h7] at hlen
      rw [← hR1]; omega
    rw [hR1] at cr hst
    have hw : IntKind.i64.wrap ((R1.at_ : Int) + 1) = ((R1.at_ + 1 : Nat) : Int) := by rw [wrap64 (by omega) (by omega)]; omega
    obtain ⟨l', at_, line', cols, rows, box, all, bad⟩ := R
    obtain ⟨l2, at2, line2, cols2, rows2, box2, all2, bad2⟩ := R1
    simp only at hat hw
    have hat' : (at_ : Int) < (l'.length : Int) := by omega
    simp only [trC] at cr ⊢
    simp [hat, hat']
    refine CallQ.mk (Call.shared callable32 cr) ?_
    simp [hw]
    exact ⟨n, by omega, n, Tr.mk l2 (at2 + 1) line2 cols2 rows2 box2 all2 bad2, ⟨rfl, by show (at2 : Int) + 1 = ((at2 + 1 : Nat) : Int); omega, rfl, rfl, rfl, rfl, rfl, rfl⟩, hst, rfl⟩
  · have hF := hI.done hat
    have hc := hI.count
    have hat3 := hI.inv.at_
    have hcols := hI.cols
    have cm := treeMend ⟨R.cols, R.rows, R.box, R.all⟩ ⟨by show R.cols.size ≤ _; omega, by show R.rows.length ≤ _; omega, fun r hr => ⟨(hI.rows r hr).1, fun c hc => by have := (hI.rows r hr).2 c hc; omega⟩⟩
    unfold parseT
    rw [hF]
    generalize mendT ⟨R.cols, R.rows, R.box, R.all⟩ = M at *
    obtain ⟨l', at_, line', cols, rows, box, all, bad⟩ := R
    obtain ⟨mc, mr, mb, ma⟩ := M
    simp only at hat
    have hat' : ¬ (at_ : Int) < (l'.length : Int) := by omega
    simp only [Tbl.pv, PV.toFV, List.map_cons, List.map_nil] at cm ⊢
    simp only [trC]
    simp [hat, hat']
    refine DrawC.mk (fun _ _ => .agg [.sc (.str mc), .sc (.sl (mr.map TRow.pv)), .sc (.bool mb), .sc (.bool ma)]) ?_
    simp
    refine ⟨CallQ.mk (CallD.pure callable33 (by simp) (by simp) cm rfl) ?_, CallQ.mk (CallD.pure callable33 (by simp) (by simp) cm rfl) ?_⟩
    all_goals simp
end Go.Proofs.YtabgeenhpfnhdaaDoor.Ev
end
section
namespace Go.Proofs.YtabgeenhpfnhdaaDoor.Ev
open Go
def kLines : List ByteArray := [⟨#[108, 32, 114, 46]⟩, ⟨#[97, 9, 98]⟩]
def kTbl : Tbl := ⟨⟨#[108, 114]⟩, [⟨false, [[⟨97, 0⟩], [⟨98, 0⟩]]⟩], false, false⟩
set_option maxRecDepth 100000 in
theorem kt1 : parseT 1 kLines = kTbl := by kernel_rfl
set_option maxRecDepth 100000 in
theorem kt2 : (parseR 1 kLines).bad = [] := by kernel_rfl
theorem kTbl_ok : kTbl.ok := by
  refine ⟨by decide, fun c hc => ?_⟩
  rw [List.mem_singleton.1 hc]
  refine ⟨by decide, fun g hg => ?_⟩
  simp at hg
  rcases hg with rfl | rfl <;> decide
set_option linter.unusedSimpArgs false in
set_option maxRecDepth 20000 in
set_option maxHeartbeats 4000000 in
theorem conKnown09 : PCon C0 7 [] (.sc (.bool true)) := by
  have p := conParse 1 kLines (by decide) (by decide) (by decide)
  rw [kt1, kt2] at p
  have s := refTableSame kTbl kTbl kTbl_ok
  rw [decide_eq_true (rfl : kTbl = kTbl)] at s
  simp only [Tbl.pv, PV.toFV, List.map_cons, List.map_nil, kTbl, kLines, TRow.pv, gl] at p s
  refine penter7 ?_
  simp [Tryd.f7, Sized]
  refine ⟨rfl, ?_⟩
  refine CallQ.mk (Call.pure callable16 (by simp) (by simp) p) ?_
  simp
  refine ⟨fun p hp => by rw [List.mem_singleton.1 hp]; rfl, fun p hp => by rw [List.mem_singleton.1 hp]; rfl, rfl, fun p hp => by simp at hp; rcases hp with rfl | rfl <;> rfl, fun p hp => by rw [List.mem_singleton.1 hp]; rfl, ?_⟩
  refine CallQ.mk (Call.pure callable21 (by simp) (by simp) s) ?_
  simp
end Go.Proofs.YtabgeenhpfnhdaaDoor.Ev
end
section
namespace Go.Proofs.YtabgeenhpfnhdaaDoor.Ev
open Go
def joinB (sep : ByteArray) (xs : List ByteArray) : ByteArray := ⟨(Go.Lib.join (xs.map (·.data.toList)) sep.data.toList).toArray⟩
theorem conJoinT (xs : List ByteArray) (sep : ByteArray) (hN : xs.length ≤ 1073741824) (hlen : (joinB sep xs).size ≤ 68719476736) : PCon C0 36 [.sc (.sl (xs.map .str)), .sc (.str sep)] (.sc (.str (joinB sep xs))) :=
  pcon_below rfl (fun _ _ => .str) fun vs W hl ha hH => by
    obtain ⟨u, v, rfl, hu, hv⟩ := args2 hl ha
    have hj : (Go.Lib.join (xs.map (·.data.toList)) sep.data.toList).length ≤ 140737488355328 := by
      have : (joinB sep xs).size = (Go.Lib.join (xs.map (·.data.toList)) sep.data.toList).length := ba_size _
      omega
    cases hu with
    | sc _ hr =>
      obtain ⟨a, cap, rfl, h⟩ := repStrs hr
      rw [hv.str]
      rcases h with rfl | ⟨bk, o, rfl, hcap, hc⟩
      · exact (Tryd.strings_Join_none a cap sep W.w).mono fun e w' ⟨he, hw⟩ => ⟨he, by rw [hw]; exact RowKit.Below.refl _ _⟩
      · cases xs with
        | nil => exact (Tryd.strings_Join_none (some ⟨bk, o, none⟩) cap sep W.w).mono fun e w' ⟨he, hw⟩ => ⟨he, by rw [hw]; exact RowKit.Below.refl _ _⟩
        | cons x xs =>
          exact Tryd.strings_Join bk o cap (x :: xs) sep W.w hc (World.block_lt_of_cell? _ _ (hc 0 x rfl)) (by omega) hcap hj
theorem conChars (s : ByteArray) (hs : s.size ≤ 1073741824) (ha : ∀ b ∈ s.data.toList, b.toNat < 128) : PCon C0 29 [.sc (.str s), .sc (.str ⟨#[]⟩)] (.sc (.sl ((Go.Lib.charsB s).map .str))) := by
  refine pcon_strs _ fun vs W hl hv hH => ?_
  obtain ⟨u, v, rfl, hu, hv⟩ := args2 hl hv
  rw [hu.str, hv.str]
  have := Tryd.strings_Split_chars s ⟨#[]⟩ W.w rfl (by omega) (fun j b hb => ha b (List.mem_of_getElem? hb))
  have hlen : (Go.Lib.charsB s).length = s.size := Go.Lib.charsUpTo_length s s.size
  rw [← hlen] at this
  refine this.mono fun e w' ⟨he, hw⟩ => ?_
  subst hw
  have hA : W.w.heap.size ≤ (W.w.iter s (Go.Lib.charsB s).length).heap.size := by
    show W.w.heap.size ≤ (W.w.heap.push _).size
    rw [Array.size_push]; omega
  have hA' : (W.w.iter s (Go.Lib.charsB s).length).heap.size < ((W.w.iter s (Go.Lib.charsB s).length).alloc (.cells ((Go.Lib.charsB s).map Value.string).toArray 9)).heap.size := by
    show _ < ((W.w.iter s (Go.Lib.charsB s).length).heap.push _).size
    rw [Array.size_push]; omega
  refine ⟨_, _, he, Nat.le_refl _, hA, hA', fun j x hj => ?_, (((RowKit.Below.refl _ _).alloc (Nat.le_refl _) _).alloc hA _)⟩
  have hh : ((W.w.iter s (Go.Lib.charsB s).length).alloc (.cells ((Go.Lib.charsB s).map Value.string).toArray 9)).heap[(W.w.iter s (Go.Lib.charsB s).length).heap.size]? = some (.cells ((Go.Lib.charsB s).map Value.string).toArray 9 (0, 0)) := by
    show ((W.w.iter s (Go.Lib.charsB s).length).heap.push _)[(W.w.iter s (Go.Lib.charsB s).length).heap.size]? = _
    simp
  rw [cell_of_heap hh]
  simp [hj]
theorem conContainsS (xs : List ByteArray) (x : ByteArray) (hN : xs.length ≤ 1073741824) : PCon C0 58 [.sc (.sl (xs.map .str)), .sc (.str x)] (.sc (.bool (Go.Lib.containsS xs x))) :=
  pcon_below rfl (fun _ _ => .bool) fun vs W hl ha hH => by
    obtain ⟨u, v, rfl, hu, hv⟩ := args2 hl ha
    cases hu with
    | sc _ hr =>
      obtain ⟨a, cap, rfl, h⟩ := repStrs hr
      rw [hv.str]
      rcases h with rfl | ⟨bk, o, rfl, hcap, hc⟩
      · exact (Tryd.slices_Contains_string_empty a cap x W.w).mono fun e w' ⟨he, hw⟩ => ⟨by rw [he]; rfl, by rw [hw]; exact RowKit.Below.refl _ _⟩
      · refine (Tryd.slices_Contains_string bk o xs.length cap xs x W.w (Nat.le_refl _) (by omega) fun j hj => ?_).mono fun e w' ⟨he, hw⟩ => ⟨?_, by rw [hw]; exact RowKit.Below.refl _ _⟩
        · rw [hc j xs[j] (List.getElem?_eq_getElem hj)]
          simp [List.getD, hj]
        · rw [he, List.take_length]
def Bare (l : List Glyph) : Prop := ∀ g ∈ l, g.s = 0 ∧ (g.r = 32 ∨ g.r = 95 ∨ (97 ≤ g.r ∧ g.r ≤ 122))
def grs (l : List Glyph) : List Int := l.map (·.r)
def specials : List ByteArray := [⟨#[95]⟩, ⟨#[61]⟩, ⟨#[84, 123]⟩]
def plainB (l : List Glyph) (alone : Bool) : ByteArray := if Go.Lib.containsS specials (runesBytes (grs l)) = true ∨ (runesBytes (grs l) = ⟨#[]⟩ ∧ alone = true) then (⟨#[92, 38]⟩ : ByteArray) ++ runesBytes (grs l) else runesBytes (grs l)
set_option linter.unusedSimpArgs false in
set_option maxRecDepth 20000 in
set_option maxHeartbeats 4000000 in
theorem conPlain (l : List Glyph) (alone : Bool) (hl : l.length ≤ 67108864) (hB : Bare l) : PCon C0 37 [.sc (gl l), .sc (.bool alone)] (.sc (.str (plainB l alone))) := by
  refine penter37 ?_
  have hz := runesBytes_size_le (grs l)
  have hrl : (grs l).length = l.length := List.length_map ..
  have cc := conContainsS specials (runesBytes (grs l)) (by decide)
  simp [Tryd.f37, gl]
  refine loopC (fun d e H' => ∃ (i : Nat) (x7 x12 x37 : FV), d = l.length - i ∧ i ≤ l.length ∧ e = [(0, .sc (.sl (l.map Glyph.pv))), (1, .sc (.bool alone)), (4, .sc (.str ⟨#[]⟩)), (5, .own ((grs (l.take i)).map (PV.int .i32))), (7, x7), (8, .undef), (9, .sc (.sl (l.map Glyph.pv))), (10, .sc (.int .i64 l.length)), (11, .sc (.int .i64 i)), (12, x12), (37, x37), (55, .undef)]) (d := l.length) ⟨0, .undef, .undef, .undef, rfl, Nat.zero_le _, by simp [grs]⟩ ?_
  rintro d e H' ⟨i, x7, x12, x37, rfl, hi, rfl⟩
  simp
  refine CondC.mk (fun hlt => ?_) (fun hlt => ?_)
  · simp at hlt
    have hlt' : (i : Int) < (l.length : Int) := by omega
    have hw : IntKind.i64.wrap ((i : Int) + 1) = ((i + 1 : Nat) : Int) := by rw [wrap64 (by omega) (by omega)]; omega
    have hg := hB _ (List.getElem_mem hlt)
    have ht : grs (l.take (i + 1)) = grs (l.take i) ++ [l[i].r] := by rw [List.take_succ_eq_append_getElem hlt]; exact List.map_append
    have hil : (grs (l.take i)).length = i := by simp [grs]; omega
    obtain ⟨g, hge⟩ : ∃ g, l[i] = g := ⟨_, rfl⟩
    rw [hge] at hg ht
    obtain ⟨gr, gs⟩ := g
    simp only at hg ht
    obtain ⟨_, hgr⟩ := hg
    have n1 : 32 ≤ gr := by omega
    have n2 : gr < 127 := by omega
    have n3 : ¬ gr = 8232 := by omega
    have n4 : ¬ gr = 8233 := by omega
    have so : Sized 1 ((grs (l.take i)).map (PV.int .i32)) := fun p hp => by simp only [List.mem_map] at hp; obtain ⟨x, _, rfl⟩ := hp; rfl
    have s1 : Sized 1 [PV.int .i32 gr] := fun p hp => by rw [List.mem_singleton.1 hp]; rfl
    generalize grs (l.take i) = S at *
    simp [hlt, hlt', hge, Glyph.pv, n1, n2, n3, n4, so, s1, lenMax, hw]
    exact ⟨by omega, l.length - (i + 1), by omega, i + 1, rfl, by omega, by rw [ht]; simp, by omega⟩
  · simp at hlt
    have hie : i = l.length := by omega
    subst hie
    rw [List.take_length]
    have hsp : specials.map PV.str = [PV.str ⟨#[95]⟩, PV.str ⟨#[61]⟩, PV.str ⟨#[84, 123]⟩] := rfl
    rw [hsp] at cc
    have hrr : runesOf ((grs l).map (PV.int .i32)) = some (grs l) := runesOf_I (grs l)
    have s3 : Sized 1 [PV.str ⟨#[95]⟩, PV.str ⟨#[61]⟩, PV.str ⟨#[84, 123]⟩] := fun p hp => by simp at hp; rcases hp with rfl | rfl | rfl <;> rfl
    have hr3 : [0, 1, 2] = List.range 3 := rfl
    have hadd : (⟨#[92, 38]⟩ : ByteArray).size + (runesBytes (grs l)).size ≤ 1099511627776 := by
      have : (⟨#[92, 38]⟩ : ByteArray).size = 2 := rfl
      omega
    unfold plainB
    simp [hrr, s3, hr3]
    generalize runesBytes (grs l) = w at *
    refine CallQ.mk (Call.pure callable58 (by simp) (by simp) cc) ?_
    cases h1 : Go.Lib.containsS specials w
    · by_cases h2 : w = ⟨#[]⟩
      · cases alone
        · simp [h2]
        · have h0 : (⟨#[92, 38]⟩ : ByteArray).size + (⟨#[]⟩ : ByteArray).size ≤ 1099511627776 := by decide
          simp [h2, h0]
      · simp [h2]
    · simp [hadd]
end Go.Proofs.YtabgeenhpfnhdaaDoor.Ev
end
section
namespace Go.Proofs.YtabgeenhpfnhdaaDoor.Ev
open Go
def colsLine (c : ByteArray) : ByteArray := joinB ⟨#[32]⟩ (Go.Lib.charsB c) ++ (⟨#[46]⟩ : ByteArray)
def cellsLine (l : List (List Glyph)) : ByteArray := joinB ⟨#[9]⟩ (l.map fun c => plainB c (decide (l.length = 1)))
def rowLine (r : TRow) : ByteArray := if r.rule = true then ⟨#[95]⟩ else cellsLine r.cells
def headT (t : Tbl) : List ByteArray := if t.all = true then [⟨#[97, 108, 108, 98, 111, 120, 59]⟩] else if t.box = true then [⟨#[98, 111, 120, 59]⟩] else []
def printT (t : Tbl) : List ByteArray := headT t ++ [colsLine t.cols] ++ t.rows.map rowLine
structure PrS (t : Tbl) : Prop where
  s : TblS t
  rows : t.rows.length ≤ 67108864
  cols : t.cols.size ≤ 20
  side : ∀ b ∈ t.cols.data.toList, b.toNat < 128
  cells : ∀ r ∈ t.rows, r.cells.length ≤ 20
  bare : ∀ r ∈ t.rows, ∀ c ∈ r.cells, Bare c
  len : ∀ r ∈ t.rows, ∀ c ∈ r.cells, c.length ≤ 1048576
theorem join_size (sep : List UInt8) : ∀ l : List (List UInt8), (sep.intercalate l).length ≤ sumBy (fun x => x.length + sep.length) l
  | [] => by simp
  | [x] => by simp [sumBy]
  | x :: y :: l => by
    have ih := join_size sep (y :: l)
    have e : sep.intercalate (x :: y :: l) = x ++ sep ++ sep.intercalate (y :: l) := by simp [List.intercalate]
    rw [e, List.length_append, List.length_append]
    simp only [sumBy] at ih ⊢
    omega
theorem joinB_size (sep : ByteArray) (xs : List ByteArray) : (joinB sep xs).size ≤ sumBy (fun x => x.size + sep.size) xs := by
  have h1 : (joinB sep xs).size = (Go.Lib.join (xs.map (·.data.toList)) sep.data.toList).length := ba_size _
  rw [h1]
  refine Nat.le_trans (join_size _ _) ?_
  rw [← Go.Lib.size_eq]
  clear h1
  induction xs with
  | nil => simp [sumBy]
  | cons x xs ih =>
    have := Go.Lib.size_eq x
    simp only [List.map_cons, sumBy] at ih ⊢
    omega
theorem sumBy_bound {α : Type} (f : α → Nat) (m : Nat) : ∀ l : List α, (∀ x ∈ l, f x ≤ m) → sumBy f l ≤ l.length * m
  | [], _ => by simp [sumBy]
  | x :: l, h => by
    have ih := sumBy_bound f m l fun y hy => h y (by simp [hy])
    have := h x (by simp)
    rw [sumBy, List.length_cons, Nat.succ_mul]; omega
theorem charsB_len (s : ByteArray) : (Go.Lib.charsB s).length = s.size := Go.Lib.charsUpTo_length s s.size
theorem charsB_size {s x : ByteArray} (hx : x ∈ Go.Lib.charsB s) : x.size ≤ 1 := by
  unfold Go.Lib.charsB Go.Lib.charsUpTo at hx
  obtain ⟨i, _, rfl⟩ := List.mem_map.1 hx
  rw [ByteArray.size_extract]; omega
theorem plainB_size (c : List Glyph) (a : Bool) : (plainB c a).size ≤ 4 * c.length + 2 := by
  have h := runesBytes_size_le (grs c)
  have h1 : (grs c).length = c.length := List.length_map ..
  unfold plainB
  split
  · rw [ByteArray.size_append]
    have : (⟨#[92, 38]⟩ : ByteArray).size = 2 := rfl
    omega
  · omega
def rowsP (mr : List TRow) (i : Nat) : List ByteArray := (mr.take i).map rowLine
theorem rowsP_succ {mr : List TRow} {i : Nat} (h : i < mr.length) : rowsP mr (i + 1) = rowsP mr i ++ [rowLine mr[i]] := by
  unfold rowsP
  rw [List.take_succ_eq_append_getElem h, List.map_append]; rfl
theorem rowsP_len {mr : List TRow} {i : Nat} (h : i ≤ mr.length) : (rowsP mr i).length = i := by
  unfold rowsP
  rw [List.length_map, List.length_take]; omega
theorem rowsP_all (mr : List TRow) : rowsP mr mr.length = mr.map rowLine := by unfold rowsP; rw [List.take_length]
def cellsP (cs : List (List Glyph)) (i : Nat) : List ByteArray := (cs.take i).map fun c => plainB c (decide (cs.length = 1))
theorem cellsP_succ {cs : List (List Glyph)} {i : Nat} (h : i < cs.length) : cellsP cs (i + 1) = cellsP cs i ++ [plainB cs[i] (decide (cs.length = 1))] := by
  unfold cellsP
  rw [List.take_succ_eq_append_getElem h, List.map_append]; rfl
theorem cellsP_len {cs : List (List Glyph)} {i : Nat} (h : i ≤ cs.length) : (cellsP cs i).length = i := by
  unfold cellsP
  rw [List.length_map, List.length_take]; omega
theorem cellsP_all (cs : List (List Glyph)) : cellsP cs cs.length = cs.map fun c => plainB c (decide (cs.length = 1)) := by unfold cellsP; rw [List.take_length]
set_option linter.unusedSimpArgs false in
set_option maxRecDepth 20000 in
set_option maxHeartbeats 4000000 in
theorem conPrint (t : Tbl) (ht : TblS t) (hP : PrS (mendT t)) : PCon C0 20 [t.pv.toFV] (.own ((printT (mendT t)).map .str)) := by
  have cm := treeMend t ht
  refine penter20 ?_
  generalize mendT t = M at *
  obtain ⟨tc, tr, tb, ta⟩ := t
  obtain ⟨mc, mr, mb, ma⟩ := M
  have c1 := conChars mc (by have := hP.cols; show mc.size ≤ _; simp only at this; omega) hP.side
  have hj1 : (joinB ⟨#[32]⟩ (Go.Lib.charsB mc)).size ≤ 40 := by
    have h1 := joinB_size ⟨#[32]⟩ (Go.Lib.charsB mc)
    have h2 := sumBy_bound (fun x : ByteArray => x.size + (⟨#[32]⟩ : ByteArray).size) 2 (Go.Lib.charsB mc) (fun x hx => by
      have := charsB_size hx
      have h3 : (⟨#[32]⟩ : ByteArray).size = 1 := rfl
      show x.size + (⟨#[32]⟩ : ByteArray).size ≤ 2
      omega)
    have h3 := charsB_len mc
    have h4 := hP.cols
    simp only at h4
    omega
  have c2 := conJoinT (Go.Lib.charsB mc) ⟨#[32]⟩ (by rw [charsB_len]; have := hP.cols; simp only at this; omega) (by omega)
  simp only [Tbl.pv, PV.toFV, List.map_cons, List.map_nil] at cm ⊢
  simp [Tryd.f20]
  refine CallQ.mk (Call.pure callable33 (by simp) (by simp) cm) ?_
  have hadd : (joinB ⟨#[32]⟩ (Go.Lib.charsB mc)).size + (⟨#[46]⟩ : ByteArray).size ≤ 1099511627776 := by
    have : (⟨#[46]⟩ : ByteArray).size = 1 := rfl
    omega
  have sz0 : Sized 1 [] := fun p hp => by cases hp
  have hcells := hP.cells
  have hbare := hP.bare
  have hlen := hP.len
  have hrows : mr.length ≤ 67108864 := hP.rows
  simp only at hcells hbare hlen
  cases ma <;> cases mb
  · have hhd : headT ⟨mc, mr, false, false⟩ = ([] : List ByteArray) := rfl
    simp [sizedStr1, sz0, lenMax]
    refine CallQ.mk (Call.pure callable29 (by simp) (by simp) c1) ?_
    simp
    refine CallQ.mk (Call.pure callable36 (by simp) (by simp) c2) ?_
    simp [hadd, sizedStr1, sz0, lenMax]
    unfold printT
    rw [hhd]
    obtain ⟨O, hO⟩ : ∃ O : List ByteArray, O = ([] : List ByteArray) ++ [colsLine mc] := ⟨_, rfl⟩
    have hO1 : O.map PV.str = [PV.str (joinB ⟨#[32]⟩ (Go.Lib.charsB mc) ++ (⟨#[46]⟩ : ByteArray))] := by rw [hO]; rfl
    have hOl : O.length ≤ 2 := by rw [hO]; simp
    rw [← hO]
    rw [← hO1]
    clear hO1 hO hhd
    refine loopC (fun d e H' => ∃ (i : Nat) (x5 x6 x8 x35 x39 x44 x45 x46 x47 : FV), d = mr.length - i ∧ i ≤ mr.length ∧ e = [(0, .agg [.sc (.str tc), .sc (.sl (tr.map TRow.pv)), .sc (.bool tb), .sc (.bool ta)]), (1, .ptr 0 0), (2, .own []), (3, .own (O.map .str ++ (rowsP mr i).map .str)), (5, x5), (6, x6), (8, x8), (11, .sc (.bool false)), (17, .sc (.bool false)), (32, .sc (.sl (mr.map TRow.pv))), (33, .sc (.int .i64 mr.length)), (34, .sc (.int .i64 i)), (35, x35), (39, x39), (44, x44), (45, x45), (46, x46), (47, x47)]) (d := mr.length) ⟨0, .undef, .undef, .undef, .undef, .undef, .undef, .undef, .undef, .undef, rfl, Nat.zero_le _, by simp [rowsP]⟩ ?_
    rintro d e H' ⟨i, x5, x6, x8, x35, x39, x44, x45, x46, x47, rfl, hi, rfl⟩
    simp
    refine CondC.mk (fun hlt => ?_) (fun hlt => ?_)
    · simp at hlt
      have hlt' : (i : Int) < (mr.length : Int) := by omega
      have hw : IntKind.i64.wrap ((i : Int) + 1) = ((i + 1 : Nat) : Int) := by rw [wrap64 (by omega) (by omega)]; omega
      have hmem := List.getElem_mem hlt
      have hc20 := hcells _ hmem
      have hbr := hbare _ hmem
      have hln := hlen _ hmem
      have ht : rowsP mr (i + 1) = rowsP mr i ++ [rowLine mr[i]] := rowsP_succ hlt
      have hil : (rowsP mr i).length = i := rowsP_len (by omega)
      obtain ⟨r, hr⟩ : ∃ r, mr[i] = r := ⟨_, rfl⟩
      rw [hr] at ht hc20 hbr hln
      obtain ⟨rl, cs⟩ := r
      simp only at hc20 hbr hln
      have so : Sized 1 (O.map PV.str ++ (rowsP mr i).map PV.str) := by have := sizedStr (O ++ rowsP mr i); rwa [List.map_append] at this
      have hfin : ∀ z : ByteArray, z = rowLine ⟨rl, cs⟩ → ∃ d', d' < mr.length - i ∧ ∃ k : Nat, d' = mr.length - k ∧ k ≤ mr.length ∧ (rowsP mr i).map PV.str ++ [PV.str z] = (rowsP mr k).map PV.str ∧ (i : Int) + 1 = k := fun z hz =>
        ⟨mr.length - (i + 1), by omega, i + 1, rfl, by omega, by rw [ht, List.map_append, hz]; rfl, by omega⟩
      cases rl
      · simp [hlt, hlt', hr, TRow.pv]
        refine loopC (fun d e H1 => ∃ (k : Nat) (x8 x47 : FV), d = cs.length - k ∧ k ≤ cs.length ∧ e = [(0, .agg [.sc (.str tc), .sc (.sl (tr.map TRow.pv)), .sc (.bool tb), .sc (.bool ta)]), (1, .ptr 0 0), (2, .own []), (3, .own (O.map .str ++ (rowsP mr i).map .str)), (5, .ptr H'.length 0), (6, .own ((cellsP cs k).map .str)), (8, x8), (11, .sc (.bool false)), (17, .sc (.bool false)), (32, .sc (.sl (mr.map TRow.pv))), (33, .sc (.int .i64 mr.length)), (34, .sc (.int .i64 i)), (35, .sc (.bool true)), (39, .sc (.bool false)), (44, .sc (.sl (cs.map gl))), (45, .sc (.int .i64 cs.length)), (46, .sc (.int .i64 k)), (47, x47)] ∧ H1 = H' ++ [[.sc (.bool false), .sc (.sl (cs.map gl))]]) (d := cs.length) ⟨0, _, _, rfl, Nat.zero_le _, by simp [cellsP, gl]; exact ⟨rfl, rfl⟩, rfl⟩ ?_
        rintro d e H1 ⟨k, x8, x47, rfl, hk, rfl, rfl⟩
        simp
        refine CondC.mk (fun hlt2 => ?_) (fun hlt2 => ?_)
        · simp at hlt2
          have hlt2' : (k : Int) < (cs.length : Int) := by omega
          have hw2 : IntKind.i64.wrap ((k : Int) + 1) = ((k + 1 : Nat) : Int) := by rw [wrap64 (by omega) (by omega)]; omega
          have hcm := List.getElem_mem hlt2
          have hcp := conPlain cs[k] (decide (cs.length = 1)) (by have := hln _ hcm; omega) (hbr _ hcm)
          have ht2 : cellsP cs (k + 1) = cellsP cs k ++ [plainB cs[k] (decide (cs.length = 1))] := cellsP_succ hlt2
          have hil2 : (cellsP cs k).length = k := cellsP_len (by omega)
          obtain ⟨c, hc⟩ : ∃ c, cs[k] = c := ⟨_, rfl⟩
          rw [hc] at hcp ht2
          have so2 : Sized 1 ((cellsP cs k).map PV.str) := sizedStr _
          simp only [gl] at hcp
          simp [hlt2, hlt2', hc, gl]
          have hde : decide ((cs.length : Int) = 1) = decide (cs.length = 1) := decide_eq_decide.2 (by omega)
          rw [hde]
          refine CallQ.mk (Call.pure callable37 (by simp) (by simp) hcp) ?_
          simp [so2, sizedStr1, lenMax, hw2]
          exact ⟨by omega, cs.length - (k + 1), by omega, k + 1, rfl, by omega, by rw [ht2, List.map_append]; rfl, by omega⟩
        · simp at hlt2
          have hke : k = cs.length := by omega
          subst hke
          have hcp : cellsP cs cs.length = cs.map fun c => plainB c (decide (cs.length = 1)) := cellsP_all cs
          have hjs : (joinB ⟨#[9]⟩ (cs.map fun c => plainB c (decide (cs.length = 1)))).size ≤ 20 * 8388608 := by
            have h1 := joinB_size ⟨#[9]⟩ (cs.map fun c => plainB c (decide (cs.length = 1)))
            have h2 := sumBy_bound (fun x : ByteArray => x.size + (⟨#[9]⟩ : ByteArray).size) 8388608 (cs.map fun c => plainB c (decide (cs.length = 1))) (fun x hx => by
              obtain ⟨c, hc, rfl⟩ := List.mem_map.1 hx
              have h3 := plainB_size c (decide (cs.length = 1))
              have h4 := hln c hc
              have h5 : (⟨#[9]⟩ : ByteArray).size = 1 := rfl
              show (plainB c (decide (cs.length = 1))).size + (⟨#[9]⟩ : ByteArray).size ≤ 8388608
              omega)
            rw [List.length_map] at h2
            have h6 : cs.length * 8388608 ≤ 20 * 8388608 := Nat.mul_le_mul_right _ hc20
            omega
          rw [← hcp] at hjs
          have cj := conJoinT (cellsP cs cs.length) ⟨#[9]⟩ (by rw [hcp, List.length_map]; omega) (by omega)
          have hrl : joinB ⟨#[9]⟩ (cellsP cs cs.length) = rowLine ⟨false, cs⟩ := by rw [hcp]; rfl
          rw [hrl] at cj
          simp
          refine CallQ.mk (Call.pure callable36 (by simp) (by simp) cj) ?_
          simp [so, sizedStr1, lenMax, hw]
          exact ⟨by omega, hfin _ rfl⟩
      · simp [hlt, hlt', hr, TRow.pv, so, sizedStr1, lenMax, hw]
        exact ⟨by omega, hfin _ rfl⟩
    · simp at hlt
      have hie : i = mr.length := by omega
      subst hie
      rw [rowsP_all]
      simp
  · have hhd : headT ⟨mc, mr, true, false⟩ = ([⟨#[98, 111, 120, 59]⟩] : List ByteArray) := rfl
    simp [sizedStr1, sz0, lenMax]
    refine CallQ.mk (Call.pure callable29 (by simp) (by simp) c1) ?_
    simp
    refine CallQ.mk (Call.pure callable36 (by simp) (by simp) c2) ?_
    simp [hadd, sizedStr1, sz0, lenMax]
    unfold printT
    rw [hhd]
    obtain ⟨O, hO⟩ : ∃ O : List ByteArray, O = ([⟨#[98, 111, 120, 59]⟩] : List ByteArray) ++ [colsLine mc] := ⟨_, rfl⟩
    have hO1 : O.map PV.str = [PV.str ⟨#[98, 111, 120, 59]⟩, PV.str (joinB ⟨#[32]⟩ (Go.Lib.charsB mc) ++ (⟨#[46]⟩ : ByteArray))] := by rw [hO]; rfl
    have hOl : O.length ≤ 2 := by rw [hO]; simp
    rw [← hO]
    rw [← hO1]
    clear hO1 hO hhd
    refine loopC (fun d e H' => ∃ (i : Nat) (x5 x6 x8 x35 x39 x44 x45 x46 x47 : FV), d = mr.length - i ∧ i ≤ mr.length ∧ e = [(0, .agg [.sc (.str tc), .sc (.sl (tr.map TRow.pv)), .sc (.bool tb), .sc (.bool ta)]), (1, .ptr 0 0), (2, .own []), (3, .own (O.map .str ++ (rowsP mr i).map .str)), (5, x5), (6, x6), (8, x8), (11, .sc (.bool false)), (17, .sc (.bool true)), (32, .sc (.sl (mr.map TRow.pv))), (33, .sc (.int .i64 mr.length)), (34, .sc (.int .i64 i)), (35, x35), (39, x39), (44, x44), (45, x45), (46, x46), (47, x47)]) (d := mr.length) ⟨0, .undef, .undef, .undef, .undef, .undef, .undef, .undef, .undef, .undef, rfl, Nat.zero_le _, by simp [rowsP]⟩ ?_
    rintro d e H' ⟨i, x5, x6, x8, x35, x39, x44, x45, x46, x47, rfl, hi, rfl⟩
    simp
    refine CondC.mk (fun hlt => ?_) (fun hlt => ?_)
    · simp at hlt
      have hlt' : (i : Int) < (mr.length : Int) := by omega
      have hw : IntKind.i64.wrap ((i : Int) + 1) = ((i + 1 : Nat) : Int) := by rw [wrap64 (by omega) (by omega)]; omega
      have hmem := List.getElem_mem hlt
      have hc20 := hcells _ hmem
      have hbr := hbare _ hmem
      have hln := hlen _ hmem
      have ht : rowsP mr (i + 1) = rowsP mr i ++ [rowLine mr[i]] := rowsP_succ hlt
      have hil : (rowsP mr i).length = i := rowsP_len (by omega)
      obtain ⟨r, hr⟩ : ∃ r, mr[i] = r := ⟨_, rfl⟩
      rw [hr] at ht hc20 hbr hln
      obtain ⟨rl, cs⟩ := r
      simp only at hc20 hbr hln
      have so : Sized 1 (O.map PV.str ++ (rowsP mr i).map PV.str) := by have := sizedStr (O ++ rowsP mr i); rwa [List.map_append] at this
      have hfin : ∀ z : ByteArray, z = rowLine ⟨rl, cs⟩ → ∃ d', d' < mr.length - i ∧ ∃ k : Nat, d' = mr.length - k ∧ k ≤ mr.length ∧ (rowsP mr i).map PV.str ++ [PV.str z] = (rowsP mr k).map PV.str ∧ (i : Int) + 1 = k := fun z hz =>
        ⟨mr.length - (i + 1), by omega, i + 1, rfl, by omega, by rw [ht, List.map_append, hz]; rfl, by omega⟩
      cases rl
      · simp [hlt, hlt', hr, TRow.pv]
        refine loopC (fun d e H1 => ∃ (k : Nat) (x8 x47 : FV), d = cs.length - k ∧ k ≤ cs.length ∧ e = [(0, .agg [.sc (.str tc), .sc (.sl (tr.map TRow.pv)), .sc (.bool tb), .sc (.bool ta)]), (1, .ptr 0 0), (2, .own []), (3, .own (O.map .str ++ (rowsP mr i).map .str)), (5, .ptr H'.length 0), (6, .own ((cellsP cs k).map .str)), (8, x8), (11, .sc (.bool false)), (17, .sc (.bool true)), (32, .sc (.sl (mr.map TRow.pv))), (33, .sc (.int .i64 mr.length)), (34, .sc (.int .i64 i)), (35, .sc (.bool true)), (39, .sc (.bool false)), (44, .sc (.sl (cs.map gl))), (45, .sc (.int .i64 cs.length)), (46, .sc (.int .i64 k)), (47, x47)] ∧ H1 = H' ++ [[.sc (.bool false), .sc (.sl (cs.map gl))]]) (d := cs.length) ⟨0, _, _, rfl, Nat.zero_le _, by simp [cellsP, gl]; exact ⟨rfl, rfl⟩, rfl⟩ ?_
        rintro d e H1 ⟨k, x8, x47, rfl, hk, rfl, rfl⟩
        simp
        refine CondC.mk (fun hlt2 => ?_) (fun hlt2 => ?_)
        · simp at hlt2
          have hlt2' : (k : Int) < (cs.length : Int) := by omega
          have hw2 : IntKind.i64.wrap ((k : Int) + 1) = ((k + 1 : Nat) : Int) := by rw [wrap64 (by omega) (by omega)]; omega
          have hcm := List.getElem_mem hlt2
          have hcp := conPlain cs[k] (decide (cs.length = 1)) (by have := hln _ hcm; omega) (hbr _ hcm)
          have ht2 : cellsP cs (k + 1) = cellsP cs k ++ [plainB cs[k] (decide (cs.length = 1))] := cellsP_succ hlt2
          have hil2 : (cellsP cs k).length = k := cellsP_len (by omega)
          obtain ⟨c, hc⟩ : ∃ c, cs[k] = c := ⟨_, rfl⟩
          rw [hc] at hcp ht2
          have so2 : Sized 1 ((cellsP cs k).map PV.str) := sizedStr _
          simp only [gl] at hcp
          simp [hlt2, hlt2', hc, gl]
          have hde : decide ((cs.length : Int) = 1) = decide (cs.length = 1) := decide_eq_decide.2 (by omega)
          rw [hde]
          refine CallQ.mk (Call.pure callable37 (by simp) (by simp) hcp) ?_
          simp [so2, sizedStr1, lenMax, hw2]
          exact ⟨by omega, cs.length - (k + 1), by omega, k + 1, rfl, by omega, by rw [ht2, List.map_append]; rfl, by omega⟩
        · simp at hlt2
          have hke : k = cs.length := by omega
          subst hke
          have hcp : cellsP cs cs.length = cs.map fun c => plainB c (decide (cs.length = 1)) := cellsP_all cs
          have hjs : (joinB ⟨#[9]⟩ (cs.map fun c => plainB c (decide (cs.length = 1)))).size ≤ 20 * 8388608 := by
            have h1 := joinB_size ⟨#[9]⟩ (cs.map fun c => plainB c (decide (cs.length = 1)))
            have h2 := sumBy_bound (fun x : ByteArray => x.size + (⟨#[9]⟩ : ByteArray).size) 8388608 (cs.map fun c => plainB c (decide (cs.length = 1))) (fun x hx => by
              obtain ⟨c, hc, rfl⟩ := List.mem_map.1 hx
              have h3 := plainB_size c (decide (cs.length = 1))
              have h4 := hln c hc
              have h5 : (⟨#[9]⟩ : ByteArray).size = 1 := rfl
              show (plainB c (decide (cs.length = 1))).size + (⟨#[9]⟩ : ByteArray).size ≤ 8388608
              omega)
            rw [List.length_map] at h2
            have h6 : cs.length * 8388608 ≤ 20 * 8388608 := Nat.mul_le_mul_right _ hc20
            omega
          rw [← hcp] at hjs
          have cj := conJoinT (cellsP cs cs.length) ⟨#[9]⟩ (by rw [hcp, List.length_map]; omega) (by omega)
          have hrl : joinB ⟨#[9]⟩ (cellsP cs cs.length) = rowLine ⟨false, cs⟩ := by rw [hcp]; rfl
          rw [hrl] at cj
          simp
          refine CallQ.mk (Call.pure callable36 (by simp) (by simp) cj) ?_
          simp [so, sizedStr1, lenMax, hw]
          exact ⟨by omega, hfin _ rfl⟩
      · simp [hlt, hlt', hr, TRow.pv, so, sizedStr1, lenMax, hw]
        exact ⟨by omega, hfin _ rfl⟩
    · simp at hlt
      have hie : i = mr.length := by omega
      subst hie
      rw [rowsP_all]
      simp
  · have hhd : headT ⟨mc, mr, false, true⟩ = ([⟨#[97, 108, 108, 98, 111, 120, 59]⟩] : List ByteArray) := rfl
    simp [sizedStr1, sz0, lenMax]
    refine CallQ.mk (Call.pure callable29 (by simp) (by simp) c1) ?_
    simp
    refine CallQ.mk (Call.pure callable36 (by simp) (by simp) c2) ?_
    simp [hadd, sizedStr1, sz0, lenMax]
    unfold printT
    rw [hhd]
    obtain ⟨O, hO⟩ : ∃ O : List ByteArray, O = ([⟨#[97, 108, 108, 98, 111, 120, 59]⟩] : List ByteArray) ++ [colsLine mc] := ⟨_, rfl⟩
    have hO1 : O.map PV.str = [PV.str ⟨#[97, 108, 108, 98, 111, 120, 59]⟩, PV.str (joinB ⟨#[32]⟩ (Go.Lib.charsB mc) ++ (⟨#[46]⟩ : ByteArray))] := by rw [hO]; rfl
    have hOl : O.length ≤ 2 := by rw [hO]; simp
    rw [← hO]
    rw [← hO1]
    clear hO1 hO hhd
    refine loopC (fun d e H' => ∃ (i : Nat) (x5 x6 x8 x35 x39 x44 x45 x46 x47 : FV), d = mr.length - i ∧ i ≤ mr.length ∧ e = [(0, .agg [.sc (.str tc), .sc (.sl (tr.map TRow.pv)), .sc (.bool tb), .sc (.bool ta)]), (1, .ptr 0 0), (2, .own []), (3, .own (O.map .str ++ (rowsP mr i).map .str)), (5, x5), (6, x6), (8, x8), (11, .sc (.bool true)), (17, .undef), (32, .sc (.sl (mr.map TRow.pv))), (33, .sc (.int .i64 mr.length)), (34, .sc (.int .i64 i)), (35, x35), (39, x39), (44, x44), (45, x45), (46, x46), (47, x47)]) (d := mr.length) ⟨0, .undef, .undef, .undef, .undef, .undef, .undef, .undef, .undef, .undef, rfl, Nat.zero_le _, by simp [rowsP]⟩ ?_
    rintro d e H' ⟨i, x5, x6, x8, x35, x39, x44, x45, x46, x47, rfl, hi, rfl⟩
    simp
    refine CondC.mk (fun hlt => ?_) (fun hlt => ?_)
    · simp at hlt
      have hlt' : (i : Int) < (mr.length : Int) := by omega
      have hw : IntKind.i64.wrap ((i : Int) + 1) = ((i + 1 : Nat) : Int) := by rw [wrap64 (by omega) (by omega)]; omega
      have hmem := List.getElem_mem hlt
      have hc20 := hcells _ hmem
      have hbr := hbare _ hmem
      have hln := hlen _ hmem
      have ht : rowsP mr (i + 1) = rowsP mr i ++ [rowLine mr[i]] := rowsP_succ hlt
      have hil : (rowsP mr i).length = i := rowsP_len (by omega)
      obtain ⟨r, hr⟩ : ∃ r, mr[i] = r := ⟨_, rfl⟩
      rw [hr] at ht hc20 hbr hln
      obtain ⟨rl, cs⟩ := r
      simp only at hc20 hbr hln
      have so : Sized 1 (O.map PV.str ++ (rowsP mr i).map PV.str) := by have := sizedStr (O ++ rowsP mr i); rwa [List.map_append] at this
      have hfin : ∀ z : ByteArray, z = rowLine ⟨rl, cs⟩ → ∃ d', d' < mr.length - i ∧ ∃ k : Nat, d' = mr.length - k ∧ k ≤ mr.length ∧ (rowsP mr i).map PV.str ++ [PV.str z] = (rowsP mr k).map PV.str ∧ (i : Int) + 1 = k := fun z hz =>
        ⟨mr.length - (i + 1), by omega, i + 1, rfl, by omega, by rw [ht, List.map_append, hz]; rfl, by omega⟩
      cases rl
      · simp [hlt, hlt', hr, TRow.pv]
        refine loopC (fun d e H1 => ∃ (k : Nat) (x8 x47 : FV), d = cs.length - k ∧ k ≤ cs.length ∧ e = [(0, .agg [.sc (.str tc), .sc (.sl (tr.map TRow.pv)), .sc (.bool tb), .sc (.bool ta)]), (1, .ptr 0 0), (2, .own []), (3, .own (O.map .str ++ (rowsP mr i).map .str)), (5, .ptr H'.length 0), (6, .own ((cellsP cs k).map .str)), (8, x8), (11, .sc (.bool true)), (17, .undef), (32, .sc (.sl (mr.map TRow.pv))), (33, .sc (.int .i64 mr.length)), (34, .sc (.int .i64 i)), (35, .sc (.bool true)), (39, .sc (.bool false)), (44, .sc (.sl (cs.map gl))), (45, .sc (.int .i64 cs.length)), (46, .sc (.int .i64 k)), (47, x47)] ∧ H1 = H' ++ [[.sc (.bool false), .sc (.sl (cs.map gl))]]) (d := cs.length) ⟨0, _, _, rfl, Nat.zero_le _, by simp [cellsP, gl]; exact ⟨rfl, rfl⟩, rfl⟩ ?_
        rintro d e H1 ⟨k, x8, x47, rfl, hk, rfl, rfl⟩
        simp
        refine CondC.mk (fun hlt2 => ?_) (fun hlt2 => ?_)
        · simp at hlt2
          have hlt2' : (k : Int) < (cs.length : Int) := by omega
          have hw2 : IntKind.i64.wrap ((k : Int) + 1) = ((k + 1 : Nat) : Int) := by rw [wrap64 (by omega) (by omega)]; omega
          have hcm := List.getElem_mem hlt2
          have hcp := conPlain cs[k] (decide (cs.length = 1)) (by have := hln _ hcm; omega) (hbr _ hcm)
          have ht2 : cellsP cs (k + 1) = cellsP cs k ++ [plainB cs[k] (decide (cs.length = 1))] := cellsP_succ hlt2
          have hil2 : (cellsP cs k).length = k := cellsP_len (by omega)
          obtain ⟨c, hc⟩ : ∃ c, cs[k] = c := ⟨_, rfl⟩
          rw [hc] at hcp ht2
          have so2 : Sized 1 ((cellsP cs k).map PV.str) := sizedStr _
          simp only [gl] at hcp
          simp [hlt2, hlt2', hc, gl]
          have hde : decide ((cs.length : Int) = 1) = decide (cs.length = 1) := decide_eq_decide.2 (by omega)
          rw [hde]
          refine CallQ.mk (Call.pure callable37 (by simp) (by simp) hcp) ?_
          simp [so2, sizedStr1, lenMax, hw2]
          exact ⟨by omega, cs.length - (k + 1), by omega, k + 1, rfl, by omega, by rw [ht2, List.map_append]; rfl, by omega⟩
        · simp at hlt2
          have hke : k = cs.length := by omega
          subst hke
          have hcp : cellsP cs cs.length = cs.map fun c => plainB c (decide (cs.length = 1)) := cellsP_all cs
          have hjs : (joinB ⟨#[9]⟩ (cs.map fun c => plainB c (decide (cs.length = 1)))).size ≤ 20 * 8388608 := by
            have h1 := joinB_size ⟨#[9]⟩ (cs.map fun c => plainB c (decide (cs.length = 1)))
            have h2 := sumBy_bound (fun x : ByteArray => x.size + (⟨#[9]⟩ : ByteArray).size) 8388608 (cs.map fun c => plainB c (decide (cs.length = 1))) (fun x hx => by
              obtain ⟨c, hc, rfl⟩ := List.mem_map.1 hx
              have h3 := plainB_size c (decide (cs.length = 1))
              have h4 := hln c hc
              have h5 : (⟨#[9]⟩ : ByteArray).size = 1 := rfl
              show (plainB c (decide (cs.length = 1))).size + (⟨#[9]⟩ : ByteArray).size ≤ 8388608
              omega)
            rw [List.length_map] at h2
            have h6 : cs.length * 8388608 ≤ 20 * 8388608 := Nat.mul_le_mul_right _ hc20
            omega
          rw [← hcp] at hjs
          have cj := conJoinT (cellsP cs cs.length) ⟨#[9]⟩ (by rw [hcp, List.length_map]; omega) (by omega)
          have hrl : joinB ⟨#[9]⟩ (cellsP cs cs.length) = rowLine ⟨false, cs⟩ := by rw [hcp]; rfl
          rw [hrl] at cj
          simp
          refine CallQ.mk (Call.pure callable36 (by simp) (by simp) cj) ?_
          simp [so, sizedStr1, lenMax, hw]
          exact ⟨by omega, hfin _ rfl⟩
      · simp [hlt, hlt', hr, TRow.pv, so, sizedStr1, lenMax, hw]
        exact ⟨by omega, hfin _ rfl⟩
    · simp at hlt
      have hie : i = mr.length := by omega
      subst hie
      rw [rowsP_all]
      simp
  · have hhd : headT ⟨mc, mr, true, true⟩ = ([⟨#[97, 108, 108, 98, 111, 120, 59]⟩] : List ByteArray) := rfl
    simp [sizedStr1, sz0, lenMax]
    refine CallQ.mk (Call.pure callable29 (by simp) (by simp) c1) ?_
    simp
    refine CallQ.mk (Call.pure callable36 (by simp) (by simp) c2) ?_
    simp [hadd, sizedStr1, sz0, lenMax]
    unfold printT
    rw [hhd]
    obtain ⟨O, hO⟩ : ∃ O : List ByteArray, O = ([⟨#[97, 108, 108, 98, 111, 120, 59]⟩] : List ByteArray) ++ [colsLine mc] := ⟨_, rfl⟩
    have hO1 : O.map PV.str = [PV.str ⟨#[97, 108, 108, 98, 111, 120, 59]⟩, PV.str (joinB ⟨#[32]⟩ (Go.Lib.charsB mc) ++ (⟨#[46]⟩ : ByteArray))] := by rw [hO]; rfl
    have hOl : O.length ≤ 2 := by rw [hO]; simp
    rw [← hO]
    rw [← hO1]
    clear hO1 hO hhd
    refine loopC (fun d e H' => ∃ (i : Nat) (x5 x6 x8 x35 x39 x44 x45 x46 x47 : FV), d = mr.length - i ∧ i ≤ mr.length ∧ e = [(0, .agg [.sc (.str tc), .sc (.sl (tr.map TRow.pv)), .sc (.bool tb), .sc (.bool ta)]), (1, .ptr 0 0), (2, .own []), (3, .own (O.map .str ++ (rowsP mr i).map .str)), (5, x5), (6, x6), (8, x8), (11, .sc (.bool true)), (17, .undef), (32, .sc (.sl (mr.map TRow.pv))), (33, .sc (.int .i64 mr.length)), (34, .sc (.int .i64 i)), (35, x35), (39, x39), (44, x44), (45, x45), (46, x46), (47, x47)]) (d := mr.length) ⟨0, .undef, .undef, .undef, .undef, .undef, .undef, .undef, .undef, .undef, rfl, Nat.zero_le _, by simp [rowsP]⟩ ?_
    rintro d e H' ⟨i, x5, x6, x8, x35, x39, x44, x45, x46, x47, rfl, hi, rfl⟩
    simp
    refine CondC.mk (fun hlt => ?_) (fun hlt => ?_)
    · simp at hlt
      have hlt' : (i : Int) < (mr.length : Int) := by omega
      have hw : IntKind.i64.wrap ((i : Int) + 1) = ((i + 1 : Nat) : Int) := by rw [wrap64 (by omega) (by omega)]; omega
      have hmem := List.getElem_mem hlt
      have hc20 := hcells _ hmem
      have hbr := hbare _ hmem
      have hln := hlen _ hmem
      have ht : rowsP mr (i + 1) = rowsP mr i ++ [rowLine mr[i]] := rowsP_succ hlt
      have hil : (rowsP mr i).length = i := rowsP_len (by omega)
      obtain ⟨r, hr⟩ : ∃ r, mr[i] = r := ⟨_, rfl⟩
      rw [hr] at ht hc20 hbr hln
      obtain ⟨rl, cs⟩ := r
      simp only at hc20 hbr hln
      have so : Sized 1 (O.map PV.str ++ (rowsP mr i).map PV.str) := by have := sizedStr (O ++ rowsP mr i); rwa [List.map_append] at this
      have hfin : ∀ z : ByteArray, z = rowLine ⟨rl, cs⟩ → ∃ d', d' < mr.length - i ∧ ∃ k : Nat, d' = mr.length - k ∧ k ≤ mr.length ∧ (rowsP mr i).map PV.str ++ [PV.str z] = (rowsP mr k).map PV.str ∧ (i : Int) + 1 = k := fun z hz =>
        ⟨mr.length - (i + 1), by omega, i + 1, rfl, by omega, by rw [ht, List.map_append, hz]; rfl, by omega⟩
      cases rl
      · simp [hlt, hlt', hr, TRow.pv]
        refine loopC (fun d e H1 => ∃ (k : Nat) (x8 x47 : FV), d = cs.length - k ∧ k ≤ cs.length ∧ e = [(0, .agg [.sc (.str tc), .sc (.sl (tr.map TRow.pv)), .sc (.bool tb), .sc (.bool ta)]), (1, .ptr 0 0), (2, .own []), (3, .own (O.map .str ++ (rowsP mr i).map .str)), (5, .ptr H'.length 0), (6, .own ((cellsP cs k).map .str)), (8, x8), (11, .sc (.bool true)), (17, .undef), (32, .sc (.sl (mr.map TRow.pv))), (33, .sc (.int .i64 mr.length)), (34, .sc (.int .i64 i)), (35, .sc (.bool true)), (39, .sc (.bool false)), (44, .sc (.sl (cs.map gl))), (45, .sc (.int .i64 cs.length)), (46, .sc (.int .i64 k)), (47, x47)] ∧ H1 = H' ++ [[.sc (.bool false), .sc (.sl (cs.map gl))]]) (d := cs.length) ⟨0, _, _, rfl, Nat.zero_le _, by simp [cellsP, gl]; exact ⟨rfl, rfl⟩, rfl⟩ ?_
        rintro d e H1 ⟨k, x8, x47, rfl, hk, rfl, rfl⟩
        simp
        refine CondC.mk (fun hlt2 => ?_) (fun hlt2 => ?_)
        · simp at hlt2
          have hlt2' : (k : Int) < (cs.length : Int) := by omega
          have hw2 : IntKind.i64.wrap ((k : Int) + 1) = ((k + 1 : Nat) : Int) := by rw [wrap64 (by omega) (by omega)]; omega
          have hcm := List.getElem_mem hlt2
          have hcp := conPlain cs[k] (decide (cs.length = 1)) (by have := hln _ hcm; omega) (hbr _ hcm)
          have ht2 : cellsP cs (k + 1) = cellsP cs k ++ [plainB cs[k] (decide (cs.length = 1))] := cellsP_succ hlt2
          have hil2 : (cellsP cs k).length = k := cellsP_len (by omega)
          obtain ⟨c, hc⟩ : ∃ c, cs[k] = c := ⟨_, rfl⟩
          rw [hc] at hcp ht2
          have so2 : Sized 1 ((cellsP cs k).map PV.str) := sizedStr _
          simp only [gl] at hcp
          simp [hlt2, hlt2', hc, gl]
          have hde : decide ((cs.length : Int) = 1) = decide (cs.length = 1) := decide_eq_decide.2 (by omega)
          rw [hde]
          refine CallQ.mk (Call.pure callable37 (by simp) (by simp) hcp) ?_
          simp [so2, sizedStr1, lenMax, hw2]
          exact ⟨by omega, cs.length - (k + 1), by omega, k + 1, rfl, by omega, by rw [ht2, List.map_append]; rfl, by omega⟩
        · simp at hlt2
          have hke : k = cs.length := by omega
          subst hke
          have hcp : cellsP cs cs.length = cs.map fun c => plainB c (decide (cs.length = 1)) := cellsP_all cs
          have hjs : (joinB ⟨#[9]⟩ (cs.map fun c => plainB c (decide (cs.length = 1)))).size ≤ 20 * 8388608 := by
            have h1 := joinB_size ⟨#[9]⟩ (cs.map fun c => plainB c (decide (cs.length = 1)))
            have h2 := sumBy_bound (fun x : ByteArray => x.size + (⟨#[9]⟩ : ByteArray).size) 8388608 (cs.map fun c => plainB c (decide (cs.length = 1))) (fun x hx => by
              obtain ⟨c, hc, rfl⟩ := List.mem_map.1 hx
              have h3 := plainB_size c (decide (cs.length = 1))
              have h4 := hln c hc
              have h5 : (⟨#[9]⟩ : ByteArray).size = 1 := rfl
              show (plainB c (decide (cs.length = 1))).size + (⟨#[9]⟩ : ByteArray).size ≤ 8388608
              omega)
            rw [List.length_map] at h2
            have h6 : cs.length * 8388608 ≤ 20 * 8388608 := Nat.mul_le_mul_right _ hc20
            omega
          rw [← hcp] at hjs
          have cj := conJoinT (cellsP cs cs.length) ⟨#[9]⟩ (by rw [hcp, List.length_map]; omega) (by omega)
          have hrl : joinB ⟨#[9]⟩ (cellsP cs cs.length) = rowLine ⟨false, cs⟩ := by rw [hcp]; rfl
          rw [hrl] at cj
          simp
          refine CallQ.mk (Call.pure callable36 (by simp) (by simp) cj) ?_
          simp [so, sizedStr1, lenMax, hw]
          exact ⟨by omega, hfin _ rfl⟩
      · simp [hlt, hlt', hr, TRow.pv, so, sizedStr1, lenMax, hw]
        exact ⟨by omega, hfin _ rfl⟩
    · simp at hlt
      have hie : i = mr.length := by omega
      subst hie
      rw [rowsP_all]
      simp
end Go.Proofs.YtabgeenhpfnhdaaDoor.Ev
end
section
namespace Go.Proofs.YtabgeenhpfnhdaaDoor.Ev
open Go
def BareR (r : Int) : Prop := r = 32 ∨ r = 95 ∨ (97 ≤ r ∧ r ≤ 122)
theorem Bare.r {l : List Glyph} (h : Bare l) : ∀ r ∈ grs l, BareR r := fun r hr => by
  obtain ⟨g, hg, rfl⟩ := List.mem_map.1 hr
  exact (h g hg).2
def rbyte (r : Int) : UInt8 := UInt8.ofNat r.toNat
theorem rbyte_nat {r : Int} (h : BareR r) : ((rbyte r).toNat : Int) = r := by
  unfold rbyte
  have h1 : r.toNat < 256 := by rcases h with h | h | h <;> omega
  rw [UInt8.toNat_ofNat_of_lt' (by simpa using h1)]
  rcases h with h | h | h <;> omega
theorem encode_bare {r : Int} (h : BareR r) : Utf8.encode r = ⟨#[rbyte r]⟩ := by
  have hv : Utf8.valid r = true := by
    unfold Utf8.valid
    have h1 : 0 ≤ r := by rcases h with h | h | h <;> omega
    have h2 : r < 0xD800 := by rcases h with h | h | h <;> omega
    simp [h1, h2]
  unfold Utf8.encode
  simp only [hv, if_true]
  rw [if_pos (by rcases h with h | h | h <;> omega)]
  rfl
theorem rb_fold : ∀ (l : List Int) (s : List UInt8), (∀ r ∈ l, BareR r) → l.foldl (fun r n => r ++ Utf8.encode n) (ba s) = ba (s ++ l.map rbyte)
  | [], s, _ => by simp
  | r :: l, s, h => by
    rw [List.foldl_cons, encode_bare (h r (by simp)), str_app1, rb_fold l _ fun x hx => h x (by simp [hx])]
    simp
theorem rb_bare {l : List Int} (h : ∀ r ∈ l, BareR r) : runesBytes l = ba (l.map rbyte) := by
  have := rb_fold l [] h
  rw [List.nil_append] at this
  exact this
theorem bI_ba (l : List UInt8) : bI (ba l) = l.map fun b => (b.toNat : Int) := by unfold bI; rw [data_ba]
theorem bI_bare {l : List Int} (h : ∀ r ∈ l, BareR r) : (l.map rbyte).map (fun b => (b.toNat : Int)) = l := by
  rw [List.map_map]
  conv => rhs; rw [← List.map_id l]
  exact List.map_congr_left fun r hr => rbyte_nat (h r hr)
theorem dec_low : ∀ (k : Nat) (l : List Int), (∀ r ∈ l, 0 ≤ r ∧ r < 128) → l.length ≤ k → decR k l = l
  | 0, l, _, hk => by
    have : l = [] := List.eq_nil_of_length_eq_zero (by omega)
    subst this; rfl
  | k + 1, [], _, _ => by simp [decR]
  | k + 1, r :: l, h, hk => by
    obtain ⟨h0, h1⟩ := h r (by simp)
    have hf : firstR (r :: l) = (r, 1) := by
      rw [firstR, if_pos h1]
      have : IntKind.i32.wrap r = r := by
        have := h0; have := h1
        simp [IntKind.wrap, IntKind.signed, IntKind.bits]
        omega
      rw [this]
    rw [decR, if_neg (by simp), hf]
    simp only [List.drop_succ_cons, List.drop_zero]
    rw [dec_low k l (fun x hx => h x (by simp [hx])) (by simp at hk; omega)]
def tokOf (r : Int) : Tok := if r = 32 then ⟨2, 0⟩ else ⟨1, r⟩
theorem control_bare {r : Int} (h : BareR r) : controlR r = false := by
  unfold controlR
  rcases h with h | h | h
  · subst h; decide
  · subst h; decide
  · simp; omega
theorem step_bare {l : List Int} {p : Nat} {out : List Tok} {bad : List Dg} {r : Int} (h : BareR r) : stepE l p out bad r = ⟨true, p + 1, out ++ [tokOf r], bad⟩ := by
  unfold stepE tokOf
  by_cases h32 : r = 32
  · subst h32; simp
  · have h9 : ¬ r = 9 := by rcases h with h | h | h <;> omega
    have h92 : ¬ r = 92 := by rcases h with h | h | h <;> omega
    simp [h32, h9, h92, control_bare h]
theorem scan_bare {l : List Int} : ∀ (rs : List Int) (n p : Nat) (out : List Tok) (bad : List Dg), (∀ r ∈ rs, BareR r) → l.drop p = rs → rs.length < n → scanF n l p out bad = (out ++ rs.map tokOf, bad)
  | [], n, p, out, bad, _, hd, hn => by
    cases n with
    | zero => simp at hn
    | succ n =>
      have : l[p]? = none := List.getElem?_eq_none_iff.2 (List.drop_eq_nil_iff.1 hd)
      rw [scanF, this]; simp
  | r :: rs, n, p, out, bad, h, hd, hn => by
    cases n with
    | zero => simp at hn
    | succ n =>
      have hp : l[p]? = some r := by
        have := congrArg (·[0]?) hd
        simpa using this
      have hd' : l.drop (p + 1) = rs := by
        have := congrArg (List.drop 1) hd
        simpa [List.drop_drop] using this
      rw [scanF, hp]
      simp only [step_bare (h r (by simp)), if_true]
      rw [scan_bare rs n (p + 1) _ bad (fun x hx => h x (by simp [hx])) hd' (by simp at hn; omega)]
      simp
theorem set_bare : ∀ (l : List Glyph) (out : List Glyph), Bare l → ((grs l).map tokOf).foldl setE (out, face0) = (out ++ l, face0)
  | [], out, _ => by simp [grs]
  | g :: l, out, h => by
    obtain ⟨hs, hr⟩ := h g (by simp)
    have ih := fun o => set_bare l o fun x hx => h x (by simp [hx])
    have he : setE (out, face0) (tokOf g.r) = (out ++ [g], face0) := by
      obtain ⟨gr, gs⟩ := g
      simp only at hs hr
      subst hs
      unfold tokOf setE
      by_cases h32 : gr = 32
      · subst h32; simp
      · simp [h32, face0]
    show ((grs l).map tokOf).foldl setE (setE (out, face0) (tokOf g.r)) = _
    rw [he, ih]
    simp
theorem line_bare {l : List Glyph} (h : Bare l) {s : ByteArray} (hs : s = runesBytes (grs l) ∨ s = (⟨#[92, 38]⟩ : ByteArray) ++ runesBytes (grs l)) : lineG face0 s = l ∧ lineD s = [] := by
  have hb := rb_bare h.r
  have hsc : scanL (dec (bI s)) = ((grs l).map tokOf, []) := by
    rcases hs with rfl | rfl
    · rw [hb, bI_ba, bI_bare h.r]
      have hd : dec (grs l) = grs l := dec_low _ _ (fun r hr => by have := h.r r hr; unfold BareR at this; omega) (Nat.le_refl _)
      rw [hd]
      unfold scanL
      rw [scan_bare (l := grs l) (grs l) ((grs l).length + 1) 0 [] [] h.r (List.drop_zero ..) (by omega)]
      simp
    · have hj : (⟨#[92, 38]⟩ : ByteArray) ++ runesBytes (grs l) = ba (92 :: 38 :: (grs l).map rbyte) := by
        rw [hb]; exact ba_app [92, 38] _
      have hbi : bI (ba (92 :: 38 :: (grs l).map rbyte)) = 92 :: 38 :: grs l := by
        rw [bI_ba, List.map_cons, List.map_cons, bI_bare h.r]; rfl
      rw [hj, hbi]
      have hd : dec (92 :: 38 :: grs l) = 92 :: 38 :: grs l := dec_low _ _ (fun r hr => by
        simp only [List.mem_cons] at hr
        rcases hr with rfl | rfl | hr
        · decide
        · decide
        · have := h.r r hr; unfold BareR at this; omega) (Nat.le_refl _)
      rw [hd]
      unfold scanL
      rw [show (92 :: 38 :: grs l).length + 1 = (grs l).length + 2 + 1 from rfl, scanF]
      have h0 : ((92 : Int) :: 38 :: grs l)[0]? = some 92 := rfl
      rw [h0]
      have hst : stepE (92 :: 38 :: grs l) 0 [] [] 92 = ⟨true, 2, [], []⟩ := by simp [stepE, escE]
      simp only [hst, if_true]
      rw [scan_bare (l := 92 :: 38 :: grs l) (grs l) ((grs l).length + 2) 2 [] [] h.r rfl (by omega)]
      simp
  unfold lineG lineD
  rw [hsc]
  refine ⟨?_, rfl⟩
  show (((grs l).map tokOf).foldl setE ([], face0)).1 = l
  rw [set_bare l [] h]
  simp
theorem plainB_line {l : List Glyph} (h : Bare l) (a : Bool) : lineG face0 (plainB l a) = l ∧ lineD (plainB l a) = [] := by
  refine line_bare h ?_
  unfold plainB
  split
  · exact .inr rfl
  · exact .inl rfl
theorem plainB_bytes {l : List Glyph} (h : Bare l) (a : Bool) : ∀ b ∈ (plainB l a).data.toList, b ≠ 9 := by
  have hb := rb_bare h.r
  have h1 : ∀ b ∈ (grs l).map rbyte, b ≠ 9 := fun b hb' => by
    obtain ⟨r, hr, rfl⟩ := List.mem_map.1 hb'
    have h2 := rbyte_nat (h.r r hr)
    have h3 := h.r r hr
    intro h4
    rw [h4] at h2
    have h5 : ((9 : UInt8).toNat : Int) = 9 := rfl
    unfold BareR at h3
    omega
  unfold plainB
  split
  · rw [hb, show (⟨#[92, 38]⟩ : ByteArray) = ba [92, 38] from rfl, ba_app, data_ba]
    intro b hb'
    simp only [List.mem_append] at hb'
    rcases hb' with hb' | hb'
    · simp at hb'; rcases hb' with rfl | rfl <;> decide
    · exact h1 b hb'
  · rw [hb, data_ba]; exact h1
theorem plainB_special (l : List Glyph) (a : Bool) : Go.Lib.containsS specials (plainB l a) = false := by
  have key : ∀ x : ByteArray, ¬ Go.Lib.containsS specials ((⟨#[92, 38]⟩ : ByteArray) ++ x) = true := fun x hx => by
    have hm := (Go.Lib.containsS_iff _ _).1 hx
    have hd : ((⟨#[92, 38]⟩ : ByteArray) ++ x).data.toList = 92 :: 38 :: x.data.toList := by
      rw [← ba_data x, show (⟨#[92, 38]⟩ : ByteArray) = ba [92, 38] from rfl, ba_app, data_ba, data_ba]; rfl
    simp only [specials, List.mem_cons, List.not_mem_nil, or_false] at hm
    rcases hm with hm | hm | hm
    all_goals
      rw [hm] at hd
      simp at hd
  unfold plainB
  split
  · cases hc : Go.Lib.containsS specials ((⟨#[92, 38]⟩ : ByteArray) ++ runesBytes (grs l))
    · rfl
    · exact absurd hc (key _)
  · rename_i hn
    cases hc : Go.Lib.containsS specials (runesBytes (grs l))
    · rfl
    · exact absurd (.inl hc) hn
end Go.Proofs.YtabgeenhpfnhdaaDoor.Ev
end
section
namespace Go.Proofs.YtabgeenhpfnhdaaDoor.Ev
open Go
theorem icat_cons (c : UInt8) (x y : List UInt8) (l : List (List UInt8)) : [c].intercalate (x :: y :: l) = x ++ c :: [c].intercalate (y :: l) := by
  simp [List.intercalate]
end Go.Proofs.YtabgeenhpfnhdaaDoor.Ev
end
section
namespace Go.Proofs.YtabgeenhpfnhdaaDoor.Ev
open Go
theorem splitC_no {c : UInt8} : ∀ {x : List UInt8}, (∀ b ∈ x, b ≠ c) → splitC c x = [x]
  | [], _ => rfl
  | b :: x, h => by
    rw [splitC, if_neg (h b (by simp)), splitC_no fun y hy => h y (by simp [hy])]
theorem splitC_app {c : UInt8} {l : List UInt8} : ∀ {x : List UInt8}, (∀ b ∈ x, b ≠ c) → splitC c (x ++ c :: l) = x :: splitC c l
  | [], _ => by rw [List.nil_append, splitC, if_pos rfl]
  | b :: x, h => by
    rw [List.cons_append, splitC, if_neg (h b (by simp)), splitC_app fun y hy => h y (by simp [hy])]
theorem splitC_icat {c : UInt8} : ∀ {xs : List (List UInt8)}, xs ≠ [] → (∀ x ∈ xs, ∀ b ∈ x, b ≠ c) → splitC c ([c].intercalate xs) = xs
  | [], h, _ => absurd rfl h
  | [x], _, h => by
    have : [c].intercalate [x] = x := by simp [List.intercalate]
    rw [this]; exact splitC_no (h x (by simp))
  | x :: y :: xs, _, h => by
    rw [icat_cons, splitC_app (h x (by simp)), splitC_icat (by simp) fun z hz => h z (by simp [hz])]
theorem tabs_cells {cs : List (List Glyph)} (hne : cs ≠ []) (hB : ∀ c ∈ cs, Bare c) : tabsB (cellsLine cs) = cs.map fun c => plainB c (decide (cs.length = 1)) := by
  have hd : (cellsLine cs).data.toList = [9].intercalate ((cs.map fun c => plainB c (decide (cs.length = 1))).map (·.data.toList)) := by
    show (ba _).data.toList = _
    rw [data_ba]; rfl
  unfold tabsB
  rw [hd, splitC_icat (by simpa using hne) (fun x hx => by
    simp only [List.mem_map] at hx
    obtain ⟨s, ⟨c, hc, rfl⟩, rfl⟩ := hx
    exact plainB_bytes (hB c hc) _)]
  rw [List.map_map]
  conv => rhs; rw [← List.map_id (cs.map _)]
  exact List.map_congr_left fun s _ => ba_data s
theorem words_chars : ∀ (l : List UInt8), (∀ b ∈ l, isSep b.toNat = false) → wordsL ([32].intercalate (l.map fun b => [b])) = l.map fun b => [b]
  | [], _ => by simp [wordsL, wordsG, List.intercalate]
  | [b], h => by
    have hb := h b (by simp)
    have : [32].intercalate ([b].map fun b => [b]) = [b] := by simp [List.intercalate]
    rw [this]
    unfold wordsL
    rw [wordsG, if_neg (by rw [hb]; simp), wordsG]
    simp
  | b :: c :: l, h => by
    have hb := h b (by simp)
    have ih := words_chars (c :: l) fun x hx => h x (by simp [hx])
    have e : [32].intercalate ((b :: c :: l).map fun b => [b]) = b :: 32 :: [32].intercalate ((c :: l).map fun b => [b]) := by
      rw [List.map_cons, List.map_cons, icat_cons]; rfl
    rw [e]
    unfold wordsL at ih ⊢
    rw [wordsG, if_neg (by rw [hb]; simp), wordsG, if_pos (by decide), if_neg (by simp), ih]
    rfl
theorem chars_eq (s : ByteArray) : (Go.Lib.charsB s).map (·.data.toList) = s.data.toList.map fun b => [b] := by
  have key : ∀ d, d ≤ s.size → (Go.Lib.charsUpTo s d).map (·.data.toList) = (s.data.toList.take d).map fun b => [b] := by
    intro d
    induction d with
    | zero => intro _; simp [Go.Lib.charsUpTo]
    | succ d ih =>
      intro hd
      have hdl : d < s.data.toList.length := by rw [← Go.Lib.size_eq]; omega
      rw [Go.Lib.charsUpTo_succ, List.map_append, ih (by omega), List.take_succ_eq_append_getElem hdl, List.map_append]
      congr 1
      have := extract_one (List.getElem?_eq_getElem hdl)
      simp only [List.map_cons, List.map_nil]
      rw [this, data_ba]
  have := key s.size (Nat.le_refl _)
  rw [show s.data.toList.take s.size = s.data.toList by rw [Go.Lib.size_eq, List.take_length]] at this
  exact this
theorem colsLine_data (c : ByteArray) : (colsLine c).data.toList = [32].intercalate (c.data.toList.map fun b => [b]) ++ [46] := by
  unfold colsLine
  show (ba _ ++ ba [46]).data.toList = _
  rw [ba_app, data_ba, ← chars_eq]
  rfl
theorem cutB_dot (l : List UInt8) (c : UInt8) : cutB (ba (l ++ [c])) c = ba l ∧ sufB (ba (l ++ [c])) c = true := by
  have h1 : sufB (ba (l ++ [c])) c = true := by rw [suf_iff, data_ba]; simp
  refine ⟨?_, h1⟩
  rw [cut_suf h1]
  have : ((ba (l ++ [c])).extract 0 ((ba (l ++ [c])).size - 1)).data.toList = (l ++ [c]).take ((l ++ [c]).length - 1) := by
    rw [Go.Lib.extract_from_zero, data_ba, ba_size]
  rw [← ba_data ((ba (l ++ [c])).extract 0 _), this]
  simp
theorem side_nat {b : UInt8} (h : isSide b = true) : b = 108 ∨ b = 99 ∨ b = 114 := by simpa [isSide, or_assoc] using h
theorem colOf_side {b : UInt8} (h : isSide b = true) : colOf b = (b, true) := by
  rcases side_nat h with rfl | rfl | rfl <;> decide
theorem columns_line {c : ByteArray} (h : colsOk c = true) : columnsT (colsLine c) = (c.data.toList, true) ∧ sufB (colsLine c) 46 = true ∧ sufB (colsLine c) 59 = false := by
  have hs : ∀ b ∈ c.data.toList, isSide b = true := fun b hb => List.all_eq_true.1 h b hb
  have hl : colsLine c = ba ([32].intercalate (c.data.toList.map fun b => [b]) ++ [46]) := by rw [← colsLine_data, ba_data]
  obtain ⟨h1, h2⟩ := cutB_dot ([32].intercalate (c.data.toList.map fun b => [b])) 46
  have hw : wordsB (cutB (colsLine c) 46) = c.data.toList.map fun b => ba [b] := by
    rw [hl, h1]
    unfold wordsB
    rw [data_ba, words_chars _ fun b hb => by rcases side_nat (hs b hb) with rfl | rfl | rfl <;> decide]
    rw [List.map_map]; rfl
  refine ⟨?_, by rw [hl]; exact h2, by rw [hl, suf_iff, data_ba]; simp⟩
  unfold columnsT
  rw [hw]
  have e1 : colsL (c.data.toList.map fun b => ba [b]) = c.data.toList := by
    unfold colsL
    rw [List.map_map]
    conv => rhs; rw [← List.map_id c.data.toList]
    exact List.map_congr_left fun b hb => by
      show (colOf b).1 = b
      rw [colOf_side (hs b hb)]
  have e2 : colsAll (c.data.toList.map fun b => ba [b]) = true := by
    unfold colsAll
    rw [List.all_map]
    exact List.all_eq_true.2 fun b hb => by
      show (colOf b).2 = true
      rw [colOf_side (hs b hb)]
  rw [e1, e2]
structure Flat (M : Tbl) : Prop where
  right : rightT M = true
  bare : ∀ r ∈ M.rows, ∀ c ∈ r.cells, Bare c
theorem text_none {R : Tr} {s : ByteArray} (h : lineD s = []) (k : Int) : textT R s k = R := by
  unfold textT
  rw [h]
  simp [atL]
theorem cells_read {R : Tr} : ∀ (cs : List (List Glyph)) (a : Bool) (n : Nat) (out : List (List Glyph)), (∀ c ∈ cs, Bare c) → cs.length ≤ n → cellsF n R out (cs.map fun c => plainB c a) = (R, out ++ cs)
  | [], a, n, out, _, _ => by cases n <;> simp [cellsF]
  | c :: cs, a, n, out, h, hn => by
    cases n with
    | zero => simp at hn
    | succ n =>
      obtain ⟨l1, l2⟩ := plainB_line (h c (by simp)) a
      have hsp : plainB c a ≠ openS := fun he => by
        have := plainB_special c a
        rw [he] at this
        exact absurd this (by decide)
      rw [List.map_cons, cellsF, if_neg hsp, text_none l2, l1, cells_read cs a n _ (fun x hx => h x (by simp [hx])) (by simp at hn; omega)]
      simp
theorem icat_mem {c : UInt8} {x y : List UInt8} {l : List (List UInt8)} : c ∈ [c].intercalate (x :: y :: l) := by
  rw [icat_cons]; simp
theorem cellsLine_rule {cs : List (List Glyph)} (hne : cs ≠ []) : ¬ (cellsLine cs = ⟨#[95]⟩ ∨ cellsLine cs = ⟨#[61]⟩) := by
  have hd : (cellsLine cs).data.toList = [9].intercalate ((cs.map fun c => plainB c (decide (cs.length = 1))).map (·.data.toList)) := by
    show (ba _).data.toList = _
    rw [data_ba]; rfl
  match cs, hne with
  | [c], _ =>
    have he : cellsLine [c] = plainB c true := by
      rw [← ba_data (cellsLine [c]), hd]
      simp [List.intercalate, ba_data]
    rw [he]
    have := plainB_special c true
    rintro (h | h)
    · rw [h] at this; exact absurd this (by decide)
    · rw [h] at this; exact absurd this (by decide)
  | c :: d :: cs, _ =>
    have hm : (9 : UInt8) ∈ (cellsLine (c :: d :: cs)).data.toList := by rw [hd]; exact icat_mem
    rintro (h | h)
    · rw [h] at hm; exact absurd hm (by decide)
    · rw [h] at hm; exact absurd hm (by decide)
theorem row_read {R : Tr} {r : TRow} (hg : R.l[R.at_]? = some (rowLine r)) (hn : 0 < R.cols.size) (hbad : badRow R.cols.size r = false) (hB : ∀ c ∈ r.cells, Bare c) : rowR R = { R with rows := R.rows ++ [r] } := by
  obtain ⟨rl, cs⟩ := r
  unfold rowR
  rw [hg]
  cases rl
  · simp only [badRow] at hbad
    have hlen : cs.length = R.cols.size := by
      by_cases h : cs.length = R.cols.size
      · exact h
      · simp [h] at hbad
    have hne : cs ≠ [] := fun h => by rw [h] at hlen; simp at hlen; omega
    have hl : rowLine ⟨false, cs⟩ = cellsLine cs := rfl
    rw [hl]
    simp only
    rw [if_neg (cellsLine_rule hne), tabs_cells hne hB, cells_read cs _ _ [] hB (by unfold fuelR; rw [List.length_map]; omega)]
    simp only [List.nil_append]
    rw [if_neg (by omega)]
  · simp only [badRow] at hbad
    have hcs : cs = [] := by
      cases cs with
      | nil => rfl
      | cons x xs => simp at hbad
    subst hcs
    have hl : rowLine ⟨true, []⟩ = ⟨#[95]⟩ := rfl
    rw [hl]
    simp
theorem rows_read : ∀ (rs : List TRow) (n : Nat) (R : Tr), R.l.drop R.at_ = rs.map rowLine → rs.length < n → 0 < R.cols.size → (∀ r ∈ rs, badRow R.cols.size r = false) → (∀ r ∈ rs, ∀ c ∈ r.cells, Bare c) →
    (rowsF n R).rows = R.rows ++ rs ∧ (rowsF n R).cols = R.cols ∧ (rowsF n R).box = R.box ∧ (rowsF n R).all = R.all ∧ (rowsF n R).bad = R.bad
  | [], n, R, hd, hn, _, _, _ => by
    have : ¬ R.at_ < R.l.length := by
      have := List.drop_eq_nil_iff.1 hd
      omega
    cases n with
    | zero => simp at hn
    | succ n => rw [rowsF, if_neg this]; simp
  | r :: rs, n, R, hd, hn, hc, hb, hB => by
    cases n with
    | zero => simp at hn
    | succ n =>
      have hp : R.l[R.at_]? = some (rowLine r) := by
        have := congrArg (·[0]?) hd
        simpa using this
      have hlt := (List.getElem?_eq_some_iff.1 hp).1
      have hd' : R.l.drop (R.at_ + 1) = rs.map rowLine := by
        have := congrArg (List.drop 1) hd
        simpa [List.drop_drop] using this
      rw [rowsF, if_pos hlt, row_read hp hc (hb r (by simp)) (hB r (by simp))]
      obtain ⟨i1, i2, i3, i4, i5⟩ := rows_read rs n { R with rows := R.rows ++ [r], at_ := R.at_ + 1 } hd' (by simp at hn; omega) hc (fun x hx => hb x (by simp [hx])) (fun x hx => hB x (by simp [hx]))
      refine ⟨?_, i2, i3, i4, i5⟩
      refine i1.trans ?_
      simp
theorem cols_read {R : Tr} {M : Tbl} (h : Flat M) (hg : R.l[R.at_]? = some (colsLine M.cols)) (hc : R.cols = ByteArray.empty) : columnsR R = { R with cols := M.cols, at_ := R.at_ + 1 } := by
  obtain ⟨h1, h2, h3, h4, h5⟩ := right_all h.right
  obtain ⟨c1, c2, c3⟩ := columns_line h3
  have hsz : M.cols.data.toList.length = M.cols.size := (Go.Lib.size_eq _).symm
  have hst : colStep R (colsLine M.cols) = { R with cols := M.cols, at_ := R.at_ + 1 } := by
    unfold colStep
    rw [c1]
    have n1 : ¬ 20 < M.cols.data.toList.length := by omega
    have n0 : M.cols.data.toList.take 20 = M.cols.data.toList := List.take_of_length_le (by omega)
    have n2 : ¬ M.cols.data.toList = [] := fun hx => by rw [hx] at hsz; simp at hsz; omega
    simp only [if_true, n1, n0, n2, if_false, ba_data]
  have hne : ¬ M.cols = ⟨#[]⟩ := fun hx => by rw [hx] at h1; exact absurd h1 (by decide)
  unfold columnsR
  rw [colLoop, if_neg (by simp), hg]
  simp only [hst, c2]
  have hlp : ∀ (n : Nat) (X : Tr), colLoop n X true = (X, true) := fun n X => by cases n <;> simp [colLoop]
  rw [hlp]
  unfold columnsEnd
  simp [hne]
theorem lookR_cons {R : Tr} {s : ByteArray} {l : List ByteArray} (hl : R.l = s :: l) : lookR R = if sufB s 59 = true then { (if (lookT s).2.2 = true then R else tellT R 10 0) with box := (lookT s).1, all := (lookT s).2.1, at_ := 1 } else R := by
  unfold lookR; rw [hl]
theorem parse_print {M : Tbl} (h : Flat M) (line : Int) : parseT line (printT M) = M ∧ (parseR line (printT M)).bad = [] := by
  obtain ⟨h1, h2, h3, h4, h5⟩ := right_all h.right
  obtain ⟨c1, c2, c3⟩ := columns_line h3
  have hm := mend_same h.right
  have fin : ∀ R : Tr, R.l = printT M → R.l.drop R.at_ = M.rows.map rowLine → R.rows = [] → R.cols = M.cols → R.box = M.box → R.all = M.all → R.bad = [] →
      mendT ⟨(rowsF ((printT M).length + 1) R).cols, (rowsF ((printT M).length + 1) R).rows, (rowsF ((printT M).length + 1) R).box, (rowsF ((printT M).length + 1) R).all⟩ = M ∧ (rowsF ((printT M).length + 1) R).bad = [] := fun R r1 r2 r3 r4 r5 r6 r7 => by
    have hlen : M.rows.length < (printT M).length + 1 := by
      unfold printT
      simp only [List.length_append, List.length_map, List.length_singleton]; omega
    obtain ⟨i1, i2, i3, i4, i5⟩ := rows_read M.rows ((printT M).length + 1) R r2 hlen (by rw [r4]; exact h1) (fun r hr => by rw [r4]; exact h5 r hr) h.bare
    rw [i1, i2, i3, i4, i5, r3, r4, r5, r6, r7]
    exact ⟨hm, rfl⟩
  unfold parseT parseR
  obtain ⟨mc, mr, mb, ma⟩ := M
  simp only at h4 c1 c2 c3
  cases ma
  · cases mb
    · have hp : printT ⟨mc, mr, false, false⟩ = colsLine mc :: mr.map rowLine := rfl
      have hl : lookR (startR line (printT ⟨mc, mr, false, false⟩)) = startR line (printT ⟨mc, mr, false, false⟩) := by
        rw [lookR_cons (R := startR line (printT ⟨mc, mr, false, false⟩)) hp, if_neg (by rw [c3]; simp)]
      rw [hl, cols_read h (R := startR line (printT ⟨mc, mr, false, false⟩)) (by rw [hp]; rfl) rfl]
      exact fin _ rfl (by show (printT ⟨mc, mr, false, false⟩).drop 1 = _; rw [hp]; rfl) rfl rfl rfl rfl rfl
    · have hp : printT ⟨mc, mr, true, false⟩ = ⟨#[98, 111, 120, 59]⟩ :: colsLine mc :: mr.map rowLine := rfl
      have hl : lookR (startR line (printT ⟨mc, mr, true, false⟩)) = { startR line (printT ⟨mc, mr, true, false⟩) with box := true, all := false, at_ := 1 } := by
        rw [lookR_cons (R := startR line (printT ⟨mc, mr, true, false⟩)) hp, if_pos (by decide)]
        have e : lookT ⟨#[98, 111, 120, 59]⟩ = (true, false, true) := by kernel_rfl
        rw [e]
        rfl
      rw [hl, cols_read h (R := { startR line (printT ⟨mc, mr, true, false⟩) with box := true, all := false, at_ := 1 }) (by rw [hp]; rfl) rfl]
      exact fin _ rfl (by show (printT ⟨mc, mr, true, false⟩).drop 2 = _; rw [hp]; rfl) rfl rfl rfl rfl rfl
  · cases mb
    · simp at h4
    · have hp : printT ⟨mc, mr, true, true⟩ = ⟨#[97, 108, 108, 98, 111, 120, 59]⟩ :: colsLine mc :: mr.map rowLine := rfl
      have hl : lookR (startR line (printT ⟨mc, mr, true, true⟩)) = { startR line (printT ⟨mc, mr, true, true⟩) with box := true, all := true, at_ := 1 } := by
        rw [lookR_cons (R := startR line (printT ⟨mc, mr, true, true⟩)) hp, if_pos (by decide)]
        have e : lookT ⟨#[97, 108, 108, 98, 111, 120, 59]⟩ = (true, true, true) := by kernel_rfl
        rw [e]
        rfl
      rw [hl, cols_read h (R := { startR line (printT ⟨mc, mr, true, true⟩) with box := true, all := true, at_ := 1 }) (by rw [hp]; rfl) rfl]
      exact fin _ rfl (by show (printT ⟨mc, mr, true, true⟩).drop 2 = _; rw [hp]; rfl) rfl rfl rfl rfl rfl
end Go.Proofs.YtabgeenhpfnhdaaDoor.Ev
end
section
namespace Go.Proofs.YtabgeenhpfnhdaaDoor.Ev
open Go
def bareG (g : Glyph) : Bool := decide (g.s = 0) && (decide (g.r = 32) || (decide (g.r = 95) || (decide (97 ≤ g.r) && decide (g.r ≤ 122))))
def bareC (l : List Glyph) : Bool := l.all bareG
def bareR (r : TRow) : Bool := r.cells.all bareC
def bareT (l : List TRow) : Bool := l.all bareR
theorem all_take {α : Type} {p : α → Bool} {l : List α} (h : ∀ i (hi : i < l.length), p l[i] = true) : l.all p = true := by
  rw [List.all_eq_true]
  intro x hx
  obtain ⟨i, hi, rfl⟩ := List.getElem_of_mem hx
  exact h i hi
theorem all_not {α : Type} {p : α → Bool} {l : List α} {i : Nat} (hi : i < l.length) (h : p l[i] = false) : l.all p = false := by
  rw [List.all_eq_false]
  exact ⟨l[i], List.getElem_mem hi, by rw [h]; simp⟩
set_option linter.unusedSimpArgs false in
set_option maxRecDepth 20000 in
set_option maxHeartbeats 4000000 in
theorem conBare (t : Tbl) (ht : TblS t) : PCon C0 19 [t.pv.toFV] (.sc (.bool (bareT t.rows))) := by
  obtain ⟨tc, tr, tb, ta⟩ := t
  have hr := ht.rows
  have hcs := ht.cells
  simp only at hr hcs
  refine penter19 ?_
  simp only [Tbl.pv, PV.toFV, List.map_cons, List.map_nil]
  simp [Tryd.f19]
  refine loopC (fun d e H' => ∃ (i : Nat) (x3 x4 x5 x6 x11 x22 x37 x77 : FV), d = tr.length - i ∧ i ≤ tr.length ∧ (∀ j (h : j < tr.length), j < i → bareR tr[j] = true) ∧ H' = [[.sc (.str tc), .sc (.sl (tr.map TRow.pv)), .sc (.bool tb), .sc (.bool ta)]] ∧ e = [(0, .agg [.sc (.str tc), .sc (.sl (tr.map TRow.pv)), .sc (.bool tb), .sc (.bool ta)]), (1, .ptr 0 0), (2, .sc (.bool false)), (3, .sc (.int .i64 i)), (4, x4), (5, x5), (6, x6), (11, x11), (22, x22), (37, x37), (77, x77)]) (d := tr.length) ⟨0, .undef, .undef, .undef, .undef, .undef, .undef, .undef, .undef, rfl, Nat.zero_le _, by simp, rfl, rfl⟩ ?_
  rintro d e H' ⟨i, x3, x4, x5, x6, x11, x22, x37, x77, rfl, hi, hbef, rfl, rfl⟩
  simp
  refine CondC.mk (fun hlt => ?_) (fun hlt => ?_)
  · simp at hlt
    have hlt' : (i : Int) < (tr.length : Int) := by omega
    have hw : IntKind.i64.wrap ((i : Int) + 1) = ((i + 1 : Nat) : Int) := by rw [wrap64 (by omega) (by omega)]; omega
    have hcc := hcs _ (List.getElem_mem hlt)
    have hno : bareR tr[i] = false → bareT tr = false := fun h => all_not hlt h
    obtain ⟨r, hre⟩ : ∃ r, tr[i] = r := ⟨_, rfl⟩
    have hnext : bareR r = true → ∀ j (hj : j < tr.length), j < i + 1 → bareR tr[j] = true := fun h j hj hji => by
      by_cases hji' : j = i
      · subst hji'; rw [hre]; exact h
      · exact hbef j hj (by omega)
    rw [hre] at hcc hno
    obtain ⟨rl, cs⟩ := r
    simp only at hcc
    obtain ⟨hc1, hc2⟩ := hcc
    simp
    refine loopC (fun d e H' => ∃ (k : Nat) (x5 x6 x22 x37 x77 : FV), d = cs.length - k ∧ k ≤ cs.length ∧ (∀ j (h : j < cs.length), j < k → bareC cs[j] = true) ∧ H' = [[.sc (.str tc), .sc (.sl (tr.map TRow.pv)), .sc (.bool tb), .sc (.bool ta)]] ∧ e = [(0, .agg [.sc (.str tc), .sc (.sl (tr.map TRow.pv)), .sc (.bool tb), .sc (.bool ta)]), (1, .ptr 0 0), (2, .sc (.bool false)), (3, .sc (.int .i64 i)), (4, .sc (.int .i64 k)), (5, x5), (6, x6), (11, .sc (.bool true)), (22, x22), (37, x37), (77, x77)]) (d := cs.length) ⟨0, x5, x6, x22, x37, x77, rfl, Nat.zero_le _, by simp, rfl, by simp [hlt]⟩ ?_
    rintro d e H' ⟨k, x5, x6, x22, x37, x77, rfl, hk, hbk, rfl, rfl⟩
    simp [hlt, hlt', hre, TRow.pv]
    refine CondC.mk (fun hlt2 => ?_) (fun hlt2 => ?_)
    · simp at hlt2
      have hlt2' : (k : Int) < (cs.length : Int) := by omega
      have hw2 : IntKind.i64.wrap ((k : Int) + 1) = ((k + 1 : Nat) : Int) := by rw [wrap64 (by omega) (by omega)]; omega
      have hcl := hc2 _ (List.getElem_mem hlt2)
      have hno2 : bareC cs[k] = false → bareT tr = false := fun h => hno (all_not (p := bareC) hlt2 h)
      obtain ⟨c, hce⟩ : ∃ c, cs[k] = c := ⟨_, rfl⟩
      have hnext2 : bareC c = true → ∀ j (hj : j < cs.length), j < k + 1 → bareC cs[j] = true := fun h j hj hji => by
        by_cases hji' : j = k
        · subst hji'; rw [hce]; exact h
        · exact hbk j hj (by omega)
      rw [hce] at hcl hno2
      simp [hlt, hlt', hre, TRow.pv, hlt2, hlt2', hce, gl]
      refine loopC (fun d e H' => ∃ (q : Nat) (x37 x77 : FV), d = c.length - q ∧ q ≤ c.length ∧ (∀ j (h : j < c.length), j < q → bareG c[j] = true) ∧ H' = [[.sc (.str tc), .sc (.sl (tr.map TRow.pv)), .sc (.bool tb), .sc (.bool ta)]] ∧ e = [(0, .agg [.sc (.str tc), .sc (.sl (tr.map TRow.pv)), .sc (.bool tb), .sc (.bool ta)]), (1, .ptr 0 0), (2, .sc (.bool false)), (3, .sc (.int .i64 i)), (4, .sc (.int .i64 k)), (5, .sc (.sl (c.map Glyph.pv))), (6, .sc (.int .i64 q)), (11, .sc (.bool true)), (22, .sc (.bool true)), (37, x37), (77, x77)]) (d := c.length) ⟨0, x37, x77, rfl, Nat.zero_le _, by simp, rfl, by simp⟩ ?_
      rintro d e H' ⟨q, x37, x77, rfl, hq, hbq, rfl, rfl⟩
      simp
      refine CondC.mk (fun hlt3 => ?_) (fun hlt3 => ?_)
      · simp at hlt3
        have hlt3' : (q : Int) < (c.length : Int) := by omega
        have hw3 : IntKind.i64.wrap ((q : Int) + 1) = ((q + 1 : Nat) : Int) := by rw [wrap64 (by omega) (by omega)]; omega
        have hno3 : bareG c[q] = false → bareT tr = false := fun h => hno2 (all_not (p := bareG) hlt3 h)
        obtain ⟨g, hge⟩ : ∃ g, c[q] = g := ⟨_, rfl⟩
        have hnext3 : bareG g = true → ∀ j (hj : j < c.length), j < q + 1 → bareG c[j] = true := fun h j hj hji => by
          by_cases hji' : j = q
          · subst hji'; rw [hge]; exact h
          · exact hbq j hj (by omega)
        rw [hge] at hno3
        obtain ⟨gr, gs⟩ := g
        have fin : bareG ⟨gr, gs⟩ = true → ∃ d', d' < c.length - q ∧ ∃ n : Nat, d' = c.length - n ∧ n ≤ c.length ∧ (∀ j (h : j < c.length), j < n → bareG c[j] = true) ∧ (q : Int) + 1 = n := fun h => ⟨c.length - (q + 1), by omega, q + 1, rfl, by omega, hnext3 h, by omega⟩
        by_cases b0 : gs = 0
        · by_cases b1 : gr = 32
          · simp [hlt3, hlt3', hge, Glyph.pv, b0, b1, hw3]
            exact fin (by simp [bareG, b0, b1])
          · by_cases b2 : gr = 95
            · simp [hlt3, hlt3', hge, Glyph.pv, b0, b2, hw3]
              exact fin (by simp [bareG, b0, b2])
            · by_cases b3 : gr < 97
              · have hf := hno3 (by simp [bareG, b0, b1, b2]; omega)
                simp [hlt3, hlt3', hge, Glyph.pv, b0, b1, b2, b3, hf]
              · by_cases b4 : 122 < gr
                · have hf := hno3 (by simp [bareG, b0, b1, b2]; omega)
                  simp [hlt3, hlt3', hge, Glyph.pv, b0, b1, b2, b3, b4, hf]
                · simp [hlt3, hlt3', hge, Glyph.pv, b0, b1, b2, b3, b4, hw3]
                  exact fin (by simp [bareG, b0, b1, b2]; omega)
        · have hf := hno3 (by simp [bareG, b0])
          simp [hlt3, hlt3', hge, Glyph.pv, b0, hf]
      · simp at hlt3
        have hall : bareC c = true := all_take fun j hj => hbq j hj (by omega)
        simp [hw2]
        exact ⟨cs.length - (k + 1), by omega, k + 1, rfl, by omega, hnext2 hall, by omega⟩
    · simp at hlt2
      have hall : bareR ⟨rl, cs⟩ = true := by
        show cs.all bareC = true
        exact all_take (p := bareC) fun j hj => hbk j hj (by omega)
      simp [hw]
      exact ⟨tr.length - (i + 1), by omega, i + 1, rfl, by omega, hnext hall, .undef, by omega⟩
  · simp at hlt
    have hall : bareT tr = true := all_take fun j hj => hbef j hj (by omega)
    simp [hall]
end Go.Proofs.YtabgeenhpfnhdaaDoor.Ev
end
section
namespace Go.Proofs.YtabgeenhpfnhdaaDoor.Ev
open Go
theorem bareG_of {g : Glyph} (h : bareG g = true) : g.s = 0 ∧ (g.r = 32 ∨ g.r = 95 ∨ (97 ≤ g.r ∧ g.r ≤ 122)) := by
  simpa [bareG] using h
theorem bareC_of {c : List Glyph} (h : bareC c = true) : Bare c := fun g hg => bareG_of (List.all_eq_true.1 h g hg)
theorem sq_bare {l : List Glyph} (h : Bare l) : Bare (squeeze l) := by
  have key : ∀ (l : List Glyph) (s : List Glyph × Bool), Bare l → Bare s.1 → Bare (l.foldl sqStep s).1 := by
    intro l
    induction l with
    | nil => intro s _ hs; exact hs
    | cons g l ih =>
      intro s hl hs
      refine ih _ (fun x hx => hl x (by simp [hx])) ?_
      have hg := hl g (by simp)
      have hb : Bare (if s.2 = true ∧ s.1 ≠ [] then s.1 ++ [⟨32, 0⟩] else s.1) := by
        split
        · intro x hx
          rcases List.mem_append.1 hx with hx | hx
          · exact hs x hx
          · rw [List.mem_singleton.1 hx]; exact ⟨rfl, .inl rfl⟩
        · exact hs
      unfold sqStep
      split
      · exact hs
      · intro x hx
        rcases List.mem_append.1 hx with hx | hx
        · exact hb x hx
        · rw [List.mem_singleton.1 hx]; exact hg
  exact key l ([], false) h (fun x hx => by cases hx)
theorem bare_mend {t : Tbl} (h : bareT t.rows = true) : ∀ r ∈ (mendT t).rows, ∀ c ∈ r.cells, Bare c := fun r hr c hc => by
  obtain ⟨x, hx, rfl⟩ := List.mem_map.1 hr
  rw [mendRow_eq] at hc
  have hxr : bareR x = true := List.all_eq_true.1 h x hx
  have hc' : c ∈ (if x.rule = true then [] else (List.range (mendCols t.cols).size).map (cellM x)) := hc
  split at hc'
  · simp at hc'
  · obtain ⟨k, _, rfl⟩ := List.mem_map.1 hc'
    unfold cellM
    split
    · rename_i hk
      have e : x.cells.getD k [] = x.cells[k] := by simp [List.getD, hk]
      rw [e]
      exact sq_bare (bareC_of (List.all_eq_true.1 hxr _ (List.getElem_mem hk)))
    · intro g hg; cases hg
theorem back_S {t : Tbl} (hb : t.cols.size + sumBy trowLong t.rows ≤ 524288) (h : bareT t.rows = true) : PrS (mendT t) where
  s := tblS_mend (by omega)
  rows := by
    show (t.rows.map _).length ≤ _
    rw [List.length_map]
    have := sumLen trowLong (fun r => by unfold trowLong; omega) t.rows
    omega
  cols := (mendCols_ok t.cols).2.1
  side := fun b hb' => by
    rcases side_nat (List.all_eq_true.1 (mendCols_ok t.cols).2.2 b hb') with rfl | rfl | rfl <;> decide
  cells := fun r hr => by
    obtain ⟨x, hx, rfl⟩ := List.mem_map.1 hr
    rw [mendRow_eq]
    show (if x.rule = true then [] else (List.range (mendCols t.cols).size).map (cellM x)).length ≤ 20
    have := (mendCols_ok t.cols).2.1
    split
    · simp
    · simpa using this
  bare := bare_mend h
  len := fun r hr c hc => by
    obtain ⟨x, hx, rfl⟩ := List.mem_map.1 hr
    have hxl := sumBy_mem' trowLong hx
    simp only [trowLong] at hxl
    rw [mendRow_eq] at hc
    have hc' : c ∈ (if x.rule = true then [] else (List.range (mendCols t.cols).size).map (cellM x)) := hc
    split at hc'
    · simp at hc'
    · obtain ⟨k, _, rfl⟩ := List.mem_map.1 hc'
      unfold cellM
      split
      · rename_i hk
        have h2 := sumBy_mem' List.length (List.getElem_mem hk)
        have h3 := sqAll_len (x.cells.getD k [])
        have e : x.cells.getD k [] = x.cells[k] := by simp [List.getD, hk]
        rw [e] at h3 ⊢
        unfold squeeze
        omega
      · simp
theorem rowLine_size {r : TRow} (h1 : r.cells.length ≤ 20) (h2 : ∀ c ∈ r.cells, c.length ≤ sumBy List.length r.cells) : (rowLine r).size ≤ 1 + 80 * sumBy List.length r.cells + 60 := by
  unfold rowLine
  split
  · have : (⟨#[95]⟩ : ByteArray).size = 1 := rfl
    omega
  · unfold cellsLine
    have k1 := joinB_size ⟨#[9]⟩ (r.cells.map fun c => plainB c (decide (r.cells.length = 1)))
    have k2 := sumBy_bound (fun x : ByteArray => x.size + (⟨#[9]⟩ : ByteArray).size) (4 * sumBy List.length r.cells + 3) (r.cells.map fun c => plainB c (decide (r.cells.length = 1))) (fun x hx => by
      obtain ⟨c, hc, rfl⟩ := List.mem_map.1 hx
      have h3 := plainB_size c (decide (r.cells.length = 1))
      have h4 := h2 c hc
      have h5 : (⟨#[9]⟩ : ByteArray).size = 1 := rfl
      show (plainB c (decide (r.cells.length = 1))).size + (⟨#[9]⟩ : ByteArray).size ≤ _
      omega)
    rw [List.length_map] at k2
    have h6 : r.cells.length * (4 * sumBy List.length r.cells + 3) ≤ 20 * (4 * sumBy List.length r.cells + 3) := Nat.mul_le_mul_right _ h1
    omega
theorem print_sum {M : Tbl} (hP : PrS M) (hb : sumBy trowLong M.rows ≤ 1048576) : sumBy wt (printT M) ≤ 268435456 := by
  have hr : sumBy wt (M.rows.map rowLine) ≤ 64 * M.rows.length + 80 * sumBy trowLong M.rows := by
    have hc := hP.cells
    clear hb
    generalize M.rows = rs at *
    induction rs with
    | nil => simp [sumBy]
    | cons r rs ih =>
      have ih := ih fun x hx => hc x (by simp [hx])
      have h1 := rowLine_size (r := r) (hc r (by simp)) (fun c hc' => sumBy_mem' List.length hc')
      have h2 : trowLong r = 1 + r.cells.length + sumBy List.length r.cells := rfl
      have h3 : wt (rowLine r) = (rowLine r).size + 3 := rfl
      simp only [List.map_cons, sumBy, List.length_cons] at ih ⊢
      omega
  have hl := sumLen trowLong (fun r => by unfold trowLong; omega) M.rows
  have hc : (colsLine M.cols).size ≤ 41 := by
    unfold colsLine
    rw [ByteArray.size_append]
    have h1 := joinB_size ⟨#[32]⟩ (Go.Lib.charsB M.cols)
    have h2 := sumBy_bound (fun x : ByteArray => x.size + (⟨#[32]⟩ : ByteArray).size) 2 (Go.Lib.charsB M.cols) (fun x hx => by
      have := charsB_size hx
      have h3 : (⟨#[32]⟩ : ByteArray).size = 1 := rfl
      show x.size + (⟨#[32]⟩ : ByteArray).size ≤ 2
      omega)
    have h3 := charsB_len M.cols
    have h4 := hP.cols
    have h5 : (⟨#[46]⟩ : ByteArray).size = 1 := rfl
    omega
  have hh : sumBy wt (headT M) ≤ 20 := by
    unfold headT
    split
    · decide
    · split <;> decide
  unfold printT
  rw [sumBy_append, sumBy_append]
  have h3 : sumBy wt [colsLine M.cols] = (colsLine M.cols).size + 3 + 0 := rfl
  omega
theorem cellM_sumT (r : TRow) (n : Nat) : sumBy List.length ((List.range n).map (cellM r)) ≤ 2 * sumBy List.length r.cells := by
  have key : ∀ m, sumBy List.length ((List.range m).map (cellM r)) ≤ 2 * sumBy List.length (r.cells.take m) := by
    intro m
    induction m with
    | zero => simp [sumBy]
    | succ m ih =>
      rw [List.range_succ, List.map_append, sumBy_append]
      simp only [List.map_cons, List.map_nil, sumBy]
      by_cases hm : m < r.cells.length
      · rw [sumBy_take _ hm]
        have e : cellM r m = squeeze r.cells[m] := by simp [cellM, hm]
        rw [e]
        have := sqAll_len r.cells[m]
        unfold squeeze
        omega
      · have e : cellM r m = [] := by simp [cellM, hm]
        rw [e]
        rw [List.take_of_length_le (by omega)] at ih
        rw [List.take_of_length_le (by omega)]
        simp; omega
  have := key n; have := sumBy_take_le List.length r.cells n; omega
theorem mendRow_longT (n : Nat) (hn : n ≤ 20) (r : TRow) : trowLong (mendRow n r) ≤ 2 * trowLong r + 20 := by
  rw [mendRow_eq]
  unfold trowLong
  cases hr : r.rule
  · have := cellM_sumT r n
    simp; omega
  · simp [sumBy]
theorem mendT_longT (t : Tbl) : (mendT t).cols.size + sumBy trowLong (mendT t).rows ≤ 20 + 22 * sumBy trowLong t.rows := by
  obtain ⟨c1, c2, c3⟩ := mendCols_ok t.cols
  have key : ∀ l : List TRow, sumBy trowLong (l.map (mendRow (mendCols t.cols).size)) ≤ 22 * sumBy trowLong l := by
    intro l
    induction l with
    | nil => simp [sumBy]
    | cons r l ih =>
      rw [List.map_cons, sumBy, sumBy]
      have := mendRow_longT _ c2 r
      have : 1 ≤ trowLong r := by unfold trowLong; omega
      omega
  have := key t.rows
  show (mendCols t.cols).size + sumBy trowLong (t.rows.map _) ≤ _
  omega
set_option linter.unusedSimpArgs false in
set_option maxRecDepth 20000 in
set_option maxHeartbeats 4000000 in
theorem conBack (t : Tbl) (hb : t.cols.size + sumBy trowLong t.rows ≤ 1048576) : PCon C0 6 [t.pv.toFV] (.sc (.bool true)) := by
  -- (the bundler wants the name Node.withKids, of which simp's lemmas speak)
  have _ : ∀ (x : Node) (l : List Node), Node.withKids x l = x.withKids l := fun _ _ => rfl
  have ck := conKnown09
  have hS := tblS_of (t := t) (by omega)
  have hM := tblS_mend (t := t) (by omega)
  have cl := refLong _ [Node.mk 0 0 0 [] [] [] t] (Nat.lt_succ_self _) (by
      intro x hx
      rw [List.mem_singleton.1 hx]
      exact .mk (by simp) (by simp) (by simp) (by simp) (by simp) hS.ok) (by simp)
  have hlong : sumBy Node.long [Node.mk 0 0 0 [] [] [] t] = 3 + t.cols.size + sumBy trowLong t.rows := by
    have e1 : (Node.mk 0 0 0 [] [] [] t).long = 3 + t.cols.size + sumBy trowLong t.rows := by
      rw [Node.long_eq]
      simp [rowsLong, sumBy]
    show (Node.mk 0 0 0 [] [] [] t).long + 0 = _
    rw [e1, Nat.add_zero]
  rw [hlong, show IntKind.i64.wrap ((3 + t.cols.size + sumBy trowLong t.rows : Nat) : Int) = ((3 + t.cols.size + sumBy trowLong t.rows : Nat) : Int) from wrap64 (by omega) (by omega)] at cl
  obtain ⟨lg, hlg⟩ : ∃ lg, lg = 3 + t.cols.size + sumBy trowLong t.rows := ⟨_, rfl⟩
  rw [← hlg] at cl
  simp [Node.pv_eq, gl] at cl
  have cb := conBare t hS
  have cm := refMend t hS
  have cs := refTableSame (mendT t) (mendT t) hM.ok
  rw [decide_eq_true (rfl : mendT t = mendT t)] at cs
  have hbody : lg ≤ 500 → bareT t.rows = true → PCon C0 20 [t.pv.toFV] (.own ((printT (mendT t)).map .str)) ∧ PCon C0 16 [.sc (.int .i64 5), .sc (.sl ((printT (mendT t)).map .str))] (.tup [(mendT t).pv.toFV, .sc (.sl [])])   := fun h500 h => by
    have hP := back_S (t := t) (by omega) h
    have hF : Flat (mendT t) := ⟨mend_right t, hP.bare⟩
    obtain ⟨p1, p2⟩ := parse_print hF 5
    have hlong := mendT_longT t
    have cp := conParse 5 (printT (mendT t)) (print_sum hP (by omega)) (by decide) (by decide)
    rw [p1, p2] at cp
    exact ⟨conPrint t hS hP, cp⟩
  generalize printT (mendT t) = pl at *
  generalize mendT t = M at *
  obtain ⟨tc, tr, tb, ta⟩ := t
  obtain ⟨mc, mr, mb, ma⟩ := M
  simp only [Tbl.pv, PV.toFV, List.map_cons, List.map_nil] at cl cb cm cs hbody
  refine penter6 ?_
  simp [Tryd.f6, Tbl.pv, sized1]
  refine CallQ.mk (Call.pure callable18 (by simp) (by simp) cl) ?_
  by_cases h5 : lg ≤ 500
  · have h5' : ¬ (500 : Int) < (lg : Int) := by omega
    simp [h5, h5']
    refine CallQ.mk (Call.pure callable19 (by simp) (by simp) cb) ?_
    cases hbt : bareT tr
    · simp
      refine CallQ.mk (Call.pure callable7 (by simp) (by simp) ck) ?_
      simp
    · obtain ⟨cp, cq⟩ := hbody h5 hbt
      simp
      refine CallQ.mk (Call.pure callable20 (by simp) (by simp) cp) ?_
      simp
      refine CallQ.mk (Call.pure callable16 (by simp) (by simp) cq) ?_
      simp
      refine CallQ.mk (CallP.pure callable22 (by simp) (by simp) cm) ?_
      simp
      refine CallQ.mk (CallP.pure callable21 (by simp) (by simp) cs) ?_
      simp
      refine CallQ.mk (CallP.pure callable7 (by simp) (by simp) ck) ?_
      simp
  · have h5' : (500 : Int) < (lg : Int) := by omega
    simp [h5, h5']
    refine CallQ.mk (Call.pure callable7 (by simp) (by simp) ck) ?_
    simp
end Go.Proofs.YtabgeenhpfnhdaaDoor.Ev
end
