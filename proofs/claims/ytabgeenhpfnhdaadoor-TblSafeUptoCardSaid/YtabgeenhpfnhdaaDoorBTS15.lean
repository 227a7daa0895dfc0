/- Of what the law TblSafe needs: part 15. -/
import Derived.Test.YtabgeenhpfnhdaaDoorBTS13
import Derived.Test.YtabgeenhpfnhdaaDoorBTS14
set_option linter.unusedSimpArgs false
set_option linter.unusedVariables false
section
namespace Go.Proofs.YtabgeenhpfnhdaaDoor.Ev
open Go
structure Tr where
  l : List ByteArray
  at_ : Nat
  line : Int
  cols : ByteArray
  rows : List TRow
  box : Bool
  all : Bool
  bad : List Dg
def trC (R : Tr) : List FV := [.sc (.sl (R.l.map .str)), .sc (.int .i64 R.at_), .sc (.int .i64 R.line), .sc (.str R.cols), .own (R.rows.map TRow.pv), .sc (.bool R.box), .sc (.bool R.all), .own (R.bad.map Dg.pv)]
structure TrS (R : Tr) : Prop where
  len : R.l.length ≤ 1073741824
  at_ : R.at_ ≤ 1073741825
  line0 : 0 ≤ R.line
  line1 : R.line ≤ 1073741824
  size : ∀ s ∈ R.l, s.size ≤ 1073741824
  bad : R.bad.length ≤ 68719476736
theorem trC_und (R : Tr) (n : Nat) : ∀ f ∈ body (trC R), f.und0 n = true := fun f hf => by
  simp only [body, trC, List.mem_cons, List.not_mem_nil, or_false] at hf
  rcases hf with rfl | rfl | rfl | rfl | rfl | rfl | rfl | rfl <;> rfl
def HOkT (H : Heap) : Prop := ∀ fs ∈ H, ∀ f ∈ body fs, f.und0 H.length = true
theorem HOkT.set {H : Heap} {b : Nat} {R : Tr} (h : HOkT H) : ∀ fs ∈ H.set b (trC R), ∀ f ∈ body fs, f.und0 H.length = true := fun gs hg f hf' => by
  rcases List.mem_or_eq_of_mem_set hg with h' | rfl
  · exact h gs h' f hf'
  · exact trC_und R _ f hf'
def tellT (R : Tr) (kind : Int) (k : Int) : Tr := { R with bad := R.bad ++ [⟨kind, R.line + k, 0⟩] }
theorem hsT {H : Heap} {b : Nat} (h : b < H.length) {x : List FV} : (H.set b x)[b]? = some x := List.getElem?_set_self h
theorem sizedDg (l : List Dg) : Sized 3 (l.map Dg.pv) := fun p hp => by
  simp only [List.mem_map] at hp; obtain ⟨x, _, rfl⟩ := hp; rfl
theorem sizedDg1 (a b c : Int) : Sized 3 [PV.agg [.int .i64 a, .int .i64 b, .int .i64 c]] := fun p hp => by rw [List.mem_singleton.1 hp]; rfl
set_option linter.unusedSimpArgs false in
set_option maxRecDepth 20000 in
set_option maxHeartbeats 4000000 in
theorem conTellT {H : Heap} {b : Nat} {R : Tr} (hb : H[b]? = some (trC R)) (hR : TrS R) (kind : Int) (k : Nat) (hk : k ≤ 1073741825) :
    Con C0 47 [.ptr b 0, .sc (.int .i64 kind), .sc (.int .i64 k)] H (.tup []) (H.set b (trC (tellT R kind k))) := by
  have hbl : b < H.length := (List.getElem?_eq_some_iff.1 hb).1
  have hw : IntKind.i64.wrap (R.line + (k : Int)) = R.line + k := wrap64 (by have := hR.line0; omega) (by have := hR.line1; omega)
  have sb := sizedDg R.bad
  have hbad := hR.bad
  obtain ⟨l, at_, line, cols, rows, box, all, bad⟩ := R
  simp only [trC, tellT] at *
  refine enter47 ?_
  simp [Tryd.f47, hb, hsT hbl, hw, sb, sizedDg1, lenMax]
  exact ⟨by omega, rfl⟩
def dgAt (ln : Int) (d : Dg) : Dg := ⟨d.kind, ln, d.col⟩
def atL (ln : Int) (l : List Dg) : List Dg := l.map (dgAt ln)
theorem atL_len (ln : Int) (l : List Dg) : (atL ln l).length = l.length := List.length_map _
theorem atL_snoc (ln : Int) (l : List Dg) (d : Dg) : atL ln (l ++ [d]) = atL ln l ++ [dgAt ln d] := List.map_append
def textT (R : Tr) (s : ByteArray) (k : Int) : Tr := { R with bad := R.bad ++ atL (R.line + k) (lineD s) }
def face0 : Face := ⟨0, 0⟩
theorem Face.zero_cells : face0.cells = [.sc (.int .u8 0), .sc (.int .u8 0)] := rfl
set_option linter.unusedSimpArgs false in
set_option maxRecDepth 20000 in
set_option maxHeartbeats 8000000 in
theorem conTextT {H : Heap} {b : Nat} {R : Tr} (hb : H[b]? = some (trC R)) (hR : TrS R) (hH : HOkT H) (s : ByteArray) (k : Nat) (hs : s.size ≤ 1073741824) (hk : k ≤ 1073741825) :
    Con C0 48 [.ptr b 0, .sc (.str s), .sc (.int .i64 k)] H (.sc (gl (lineG face0 s))) (H.set b (trC (textT R s k))) := by
  have hbl : b < H.length := (List.getElem?_eq_some_iff.1 hb).1
  have hw : IntKind.i64.wrap (R.line + (k : Int)) = R.line + k := wrap64 (by have := hR.line0; omega) (by have := hR.line1; omega)
  have cl := conLine face0 s hs
  have hdl := (scan_len s).2
  change (lineD s).length ≤ s.size at hdl
  have hbad := hR.bad
  have hu := hH.set (b := b) (R := textT R s k)
  refine con_trimU (C := C0) (fn := Tryd.f48) Tryd.func48 rfl (by decide) mixed (mv := mv48) (vars := vars48) (c := Tryd.f48.body.getD .skip) (by kernel_rfl) rfl hu ?_
  obtain ⟨l, at_, line, cols, rows, box, all, bad⟩ := R
  simp only [trC, textT, Face.zero_cells] at *
  generalize hG : lineG face0 s = G at *
  obtain ⟨F1, F2, hF⟩ : ∃ a c, (lineF face0 s).cells = [.sc (.int .u8 a), .sc (.int .u8 c)] := ⟨_, _, rfl⟩
  rw [hF] at cl
  generalize hD : lineD s = D at *
  simp [Tryd.f48]
  refine CallQ.mk (Call.pure callable65 (by simp) (by simp) cl) ?_
  simp
  refine loopC (fun d e H' => ∃ (i : Nat) (J : Heap) (x11 x22 : FV), H' = H.set b [.sc (.sl (l.map .str)), .sc (.int .i64 at_), .sc (.int .i64 line), .sc (.str cols), .own (rows.map TRow.pv), .sc (.bool box), .sc (.bool all), .own ((bad ++ atL (line + k) (D.take i)).map Dg.pv)] ++ J ∧ d = D.length - i ∧ i ≤ D.length ∧ e = [(0, .ptr b 0), (1, .sc (.str s)), (2, .sc (.int .i64 k)), (6, .own []), (7, .sc (gl G)), (9, .sc (.sl (D.map Dg.pv))), (11, x11), (19, .sc (.sl (D.map Dg.pv))), (20, .sc (.int .i64 D.length)), (21, .sc (.int .i64 i)), (22, x22)]) (d := D.length) ⟨0, [[.sc (.int .u8 F1), .sc (.int .u8 F2)]], .undef, .undef, ?_, rfl, Nat.zero_le _, rfl⟩ ?_
  · rw [List.take_zero, show atL (line + k) [] = [] from rfl, List.append_nil, set_same hb]
  rintro d e H' ⟨i, J, x11, x22, rfl, rfl, hi, rfl⟩
  simp
  refine CondC.mk (fun hlt => ?_) (fun hlt => ?_)
  · simp at hlt
    have hlt' : (i : Int) < (D.length : Int) := by omega
    have hwi : IntKind.i64.wrap ((i : Int) + 1) = ((i + 1 : Nat) : Int) := by rw [wrap64 (by omega) (by omega)]; omega
    obtain ⟨dk, hdk⟩ : ∃ dk, D[i] = dk := ⟨_, rfl⟩
    have ht : D.take (i + 1) = D.take i ++ [dk] := by rw [List.take_succ_eq_append_getElem hlt, hdk]
    have sb := sizedDg (bad ++ atL (line + k) (D.take i))
    have hml : (atL (line + k) (D.take i)).length ≤ i := by rw [atL_len, List.length_take]; omega
    have hpv : dk.pv = .agg [.int .i64 dk.kind, .int .i64 dk.line, .int .i64 dk.col] := rfl
    generalize hS : atL (line + k) (D.take i) = S at *
    simp only [List.map_append] at sb
    simp [hlt, hlt', hdk, hpv, hs_b hbl, hs_set hbl, hs_at, hsT hbl, heap_old_set hbl, hw, sb, sizedDg1, lenMax, hwi]
    have hpw : (dgAt (line + k) dk).pv = .agg [.int .i64 dk.kind, .int .i64 (line + k), .int .i64 dk.col] := rfl
    refine ⟨by omega, D.length - (i + 1), by omega, i + 1, ⟨J ++ [[.sc (.int .i64 dk.kind), .sc (.int .i64 dk.line), .sc (.int .i64 dk.col)]], ?_⟩, rfl, by omega, by omega⟩
    rw [ht, atL_snoc, hS, List.map_append, List.map_cons, hpw]
    rfl
  · simp at hlt
    obtain rfl : i = D.length := by omega
    simp [gl, heap_old_take_set]
def lookR (R : Tr) : Tr := match R.l with
  | [] => R
  | s :: _ => if sufB s 59 = true then { (if (lookT s).2.2 = true then R else tellT R 10 0) with box := (lookT s).1, all := (lookT s).2.1, at_ := 1 } else R
set_option linter.unusedSimpArgs false in
set_option maxRecDepth 20000 in
set_option maxHeartbeats 8000000 in
theorem conLookR {H : Heap} {b : Nat} {R : Tr} (hb : H[b]? = some (trC R)) (hR : TrS R) :
    Con C0 30 [.ptr b 0] H (.tup []) (H.set b (trC (lookR R))) := by
  have hbl : b < H.length := (List.getElem?_eq_some_iff.1 hb).1
  have ct := conTellT hb hR 10 0 (by omega)
  have hsz := hR.size
  obtain ⟨l, at_, line, cols, rows, box, all, bad⟩ := R
  cases l with
  | nil =>
    simp only [trC, tellT, lookR] at *
    refine enter30 ?_
    simp [Tryd.f30, hb]
    exact (set_same hb).symm
  | cons s l =>
    have hs := hsz s (by simp)
    have c1 := conHasSuffix s 59 hs
    have c2 := conLook s hs
    simp only [trC, tellT, lookR] at *
    refine enter30 ?_
    have hne : ¬ ((l.length : Int) + 1 = 0) := by omega
    simp [Tryd.f30, hb, hne]
    refine CallQ.mk (Call.pure callable46 (by simp) (by simp) c1) ?_
    cases h1 : sufB s 59
    · simp [h1]
      exact (set_same hb).symm
    · simp [hb]
      refine CallQ.mk (Call.pure callable8 (by simp) (by simp) c2) ?_
      obtain ⟨z1, z2, z3⟩ := lookT s
      cases z3
      · simp [hb]
        simp at ct
        refine CallQ.mk (Call.shared callable47 ct) ?_
        simp [hsT hbl]
      · simp [hb, hsT hbl]
end Go.Proofs.YtabgeenhpfnhdaaDoor.Ev
end
section
namespace Go.Proofs.YtabgeenhpfnhdaaDoor.Ev
open Go
def wt (s : ByteArray) : Nat := s.size + 3
structure TrI (c : Nat) (R : Tr) : Prop where
  sum : sumBy wt R.l ≤ 268435456
  line0 : 0 ≤ R.line
  line1 : R.line ≤ 1073741824
  at_ : R.at_ ≤ R.l.length + 1
  bad : R.bad.length ≤ c + sumBy wt (R.l.take R.at_)
theorem TrI.len {c : Nat} {R : Tr} (h : TrI c R) : R.l.length ≤ 1073741824 := by
  have h1 : R.l.length ≤ sumBy wt R.l := sumLen wt (fun s => by unfold wt; omega) R.l
  have := h.sum; omega
theorem TrI.size {c : Nat} {R : Tr} (h : TrI c R) : ∀ s ∈ R.l, s.size ≤ 1073741824 := fun s hs => by
  have h1 := sumMem wt hs
  have := h.sum
  have h2 : wt s = s.size + 3 := rfl
  omega
theorem TrI.s {c : Nat} {R : Tr} (h : TrI c R) (hc : c ≤ 10000000000) : TrS R :=
  ⟨h.len, by have := h.at_; have := h.len; omega, h.line0, h.line1, h.size, by have := h.bad; have := sumBy_take_le wt R.l R.at_; have := h.sum; omega⟩
theorem TrI.tell {c : Nat} {R : Tr} (h : TrI c R) (kind k : Int) : TrI (c + 1) (tellT R kind k) :=
  ⟨h.sum, h.line0, h.line1, h.at_, by have := h.bad; simp only [tellT, List.length_append, List.length_singleton]; omega⟩
def colStep (R : Tr) (s : ByteArray) : Tr :=
  let R1 := if (columnsT s).2 = true then R else tellT R 10 R.at_
  let R2 := if 20 < (columnsT s).1.length then tellT R1 11 R.at_ else R1
  { (if (columnsT s).1.take 20 = [] then R2 else { R2 with cols := ba ((columnsT s).1.take 20) }) with at_ := R.at_ + 1 }
def colLoop : Nat → Tr → Bool → Tr × Bool
  | 0, R, e => (R, e)
  | n + 1, R, e => if e = true then (R, e) else match R.l[R.at_]? with
    | none => (R, e)
    | some s => colLoop n (colStep R s) (sufB s 46)
theorem colStep_l (R : Tr) (s : ByteArray) : (colStep R s).l = R.l ∧ (colStep R s).line = R.line ∧ (colStep R s).at_ = R.at_ + 1 ∧ (colStep R s).bad.length ≤ R.bad.length + 2 := by
  unfold colStep
  refine ⟨?_, ?_, rfl, ?_⟩
  all_goals
    simp only
    split <;> split <;> split <;> simp [tellT]
theorem TrI.colStep {c : Nat} {R : Tr} (h : TrI c R) {s : ByteArray} (hs : R.l[R.at_]? = some s) : TrI c (colStep R s) := by
  obtain ⟨h1, h2, h3, h4⟩ := colStep_l R s
  obtain ⟨g1, g2⟩ := List.getElem?_eq_some_iff.1 hs
  refine ⟨by rw [h1]; exact h.sum, by rw [h2]; exact h.line0, by rw [h2]; exact h.line1, by rw [h1, h3]; omega, ?_⟩
  rw [h1, h3, sumBy_take wt g1]
  have := h.bad
  have h5 : wt R.l[R.at_] = R.l[R.at_].size + 3 := rfl
  omega
def EnF (F : Tr × Bool) (n : Nat) (R : Tr) (f : FV) : Prop := ∃ e, f = .sc (.bool e) ∧ colLoop n R e = F
def columnsEnd (R : Tr) (e : Bool) : Tr :=
  let R1 := if R.cols = ⟨#[]⟩ then { R with cols := ⟨#[108]⟩ } else R
  if e = true then R1 else tellT R1 7 0
def columnsR (R : Tr) : Tr := columnsEnd (colLoop (R.l.length + 1) R false).1 (colLoop (R.l.length + 1) R false).2
theorem ba_take20 (l : List UInt8) : (ba l).extract 0 20 = ba (l.take 20) := by
  have : ((ba l).extract 0 20).data.toList = l.take 20 := by rw [Go.Lib.extract_from_zero, data_ba]
  rw [← ba_data ((ba l).extract 0 20), this]
set_option linter.unusedSimpArgs false in
set_option maxRecDepth 20000 in
set_option maxHeartbeats 16000000 in
theorem conColumnsR {H : Heap} {b c : Nat} {R : Tr} (hb : H[b]? = some (trC R)) (hI : TrI c R) (hc : c ≤ 1000000000) :
    Con C0 31 [.ptr b 0] H (.tup []) (H.set b (trC (columnsR R))) := by
  have hbl : b < H.length := (List.getElem?_eq_some_iff.1 hb).1
  unfold columnsR
  generalize hF : colLoop (R.l.length + 1) R false = F
  refine enter31 ?_
  simp [Tryd.f31]
  refine loopC (fun d e H' => ∃ (n : Nat) (R' : Tr) (x2 x3 x4 x5 x19 x45 x54 x64 x75 x81 : FV), H' = H.set b (trC R') ∧ TrI c R' ∧ EnF F n R' x2 ∧ R'.l.length ≤ R'.at_ + n ∧ n = d ∧ e = [(0, .ptr b 0), (2, x2), (3, x3), (4, x4), (5, x5), (19, x19), (45, x45), (54, x54), (64, x64), (75, x75), (81, x81)]) (d := R.l.length + 1) ⟨R.l.length + 1, R, .sc (.bool false), .undef, .undef, .undef, .undef, .undef, .undef, .undef, .undef, .undef, (set_same hb).symm, hI, ⟨false, rfl, hF⟩, by omega, rfl, rfl⟩ ?_
  rintro d e H' ⟨n, R', x2, x3, x4, x5, x19, x45, x54, x64, x75, x81, rfl, hI', ⟨en, rfl, hF'⟩, hn, rfl, rfl⟩
  have hS := hI'.s (by omega)
  have hlen := hI'.len
  have hat := hI'.at_
  have hb' := hsT (x := trC R') hbl
  have hss : ∀ X, (H.set b (trC R')).set b X = H.set b X := fun X => by simp
  obtain ⟨l, at_, line, cols, rows, box, all, bad⟩ := R'
  simp only at hn hlen hat
  simp only [trC]
  by_cases hlt : at_ < l.length
  · have hlt' : (at_ : Int) < (l.length : Int) := by omega
    obtain ⟨s, hls⟩ : ∃ s, l[at_] = s := ⟨_, rfl⟩
    have hget : l[at_]? = some s := by rw [List.getElem?_eq_getElem hlt, hls]
    cases en
    · obtain ⟨n, rfl⟩ : ∃ m, n = m + 1 := ⟨n - 1, by omega⟩
      rw [colLoop, if_neg (by simp)] at hF'
      simp only [hget] at hF'
      have hs := hS.size s (List.mem_of_getElem? hget)
      have hIs := hI'.colStep (s := s) hget
      obtain ⟨e1, e2, e3, e4⟩ := colStep_l (Tr.mk l at_ line cols rows box all bad) s
      have hw : IntKind.i64.wrap ((at_ : Int) + 1) = ((at_ + 1 : Nat) : Int) := by rw [wrap64 (by omega) (by omega)]; omega
      have fin : ∀ X, trC (colStep (Tr.mk l at_ line cols rows box all bad) s) = X → ∃ d', d' < n + 1 ∧ ∃ n' R', H.set b X = H.set b [FV.sc (PV.sl (List.map PV.str R'.l)), FV.sc (PV.int IntKind.i64 ↑R'.at_), FV.sc (PV.int IntKind.i64 R'.line), FV.sc (PV.str R'.cols), FV.own (List.map TRow.pv R'.rows), FV.sc (PV.bool R'.box), FV.sc (PV.bool R'.all), FV.own (List.map Dg.pv R'.bad)] ∧ TrI c R' ∧ ∃ x, EnF F n' R' x ∧ R'.l.length ≤ R'.at_ + n' ∧ n' = d' ∧ FV.sc (.bool (sufB s 46)) = x :=
        fun X hX => ⟨n, by omega, n, colStep (Tr.mk l at_ line cols rows box all bad) s, by rw [← hX]; rfl, hIs, _, ⟨_, rfl, hF'⟩, by rw [e1, e3]; show l.length ≤ at_ + 1 + n; omega, rfl, rfl⟩
      have c1 := conHasSuffix s 46 hs
      have c2 := conColumns s hs
      have ht1 := conTellT (H := H.set b (trC (Tr.mk l at_ line cols rows box all bad))) hb' hS 10 at_ (by omega)
      have ht2 := conTellT (H := H.set b (trC (Tr.mk l at_ line cols rows box all bad))) hb' hS 11 at_ (by omega)
      have ht3 := conTellT (H := H.set b (trC (tellT (Tr.mk l at_ line cols rows box all bad) 10 at_))) (hsT hbl) ((hI'.tell 10 at_).s (by omega)) 11 at_ (by omega)
      have hext := ba_take20 (columnsT s).1
      have hbsz := ba_size (columnsT s).1
      have hcst : ∀ cs ok, columnsT s = (cs, ok) → colStep (Tr.mk l at_ line cols rows box all bad) s = { (if cs.take 20 = [] then (if 20 < cs.length then tellT (if ok = true then Tr.mk l at_ line cols rows box all bad else tellT (Tr.mk l at_ line cols rows box all bad) 10 at_) 11 at_ else (if ok = true then Tr.mk l at_ line cols rows box all bad else tellT (Tr.mk l at_ line cols rows box all bad) 10 at_)) else { (if 20 < cs.length then tellT (if ok = true then Tr.mk l at_ line cols rows box all bad else tellT (Tr.mk l at_ line cols rows box all bad) 10 at_) 11 at_ else (if ok = true then Tr.mk l at_ line cols rows box all bad else tellT (Tr.mk l at_ line cols rows box all bad) 10 at_)) with cols := ba (cs.take 20) }) with at_ := at_ + 1 } := fun cs ok h => by unfold colStep; rw [h]
      generalize columnsT s = P at *
      obtain ⟨cs, ok⟩ := P
      have hcs2 := hcst cs ok rfl
      simp only at hext hbsz
      have hbe : ∀ q : List UInt8, q ≠ [] → ¬ ba q = (⟨#[]⟩ : ByteArray) := fun q hq h => hq (ba_inj.1 (h.trans (rfl : (⟨#[]⟩ : ByteArray) = ba [])))
      have hb0 : ba [] = (⟨#[]⟩ : ByteArray) := rfl
      have hbz : (⟨#[]⟩ : ByteArray).size = 0 := rfl
      simp [trC, tellT] at ht1 ht2 ht3
      simp [hlt, hlt', hsT hbl]
      simp [hlt, hlt', hsT hbl, hls]
      refine CallQ.mk (Call.pure callable46 (by simp) (by simp) c1) ?_
      simp [hlt, hlt', hsT hbl, hls]
      refine CallQ.mk (Call.pure callable10 (by simp) (by simp) c2) ?_
      simp [hlt, hlt', hsT hbl, hls]
      by_cases h20 : 20 < cs.length
      · have h20' : (20 : Int) < (cs.length : Int) := by omega
        have h21 : 20 ≤ cs.length := by omega
        have h21' : (20 : Int) ≤ (cs.length : Int) := by omega
        have hne : cs.take 20 ≠ [] := by
          intro h
          rw [List.take_eq_nil_iff] at h
          rcases h with h | h
          · omega
          · subst h; simp at h20
        rw [if_neg hne, if_pos h20] at hcs2
        cases ok
        · simp [hsT hbl]
          refine CallQ.mk (Call.shared callable47 ht1) ?_
          simp [hsT hbl, hbsz, h20, h20', h21, h21']
          refine CallQ.mk (Call.shared callable47 ht3) ?_
          simp [hsT hbl, hbsz, h20, h20', h21, h21', hext, hbe _ hne, hw]
          exact fin _ (by rw [hcs2]; simp [tellT, trC])
        · simp [hsT hbl, hbsz, h20, h20', h21, h21']
          refine CallQ.mk (Call.shared callable47 ht2) ?_
          simp [hsT hbl, hbsz, h20, h20', h21, h21', hext, hbe _ hne, hw]
          exact fin _ (by rw [hcs2]; simp [tellT, trC])
      · have h20' : ¬ (20 : Int) < (cs.length : Int) := by omega
        have htk : cs.take 20 = cs := List.take_of_length_le (by omega)
        rw [htk, if_neg h20] at hcs2
        by_cases hce : cs = []
        · rw [if_pos hce] at hcs2
          subst hce
          cases ok
          · simp [hsT hbl]
            refine CallQ.mk (Call.shared callable47 ht1) ?_
            simp [hsT hbl, hb0, hbz, hw]
            exact fin _ (by rw [hcs2]; simp [tellT, trC])
          · simp [hsT hbl, hb0, hbz, hw]
            exact fin _ (by rw [hcs2]; simp [tellT, trC])
        · rw [if_neg hce] at hcs2
          cases ok
          · simp [hsT hbl]
            refine CallQ.mk (Call.shared callable47 ht1) ?_
            simp [hsT hbl, hbsz, h20, h20', hbe _ hce, hw]
            exact fin _ (by rw [hcs2]; simp [tellT, trC])
          · simp [hsT hbl, hbsz, h20, h20', hbe _ hce, hw]
            exact fin _ (by rw [hcs2]; simp [tellT, trC])
    · have hFe : F = (Tr.mk l at_ line cols rows box all bad, true) := by
        rw [← hF']
        cases n <;> simp [colLoop]
      rw [hFe]
      simp [hlt, hlt', hsT hbl]
      by_cases hcz : cols = ⟨#[]⟩
      · subst hcz
        simp [hsT hbl, columnsEnd]
      · simp [hsT hbl, columnsEnd, hcz]
  · have hlt' : ¬ (at_ : Int) < (l.length : Int) := by omega
    have hFe : F = (Tr.mk l at_ line cols rows box all bad, en) := by
      rw [← hF']
      cases n with
      | zero => rfl
      | succ n =>
        rw [colLoop]
        cases en
        · have : l[at_]? = none := List.getElem?_eq_none (by omega)
          simp [this]
        · rfl
    rw [hFe]
    have ht7 := conTellT (H := H.set b (trC (Tr.mk l at_ line cols rows box all bad))) hb' hS 7 0 (by omega)
    have ht8 := conTellT (H := H.set b (trC (Tr.mk l at_ line ⟨#[108]⟩ rows box all bad))) (hsT hbl) ⟨hS.len, hS.at_, hS.line0, hS.line1, hS.size, hS.bad⟩ 7 0 (by omega)
    simp [trC, tellT] at ht7 ht8
    simp [hlt, hlt', hsT hbl]
    by_cases hcz : cols = ⟨#[]⟩
    · subst hcz
      cases en
      · simp [hsT hbl, columnsEnd]
        refine CallQ.mk (Call.shared callable47 ht8) ?_
        simp [tellT, trC]
      · simp [hsT hbl, columnsEnd]
    · cases en
      · simp [hsT hbl, columnsEnd, hcz]
        refine CallQ.mk (Call.shared callable47 ht7) ?_
        simp [tellT, trC]
      · simp [hsT hbl, columnsEnd, hcz]
end Go.Proofs.YtabgeenhpfnhdaaDoor.Ev
end
section
namespace Go.Proofs.YtabgeenhpfnhdaaDoor.Ev
open Go
def RLe (r r' : FV) : Prop := ∀ (W : Wd) (v : Value), FRep W (some .res) 0 r v → FRep W (some .res) 0 r' v
theorem RLe.refl (r : FV) : RLe r r := fun _ _ h => h
theorem RLe.snd (a : FV) (l : List PV) : RLe (.tup [a, .own l]) (.tup [a, .sc (.sl l)]) := fun W v h => by
  cases h with
  | @tup _ _ _ vs h1 h2 =>
    refine .tup h1 fun j f u hf hu => ?_
    match j with
    | 0 => exact h2 0 f u hf hu
    | 1 =>
      simp at hf
      subst hf
      exact ((h2 1 (.own l) u rfl hu).demote1 (r' := some .res) (i' := 1))
    | j + 2 => simp at hf
theorem con_ofW {C : Ctx} {f : FuncId} {fn : Func} {c : Code} {args : List FV} {H H' : Heap} {r' : FV} {mv vars : List Nat} (hf : C.P.funcs[f]? = some fn) (hb : fn.body = some c) (hn : (resTmps fn.results.toList).Nodup) (hmix : C.P.follows .mixedOrders = true) (hk : codeOk mv c = true)
    (h : wpC C fn.ntmps mv vars c (argsEnv 0 args) H fun x e H₁ => (match x with | .exit _ => False | _ => True) ∧ ∃ r, resultOf C e H₁ fn.results.toList = some r ∧ RLe r r' ∧ H₁ = H') : Con C f args H r' H' :=
  fun vs W hlen hargs hH _ => (con_gen2 (G := fun r H₁ => RLe r r' ∧ H₁ = H') hf hb hn hmix hk h vs W hlen hargs hH).mono fun _ _ ⟨v, W', H₁, r, h1, h2, ⟨h3, h3'⟩, h4, h5, h6⟩ => ⟨v, W', h1, h2, h3 _ _ h4, h3' ▸ h5, h6⟩
def endS : ByteArray := ⟨#[84, 125]⟩
def blockF (from_ : Nat) : Nat → Tr → List Glyph → Tr × List Glyph × List ByteArray
  | 0, R, out => (tellT R 7 from_, out, [])
  | n + 1, R, out => match R.l[R.at_]? with
    | none => (tellT R 7 from_, out, [])
    | some s => if preB s endS = true then (R, out, (tabsB s).drop 1) else blockF from_ n { textT R s R.at_ with at_ := R.at_ + 1 } (joinS out (lineG face0 s))
def blockR (R : Tr) (from_ : Nat) : Tr × List Glyph × List ByteArray := blockF from_ (R.l.length + 1) { R with at_ := R.at_ + 1 } []
theorem TrI.text {c : Nat} {R : Tr} (h : TrI c R) {s : ByteArray} (hs : R.l[R.at_]? = some s) : TrI c { textT R s R.at_ with at_ := R.at_ + 1 } := by
  obtain ⟨g1, g2⟩ := List.getElem?_eq_some_iff.1 hs
  have hd := (scan_len s).2
  change (lineD s).length ≤ s.size at hd
  refine ⟨h.sum, h.line0, h.line1, by show R.at_ + 1 ≤ R.l.length + 1; omega, ?_⟩
  show (R.bad ++ atL (R.line + R.at_) (lineD s)).length ≤ c + sumBy wt (R.l.take (R.at_ + 1))
  rw [List.length_append, atL_len, sumBy_take wt g1, g2]
  have := h.bad
  have h5 : wt s = s.size + 3 := rfl
  omega
theorem tabs_len (s : ByteArray) : (tabsB s).length ≤ s.size + 1 := by
  simp only [tabsB, List.length_map, splitC_len]
  have := List.count_le_length (a := (9 : UInt8)) (l := s.data.toList)
  rw [Go.Lib.size_eq]; omega
theorem tabs_size {s w : ByteArray} (h : w ∈ tabsB s) : w.size ≤ s.size := by
  simp only [tabsB, List.mem_map] at h
  obtain ⟨l, hl, rfl⟩ := h
  have : ∀ (m : List UInt8), ∀ x ∈ splitC 9 m, x.length ≤ m.length := by
    intro m
    induction m with
    | nil => intro x hx; simp [splitC] at hx; subst hx; simp
    | cons b m ih =>
      intro x hx
      rw [splitC] at hx
      split at hx
      · rcases List.mem_cons.1 hx with rfl | hx
        · simp
        · have := ih x hx; simp; omega
      · split at hx
        · rw [List.mem_singleton.1 hx]; simp
        · rename_i y r hy
          rcases List.mem_cons.1 hx with rfl | hx
          · have := ih y (by rw [hy]; simp); simp; omega
          · have := ih x (by rw [hy]; simp [hx]); simp; omega
  rw [ba_size, Go.Lib.size_eq]
  exact this _ l hl
set_option linter.unusedSimpArgs false in
set_option maxRecDepth 20000 in
set_option maxHeartbeats 16000000 in
theorem conBlockR {H : Heap} {b c : Nat} {R : Tr} (hb : H[b]? = some (trC R)) (hI : TrI c R) (hc : c ≤ 1000000000) (hat : R.at_ < R.l.length) (from_ : Nat) (hfr : from_ ≤ 1073741825) (hH : HOkT H) :
    Con C0 49 [.ptr b 0, .sc (.int .i64 from_)] H (.tup [.sc (gl (blockR R from_).2.1), .sc (.sl ((blockR R from_).2.2.map .str))]) (H.set b (trC (blockR R from_).1)) := by
  have hbl : b < H.length := (List.getElem?_eq_some_iff.1 hb).1
  unfold blockR
  generalize hF : blockF from_ (R.l.length + 1) { R with at_ := R.at_ + 1 } [] = F
  have hlen := hI.len
  have hw0 : IntKind.i64.wrap ((R.at_ : Int) + 1) = ((R.at_ + 1 : Nat) : Int) := by rw [wrap64 (by omega) (by omega)]; omega
  have hI0 : TrI c { R with at_ := R.at_ + 1 } := ⟨hI.sum, hI.line0, hI.line1, by show R.at_ + 1 ≤ R.l.length + 1; omega, by
    have h1 := hI.bad
    have h2 := sumBy_take wt hat
    show R.bad.length ≤ c + sumBy wt (R.l.take (R.at_ + 1))
    omega⟩
  have hbt : H.set b (trC { R with at_ := R.at_ + 1 }) = H.set b (trC { R with at_ := R.at_ + 1 }) := rfl
  refine con_ofW (C := C0) (fn := Tryd.f49) (c := Tryd.f49.body.getD .skip) Tryd.func49 rfl (by decide) mixed (mv := [8000071]) (vars := vars49) (by kernel_rfl) ?_
  have hb1 : H[b]? = some [.sc (.sl (R.l.map .str)), .sc (.int .i64 R.at_), .sc (.int .i64 R.line), .sc (.str R.cols), .own (R.rows.map TRow.pv), .sc (.bool R.box), .sc (.bool R.all), .own (R.bad.map Dg.pv)] := hb
  simp [Tryd.f49, hb1, hw0]
  refine loopC (fun d e H' => ∃ (n : Nat) (R' : Tr) (out : List Glyph) (x6 x23 x41 : FV), H' = H.set b (trC R') ∧ TrI c R' ∧ blockF from_ n R' out = F ∧ R'.l.length ≤ R'.at_ + n ∧ n = d ∧ out.length ≤ sumBy wt (R'.l.take R'.at_) ∧ (x6 = .sc (gl out) ∨ (out = [] ∧ x6 = .own [])) ∧ e = [(0, .ptr b 0), (1, .sc (.int .i64 from_)), (4, .own []), (5, .own []), (6, x6), (23, x23), (41, x41)]) (d := R.l.length + 1) ⟨R.l.length + 1, { R with at_ := R.at_ + 1 }, [], .own [], .undef, .undef, rfl, hI0, hF, by show R.l.length ≤ R.at_ + 1 + (R.l.length + 1); omega, rfl, Nat.zero_le _, .inr ⟨rfl, rfl⟩, rfl⟩ ?_
  rintro d e H' ⟨n, R', out, x6, x23, x41, rfl, hI', hF', hn, rfl, hol, hx6, rfl⟩
  have hS := hI'.s (by omega)
  have hlen := hI'.len
  have hat := hI'.at_
  have hb' := hsT (x := trC R') hbl
  have hT : HOkT (H.set b (trC R')) := fun fs hfs f hf => by rw [List.length_set]; exact hH.set fs hfs f hf
  have hso := sumBy_take_le wt R'.l R'.at_
  have hsum := hI'.sum
  obtain ⟨l, at_, line, cols, rows, box, all, bad⟩ := R'
  simp only at hn hlen hat hol hso hsum
  simp only [trC]
  by_cases hlt : at_ < l.length
  · have hlt' : (at_ : Int) < (l.length : Int) := by omega
    obtain ⟨s, hls⟩ : ∃ s, l[at_] = s := ⟨_, rfl⟩
    have hget : l[at_]? = some s := by rw [List.getElem?_eq_getElem hlt, hls]
    obtain ⟨n, rfl⟩ : ∃ m, n = m + 1 := ⟨n - 1, by omega⟩
    rw [blockF] at hF'
    simp only [hget] at hF'
    have hs := hS.size s (List.mem_of_getElem? hget)
    have hIs := hI'.text (s := s) hget
    have hw : IntKind.i64.wrap ((at_ : Int) + 1) = ((at_ + 1 : Nat) : Int) := by rw [wrap64 (by omega) (by omega)]; omega
    have c1 := conHasPrefix s endS
    have c2 := conCut s hs
    have c3 := conTextT (H := H.set b (trC (Tr.mk l at_ line cols rows box all bad))) hb' hS hT s at_ hs (by omega)
    have hll := line_len face0 s
    have hst := sumBy_take wt hlt
    rw [hls] at hst
    have hws : wt s = s.size + 3 := rfl
    have hst2 := sumBy_take_le wt l (at_ + 1)
    have c4 := conJoinS out (lineG face0 s) (by omega)
    have hjl := joinS_len out (lineG face0 s)
    have htl := tabs_len s
    have hsz := sizedStr (tabsB s)
    have hdr : (tabsB s).length ≥ 1 := by simp [tabsB, splitC_len]
    have hdr' : (1 : Int) ≤ ((tabsB s).length : Int) := by omega
    simp [trC, textT] at c3
    cases hpre : preB s endS
    · rw [hpre] at c1 hF'
      rw [if_neg (by simp)] at hF'
      rcases hx6 with rfl | ⟨rfl, rfl⟩
      all_goals
        simp [hlt, hlt', hsT hbl]
        simp [hlt, hlt', hsT hbl, hls]
        refine CallQ.mk (CallP.pure callable66 (by simp) (by simp) c1) ?_
        simp [hlt, hlt', hsT hbl, hls]
        refine CallQ.mk (CallP.shared callable48 c3) ?_
        simp [hlt, hlt', hsT hbl, hls]
        refine CallQ.mk (CallP.pure callable67 (by simp) (by simp) c4) ?_
        simp [hlt, hlt', hsT hbl, hls, hw]
        exact ⟨n, by omega, n, { textT (Tr.mk l at_ line cols rows box all bad) s at_ with at_ := at_ + 1 }, by simp [textT], hIs, _, hF', by show l.length ≤ at_ + 1 + n; omega, rfl, by show (joinS _ (lineG face0 s)).length ≤ sumBy wt (l.take (at_ + 1)); omega, rfl⟩
    · rw [hpre] at c1 hF'
      rw [if_pos rfl] at hF'
      subst hF'
      rcases hx6 with rfl | ⟨rfl, rfl⟩
      all_goals
        simp [hlt, hlt', hsT hbl]
        simp [hlt, hlt', hsT hbl, hls]
        refine CallQ.mk (CallP.pure callable66 (by simp) (by simp) c1) ?_
        simp [hlt, hlt', hsT hbl, hls]
        refine CallQ.mk (CallP.pure callable13 (by simp) (by simp) c2) ?_
        simp [hlt, hlt', hsT hbl, hls, sizedB, hdr']
        rw [List.take_of_length_le (by simp)]
        exact RLe.refl _
  · have hlt' : ¬ (at_ : Int) < (l.length : Int) := by omega
    have hFe : F = (tellT (Tr.mk l at_ line cols rows box all bad) 7 from_, out, []) := by
      rw [← hF']
      cases n with
      | zero => rfl
      | succ n =>
        rw [blockF]
        have : l[at_]? = none := List.getElem?_eq_none (by omega)
        simp [this]
    rw [hFe]
    have ht7 := conTellT (H := H.set b (trC (Tr.mk l at_ line cols rows box all bad))) hb' hS 7 from_ hfr
    simp [trC, tellT] at ht7
    rcases hx6 with rfl | ⟨rfl, rfl⟩
    all_goals
      simp [hlt, hlt', hsT hbl]
      refine CallQ.mk (Call.shared callable47 ht7) ?_
      simp [tellT, gl]
      exact RLe.snd _ []
end Go.Proofs.YtabgeenhpfnhdaaDoor.Ev
end
section
namespace Go.Proofs.YtabgeenhpfnhdaaDoor.Ev
open Go
def openS : ByteArray := ⟨#[84, 123]⟩
def cellsF : Nat → Tr → List (List Glyph) → List ByteArray → Tr × List (List Glyph)
  | 0, R, cs, _ => (R, cs)
  | _ + 1, R, cs, [] => (R, cs)
  | n + 1, R, cs, s :: rest => if s = openS then cellsF n (blockR R R.at_).1 (cs ++ [(blockR R R.at_).2.1]) (blockR R R.at_).2.2 else cellsF n (textT R s R.at_) (cs ++ [lineG face0 s]) rest
def fuelR (R : Tr) (rest : List ByteArray) : Nat := sumBy wt (R.l.drop (R.at_ + 1)) + rest.length
def rowR (R : Tr) : Tr := match R.l[R.at_]? with
  | none => R
  | some s => if s = ⟨#[95]⟩ ∨ s = ⟨#[61]⟩ then { R with rows := R.rows ++ [⟨true, []⟩] }
    else
      let C := cellsF (fuelR R (tabsB s)) R [] (tabsB s)
      let R2 := if C.1.cols.size < C.2.length then tellT C.1 11 R.at_ else C.1
      { R2 with rows := R2.rows ++ [⟨false, C.2⟩] }
theorem sumBy_drop {α : Type} (f : α → Nat) (l : List α) (i : Nat) : sumBy f (l.take i) + sumBy f (l.drop i) = sumBy f l := by
  conv => rhs; rw [← List.take_append_drop i l, sumBy_append]
def size1 (s : ByteArray) : Nat := s.size
theorem blockF_spec {c fr : Nat} : ∀ (n : Nat) (R : Tr) (out : List Glyph), TrI c R → R.l.length ≤ R.at_ + n →
    (blockF fr n R out).1.l = R.l ∧ (blockF fr n R out).1.line = R.line ∧ (blockF fr n R out).1.cols = R.cols ∧ (blockF fr n R out).1.rows = R.rows ∧ (blockF fr n R out).1.box = R.box ∧ (blockF fr n R out).1.all = R.all ∧ R.at_ ≤ (blockF fr n R out).1.at_ ∧
    ((TrI c (blockF fr n R out).1 ∧ ∃ s, R.l[(blockF fr n R out).1.at_]? = some s ∧ (blockF fr n R out).2.2 = (tabsB s).drop 1) ∨ ((blockF fr n R out).2.2 = [] ∧ R.l.length ≤ (blockF fr n R out).1.at_ ∧ TrI (c + 1) (blockF fr n R out).1)) ∧
    (out.length ≤ sumBy wt (R.l.take R.at_) → (blockF fr n R out).2.1.length ≤ sumBy wt R.l)
  | 0, R, out, hI, hn => by
    refine ⟨rfl, rfl, rfl, rfl, rfl, rfl, Nat.le_refl _, .inr ⟨rfl, by show R.l.length ≤ R.at_; omega, hI.tell 7 fr⟩, fun h => ?_⟩
    have := sumBy_take_le wt R.l R.at_
    show out.length ≤ _
    omega
  | n + 1, R, out, hI, hn => by
    rw [blockF]
    cases hg : R.l[R.at_]? with
    | none =>
      refine ⟨rfl, rfl, rfl, rfl, rfl, rfl, Nat.le_refl _, .inr ⟨rfl, List.getElem?_eq_none_iff.1 hg, hI.tell 7 fr⟩, fun h => ?_⟩
      have := sumBy_take_le wt R.l R.at_
      show out.length ≤ _
      omega
    | some s =>
      obtain ⟨g1, g2⟩ := List.getElem?_eq_some_iff.1 hg
      simp only
      by_cases hp : preB s endS = true
      · rw [if_pos hp]
        refine ⟨rfl, rfl, rfl, rfl, rfl, rfl, Nat.le_refl _, .inl ⟨hI, s, hg, rfl⟩, fun h => ?_⟩
        have := sumBy_take_le wt R.l R.at_
        show out.length ≤ _
        omega
      · rw [if_neg hp]
        have ih := blockF_spec (fr := fr) n { textT R s R.at_ with at_ := R.at_ + 1 } (joinS out (lineG face0 s)) (hI.text hg) (by show R.l.length ≤ R.at_ + 1 + n; omega)
        obtain ⟨i1, i2, i3, i4, i5, i6, i7, i8, i9⟩ := ih
        refine ⟨i1, i2, i3, i4, i5, i6, by simp only at i7; omega, i8, fun h => i9 ?_⟩
        have h1 := joinS_len out (lineG face0 s)
        have h2 := line_len face0 s
        have h3 := sumBy_take wt g1
        have h4 : wt R.l[R.at_] = s.size + 3 := by rw [g2]; rfl
        show (joinS out (lineG face0 s)).length ≤ sumBy wt (R.l.take (R.at_ + 1))
        omega
theorem tabs_sum (s : ByteArray) : sumBy size1 (tabsB s) ≤ s.size := by
  have key : ∀ m : List UInt8, sumBy List.length (splitC 9 m) ≤ m.length := by
    intro m
    induction m with
    | nil => simp [splitC, sumBy]
    | cons b m ih =>
      rw [splitC]
      split
      · simp only [sumBy, List.length_nil, List.length_cons] <;> omega
      · split
        · simp [sumBy]
        · rename_i y r hy
          rw [hy] at ih
          simp only [sumBy, List.length_cons] at ih ⊢ <;> omega
  have h2 : ∀ l : List (List UInt8), sumBy size1 (l.map ba) = sumBy List.length l := by
    intro l
    induction l with
    | nil => rfl
    | cons x l ih => rw [List.map_cons, sumBy, sumBy, ih, show size1 (ba x) = x.length from ba_size x]
  unfold tabsB
  rw [h2, Go.Lib.size_eq]; exact key _
end Go.Proofs.YtabgeenhpfnhdaaDoor.Ev
end
section
namespace Go.Proofs.YtabgeenhpfnhdaaDoor.Ev
open Go
structure CellI (c : Nat) (R : Tr) (rest : List ByteArray) : Prop where
  sum : sumBy wt R.l ≤ 268435456
  line0 : 0 ≤ R.line
  line1 : R.line ≤ 1073741824
  at_ : R.at_ ≤ R.l.length + 1
  bad : R.bad.length + sumBy size1 rest + 2 ≤ c + sumBy wt (R.l.take (R.at_ + 1))
  more : rest ≠ [] → R.at_ < R.l.length ∧ R.bad.length + sumBy size1 rest + 3 ≤ c + sumBy wt (R.l.take (R.at_ + 1))
theorem CellI.s {c : Nat} {R : Tr} {rest : List ByteArray} (h : CellI c R rest) (hc : c ≤ 1000000000) : TrS R :=
  (TrI.s (c := c + sumBy wt (R.l.take (R.at_ + 1))) ⟨h.sum, h.line0, h.line1, h.at_, by have := h.bad; omega⟩ (by have := sumBy_take_le wt R.l (R.at_ + 1); have := h.sum; omega))
theorem CellI.text {c : Nat} {R : Tr} {s : ByteArray} {rest : List ByteArray} (h : CellI c R (s :: rest)) : CellI c (textT R s R.at_) rest := by
  have hd := (scan_len s).2
  change (lineD s).length ≤ s.size at hd
  obtain ⟨m1, m2⟩ := h.more (by simp)
  have e1 : (textT R s R.at_).bad.length = R.bad.length + (lineD s).length := by simp [textT, atL_len]
  have e2 : sumBy size1 (s :: rest) = s.size + sumBy size1 rest := rfl
  refine ⟨h.sum, h.line0, h.line1, h.at_, ?_, fun _ => ⟨m1, ?_⟩⟩
  · rw [e1]; show _ ≤ c + sumBy wt (R.l.take (R.at_ + 1)); omega
  · rw [e1]; show _ ≤ c + sumBy wt (R.l.take (R.at_ + 1)); omega
theorem CellI.block {c : Nat} {R : Tr} {s : ByteArray} {rest : List ByteArray} (h : CellI c R (s :: rest)) (hc : 3 ≤ c) : CellI c (blockR R R.at_).1 (blockR R R.at_).2.2 ∧ fuelR (blockR R R.at_).1 (blockR R R.at_).2.2 < fuelR R (s :: rest) ∧
    (blockR R R.at_).1.l = R.l ∧ (blockR R R.at_).1.line = R.line ∧ (blockR R R.at_).1.cols = R.cols ∧ (blockR R R.at_).1.rows = R.rows ∧ (blockR R R.at_).1.box = R.box ∧ (blockR R R.at_).1.all = R.all ∧ R.at_ ≤ (blockR R R.at_).1.at_ ∧ (blockR R R.at_).2.1.length ≤ sumBy wt R.l := by
  obtain ⟨m1, m2⟩ := h.more (by simp)
  have hI : TrI (c - 3) { R with at_ := R.at_ + 1 } := ⟨h.sum, h.line0, h.line1, by show R.at_ + 1 ≤ R.l.length + 1; omega, by show R.bad.length ≤ c - 3 + sumBy wt (R.l.take (R.at_ + 1)); omega⟩
  have hsp := blockF_spec (fr := R.at_) (R.l.length + 1) { R with at_ := R.at_ + 1 } [] hI (by show R.l.length ≤ R.at_ + 1 + (R.l.length + 1); omega)
  change (blockR R R.at_).1.l = R.l ∧ (blockR R R.at_).1.line = R.line ∧ (blockR R R.at_).1.cols = R.cols ∧ (blockR R R.at_).1.rows = R.rows ∧ (blockR R R.at_).1.box = R.box ∧ (blockR R R.at_).1.all = R.all ∧ R.at_ + 1 ≤ (blockR R R.at_).1.at_ ∧ ((TrI (c - 3) (blockR R R.at_).1 ∧ ∃ s, R.l[(blockR R R.at_).1.at_]? = some s ∧ (blockR R R.at_).2.2 = (tabsB s).drop 1) ∨ ((blockR R R.at_).2.2 = [] ∧ R.l.length ≤ (blockR R R.at_).1.at_ ∧ TrI (c - 3 + 1) (blockR R R.at_).1)) ∧ (([] : List Glyph).length ≤ sumBy wt (R.l.take (R.at_ + 1)) → (blockR R R.at_).2.1.length ≤ sumBy wt R.l) at hsp
  generalize blockR R R.at_ = B at *
  obtain ⟨B1, B2, B3⟩ := B
  simp only at *
  obtain ⟨i1, i2, i3, i4, i5, i6, i7, i8, i9⟩ := hsp
  refine ⟨?_, ?_, i1, i2, i3, i4, i5, i6, by omega, i9 (Nat.zero_le _)⟩
  · rcases i8 with ⟨hB, z, hz, hr⟩ | ⟨hr, hat, hB⟩
    · have hzl := (List.getElem?_eq_some_iff.1 hz).1
      have hzl' : B1.at_ < B1.l.length := by rw [i1]; exact hzl
      have hsum := tabs_sum z
      have hd : sumBy size1 (tabsB z) = sumBy size1 ((tabsB z).take 1) + sumBy size1 ((tabsB z).drop 1) := (sumBy_drop size1 _ _).symm
      have h3 := sumBy_take wt hzl'
      have h4 : wt B1.l[B1.at_] = z.size + 3 := by
        have e1 : B1.l[B1.at_]? = some z := by rw [i1]; exact hz
        rw [(List.getElem?_eq_some_iff.1 e1).2]; rfl
      have h5 := hB.bad
      subst hr
      exact ⟨hB.sum, hB.line0, hB.line1, hB.at_, by omega, fun _ => ⟨hzl', by omega⟩⟩
    · subst hr
      have h5 := hB.bad
      have h6 : B1.l.take (B1.at_ + 1) = B1.l.take B1.at_ := by rw [List.take_of_length_le (by rw [i1]; omega), List.take_of_length_le (by rw [i1]; omega)]
      have h7 : sumBy size1 [] = 0 := rfl
      exact ⟨hB.sum, hB.line0, hB.line1, hB.at_, by rw [h6, h7]; omega, fun hh => absurd rfl hh⟩
  · unfold fuelR
    have e0 : (s :: rest).length = rest.length + 1 := rfl
    rw [i1, e0]
    rcases i8 with ⟨hB, z, hz, hr⟩ | ⟨hr, hat, hB⟩
    · obtain ⟨hzl, hz2⟩ := List.getElem?_eq_some_iff.1 hz
      have hl := tabs_len z
      subst hr
      have h1 : sumBy wt (R.l.drop B1.at_) = wt z + sumBy wt (R.l.drop (B1.at_ + 1)) := by
        rw [List.drop_eq_getElem_cons hzl, sumBy, hz2]
      have h2 : sumBy wt (R.l.drop B1.at_) ≤ sumBy wt (R.l.drop (R.at_ + 1)) := by
        have e : R.l.drop B1.at_ = (R.l.drop (R.at_ + 1)).drop (B1.at_ - (R.at_ + 1)) := by rw [List.drop_drop]; congr 1; omega
        have := sumBy_drop wt (R.l.drop (R.at_ + 1)) (B1.at_ - (R.at_ + 1))
        rw [e]; omega
      have h3 : wt z = z.size + 3 := rfl
      rw [List.length_drop]
      omega
    · subst hr
      have h1 : R.l.drop (B1.at_ + 1) = [] := List.drop_eq_nil_of_le (by omega)
      rw [h1]
      simp [sumBy]
      omega
theorem HOkT.one {H : Heap} (h : HOkT H) {fs : List FV} (hf : ∀ f ∈ body fs, f.np0 = true) : HOkT (H ++ [fs]) := fun gs hg f hf' => by
  have mono : ∀ {n : Nat} {f : FV}, f.und0 n = true → f.und0 (n + 1) = true := fun {n f} hf => by
    cases f with
    | fn f a b => cases a <;> cases b <;> simp_all [FV.und0]
    | ptr b o => simp only [FV.und0, decide_eq_true_eq] at hf ⊢; omega
    | bs b o k => simp only [FV.und0, decide_eq_true_eq] at hf ⊢; omega
    | gr b g z k => simp only [FV.und0, decide_eq_true_eq] at hf ⊢; omega
    | gp b g o => simp only [FV.und0, decide_eq_true_eq] at hf ⊢; omega
    | _ => simp_all [FV.und0]
  rw [List.length_append, List.length_singleton]
  rcases List.mem_append.1 hg with h' | h'
  · exact mono (h gs h' f hf')
  · rw [List.mem_singleton.1 h'] at hf'; exact FV.und_np (hf f hf')
theorem HOkT.put {H : Heap} {b : Nat} {R : Tr} (h : HOkT H) : HOkT (H.set b (trC R)) := fun fs hfs f hf => by rw [List.length_set]; exact h.set fs hfs f hf
def CelF (F : Tr × List (List Glyph)) (n : Nat) (R : Tr) (cs : List (List Glyph)) (f : FV) : Prop := ∃ rest, (f = .sc (.sl (rest.map .str)) ∨ (rest = [] ∧ f = .own [])) ∧ cellsF n R cs rest = F ∧ fuelR R rest ≤ n ∧ CellI 10 R rest ∧ ∀ s ∈ rest, s.size ≤ 1073741824
set_option linter.unusedSimpArgs false in
set_option maxRecDepth 20000 in
set_option maxHeartbeats 16000000 in
theorem conRowR {H : Heap} {b : Nat} {R : Tr} (hb : H[b]? = some (trC R)) (hI : TrI 10 R) (hat : R.at_ < R.l.length) (hrl : R.rows.length ≤ 1073741824) (hH : HOkT H) :
    Con C0 32 [.ptr b 0] H (.tup []) (H.set b (trC (rowR R))) := by
  have hbl : b < H.length := (List.getElem?_eq_some_iff.1 hb).1
  have hlen := hI.len
  obtain ⟨s, hls⟩ : ∃ s, R.l[R.at_] = s := ⟨_, rfl⟩
  have hget : R.l[R.at_]? = some s := by rw [List.getElem?_eq_getElem hat, hls]
  have hs := hI.size s (List.mem_of_getElem? hget)
  have hb1 : H[b]? = some [.sc (.sl (R.l.map .str)), .sc (.int .i64 R.at_), .sc (.int .i64 R.line), .sc (.str R.cols), .own (R.rows.map TRow.pv), .sc (.bool R.box), .sc (.bool R.all), .own (R.bad.map Dg.pv)] := hb
  have hat' : (R.at_ : Int) < (R.l.length : Int) := by omega
  have hu := hH.set (b := b) (R := rowR R)
  have srow := sizedT R.rows
  have srow1 : ∀ (x : Bool) (y : List PV), Sized 2 [PV.agg [.bool x, .sl y]] := fun x y p hp => by rw [List.mem_singleton.1 hp]; rfl
  refine con_trimU (C := C0) (fn := Tryd.f32) Tryd.func32 rfl (by decide) mixed (mv := mv32) (vars := vars32) (c := Tryd.f32.body.getD .skip) (by kernel_rfl) rfl hu ?_
  have hrow : rowR R = if s = ⟨#[95]⟩ ∨ s = ⟨#[61]⟩ then { R with rows := R.rows ++ [⟨true, []⟩] } else { (if (cellsF (fuelR R (tabsB s)) R [] (tabsB s)).1.cols.size < (cellsF (fuelR R (tabsB s)) R [] (tabsB s)).2.length then tellT (cellsF (fuelR R (tabsB s)) R [] (tabsB s)).1 11 R.at_ else (cellsF (fuelR R (tabsB s)) R [] (tabsB s)).1) with rows := (if (cellsF (fuelR R (tabsB s)) R [] (tabsB s)).1.cols.size < (cellsF (fuelR R (tabsB s)) R [] (tabsB s)).2.length then tellT (cellsF (fuelR R (tabsB s)) R [] (tabsB s)).1 11 R.at_ else (cellsF (fuelR R (tabsB s)) R [] (tabsB s)).1).rows ++ [⟨false, (cellsF (fuelR R (tabsB s)) R [] (tabsB s)).2⟩] } := by
    unfold rowR; rw [hget]
  by_cases h95 : s = ⟨#[95]⟩
  · rw [if_pos (.inl h95)] at hrow
    rw [hrow]
    simp [Tryd.f32, hb1, heap_old hbl, heap_old_set hbl, hs_b hbl, hs_set hbl, hat, hat', hls, h95, srow, srow1, lenMax, hs_at, hs_at0, hs_put0]
    exact ⟨by omega, by simp [trC, TRow.pv]⟩
  by_cases h61 : s = ⟨#[61]⟩
  · rw [if_pos (.inr h61)] at hrow
    rw [hrow]
    have e5 : ¬ ((⟨#[61]⟩ : ByteArray) = ⟨#[95]⟩) := by decide
    simp [Tryd.f32, hb1, heap_old hbl, heap_old_set hbl, hs_b hbl, hs_set hbl, hat, hat', hls, h61, e5, srow, srow1, lenMax, hs_at, hs_at0, hs_put0]
    exact ⟨by omega, by simp [trC, TRow.pv]⟩
  rw [if_neg (by rintro (h | h); exact h95 h; exact h61 h)] at hrow
  have c1 := conCut s hs
  have htl := tabs_len s
  generalize hF : cellsF (fuelR R (tabsB s)) R [] (tabsB s) = F at *
  simp [Tryd.f32, hb1, heap_old hbl, heap_old_set hbl, hs_b hbl, hs_set hbl, hat, hat', hls, h95, h61]
  refine CallQ.mk (Call.pure callable13 (by simp) (by simp) c1) ?_
  simp
  refine loopC (fun d e H' => ∃ (n : Nat) (R' : Tr) (cs : List (List Glyph)) (x4 x5 x6 x7 x19 x20 x46 x53 x68 x94 : FV), H' = H.set b (trC R') ++ [[.sc (.bool false), .own (cs.map gl)]] ∧ R'.l = R.l ∧ R'.line = R.line ∧ R'.cols = R.cols ∧ R'.rows = R.rows ∧ R'.box = R.box ∧ R'.all = R.all ∧ CelF F n R' cs x4 ∧ n = d ∧ cs.length + n ≤ 536870912 ∧ e = [(0, .ptr b 0), (2, .sc (.int .i64 R.at_)), (3, .ptr H.length 0), (4, x4), (5, x5), (6, x6), (7, x7), (19, x19), (20, x20), (46, x46), (53, x53), (68, x68), (94, x94)]) (d := fuelR R (tabsB s))
    ⟨fuelR R (tabsB s), R, [], .sc (.sl ((tabsB s).map .str)), .undef, .undef, .undef, _, _, .undef, .undef, .undef, .undef, by rw [set_same hb]; rfl, rfl, rfl, rfl, rfl, rfl, rfl, ⟨tabsB s, .inl rfl, hF, Nat.le_refl _, ?_, fun w hw => Nat.le_trans (tabs_size hw) hs⟩, rfl, ?_, rfl⟩ ?_
  · have h1 := hI.bad
    have h2 := sumBy_take wt hat
    have h3 : wt R.l[R.at_] = s.size + 3 := by rw [hls]; rfl
    have h4 := tabs_sum s
    exact ⟨hI.sum, hI.line0, hI.line1, hI.at_, by omega, fun _ => ⟨hat, by omega⟩⟩
  · have h1 := sumBy_drop wt R.l (R.at_ + 1)
    have h2 := hI.sum
    have h3 := sumBy_take wt hat
    have h4 : wt R.l[R.at_] = s.size + 3 := by rw [hls]; rfl
    unfold fuelR
    simp only [List.length_nil]
    omega
  rintro d e H' ⟨n, R', cs, x4, x5, x6, x7, x19, x20, x46, x53, x68, x94, rfl, r1, r2, r3, r4, r5, r6, ⟨rest, hx4, hF', hfu, hCI, hsz⟩, rfl, hcn, rfl⟩
  have hbl2 : b < (H.set b (trC R')).length := by simpa using hbl
  have hS := hCI.s (by omega)
  have hb2 : (H.set b (trC R') ++ [[.sc (.bool false), .own (cs.map gl)]])[b]? = some (trC R') := hs_b hbl
  have hT2 : HOkT (H.set b (trC R') ++ [[.sc (.bool false), .own (cs.map gl)]]) := hH.put.one (fun f hf => by simp [body] at hf; rcases hf with rfl | rfl <;> rfl)
  have hRl : R'.rows.length ≤ 1073741824 := by rw [r4]; exact hrl
  have srow := sizedT R'.rows
  have hat1 : R.at_ ≤ 1073741825 := by omega
  cases rest with
  | nil =>
    have hFe : F = (R', cs) := by rw [← hF']; cases n <;> rfl
    have ht11 := conTellT hb2 hS 11 R.at_ hat1
    rw [hrow, hFe]
    obtain ⟨l, at_, line, cols, rows, box, all, bad⟩ := R'
    simp only [trC, tellT, hs_set hbl] at ht11 ⊢
    simp only at hRl srow r3
    have hx4' : x4 = .sc (.sl []) ∨ x4 = .own [] := by
      rcases hx4 with h | ⟨_, h⟩
      · exact .inl h
      · exact .inr h
    have scs := sizedGl cs
    have hd : decide ((cols.size : Int) < (cs.length : Int)) = decide (cols.size < cs.length) := by
      apply decide_eq_decide.2; omega
    rcases hx4' with rfl | rfl
    all_goals
      by_cases hcc : cols.size < cs.length
      · have hcc' : (cols.size : Int) < (cs.length : Int) := by omega
        simp [hcc, hcc', hs_b hbl, hs_set hbl, hs_at, hs_at0]
        refine CallQ.mk (Call.shared callable47 ht11) ?_
        simp [hcc, hcc', hs_b hbl, hs_set hbl, hs_at, hs_at0, srow, srow1, lenMax, heap_old_take_set, TRow.pv]
        omega
      · have hcc' : ¬ (cols.size : Int) < (cs.length : Int) := by omega
        simp [hcc, hcc', hs_b hbl, hs_set hbl, hs_at, hs_at0, srow, srow1, lenMax, heap_old_take_set, TRow.pv]
        omega
  | cons w rest =>
    obtain ⟨m1, m2⟩ := hCI.more (by simp)
    have hx4' : x4 = .sc (.sl (.str w :: rest.map .str)) := by
      rcases hx4 with h | ⟨h, _⟩
      · exact h
      · simp at h
    subst hx4'
    have hws := hsz w (by simp)
    have hfe : fuelR R' (w :: rest) = sumBy wt (R'.l.drop (R'.at_ + 1)) + (rest.length + 1) := rfl
    obtain ⟨n, rfl⟩ : ∃ m, n = m + 1 := ⟨n - 1, by omega⟩
    rw [cellsF] at hF'
    have hrs : rest.length ≤ 536870912 := by omega
    have scs := sizedGl cs
    have hat2 : R'.at_ ≤ 1073741825 := hS.at_
    have hsb : sizedB 1 (rest.map PV.str) = true := by
      unfold sizedB
      rw [List.all_eq_true]
      intro p hp
      simp only [List.mem_map] at hp
      obtain ⟨x, _, rfl⟩ := hp
      rfl
    by_cases hw : w = openS
    · rw [if_pos hw] at hF'
      subst hw
      obtain ⟨q1, q2, q3, q4, q5, q6, q7, q8, q9, q10⟩ := hCI.block (by omega)
      have hTb : TrI (10 + sumBy wt R'.l) R' := ⟨hCI.sum, hCI.line0, hCI.line1, hCI.at_, by have := hCI.bad; have := sumBy_take_le wt R'.l (R'.at_ + 1); omega⟩
      have hsum := hCI.sum
      have cb := conBlockR (H := H.set b (trC R') ++ [[.sc (.bool false), .own (cs.map gl)]]) hb2 hTb (by omega) m1 R'.at_ hat2 hT2
      have hsz2 : ∀ x ∈ (blockR R' R'.at_).2.2, x.size ≤ 1073741824  := fun x hx => by
        have h1 := sumMem size1 hx
        have h2 := q1.bad
        have h3 := sumBy_take_le wt (blockR R' R'.at_).1.l ((blockR R' R'.at_).1.at_ + 1)
        have h4 := q1.sum
        have h5 : size1 x = x.size := rfl
        omega
      generalize blockR R' R'.at_ = B at *
      obtain ⟨B1, B2, B3⟩ := B
      simp only at q1 q2 q3 q4 q5 q6 q7 q8 q9 q10 cb hF' hsz2
      have fin : CelF F n B1 (cs ++ [B2]) (.sc (.sl (B3.map .str))) := ⟨B3, .inl rfl, hF', by omega, q1, hsz2⟩
      have hw' : (openS : ByteArray) = ⟨#[84, 123]⟩ := rfl
      obtain ⟨l, at_, line, cols, rows, box, all, bad⟩ := R'
      obtain ⟨l2, at2, line2, cols2, rows2, box2, all2, bad2⟩ := B1
      simp only at q3 q4 q5 q6 q7 q8 r1 r2 r3 r4 r5 r6
      simp only [trC, hs_set hbl] at cb ⊢
      have hone : (1 : Int) ≤ (rest.length : Int) + 1 := by omega
      have hpos : (0 : Int) < (rest.length : Int) + 1 := by omega
      simp [hw', sizedB, hone, hpos, hs_b hbl, hs_set hbl, hs_at, hs_at0]
      by_cases hr : 0 < rest.length
      all_goals
        simp [hr, hs_b hbl, hs_set hbl, hs_at, hs_at0]
        refine CallQ.mk (Call.shared callable49 cb) ?_
        simp [hs_b hbl, hs_set hbl, hs_at, hs_at0, hs_put0, scs, sizedSl, lenMax]
        exact ⟨fun p hp => by rw [List.mem_singleton.1 hp]; rfl, by omega, n, by omega, n, Tr.mk l2 at2 line2 cols2 rows2 box2 all2 bad2, cs ++ [B2], ⟨rfl, by simp⟩, q3.trans r1, q4.trans r2, q5.trans r3, q6.trans r4, q7.trans r5, q8.trans r6, _, fin, rfl, by rw [List.length_append, List.length_singleton]; omega, rfl⟩
    · rw [if_neg hw] at hF'
      have hw' : ¬ w = ⟨#[84, 123]⟩ := hw
      have hCt := hCI.text
      have hf2 : fuelR (textT R' w R'.at_) rest ≤ n := by
        show sumBy wt (R'.l.drop (R'.at_ + 1)) + rest.length ≤ n
        omega
      have fin : CelF F n (textT R' w R'.at_) (cs ++ [lineG face0 w]) (.sc (.sl (rest.map .str))) := ⟨rest, .inl rfl, hF', hf2, hCt, fun x hx => hsz x (by simp [hx])⟩
      have hT1 : HOkT (H.set b (trC R') ++ [[.sc (.bool false), .sc (.sl (cs.map gl))]]) := hH.put.one (fun f hf => by simp [body] at hf; rcases hf with rfl | rfl <;> rfl)
      have ct1 := conTextT (H := H.set b (trC R') ++ [[.sc (.bool false), .sc (.sl (cs.map gl))]]) (hs_b hbl) hS hT1 w R'.at_ hws hat2
      have ct2 := conTextT hb2 hS hT2 w R'.at_ hws hat2
      obtain ⟨l, at_, line, cols, rows, box, all, bad⟩ := R'
      simp only [trC] at ct1 ct2 ⊢
      simp only at fin
      have hone : (1 : Int) ≤ (rest.length : Int) + 1 := by omega
      have hpos : (0 : Int) < (rest.length : Int) + 1 := by omega
      simp [hw', sizedB, hone, hpos, hs_b hbl, hs_set hbl, hs_at, hs_at0]
      refine DrawC.mk2 ⟨fun _ _ => .undef, fun _ _ Hh => (.sc (gl (lineG face0 w)), Hh.set b (trC (textT (Tr.mk l at_ line cols rows box all bad) w at_)))⟩ ?_
      simp [hs_b hbl, hs_set hbl, hs_at, hs_at0, hs_put0]
      refine ⟨CallQ.mk (CallD.shared callable48 ct1 ⟨rfl, rfl⟩) ?_, CallQ.mk (CallD.shared callable48 ct2 ⟨rfl, rfl⟩) ?_⟩
      all_goals
        simp [trC, textT, hs_b hbl, hs_set hbl, hs_at, hs_at0, hs_put0, scs, sizedSl, lenMax]
        exact ⟨fun p hp => by rw [List.mem_singleton.1 hp]; rfl, by omega, n, by omega, n, textT (Tr.mk l at_ line cols rows box all bad) w at_, cs ++ [lineG face0 w], ⟨by simp [textT], by simp⟩, r1, r2, r3, r4, r5, r6, _, fin, rfl, by rw [List.length_append, List.length_singleton]; omega, by rw [List.take_of_length_le (by simp)]⟩
end Go.Proofs.YtabgeenhpfnhdaaDoor.Ev
end
section
namespace Go.Proofs.YtabgeenhpfnhdaaDoor.Ev
open Go
theorem TrI.mono {c d : Nat} {R : Tr} (h : TrI c R) (hcd : c ≤ d) : TrI d R := ⟨h.sum, h.line0, h.line1, h.at_, by have := h.bad; omega⟩
theorem blockF_at {fr : Nat} : ∀ (n : Nat) (R : Tr) (out : List Glyph), R.at_ ≤ R.l.length → (blockF fr n R out).1.at_ ≤ R.l.length
  | 0, R, out, h => h
  | n + 1, R, out, h => by
    rw [blockF]
    cases hg : R.l[R.at_]? with
    | none => exact h
    | some s =>
      have g1 := (List.getElem?_eq_some_iff.1 hg).1
      simp only
      split
      · exact h
      · exact blockF_at n _ _ (by show R.at_ + 1 ≤ R.l.length; omega)
def CellOk (c : List Glyph) : Prop := c.length ≤ 536870912
theorem cellsF_spec : ∀ (n : Nat) (R : Tr) (cs : List (List Glyph)) (rest : List ByteArray), CellI 10 R rest → fuelR R rest ≤ n → R.at_ ≤ R.l.length → (∀ c ∈ cs, CellOk c) →
    (cellsF n R cs rest).1.l = R.l ∧ (cellsF n R cs rest).1.line = R.line ∧ (cellsF n R cs rest).1.cols = R.cols ∧ (cellsF n R cs rest).1.rows = R.rows ∧ (cellsF n R cs rest).1.box = R.box ∧ (cellsF n R cs rest).1.all = R.all ∧ R.at_ ≤ (cellsF n R cs rest).1.at_ ∧ (cellsF n R cs rest).1.at_ ≤ R.l.length ∧
    CellI 10 (cellsF n R cs rest).1 [] ∧ (cellsF n R cs rest).2.length ≤ cs.length + n ∧ ∀ c ∈ (cellsF n R cs rest).2, CellOk c := by
  intro n
  induction n with
  | zero =>
    intro R cs rest h hf ha hc
    have hr : rest = [] := List.eq_nil_of_length_eq_zero (by unfold fuelR at hf; omega)
    subst hr
    exact ⟨rfl, rfl, rfl, rfl, rfl, rfl, Nat.le_refl _, ha, h, Nat.le_refl _, hc⟩
  | succ n ih =>
    intro R cs rest h hf ha hc
    cases rest with
    | nil =>
      rw [cellsF]
      exact ⟨rfl, rfl, rfl, rfl, rfl, rfl, Nat.le_refl _, ha, h, Nat.le_add_right _ _, hc⟩
    | cons s rest =>
      rw [cellsF]
      have hsum := h.sum
      by_cases hs : s = openS
      · rw [if_pos hs]
        obtain ⟨q1, q2, q3, q4, q5, q6, q7, q8, q9, q10⟩ := h.block (by omega)
        obtain ⟨m1, _⟩ := h.more (by simp)
        have hat : (blockR R R.at_).1.at_ ≤ R.l.length := blockF_at (R.l.length + 1) { R with at_ := R.at_ + 1 } [] (by show R.at_ + 1 ≤ R.l.length; omega)
        obtain ⟨i1, i2, i3, i4, i5, i6, i7, i8, i9, i10, i11⟩ := ih (blockR R R.at_).1 (cs ++ [(blockR R R.at_).2.1]) (blockR R R.at_).2.2 q1 (by omega) (by rw [q3]; exact hat) (fun c hc' => by
          rcases List.mem_append.1 hc' with hc' | hc'
          · exact hc c hc'
          · rw [List.mem_singleton.1 hc']; unfold CellOk; omega)
        exact ⟨i1.trans q3, i2.trans q4, i3.trans q5, i4.trans q6, i5.trans q7, i6.trans q8, by omega, by rw [q3] at i8; exact i8, i9, by rw [List.length_append, List.length_singleton] at i10; omega, i11⟩
      · rw [if_neg hs]
        have hfe : fuelR R (s :: rest) = fuelR (textT R s R.at_) rest + 1 := rfl
        have hll := line_len face0 s
        have hb := h.bad
        have h3 := sumBy_take_le wt R.l (R.at_ + 1)
        have e2 : sumBy size1 (s :: rest) = s.size + sumBy size1 rest := rfl
        obtain ⟨i1, i2, i3, i4, i5, i6, i7, i8, i9, i10, i11⟩ := ih (textT R s R.at_) (cs ++ [lineG face0 s]) rest h.text (by omega) ha (fun c hc' => by
          rcases List.mem_append.1 hc' with hc' | hc'
          · exact hc c hc'
          · rw [List.mem_singleton.1 hc']; unfold CellOk; omega)
        exact ⟨i1, i2, i3, i4, i5, i6, i7, i8, i9, by rw [List.length_append, List.length_singleton] at i10; omega, i11⟩
def RowOk (r : TRow) : Prop := r.cells.length ≤ 1073741824 ∧ ∀ c ∈ r.cells, c.length ≤ 536870912
theorem rowR_spec {R : Tr} (hI : TrI 10 R) (hat : R.at_ < R.l.length) : (rowR R).l = R.l ∧ (rowR R).line = R.line ∧ (rowR R).cols = R.cols ∧ (rowR R).box = R.box ∧ (rowR R).all = R.all ∧ R.at_ ≤ (rowR R).at_ ∧ (∃ r, (rowR R).rows = R.rows ++ [r] ∧ RowOk r) ∧ TrI 10 { rowR R with at_ := (rowR R).at_ + 1 } := by
  obtain ⟨s, hls⟩ : ∃ s, R.l[R.at_] = s := ⟨_, rfl⟩
  have hget : R.l[R.at_]? = some s := by rw [List.getElem?_eq_getElem hat, hls]
  have hbad := hI.bad
  have hst := sumBy_take wt hat
  have hwt : wt R.l[R.at_] = s.size + 3 := by rw [hls]; rfl
  unfold rowR
  simp only [hget]
  by_cases hr : s = ⟨#[95]⟩ ∨ s = ⟨#[61]⟩
  · rw [if_pos hr]
    refine ⟨rfl, rfl, rfl, rfl, rfl, Nat.le_refl _, ⟨_, rfl, by simp [RowOk]⟩, hI.sum, hI.line0, hI.line1, by show R.at_ + 1 ≤ R.l.length + 1; omega, ?_⟩
    show R.bad.length ≤ 10 + sumBy wt (R.l.take (R.at_ + 1))
    omega
  · rw [if_neg hr]
    have h4 := tabs_sum s
    have hC : CellI 10 R (tabsB s) := ⟨hI.sum, hI.line0, hI.line1, hI.at_, by omega, fun _ => ⟨hat, by omega⟩⟩
    obtain ⟨i1, i2, i3, i4, i5, i6, i7, i8, i9, i10, i11⟩ := cellsF_spec (fuelR R (tabsB s)) R [] (tabsB s) hC (Nat.le_refl _) (by omega) (by simp)
    have hfl : fuelR R (tabsB s) ≤ 536870912 := by
      have h1 := sumBy_drop wt R.l (R.at_ + 1)
      have h2 := hI.sum
      have htl := tabs_len s
      unfold fuelR
      omega
    generalize cellsF (fuelR R (tabsB s)) R [] (tabsB s) = C at *
    obtain ⟨C1, C2⟩ := C
    simp only at *
    have hb9 := i9.bad
    have e7 : sumBy size1 [] = 0 := rfl
    rw [e7, i1] at hb9
    have key : ∀ X : Tr, (X = C1 ∨ X = tellT C1 11 R.at_) → X.l = C1.l ∧ X.line = C1.line ∧ X.cols = C1.cols ∧ X.box = C1.box ∧ X.all = C1.all ∧ X.at_ = C1.at_ ∧ X.rows = C1.rows ∧ X.bad.length ≤ C1.bad.length + 1 := fun X hX => by
      rcases hX with rfl | rfl
      · exact ⟨rfl, rfl, rfl, rfl, rfl, rfl, rfl, Nat.le_succ _⟩
      · exact ⟨rfl, rfl, rfl, rfl, rfl, rfl, rfl, by simp [tellT]⟩
    obtain ⟨X, hX⟩ : ∃ X, X = (if C1.cols.size < C2.length then tellT C1 11 R.at_ else C1) := ⟨_, rfl⟩
    rw [← hX]
    obtain ⟨x1, x2, x3, x4, x5, x6, x7, x8⟩ := key X (by rw [hX]; split; exact .inr rfl; exact .inl rfl)
    refine ⟨x1.trans i1, x2.trans i2, x3.trans i3, x4.trans i5, x5.trans i6, by show R.at_ ≤ X.at_; omega, ⟨⟨false, C2⟩, by show X.rows ++ _ = _; rw [x7, i4], by show C2.length ≤ _; simp only [List.length_nil] at i10; omega, i11⟩, ?_, ?_, ?_, ?_, ?_⟩
    · show sumBy wt X.l ≤ _; rw [x1, i1]; exact hI.sum
    · show 0 ≤ X.line; rw [x2, i2]; exact hI.line0
    · show X.line ≤ _; rw [x2, i2]; exact hI.line1
    · show X.at_ + 1 ≤ X.l.length + 1; rw [x1, i1, x6]; omega
    · show X.bad.length ≤ 10 + sumBy wt (X.l.take (X.at_ + 1)); rw [x1, i1, x6]; omega
def rowsF : Nat → Tr → Tr
  | 0, R => R
  | n + 1, R => if R.at_ < R.l.length then rowsF n { rowR R with at_ := (rowR R).at_ + 1 } else R
theorem lookR_I {R : Tr} (h : TrI 0 R) (hat : R.at_ = 0) : TrI 1 (lookR R) ∧ (lookR R).l = R.l ∧ (lookR R).line = R.line ∧ (lookR R).rows = R.rows := by
  unfold lookR
  cases hl : R.l with
  | nil => exact ⟨h.mono (by omega), hl, rfl, rfl⟩
  | cons s l =>
    simp only
    by_cases hs : sufB s 59 = true
    · rw [if_pos hs]
      have h1 : R.l.length = l.length + 1 := by rw [hl]; rfl
      have hb := h.bad
      rw [hat, List.take_zero] at hb
      have e0 : sumBy wt [] = 0 := rfl
      rw [e0] at hb
      split
      · exact ⟨⟨h.sum, h.line0, h.line1, by show 1 ≤ R.l.length + 1; omega, by show R.bad.length ≤ _; omega⟩, hl, rfl, rfl⟩
      · exact ⟨⟨h.sum, h.line0, h.line1, by show 1 ≤ R.l.length + 1; omega, by show (R.bad ++ [_]).length ≤ _; rw [List.length_append, List.length_singleton]; omega⟩, hl, rfl, rfl⟩
    · rw [if_neg hs]
      exact ⟨h.mono (by omega), hl, rfl, rfl⟩
theorem colStep_rows (R : Tr) (s : ByteArray) : (colStep R s).rows = R.rows := by
  unfold colStep
  simp only
  split <;> split <;> split <;> simp [tellT]
theorem colLoop_I {c : Nat} : ∀ (n : Nat) (R : Tr) (e : Bool), TrI c R → TrI c (colLoop n R e).1 ∧ (colLoop n R e).1.l = R.l ∧ (colLoop n R e).1.line = R.line ∧ (colLoop n R e).1.rows = R.rows
  | 0, R, e, h => ⟨h, rfl, rfl, rfl⟩
  | n + 1, R, e, h => by
    rw [colLoop]
    split
    · exact ⟨h, rfl, rfl, rfl⟩
    · cases hg : R.l[R.at_]? with
      | none => exact ⟨h, rfl, rfl, rfl⟩
      | some s =>
        obtain ⟨i1, i2, i3, i4⟩ := colLoop_I n (colStep R s) (sufB s 46) (h.colStep hg)
        obtain ⟨e1, e2, _, _⟩ := colStep_l R s
        exact ⟨i1, i2.trans e1, i3.trans e2, i4.trans (colStep_rows R s)⟩
theorem columnsR_I {c : Nat} {R : Tr} (h : TrI c R) : TrI (c + 1) (columnsR R) ∧ (columnsR R).l = R.l ∧ (columnsR R).line = R.line ∧ (columnsR R).rows = R.rows := by
  obtain ⟨i1, i2, i3, i4⟩ := colLoop_I (R.l.length + 1) R false h
  unfold columnsR columnsEnd
  generalize colLoop (R.l.length + 1) R false = P at *
  obtain ⟨Q, e⟩ := P
  simp only at *
  have key : ∀ X : Tr, (X = Q ∨ X = { Q with cols := ⟨#[108]⟩ }) → TrI c X ∧ X.l = Q.l ∧ X.line = Q.line ∧ X.rows = Q.rows := fun X hX => by
    rcases hX with rfl | rfl
    · exact ⟨i1, rfl, rfl, rfl⟩
    · exact ⟨⟨i1.sum, i1.line0, i1.line1, i1.at_, i1.bad⟩, rfl, rfl, rfl⟩
  obtain ⟨X, hX⟩ : ∃ X, X = (if Q.cols = ⟨#[]⟩ then { Q with cols := ⟨#[108]⟩ } else Q) := ⟨_, rfl⟩
  rw [← hX]
  obtain ⟨k1, k2, k3, k4⟩ := key X (by rw [hX]; split; exact .inr rfl; exact .inl rfl)
  cases e
  · exact ⟨k1.tell 7 0, k2.trans i2, k3.trans i3, k4.trans i4⟩
  · exact ⟨k1.mono (by omega), k2.trans i2, k3.trans i3, k4.trans i4⟩
theorem colStep_cols {R : Tr} (h : R.cols.size ≤ 20) (s : ByteArray) : (colStep R s).cols.size ≤ 20 := by
  unfold colStep
  have key : ∀ X : Tr, X.cols = R.cols → (if (columnsT s).1.take 20 = [] then X else { X with cols := ba ((columnsT s).1.take 20) }).cols.size ≤ 20 := fun X hX => by
    split
    · rw [hX]; exact h
    · show (ba _).size ≤ 20
      rw [ba_size, List.length_take]; omega
  refine key _ ?_
  split <;> split <;> simp [tellT]
theorem colLoop_cols : ∀ (n : Nat) (R : Tr) (e : Bool), R.cols.size ≤ 20 → (colLoop n R e).1.cols.size ≤ 20
  | 0, R, e, h => h
  | n + 1, R, e, h => by
    rw [colLoop]
    split
    · exact h
    · cases R.l[R.at_]? with
      | none => exact h
      | some s => exact colLoop_cols n _ _ (colStep_cols h s)
theorem columnsR_cols {R : Tr} (h : R.cols.size ≤ 20) : (columnsR R).cols.size ≤ 20 := by
  have h1 := colLoop_cols (R.l.length + 1) R false h
  unfold columnsR columnsEnd
  generalize colLoop (R.l.length + 1) R false = P at *
  obtain ⟨Q, e⟩ := P
  simp only at *
  have key : ∀ X : Tr, X.cols.size ≤ 20 → (if e = true then X else tellT X 7 0).cols.size ≤ 20 := fun X hX => by split <;> exact hX
  refine key _ ?_
  split
  · show (⟨#[108]⟩ : ByteArray).size ≤ 20; decide
  · exact h1
theorem lookR_cols (R : Tr) : (lookR R).cols = R.cols := by
  unfold lookR
  split
  · rfl
  · split
    · show (if _ then R else tellT R 10 0).cols = _
      split <;> rfl
    · rfl
def startR (line : Int) (l : List ByteArray) : Tr := ⟨l, 0, line, ByteArray.empty, [], false, false, []⟩
def parseR (line : Int) (l : List ByteArray) : Tr := rowsF (l.length + 1) (columnsR (lookR (startR line l)))
def parseT (line : Int) (l : List ByteArray) : Tbl := mendT ⟨(parseR line l).cols, (parseR line l).rows, (parseR line l).box, (parseR line l).all⟩
end Go.Proofs.YtabgeenhpfnhdaaDoor.Ev
end
section
namespace Go.Proofs.YtabgeenhpfnhdaaDoor.Ev
open Go
structure PrI (F : Tr) (l : List ByteArray) (line : Int) (n : Nat) (R : Tr) : Prop where
  run : rowsF n R = F
  left : l.length ≤ R.at_ + n
  inv : TrI 10 R
  lines : R.l = l
  first : R.line = line
  count : R.rows.length ≤ R.at_
  rows : ∀ r ∈ R.rows, RowOk r
  cols : R.cols.size ≤ 20
theorem PrI.step {F : Tr} {l : List ByteArray} {line : Int} {n : Nat} {R : Tr} (h : PrI F l line (n + 1) R) (hat : R.at_ < R.l.length) : PrI F l line n { rowR R with at_ := (rowR R).at_ + 1 } := by
  obtain ⟨s1, s2, s3, s4, s5, s6, ⟨r, s7, s8⟩, s9⟩ := rowR_spec h.inv hat
  refine ⟨?_, ?_, s9, s1.trans h.lines, s2.trans h.first, ?_, fun q hq => ?_, by show (rowR R).cols.size ≤ 20; rw [s3]; exact h.cols⟩
  · have := h.run
    rw [rowsF, if_pos hat] at this
    exact this
  · show l.length ≤ (rowR R).at_ + 1 + n
    have := h.left; omega
  · show (rowR R).rows.length ≤ (rowR R).at_ + 1
    rw [s7, List.length_append, List.length_singleton]
    have := h.count; omega
  · have hq' : q ∈ R.rows ++ [r] := by rw [← s7]; exact hq
    rcases List.mem_append.1 hq' with hq' | hq'
    · exact h.rows q hq'
    · rw [List.mem_singleton.1 hq']; exact s8
theorem PrI.done {F : Tr} {l : List ByteArray} {line : Int} {n : Nat} {R : Tr} (h : PrI F l line n R) (hat : ¬ R.at_ < R.l.length) : F = R := by
  rw [← h.run]
  cases n with
  | zero => rfl
  | succ n => rw [rowsF, if_neg hat]
theorem PrI.start {l : List ByteArray} {line : Int} (hl : sumBy wt l ≤ 268435456) (h0 : 0 ≤ line) (h1 : line ≤ 1073741824) : TrI 0 (startR line l) ∧ TrI 1 (lookR (startR line l)) ∧ PrI (parseR line l) l line (l.length + 1) (columnsR (lookR (startR line l))) := by
  have i0 : TrI 0 (startR line l) := ⟨hl, h0, h1, Nat.zero_le _, Nat.zero_le _⟩
  obtain ⟨l1, l2, l3, l4⟩ := lookR_I i0 rfl
  obtain ⟨c1, c2, c3, c4⟩ := columnsR_I l1
  refine ⟨i0, l1, rfl, by omega, c1.mono (by omega), c2.trans l2, c3.trans l3, ?_, fun r hr => ?_, columnsR_cols (by rw [lookR_cols]; exact Nat.zero_le _)⟩
  · rw [c4, l4]; exact Nat.zero_le _
  · rw [c4, l4] at hr; simp [startR] at hr
set_option linter.unusedSimpArgs false in
set_option maxRecDepth 20000 in
set_option maxHeartbeats 16000000 in
theorem conParse (line : Int) (l : List ByteArray) (hl : sumBy wt l ≤ 268435456) (h0 : 0 ≤ line) (h1 : line ≤ 1073741824) :
    PCon C0 16 [.sc (.int .i64 line), .sc (.sl (l.map .str))] (.tup [(parseT line l).pv.toFV, .sc (.sl ((parseR line l).bad.map Dg.pv))]) := by
  obtain ⟨i0, i1, hP⟩ := PrI.start hl h0 h1
  refine penter16 ?_
  obtain ⟨T0, hT0⟩ : ∃ T0 : List FV, T0 = [.sc (.str ByteArray.empty), .own [], .sc (.bool false), .sc (.bool false)] := ⟨_, rfl⟩
  have hok : ∀ R : Tr, HOkT [T0, trC R] := fun R fs hfs f hf => by
    simp at hfs
    rcases hfs with rfl | rfl
    · subst hT0; simp [body] at hf; rcases hf with rfl | rfl | rfl | rfl <;> rfl
    · exact trC_und R _ f hf
  have c1 := conLookR (H := [T0, trC (startR line l)]) (b := 1) rfl (i0.s (by omega))
  have c2 := conColumnsR (H := [T0, trC (lookR (startR line l))]) (b := 1) rfl i1 (by omega)
  simp at c1 c2
  have hst : trC (startR line l) = [.sc (.sl (l.map .str)), .sc (.int .i64 0), .sc (.int .i64 line), .sc (.str ByteArray.empty), .own [], .sc (.bool false), .sc (.bool false), .own []] := rfl
  rw [hst] at c1
  subst hT0
  simp [Tryd.f16]
  refine CallQ.mk (Call.shared callable30 c1) ?_
  simp
  refine CallQ.mk (Call.shared callable31 c2) ?_
  simp
  refine loopC (fun d e H' => ∃ (n : Nat) (R : Tr) (x24 : FV), H' = [[.sc (.str ByteArray.empty), .own [], .sc (.bool false), .sc (.bool false)], trC R] ∧ PrI (parseR line l) l line n R ∧ n = d ∧ e = [(0, .sc (.int .i64 line)), (1, .sc (.sl (l.map .str))), (4, .ptr 0 0), (5, .own []), (6, .ptr 1 0), (24, x24)]) (d := l.length + 1) ⟨l.length + 1, _, .undef, rfl, hP, rfl, rfl⟩ ?_
  rintro d e H' ⟨n, R, x24, rfl, hI, rfl, rfl⟩
  have hlen : R.l.length ≤ 268435456 := Nat.le_trans (sumLen wt (fun s => by unfold wt; omega) R.l) hI.inv.sum
  by_cases hat : R.at_ < R.l.length
  · obtain ⟨n, rfl⟩ : ∃ m, n = m + 1 := ⟨n - 1, by have := hI.left; have := hI.lines; rw [← hI.lines] at *; omega⟩
    have hst := hI.step hat
    have hcnt := hI.count
    have cr := conRowR (H := [[.sc (.str ByteArray.empty), .own [], .sc (.bool false), .sc (.bool false)], trC R]) (b := 1) rfl hI.inv hat (by omega) (hok R)
    simp at cr
    obtain ⟨R1, hR1⟩ : ∃ R1, rowR R = R1 := ⟨_, rfl⟩
    have hat1 : R1.at_ ≤ 1073741825 := by
      have h5 := hst.inv.at_
      have h6 := hst.lines
      simp only at h5 h6
      rw [h6] at h5
      have h7 := hI.lines
      rw [h7] at hlen
      rw [← hR1]; omega
    rw [hR1] at cr hst
    have hw : IntKind.i64.wrap ((R1.at_ : Int) + 1) = ((R1.at_ + 1 : Nat) : Int) := by rw [wrap64 (by omega) (by omega)]; omega
    obtain ⟨l', at_, line', cols, rows, box, all, bad⟩ := R
    obtain ⟨l2, at2, line2, cols2, rows2, box2, all2, bad2⟩ := R1
    simp only at hat hw
    have hat' : (at_ : Int) < (l'.length : Int) := by omega
    simp only [trC] at cr ⊢
    simp [hat, hat']
    refine CallQ.mk (Call.shared callable32 cr) ?_
    simp [hw]
    exact ⟨n, by omega, n, Tr.mk l2 (at2 + 1) line2 cols2 rows2 box2 all2 bad2, ⟨rfl, by show (at2 : Int) + 1 = ((at2 + 1 : Nat) : Int); omega, rfl, rfl, rfl, rfl, rfl, rfl⟩, hst, rfl⟩
  · have hF := hI.done hat
    have hc := hI.count
    have hat3 := hI.inv.at_
    have hcols := hI.cols
    have cm := treeMend ⟨R.cols, R.rows, R.box, R.all⟩ ⟨by show R.cols.size ≤ _; omega, by show R.rows.length ≤ _; omega, fun r hr => ⟨(hI.rows r hr).1, fun c hc => by have := (hI.rows r hr).2 c hc; omega⟩⟩
    unfold parseT
    rw [hF]
    generalize mendT ⟨R.cols, R.rows, R.box, R.all⟩ = M at *
    obtain ⟨l', at_, line', cols, rows, box, all, bad⟩ := R
    obtain ⟨mc, mr, mb, ma⟩ := M
    simp only at hat
    have hat' : ¬ (at_ : Int) < (l'.length : Int) := by omega
    simp only [Tbl.pv, PV.toFV, List.map_cons, List.map_nil] at cm ⊢
    simp only [trC]
    simp [hat, hat']
    refine DrawC.mk (fun _ _ => .agg [.sc (.str mc), .sc (.sl (mr.map TRow.pv)), .sc (.bool mb), .sc (.bool ma)]) ?_
    simp
    refine ⟨CallQ.mk (CallD.pure callable33 (by simp) (by simp) cm rfl) ?_, CallQ.mk (CallD.pure callable33 (by simp) (by simp) cm rfl) ?_⟩
    all_goals simp
end Go.Proofs.YtabgeenhpfnhdaaDoor.Ev
end
section
namespace Go.Proofs.YtabgeenhpfnhdaaDoor.Ev
open Go
def kLines : List ByteArray := [⟨#[108, 32, 114, 46]⟩, ⟨#[97, 9, 98]⟩]
def kTbl : Tbl := ⟨⟨#[108, 114]⟩, [⟨false, [[⟨97, 0⟩], [⟨98, 0⟩]]⟩], false, false⟩
set_option maxRecDepth 100000 in
theorem kt1 : parseT 1 kLines = kTbl := by kernel_rfl
set_option maxRecDepth 100000 in
theorem kt2 : (parseR 1 kLines).bad = [] := by kernel_rfl
theorem kTbl_ok : kTbl.ok := by
  refine ⟨by decide, fun c hc => ?_⟩
  rw [List.mem_singleton.1 hc]
  refine ⟨by decide, fun g hg => ?_⟩
  simp at hg
  rcases hg with rfl | rfl <;> decide
set_option linter.unusedSimpArgs false in
set_option maxRecDepth 20000 in
set_option maxHeartbeats 4000000 in
theorem conKnown09 : PCon C0 7 [] (.sc (.bool true)) := by
  have p := conParse 1 kLines (by decide) (by decide) (by decide)
  rw [kt1, kt2] at p
  have s := refTableSame kTbl kTbl kTbl_ok
  rw [decide_eq_true (rfl : kTbl = kTbl)] at s
  simp only [Tbl.pv, PV.toFV, List.map_cons, List.map_nil, kTbl, kLines, TRow.pv, gl] at p s
  refine penter7 ?_
  simp [Tryd.f7, Sized]
  refine ⟨rfl, ?_⟩
  refine CallQ.mk (Call.pure callable16 (by simp) (by simp) p) ?_
  simp
  refine ⟨fun p hp => by rw [List.mem_singleton.1 hp]; rfl, fun p hp => by rw [List.mem_singleton.1 hp]; rfl, rfl, fun p hp => by simp at hp; rcases hp with rfl | rfl <;> rfl, fun p hp => by rw [List.mem_singleton.1 hp]; rfl, ?_⟩
  refine CallQ.mk (Call.pure callable21 (by simp) (by simp) s) ?_
  simp
end Go.Proofs.YtabgeenhpfnhdaaDoor.Ev
end
section
namespace Go.Proofs.YtabgeenhpfnhdaaDoor.Ev
open Go
def ColOk (l : List Dg) : Prop := ∀ d ∈ l, 0 ≤ d.col
theorem ColOk.snoc {l : List Dg} {d : Dg} (h : ColOk l) (hd : 0 ≤ d.col) : ColOk (l ++ [d]) := fun x hx => by
  rcases List.mem_append.1 hx with hx | hx
  · exact h x hx
  · rw [List.mem_singleton.1 hx]; exact hd
theorem wrapCol {fr : Int} (h0 : 0 ≤ fr) (h1 : fr ≤ 1073741824) : 0 ≤ IntKind.i64.wrap (fr + 1) := by
  rw [wrap64 (by omega) (by omega)]; omega
theorem namedE_col {l : List Int} {p : Nat} {out : List Tok} {bad : List Dg} {font : Bool} {fr : Int} (h0 : 0 ≤ fr) (h1 : fr ≤ 1073741824) (h : ColOk bad) : ColOk (namedE l p out bad font fr).bad := by
  have w := wrapCol h0 h1
  unfold namedE
  repeat' split
  all_goals first
    | exact h
    | exact h.snoc w
theorem escE_col {l : List Int} {p : Nat} {out : List Tok} {bad : List Dg} {fr : Int} (h0 : 0 ≤ fr) (h1 : fr ≤ 1073741824) (h : ColOk bad) : ColOk (escE l p out bad fr).bad := by
  have w := wrapCol h0 h1
  have n1 := namedE_col (l := l) (p := p) (out := out) (font := false) h0 h1 h
  have n2 := namedE_col (l := l) (p := p + 1) (out := out) (font := true) h0 h1 h
  unfold escE
  split
  · exact h.snoc w
  · repeat' split
    all_goals first
      | exact n1
      | exact n2
      | exact h
      | exact h.snoc w
theorem stepE_col {l : List Int} {p : Nat} {out : List Tok} {bad : List Dg} (c : Int) (h1 : p ≤ 1073741824) (h : ColOk bad) : ColOk (stepE l p out bad c).bad := by
  have w := wrapCol (fr := (p : Int)) (by omega) (by omega)
  have e := escE_col (l := l) (p := p + 1) (out := out) (fr := (p : Int)) (by omega) (by omega) h
  unfold stepE
  repeat' split
  all_goals first
    | exact e
    | exact h
    | exact h.snoc w
theorem scanF_col {l : List Int} (hl : l.length ≤ 1073741824) : ∀ {n p : Nat} {out : List Tok} {bad : List Dg}, ColOk bad → ColOk (scanF n l p out bad).2 := by
  intro n
  induction n with
  | zero => intro p out bad h; exact h
  | succ n ih =>
    intro p out bad h
    rw [scanF]
    cases hc : l[p]? with
    | none => exact h
    | some c =>
      have hpl : p < l.length := (List.getElem?_eq_some_iff.1 hc).1
      have st := stepE_col (l := l) (out := out) c (p := p) (by omega) h
      simp only
      split
      · exact ih st
      · exact st
theorem lineD_col (s : ByteArray) (hs : s.size ≤ 1073741824) : ColOk (lineD s) := by
  have hdl : (dec (bI s)).length ≤ s.size := by rw [← bI_len s]; exact decR_len
  exact scanF_col (by omega) (fun d hd => by simp at hd)
def DB (m : Nat) (ln : Int) (bad : List Dg) : Prop := ∀ d ∈ bad, ln ≤ d.line ∧ d.line < ln + m ∧ 0 ≤ d.col
theorem DB.tell {m : Nat} {R : Tr} (h : DB m R.line R.bad) (kind : Int) {k : Nat} (hk : k < m) : DB m R.line (tellT R kind k).bad := fun d hd => by
  rcases List.mem_append.1 hd with hd | hd
  · exact h d hd
  · rw [List.mem_singleton.1 hd]
    exact ⟨by show R.line ≤ R.line + k; omega, by show R.line + k < R.line + m; omega, Int.le_refl _⟩
theorem DB.text {m : Nat} {R : Tr} (h : DB m R.line R.bad) {s : ByteArray} (hs : s.size ≤ 1073741824) {k : Nat} (hk : k < m) : DB m R.line (textT R s k).bad := fun d hd => by
  rcases List.mem_append.1 hd with hd | hd
  · exact h d hd
  · obtain ⟨x, hx, rfl⟩ := List.mem_map.1 hd
    exact ⟨by show R.line ≤ R.line + k; omega, by show R.line + k < R.line + m; omega, lineD_col s hs x hx⟩
theorem tabs_small {s q : ByteArray} (hs : s.size ≤ 1073741824) (hq : q ∈ tabsB s) : q.size ≤ 1073741824 := by
  have h1 := sumMem size1 hq
  have h2 := tabs_sum s
  have h3 : size1 q = q.size := rfl
  omega
theorem blockF_DB {m fr : Nat} (hfr : fr < m) : ∀ (n : Nat) (R : Tr) (out : List Glyph), R.l.length ≤ m → (∀ s ∈ R.l, s.size ≤ 1073741824) → DB m R.line R.bad →
    (blockF fr n R out).1.l = R.l ∧ (blockF fr n R out).1.line = R.line ∧ DB m R.line (blockF fr n R out).1.bad ∧ ((blockF fr n R out).2.2 ≠ [] → (blockF fr n R out).1.at_ < R.l.length) ∧ ∀ q ∈ (blockF fr n R out).2.2, q.size ≤ 1073741824
  | 0, R, out, hm, hz, h => ⟨rfl, rfl, h.tell 7 hfr, fun hh => absurd rfl hh, fun q hq => by cases hq⟩
  | n + 1, R, out, hm, hz, h => by
    rw [blockF]
    cases hg : R.l[R.at_]? with
    | none => exact ⟨rfl, rfl, h.tell 7 hfr, fun hh => absurd rfl hh, fun q hq => by cases hq⟩
    | some s =>
      have g1 := (List.getElem?_eq_some_iff.1 hg).1
      have hsz := hz s (List.mem_of_getElem? hg)
      simp only
      split
      · exact ⟨rfl, rfl, h, fun _ => g1, fun q hq => tabs_small hsz (List.mem_of_mem_drop hq)⟩
      · exact blockF_DB hfr n { textT R s R.at_ with at_ := R.at_ + 1 } _ hm hz (h.text hsz (by omega))
theorem cellsF_DB {m : Nat} : ∀ (n : Nat) (R : Tr) (cs : List (List Glyph)) (rest : List ByteArray), R.l.length ≤ m → (∀ s ∈ R.l, s.size ≤ 1073741824) → (∀ s ∈ rest, s.size ≤ 1073741824) → (rest ≠ [] → R.at_ < R.l.length) → DB m R.line R.bad →
    (cellsF n R cs rest).1.l = R.l ∧ (cellsF n R cs rest).1.line = R.line ∧ DB m R.line (cellsF n R cs rest).1.bad
  | 0, R, cs, rest, hm, hz, hr, ha, h => ⟨rfl, rfl, h⟩
  | n + 1, R, cs, [], hm, hz, hr, ha, h => ⟨rfl, rfl, h⟩
  | n + 1, R, cs, s :: rest, hm, hz, hr, ha, h => by
    have hat := ha (by simp)
    rw [cellsF]
    by_cases hs : s = openS
    · rw [if_pos hs]
      obtain ⟨b1, b2, b3, b4, b5⟩ := blockF_DB (fr := R.at_) (m := m) (by omega) (R.l.length + 1) { R with at_ := R.at_ + 1 } [] hm hz h
      change (blockR R R.at_).1.l = R.l at b1
      change (blockR R R.at_).1.line = R.line at b2
      change DB m R.line (blockR R R.at_).1.bad at b3
      change ((blockR R R.at_).2.2 ≠ [] → (blockR R R.at_).1.at_ < R.l.length) at b4
      change ∀ q ∈ (blockR R R.at_).2.2, q.size ≤ 1073741824 at b5
      obtain ⟨c1, c2, c3⟩ := cellsF_DB n (blockR R R.at_).1 (cs ++ [(blockR R R.at_).2.1]) (blockR R R.at_).2.2 (by rw [b1]; exact hm) (by rw [b1]; exact hz) b5 (by rw [b1]; exact b4) (by rw [b2]; exact b3)
      exact ⟨c1.trans b1, c2.trans b2, by rw [b2] at c3; exact c3⟩
    · rw [if_neg hs]
      exact cellsF_DB n (textT R s R.at_) _ rest hm hz (fun q hq => hr q (by simp [hq])) (fun _ => hat) (h.text (hr s (by simp)) (by omega))
theorem rowR_DB {m : Nat} {R : Tr} (hat : R.at_ < R.l.length) (hm : R.l.length ≤ m) (hz : ∀ s ∈ R.l, s.size ≤ 1073741824) (h : DB m R.line R.bad) : (rowR R).l = R.l ∧ (rowR R).line = R.line ∧ DB m R.line (rowR R).bad := by
  obtain ⟨s, hls⟩ : ∃ s, R.l[R.at_] = s := ⟨_, rfl⟩
  have hget : R.l[R.at_]? = some s := by rw [List.getElem?_eq_getElem hat, hls]
  have hsz := hz s (List.mem_of_getElem? hget)
  unfold rowR
  simp only [hget]
  split
  · exact ⟨rfl, rfl, h⟩
  · obtain ⟨c1, c2, c3⟩ := cellsF_DB (fuelR R (tabsB s)) R [] (tabsB s) hm hz (fun q hq => tabs_small hsz hq) (fun _ => hat) h
    generalize cellsF (fuelR R (tabsB s)) R [] (tabsB s) = C at *
    split
    · refine ⟨c1, c2, ?_⟩
      have := DB.tell (R := C.1) (by rw [c2]; exact c3) 11 (k := R.at_) (m := m) (by omega)
      rw [c2] at this
      exact this
    · exact ⟨c1, c2, c3⟩
theorem rowsF_DB {m : Nat} : ∀ (n : Nat) (R : Tr), R.l.length ≤ m → (∀ s ∈ R.l, s.size ≤ 1073741824) → DB m R.line R.bad → DB m R.line (rowsF n R).bad
  | 0, R, hm, hz, h => h
  | n + 1, R, hm, hz, h => by
    rw [rowsF]
    split
    · rename_i hat
      obtain ⟨r1, r2, r3⟩ := rowR_DB hat hm hz h
      have := rowsF_DB n { rowR R with at_ := (rowR R).at_ + 1 } (by show (rowR R).l.length ≤ m; rw [r1]; exact hm) (by show ∀ s ∈ (rowR R).l, _; rw [r1]; exact hz) (by show DB m (rowR R).line (rowR R).bad; rw [r2]; exact r3)
      change DB m (rowR R).line _ at this
      rw [r2] at this
      exact this
    · exact h
theorem lookR_DB {m : Nat} {R : Tr} (hm : 0 < m) (h : DB m R.line R.bad) : (lookR R).l = R.l ∧ (lookR R).line = R.line ∧ DB m R.line (lookR R).bad := by
  unfold lookR
  split
  · exact ⟨rfl, rfl, h⟩
  · split
    · split
      · exact ⟨rfl, rfl, h⟩
      · exact ⟨rfl, rfl, h.tell 10 (k := 0) hm⟩
    · exact ⟨rfl, rfl, h⟩
theorem colStep_DB {m : Nat} {R : Tr} (s : ByteArray) (ha : R.at_ < m) (h : DB m R.line R.bad) : DB m R.line (colStep R s).bad := by
  unfold colStep
  have h1 : ∀ X : Tr, X.line = R.line → DB m R.line X.bad → DB m R.line (if (columnsT s).1.take 20 = [] then X else { X with cols := ba ((columnsT s).1.take 20) }).bad := fun X hX hd => by
    split <;> exact hd
  have h2 : ∀ X : Tr, X.line = R.line → DB m R.line X.bad → ∀ k, (if 20 < (columnsT s).1.length then tellT X k R.at_ else X).line = R.line ∧ DB m R.line (if 20 < (columnsT s).1.length then tellT X k R.at_ else X).bad := fun X hX hd k => by
    split
    · have := DB.tell (R := X) (by rw [hX]; exact hd) k (k := R.at_) ha
      rw [hX] at this
      exact ⟨hX, this⟩
    · exact ⟨hX, hd⟩
  simp only
  have h3 : (if (columnsT s).2 = true then R else tellT R 10 R.at_).line = R.line ∧ DB m R.line (if (columnsT s).2 = true then R else tellT R 10 R.at_).bad := by
    split
    · exact ⟨rfl, h⟩
    · exact ⟨rfl, h.tell 10 ha⟩
  obtain ⟨k1, k2⟩ := h2 _ h3.1 h3.2 11
  exact h1 _ k1 k2
theorem colLoop_DB {m : Nat} : ∀ (n : Nat) (R : Tr) (e : Bool), R.l.length ≤ m → DB m R.line R.bad → (colLoop n R e).1.l = R.l ∧ (colLoop n R e).1.line = R.line ∧ DB m R.line (colLoop n R e).1.bad
  | 0, R, e, hm, h => ⟨rfl, rfl, h⟩
  | n + 1, R, e, hm, h => by
    rw [colLoop]
    split
    · exact ⟨rfl, rfl, h⟩
    · cases hg : R.l[R.at_]? with
      | none => exact ⟨rfl, rfl, h⟩
      | some s =>
        have g1 := (List.getElem?_eq_some_iff.1 hg).1
        obtain ⟨e1, e2, _, _⟩ := colStep_l R s
        obtain ⟨i1, i2, i3⟩ := colLoop_DB n (colStep R s) (sufB s 46) (by rw [e1]; exact hm) (by rw [e2]; exact colStep_DB s (by omega) h)
        exact ⟨i1.trans e1, i2.trans e2, by rw [e2] at i3; exact i3⟩
theorem columnsR_DB {m : Nat} {R : Tr} (h0 : 0 < m) (hm : R.l.length ≤ m) (h : DB m R.line R.bad) : (columnsR R).l = R.l ∧ (columnsR R).line = R.line ∧ DB m R.line (columnsR R).bad := by
  obtain ⟨i1, i2, i3⟩ := colLoop_DB (R.l.length + 1) R false hm h
  unfold columnsR columnsEnd
  generalize colLoop (R.l.length + 1) R false = P at *
  obtain ⟨Q, e⟩ := P
  simp only at *
  have key : ∀ X : Tr, X.l = Q.l → X.line = Q.line → X.bad = Q.bad → (if e = true then X else tellT X 7 0).l = R.l ∧ (if e = true then X else tellT X 7 0).line = R.line ∧ DB m R.line (if e = true then X else tellT X 7 0).bad := fun X h1 h2 h3 => by
    split
    · exact ⟨h1.trans i1, h2.trans i2, by rw [h3]; exact i3⟩
    · refine ⟨h1.trans i1, h2.trans i2, ?_⟩
      have := DB.tell (R := X) (by rw [h2, i2, h3]; exact i3) 7 (k := 0) h0
      rw [h2, i2] at this
      exact this
  obtain ⟨X, hX⟩ : ∃ X, X = (if Q.cols = ⟨#[]⟩ then { Q with cols := ⟨#[108]⟩ } else Q) := ⟨_, rfl⟩
  have hx : X.l = Q.l ∧ X.line = Q.line ∧ X.bad = Q.bad := by rw [hX]; split <;> exact ⟨rfl, rfl, rfl⟩
  rw [← hX]
  exact key X hx.1 hx.2.1 hx.2.2
theorem parseR_DB (line : Int) (l : List ByteArray) (hz : ∀ s ∈ l, s.size ≤ 1073741824) : DB (max l.length 1) line (parseR line l).bad := by
  have hm : l.length ≤ max l.length 1 := by omega
  have h0 : 0 < max l.length 1 := by omega
  obtain ⟨a1, a2, a3⟩ := lookR_DB (R := startR line l) h0 (fun d hd => by cases hd)
  obtain ⟨b1, b2, b3⟩ := columnsR_DB (R := lookR (startR line l)) h0 (by rw [a1]; exact hm) (by rw [a2]; exact a3)
  have := rowsF_DB (m := max l.length 1) (l.length + 1) (columnsR (lookR (startR line l))) (by rw [b1, a1]; exact hm) (by rw [b1, a1]; exact hz) (by rw [b2]; exact b3)
  rw [b2, a2] at this
  exact this
theorem PrI.end_ {F : Tr} {l : List ByteArray} {line : Int} : ∀ {n : Nat} {R : Tr}, PrI F l line n R → R.rows.length ≤ l.length → F.rows.length ≤ l.length ∧ F.cols.size ≤ 20 ∧ ∀ r ∈ F.rows, RowOk r := by
  intro n
  induction n with
  | zero =>
    intro R h hr
    have hF : F = R := h.run.symm
    rw [hF]
    exact ⟨hr, h.cols, h.rows⟩
  | succ n ih =>
    intro R h hr
    by_cases hat : R.at_ < R.l.length
    · refine ih (h.step hat) ?_
      obtain ⟨_, _, _, _, _, _, ⟨r, s7, _⟩, _⟩ := rowR_spec h.inv hat
      show (rowR R).rows.length ≤ l.length
      rw [s7, List.length_append, List.length_singleton]
      have := h.count
      rw [h.lines] at hat
      omega
    · rw [h.done hat]
      exact ⟨hr, h.cols, h.rows⟩
theorem parse_rows {line : Int} {l : List ByteArray} (hl : sumBy wt l ≤ 268435456) (h0 : 0 ≤ line) (h1 : line ≤ 1073741824) : (parseT line l).rows.length ≤ l.length ∧ TblS (parseT line l) := by
  obtain ⟨_, _, hP⟩ := PrI.start hl h0 h1
  have hr0 : (columnsR (lookR (startR line l))).rows.length ≤ l.length := by
    obtain ⟨i0, i1, _⟩ := PrI.start hl h0 h1
    obtain ⟨_, _, _, l4⟩ := lookR_I i0 rfl
    obtain ⟨_, _, _, c4⟩ := columnsR_I i1
    rw [c4, l4]; exact Nat.zero_le _
  obtain ⟨e1, e2, e3⟩ := hP.end_ hr0
  have hlen : l.length ≤ 268435456 := Nat.le_trans (sumLen wt (fun s => by unfold wt; omega) l) hl
  unfold parseT
  generalize parseR line l = F at *
  obtain ⟨c1, c2, c3⟩ := mendCols_ok F.cols
  refine ⟨by show (F.rows.map _).length ≤ _; rw [List.length_map]; exact e1, by show (mendCols F.cols).size ≤ _; omega, by show (F.rows.map _).length ≤ _; rw [List.length_map]; omega, fun r hr => ?_⟩
  obtain ⟨x, hx, rfl⟩ := List.mem_map.1 hr
  obtain ⟨x1, x2⟩ := e3 x hx
  rw [mendRow_eq]
  refine ⟨?_, fun c hc => ?_⟩
  · show (if x.rule = true then [] else (List.range (mendCols F.cols).size).map (cellM x)).length ≤ _
    split
    · simp
    · simp; omega
  · have hc' : c ∈ (if x.rule = true then [] else (List.range (mendCols F.cols).size).map (cellM x)) := hc
    split at hc'
    · simp at hc'
    · obtain ⟨k, _, rfl⟩ := List.mem_map.1 hc'
      unfold cellM
      split
      · rename_i hk
        have h3 := sqAll_len (x.cells.getD k [])
        have e : x.cells.getD k [] = x.cells[k] := by simp [List.getD, hk]
        have h4 := x2 _ (List.getElem_mem hk)
        rw [← e] at h4
        exact Nat.le_trans h3 (by omega)
      · simp
end Go.Proofs.YtabgeenhpfnhdaaDoor.Ev
end
section
namespace Go.Proofs.YtabgeenhpfnhdaaDoor.Ev
open Go
def long9 (l : List ByteArray) : Nat := sumBy (fun s => s.size + 1) l
set_option linter.unusedSimpArgs false in
set_option maxRecDepth 20000 in
set_option maxHeartbeats 4000000 in
theorem conLong9 (l : List ByteArray) (hl : long9 l ≤ 1073741824) : PCon C0 15 [.sc (.sl (l.map PV.str))] (.sc (.bool (decide (1000 < long9 l)))) := by
  refine penter15 ?_
  have hsum : ∀ (l : List ByteArray) (i : Nat) (h : i < l.length), long9 (l.take (i + 1)) = long9 (l.take i) + (l[i].size + 1) := fun l i h => sumBy_take _ h
  have htk : ∀ (l : List ByteArray) (i : Nat), long9 (l.take i) ≤ long9 l := fun l i => sumBy_take_le _ l i
  have hlen : l.length ≤ long9 l := sumLen _ (fun s => by omega) l
  simp [Tryd.f15]
  refine loopC (fun d e H' => ∃ (i : Nat) (x2 x8 : FV), d = l.length - i ∧ i ≤ l.length ∧ e = [(0, .sc (.sl (l.map PV.str))), (2, x2), (3, .sc (.int .i64 (long9 (l.take i)))), (4, .sc (.int .i64 i)), (8, x8)]) (d := l.length) ⟨0, .sc (.bool false), .undef, rfl, Nat.zero_le _, ?_⟩ ?_
  · simp [long9, sumBy]
  · rintro d e H' ⟨i, x2, x8, rfl, hi, rfl⟩
    simp
    refine CondC.mk (fun hlt => ?_) (fun hlt => ?_)
    · simp at hlt
      have hw : IntKind.i64.wrap ((i : Int) + 1) = ((i + 1 : Nat) : Int) := by rw [wrap64 (by omega) (by omega)]; omega
      have hq : (l.map PV.str)[i]? = some (.str l[i]) := by simp [hlt]
      have hs := hsum l i hlt
      have h1 := htk l (i + 1)
      have w1 : IntKind.i64.wrap ((long9 (l.take i) : Int) + 1) = (long9 (l.take i) : Int) + 1 := wrap64 (by omega) (by omega)
      have w2 : IntKind.i64.wrap ((long9 (l.take i) : Int) + 1 + l[i].size) = (long9 (l.take (i + 1)) : Int) := by rw [wrap64 (by omega) (by omega)]; omega
      simp [hq, hw, w1, w2]
      exact ⟨l.length - (i + 1), by omega, i + 1, rfl, by omega, rfl, by omega⟩
    · simp at hlt
      simp [List.take_of_length_le hlt]
      omega
theorem wt_le (l : List ByteArray) : sumBy wt l ≤ 3 * long9 l := by
  unfold long9
  induction l with
  | nil => simp [sumBy]
  | cons s l ih => simp only [sumBy, wt] at ih ⊢; omega
theorem PrI.endI {F : Tr} {l : List ByteArray} {line : Int} : ∀ {n : Nat} {R : Tr}, PrI F l line n R → TrI 10 F := by
  intro n
  induction n with
  | zero =>
    intro R h
    have hF : F = R := h.run.symm
    rw [hF]; exact h.inv
  | succ n ih =>
    intro R h
    by_cases hat : R.at_ < R.l.length
    · exact ih (h.step hat)
    · rw [h.done hat]; exact h.inv
set_option linter.unusedSimpArgs false in
set_option maxRecDepth 20000 in
set_option maxHeartbeats 4000000 in
theorem conTblSafe (ln : Nat) (l : List ByteArray) (hln : ln ≤ 65535) (hl : long9 l ≤ 67108864) : PCon C0 4 [.sc (.int .u16 ln), .sc (.sl (l.map .str))] (.sc (.bool true)) := by
  have ck := conKnown09
  have cl := conLong9 l (by omega)
  have hwt := wt_le l
  have cp := conParse (ln : Int) l (by omega) (by omega) (by omega)
  obtain ⟨hrows, hS⟩ := parse_rows (line := (ln : Int)) (l := l) (by omega) (by omega) (by omega)
  have hz : ∀ s ∈ l, s.size ≤ 1073741824 := fun s hs => by
    have h1 := sumMem wt hs
    have h2 : wt s = s.size + 3 := rfl
    omega
  have hD := parseR_DB (ln : Int) l hz
  have cr := refRight (parseT (ln : Int) l) hS
  have hright : rightT (parseT (ln : Int) l) = true := mend_right _
  rw [hright] at cr
  have hlen : l.length ≤ long9 l := sumLen _ (fun s => by omega) l
  have hbl : (parseR (ln : Int) l).bad.length ≤ 1073741824 := by
    obtain ⟨_, _, hP⟩ := PrI.start (line := (ln : Int)) (l := l) (by omega) (by omega) (by omega)
    have hI := hP.endI
    have h1 := hI.bad
    have h2 := sumBy_take_le wt (parseR (ln : Int) l).l (parseR (ln : Int) l).at_
    have h3 := hI.sum
    omega
  generalize (parseR (ln : Int) l).bad = bad at *
  generalize parseT (ln : Int) l = T at *
  obtain ⟨tc, tr, tb, ta⟩ := T
  simp only [Tbl.pv, PV.toFV, List.map_cons, List.map_nil] at cp cr
  simp only at hrows
  have hwl : IntKind.i64.wrap (ln : Int) = (ln : Int) := wrap64 (by omega) (by omega)
  refine penter4 ?_
  simp [Tryd.f4]
  refine CallQ.mk (Call.pure callable15 (by simp) (by simp) cl) ?_
  by_cases hb : 1000 < long9 l
  · simp [hb]
    refine CallQ.mk (Call.pure callable7 (by simp) (by simp) ck) ?_
    simp
  · simp [hb, hwl]
    refine CallQ.mk (Call.pure callable16 (by simp) (by simp) cp) ?_
    simp
    refine loopC (fun d e H' => ∃ (i : Nat) (x21 x53 : FV), d = bad.length - i ∧ i ≤ bad.length ∧ H' = [[.sc (.str tc), .sc (.sl (tr.map TRow.pv)), .sc (.bool tb), .sc (.bool ta)]] ∧ e = [(0, .sc (.int .u16 ln)), (1, .sc (.sl (l.map .str))), (4, .sc (.bool false)), (5, .ptr 0 0), (6, .sc (.sl (bad.map Dg.pv))), (7, .sc (.int .i64 i)), (9, .sc (.bool false)), (21, x21), (53, x53)]) (d := bad.length) ⟨0, .undef, .undef, rfl, Nat.zero_le _, rfl, rfl⟩ ?_
    rintro d e H' ⟨i, x21, x53, rfl, hi, rfl, rfl⟩
    simp
    refine CondC.mk (fun hlt => ?_) (fun hlt => ?_)
    · simp at hlt
      have hlt' : (i : Int) < (bad.length : Int) := by omega
      have hw : IntKind.i64.wrap ((i : Int) + 1) = ((i + 1 : Nat) : Int) := by rw [wrap64 (by omega) (by omega)]; omega
      obtain ⟨d1, d2, d3⟩ := hD _ (List.getElem_mem hlt)
      obtain ⟨D, hDe⟩ : ∃ D, bad[i] = D := ⟨_, rfl⟩
      rw [hDe] at d1 d2 d3
      obtain ⟨dk, dl, dc⟩ := D
      simp only at d1 d2 d3
      have n1 : ¬ dl < (ln : Int) := by omega
      obtain ⟨M, hM⟩ : ∃ M : Nat, M = max l.length 1 := ⟨_, rfl⟩
      have hmx : (if (l.length : Int) < 1 then (1 : Int) else (l.length : Int)) = (M : Int) := by split <;> omega
      have hwm : IntKind.i64.wrap ((ln : Int) + M) = (ln : Int) + M := wrap64 (by omega) (by omega)
      have n2 : ¬ (ln : Int) + M ≤ dl := by omega
      have n3 : ¬ dc < 0 := by omega
      simp [hlt, hlt', hDe, Dg.pv, hwl, n1, hmx, hwm, n2, n3, hw]
      exact ⟨bad.length - (i + 1), by omega, i + 1, rfl, by omega, by omega⟩
    · simp at hlt
      have hrows' : (tr.length : Int) ≤ (l.length : Int) := by omega
      simp
      refine CallQ.mk (Call.pure callable17 (by simp) (by simp) cr) ?_
      simp [hrows, hrows']
      refine CallQ.mk (Call.pure callable7 (by simp) (by simp) ck) ?_
      simp
theorem u16_nat {n : Int} (h : (Lit.int .u16 n).wf = true) : ∃ k : Nat, n = (k : Int) ∧ k ≤ 65535 := by
  have h' : 0 ≤ n ∧ n ≤ 65535 := by
    simpa [Lit.wf, IntKind.min, IntKind.max, IntKind.signed, IntKind.bits] using h
  exact ⟨n.toNat, by omega, by omega⟩
theorem lawSafe (n : Int) (l : List ByteArray) (h : (Lit.int .u16 n).wf = true) (hl : long9 l ≤ 67108864) : PCon C0 4 [.sc (.int .u16 n), .sc (.sl (l.map .str))] (.sc (.bool true)) := by
  obtain ⟨k, rfl, hk⟩ := u16_nat h
  exact conTblSafe k l hk hl
end Go.Proofs.YtabgeenhpfnhdaaDoor.Ev
end
