/- Of what the law EscapeFonts needs: part 14. -/
import Derived.ArgAppend
import Derived.Below
import Derived.BigQuiet
import Derived.Deep.AppendLies
import Derived.Deep.CutBlock
import Derived.Deep.DeepCutAuto
import Derived.Deep.Draws
import Derived.Deep.LoopGhost
import Derived.Deep.OwnRows
import Derived.Deep.QuietTactic
import Derived.Deep.RegionHeld3
import Derived.KernelRfl
import Derived.Laws.BitsLemmas
import Derived.Laws.BytesArg
import Derived.Laws.Cover4
import Derived.Laws.IdiomCopy
import Derived.Laws.MakeOwn
import Derived.Laws.OwnMore
import Derived.Laws.Rows
import Derived.Laws.Slices
import Derived.Laws.StructEq
import Derived.Lib.AppendStr
import Derived.Lib.ConvBytes
import Derived.Lib.RuneBytes
import Derived.Maps.AppendAt
import Derived.Maps.Own
import Derived.Maps.OwnOps
import Derived.Maps.OwnSet
import Derived.OrdersHeld
import Derived.OwnWalk
import Derived.RowKit
import Derived.RowKit3
import Derived.StringKeys
import Derived.Tactics
import Derived.Test.YtdogljnddalgdaaDoorProg
import Derived.WalkKit
import Derived.WalkMore
import Derived.WideLaws
import Derived.Test.YtdogljnddalgdaaDoorZFonts7
import Derived.Test.YtdogljnddalgdaaDoorZFonts9
import Derived.Test.YtdogljnddalgdaaDoorZFonts12
import Derived.Test.YtdogljnddalgdaaDoorZFonts13
namespace Go.Proofs.YtdogljnddalgdaaDoor
end Go.Proofs.YtdogljnddalgdaaDoor
namespace Go.Proofs.YtdogljnddalgdaaDoor.A4
end Go.Proofs.YtdogljnddalgdaaDoor.A4
namespace Go.Proofs.YtdogljnddalgdaaDoorW.PrintLast
end Go.Proofs.YtdogljnddalgdaaDoorW.PrintLast
namespace Go.Proofs.YtdogljnddalgdaaDoorW.PrintMore
end Go.Proofs.YtdogljnddalgdaaDoorW.PrintMore
namespace Go.Proofs.YtdogljnddalgdaaDoorW.PrintWords
end Go.Proofs.YtdogljnddalgdaaDoorW.PrintWords
section
namespace Go.Proofs.YtdogljnddalgdaaDoor.A4
open Go Go.RowKit Go.Proofs.YtdogljnddalgdaaDoor Go.Proofs.YtdogljnddalgdaaDoorW.PrintWords Go.Proofs.YtdogljnddalgdaaDoorW.PrintLast Go.Proofs.YtdogljnddalgdaaDoorW.PrintMore
def Bytes (l : List Int) : Prop := ∀ b ∈ l, 0 ≤ b ∧ b ≤ 255
theorem Bytes.drop {l : List Int} (h : Bytes l) (n : Nat) : Bytes (l.drop n) := fun b hb => h b (List.mem_of_mem_drop hb)
theorem bytesOf_Bytes (s : ByteArray) : Bytes (bytesOf s) := by
  intro b hb
  simp only [bytesOf, List.mem_map] at hb
  obtain ⟨x, _, rfl⟩ := hb
  have := x.toNat_lt
  omega
def lead (a : Int) : Nat × Int := if a < 128 then (1, a) else if 192 ≤ a ∧ a ≤ 223 then (2, a - 192) else if 224 ≤ a ∧ a ≤ 239 then (3, a - 224) else if 240 ≤ a ∧ a ≤ 247 then (4, a - 240) else (0, 0)
def gather : List Int → Int → Option Int
  | [], x => some x
  | b :: t, x => if 128 ≤ b ∧ b ≤ 191 then gather t (x * 64 + (b - 128)) else none
def sz (v : Int) : Int := if v < 128 then 1 else if v < 2048 then 2 else if v < 65536 then 3 else 4
def good : List Int → Option Int
  | [] => none
  | a :: t => if (lead a).1 = t.length + 1 then (gather t (lead a).2).bind fun v => if val v = true ∧ sz v = (t.length : Int) + 1 then some v else none else none
def d1 (a : Int) (t : List Int) : Int × Nat := if t.length + 1 < (lead a).1 then (65533, 1) else match good ((a :: t).take (lead a).1) with
  | some v => (v, (lead a).1)
  | none => (65533, 1)
def dec : List Int → List Int
  | [] => []
  | a :: t => (d1 a t).1 :: dec (t.drop ((d1 a t).2 - 1))
termination_by l => l.length
decreasing_by simp; omega
theorem lead_le (a : Int) : (lead a).1 ≤ 4 := by
  unfold lead
  repeat' split
  all_goals simp
theorem good_cons (a : Int) (t : List Int) : good (a :: t) = if (lead a).1 = t.length + 1 then (gather t (lead a).2).bind fun v => if val v = true ∧ sz v = (t.length : Int) + 1 then some v else none else none := rfl
theorem d1_pos (a : Int) (t : List Int) : 1 ≤ (d1 a t).2 ∧ (d1 a t).2 ≤ t.length + 1 := by
  unfold d1
  split
  · simp
  · rename_i h
    split
    · rename_i v hv
      simp only
      cases hm : (lead a).1 with
      | zero => rw [hm] at hv; simp [good] at hv
      | succ m => omega
    · simp
theorem dec_cons (a : Int) (t : List Int) : dec (a :: t) = (d1 a t).1 :: dec ((a :: t).drop (d1 a t).2) := by
  rw [dec]
  obtain ⟨m, hm⟩ : ∃ m, (d1 a t).2 = m + 1 := ⟨(d1 a t).2 - 1, by have := d1_pos a t; omega⟩
  rw [hm]
  rfl
theorem dec_nil : dec [] = [] := by rw [dec]
theorem dec_length : ∀ (n : Nat) (l : List Int), l.length ≤ n → (dec l).length ≤ l.length
  | _, [], _ => by rw [dec_nil]; exact Nat.le_refl _
  | 0, _ :: _, h => by simp at h
  | n + 1, a :: t, h => by
    rw [dec]
    have := dec_length n (t.drop ((d1 a t).2 - 1)) (by simp at h ⊢; omega)
    simp at this ⊢
    omega
theorem u8_224 (a : Int) (h0 : 0 ≤ a) (h1 : a ≤ 255) : Go.bits .and .u8 a 224 = 192 ↔ 192 ≤ a ∧ a ≤ 223 := by
  obtain ⟨m, rfl⟩ := Int.eq_ofNat_of_zero_le h0
  exact (show ∀ m : Nat, m < 256 → (Go.bits .and .u8 (m : Int) 224 = 192 ↔ 192 ≤ (m : Int) ∧ (m : Int) ≤ 223) by decide +kernel) m (by omega)
theorem u8_240 (a : Int) (h0 : 0 ≤ a) (h1 : a ≤ 255) : Go.bits .and .u8 a 240 = 224 ↔ 224 ≤ a ∧ a ≤ 239 := by
  obtain ⟨m, rfl⟩ := Int.eq_ofNat_of_zero_le h0
  exact (show ∀ m : Nat, m < 256 → (Go.bits .and .u8 (m : Int) 240 = 224 ↔ 224 ≤ (m : Int) ∧ (m : Int) ≤ 239) by decide +kernel) m (by omega)
theorem u8_248 (a : Int) (h0 : 0 ≤ a) (h1 : a ≤ 255) : Go.bits .and .u8 a 248 = 240 ↔ 240 ≤ a ∧ a ≤ 247 := by
  obtain ⟨m, rfl⟩ := Int.eq_ofNat_of_zero_le h0
  exact (show ∀ m : Nat, m < 256 → (Go.bits .and .u8 (m : Int) 248 = 240 ↔ 240 ≤ (m : Int) ∧ (m : Int) ≤ 247) by decide +kernel) m (by omega)
theorem u8_192 (a : Int) (h0 : 0 ≤ a) (h1 : a ≤ 255) : Go.bits .and .u8 a 192 = 128 ↔ 128 ≤ a ∧ a ≤ 191 := by
  obtain ⟨m, rfl⟩ := Int.eq_ofNat_of_zero_le h0
  exact (show ∀ m : Nat, m < 256 → (Go.bits .and .u8 (m : Int) 192 = 128 ↔ 128 ≤ (m : Int) ∧ (m : Int) ≤ 191) by decide +kernel) m (by omega)
def gb : Nat → Int
  | 0 => 4194304
  | n + 1 => gb n / 64
theorem gb_le : ∀ n, 0 ≤ gb n ∧ gb n ≤ 4194304
  | 0 => by simp [gb]
  | n + 1 => by have := gb_le n; simp only [gb]; omega
theorem size_is (v : Int) : runes_size.f v = some (sz v) := by
  unfold runes_size.f sz
  repeat' split
  all_goals rfl
theorem Ev_first_l0 (xs : List Int) (hB : Bytes xs) (hl : xs.length ≤ 4) (m : Int) : ∀ (n i : Nat) (x : Int), i + n = xs.length → 0 ≤ x → x < gb n →
    Ev (fun k => runes_first.l0 k m x xs (xs.length : Int) (i : Int)) (match gather (xs.drop i) x with | none => (65533, 1) | some v => if val v = true ∧ sz v = m then (v, m) else (65533, 1))
  | 0, i, x, h, h0, h1 => by
    refine Ev.succ ?_
    simp only [runes_first.l0]
    rw [List.drop_eq_nil_of_le (by omega)]
    refine Ev.neg (by omega) (Ev.const_bind (runes_Valid_is _) ?_)
    simp only [gather]
    by_cases hv : val x = true
    · refine Ev.pos hv (Ev.const_bind (size_is _) ?_)
      by_cases hz : sz x = m
      · exact Ev.pos hz (Ev.val (if_pos (And.intro hv hz)).symm)
      · exact Ev.neg hz (Ev.val (if_neg (c := val x = true ∧ sz x = m) (fun h => hz h.2)).symm)
    · exact Ev.neg hv (Ev.val (if_neg (c := val x = true ∧ sz x = m) (fun h => hv h.1)).symm)
  | n + 1, i, x, h, h0, h1 => by
    have hg := gb_le n
    simp only [gb] at h1
    have hi : i < xs.length := by omega
    refine Ev.succ ?_
    simp only [runes_first.l0]
    rw [List.drop_eq_getElem_cons hi, rd_get xs i hi]
    have hb := hB _ (List.getElem_mem hi)
    generalize xs[i] = b at *
    refine Ev.pos (by omega) (Ev.pos (by omega) (Ev.pos (by omega) ?_))
    simp only [gather]
    by_cases hc : 128 ≤ b ∧ b ≤ 191
    · refine Ev.pos ((u8_192 b hb.1 hb.2).mpr hc) ?_
      rw [if_pos hc, u8_and63 _ hb.1 (by omega), w32 (n := x * 64) (by omega) (by omega), w32 (n := b % 64) (by omega) (by omega), i32_or6 _ _ (by omega) (by omega) (by omega) (by omega) (by omega),
        show x * 64 + b % 64 = x * 64 + (b - 128) by omega, w64 (by omega) (by omega)]
      exact Ev_first_l0 xs hB hl m n (i + 1) _ (by omega) (by omega) (by omega)
    · refine Ev.neg (fun h => hc ((u8_192 b hb.1 hb.2).mp h)) ?_
      rw [if_neg hc]
      exact Ev.now _
theorem d1_bad {a : Int} {t : List Int} (h : (lead a).1 = 0 ∨ t.length + 1 < (lead a).1) : d1 a t = (65533, 1) := by
  unfold d1
  split
  · rfl
  · rcases h with h | h
    · rw [h]; rfl
    · omega
theorem d1_many {a : Int} {t : List Int} {m : Nat} (h : (lead a).1 = m + 1) (hl : m + 1 ≤ t.length + 1) : d1 a t = match gather (t.take m) (lead a).2 with
    | none => (65533, 1)
    | some v => if val v = true ∧ sz v = (m : Int) + 1 then (v, m + 1) else (65533, 1) := by
  unfold d1
  rw [if_neg (by omega), h, List.take_succ_cons]
  have hm : (t.take m).length = m := by rw [List.length_take]; omega
  rw [good_cons, if_pos (by rw [hm]; exact h), hm]
  cases gather (t.take m) (lead a).2 with
  | none => rfl
  | some v =>
    simp only [Option.bind_some]
    by_cases hv : val v = true ∧ sz v = (m : Int) + 1
    · simp only [if_pos hv]
    · simp only [if_neg hv]
theorem Ev_first_j (a : Int) (t : List Int) (hB : Bytes (a :: t)) (m : Nat) (hm : (lead a).1 = m) (hm1 : m ≠ 1) (x : Int) (hx : x = (lead a).2) (h0 : 0 ≤ x) (h1 : m ≠ 0 → x < gb (m - 1)) :
    Ev (fun k => runes_first.j0 k (a :: t) (m : Int) x) ((d1 a t).1, ((d1 a t).2 : Int)) := by
  have hm4 : m ≤ 4 := hm ▸ lead_le a
  have bad : (lead a).1 = 0 ∨ t.length + 1 < (lead a).1 → Ev (fun k => runes_first.j1 k (a :: t) (m : Int) x true) ((d1 a t).1, ((d1 a t).2 : Int)) := by
    intro hb
    rw [d1_bad hb]
    refine Ev.succ ?_
    simp only [runes_first.j1, reduceIte]
    exact Ev.now _
  refine Ev.succ ?_
  simp only [runes_first.j0]
  by_cases hz : m = 0
  · exact Ev.pos (by omega) (bad (.inl (by omega)))
  refine Ev.neg (by omega) ?_
  by_cases hl : t.length + 1 < m
  · rw [show decide ((((a :: t).length : Nat) : Int) < (m : Int)) = true by simp; omega]
    exact bad (.inr (by omega))
  rw [show decide ((((a :: t).length : Nat) : Int) < (m : Int)) = false by simp; omega]
  refine Ev.succ ?_
  simp only [runes_first.j1, Bool.false_eq_true, reduceIte]
  obtain ⟨n, rfl⟩ : ∃ n, m = n + 1 := ⟨m - 1, by omega⟩
  refine Ev.pos (by omega) (Ev.pos (by simp; omega) ?_)
  rw [show (((n + 1 : Nat) : Int)).toNat = n + 1 from rfl, List.take_succ_cons, show ((a :: t.take n).drop 1) = t.take n from rfl]
  have hn : (t.take n).length = n := by rw [List.length_take]; omega
  have hBt : Bytes (t.take n) := fun b hb => hB b (List.mem_cons_of_mem _ (List.mem_of_mem_take hb))
  have e := Ev_first_l0 (t.take n) hBt (by omega) ((n + 1 : Nat) : Int) n 0 x (by omega) h0 (h1 hz)
  refine Ev_eq e ?_
  rw [d1_many hm (by omega), List.drop_zero, hx]
  cases gather (t.take n) (lead a).2 with
  | none => rfl
  | some v =>
    simp only
    by_cases hv : val v = true ∧ sz v = (n : Int) + 1
    · rw [if_pos hv, if_pos (by simpa using hv)]
    · rw [if_neg hv, if_neg (by simpa using hv)]
      rfl
theorem Ev_first (a : Int) (t : List Int) (hB : Bytes (a :: t)) : Ev (fun k => runes_first.f k (a :: t)) ((d1 a t).1, ((d1 a t).2 : Int)) := by
  have ha := hB a List.mem_cons_self
  unfold runes_first.f
  simp only [show rd (a :: t) 0 = a from rfl]
  refine Ev.pos (by simp only [List.length_cons]; omega) ?_
  by_cases h1 : a < 128
  · refine Ev.pos h1 (Ev.val ?_)
    have e : lead a = (1, a) := if_pos h1
    rw [d1_many (m := 0) (by rw [e]) (by omega), w32 (by omega) (by omega), e]
    simp only [List.take_zero, gather]
    rw [if_pos]
    · rfl
    · unfold val sz; rw [if_pos h1]; simp; omega
  refine Ev.neg h1 ?_
  by_cases h2 : 192 ≤ a ∧ a ≤ 223
  · refine Ev.pos ((u8_224 a ha.1 ha.2).mpr h2) ?_
    have e : lead a = (2, a - 192) := by unfold lead; rw [if_neg h1, if_pos h2]
    rw [u8_and31 _ ha.1 (by omega), w32 (by omega) (by omega)]
    exact Ev_first_j a t hB 2 (by rw [e]) (by omega) _ (by rw [e]; simp only; omega) (by omega) (fun _ => by simp only [gb]; omega)
  refine Ev.neg (fun h => h2 ((u8_224 a ha.1 ha.2).mp h)) ?_
  by_cases h3 : 224 ≤ a ∧ a ≤ 239
  · refine Ev.pos ((u8_240 a ha.1 ha.2).mpr h3) ?_
    have e : lead a = (3, a - 224) := by unfold lead; rw [if_neg h1, if_neg h2, if_pos h3]
    rw [u8_and15 _ ha.1 (by omega), w32 (by omega) (by omega)]
    exact Ev_first_j a t hB 3 (by rw [e]) (by omega) _ (by rw [e]; simp only; omega) (by omega) (fun _ => by simp only [gb]; omega)
  refine Ev.neg (fun h => h3 ((u8_240 a ha.1 ha.2).mp h)) ?_
  by_cases h4 : 240 ≤ a ∧ a ≤ 247
  · refine Ev.pos ((u8_248 a ha.1 ha.2).mpr h4) ?_
    have e : lead a = (4, a - 240) := by unfold lead; rw [if_neg h1, if_neg h2, if_neg h3, if_pos h4]
    rw [u8_and7 _ ha.1 (by omega), w32 (by omega) (by omega)]
    exact Ev_first_j a t hB 4 (by rw [e]) (by omega) _ (by rw [e]; simp only; omega) (by omega) (fun _ => by simp only [gb]; omega)
  refine Ev.neg (fun h => h4 ((u8_248 a ha.1 ha.2).mp h)) ?_
  have e : lead a = (0, 0) := by unfold lead; rw [if_neg h1, if_neg h2, if_neg h3, if_neg h4]
  exact Ev_first_j a t hB 0 (by rw [e]) (by omega) _ (by rw [e]) (by omega) (fun h => absurd rfl h)
theorem Ev_Decode_l0 : ∀ (n : Nat) (l acc : List Int), l.length ≤ n → Bytes l → acc.length + l.length ≤ 35184372088831 → Ev (fun k => runes_Decode.l0 k l acc) (acc ++ dec l)
  | _, [], acc, _, _, _ => by
    refine Ev.succ ?_
    simp only [runes_Decode.l0]
    rw [dec_nil, List.append_nil]
    exact Ev.neg (by simp) (Ev.now _)
  | 0, _ :: _, _, h, _, _ => by simp at h
  | n + 1, a :: t, acc, h, hB, hL => by
    have hp := d1_pos a t
    refine Ev.succ ?_
    simp only [runes_Decode.l0]
    simp only [List.length_cons] at h hL
    refine Ev.pos (by simp only [List.length_cons]; omega) (Ev.bind (Ev_first a t hB) (Ev.pos (by omega) (Ev.pos (by simp only; omega) (Ev.pos (by simp; omega) ?_))))
    refine Ev_eq (Ev_Decode_l0 n _ _ (by rw [List.length_drop]; simp only [List.length_cons]; omega) (hB.drop _) (by rw [List.length_drop, List.length_append]; simp only [List.length_cons, List.length_nil]; omega)) ?_
    rw [dec_cons, List.append_assoc]
    rfl
theorem Ev_Decode (l : List Int) (hB : Bytes l) (hL : l.length ≤ 35184372088831) : Ev (fun k => runes_Decode.f k l) (dec l) := by
  unfold runes_Decode.f
  exact Ev_eq (Ev_Decode_l0 _ l [] (Nat.le_refl _) hB (by simpa using hL)) (List.nil_append _)
end Go.Proofs.YtdogljnddalgdaaDoor.A4
end
section
namespace Go.Proofs.YtdogljnddalgdaaDoor.A4
open Go Go.RowKit Go.Proofs.YtdogljnddalgdaaDoor Go.Proofs.YtdogljnddalgdaaDoorW.PrintWords Go.Proofs.YtdogljnddalgdaaDoorW.PrintLast Go.Proofs.YtdogljnddalgdaaDoorW.PrintMore
open Go.Lib (encodeRuneZ encodeRuneZ_one encodeRuneZ_two encodeRuneZ_three encodeRuneZ_four encodeRuneZ_bad encodeRuneZ_byte encodeRuneZ_length)
theorem val_iff (c : Int) : val c = true ↔ 0 ≤ c ∧ c ≤ 1114111 ∧ (c < 55296 ∨ 57343 < c) := by unfold val; simp
def gatherV : List Int → Int → Int
  | [], x => x
  | b :: t, x => gatherV t (x * 64 + b - 128)
def off (n : Nat) : Int := if n = 1 then 192 else if n = 2 then 224 else if n = 3 then 240 else 0
def value : List Int → Int
  | [] => 0
  | a :: t => gatherV t (a - off t.length)
theorem enc_cases (v : Int) (hv : val v = true) : (v < 128 ∧ encodeRuneZ v = [v]) ∨ (128 ≤ v ∧ v < 2048 ∧ encodeRuneZ v = [192 + v / 64, 128 + v % 64]) ∨ (2048 ≤ v ∧ v < 65536 ∧ encodeRuneZ v = [224 + v / 4096, 128 + v / 64 % 64, 128 + v % 64]) ∨ (65536 ≤ v ∧ encodeRuneZ v = [240 + v / 262144, 128 + v / 4096 % 64, 128 + v / 64 % 64, 128 + v % 64]) := by
  have h := (val_iff v).mp hv
  by_cases h1 : v < 128
  · exact .inl ⟨h1, encodeRuneZ_one h.1 (by omega)⟩
  by_cases h2 : v < 2048
  · exact .inr (.inl ⟨by omega, h2, encodeRuneZ_two (by omega) (by omega)⟩)
  by_cases h3 : v < 65536
  · exact .inr (.inr (.inl ⟨by omega, h3, encodeRuneZ_three (by omega)⟩))
  · exact .inr (.inr (.inr ⟨by omega, encodeRuneZ_four (by omega) (by omega)⟩))
end Go.Proofs.YtdogljnddalgdaaDoor.A4
end
section
namespace Go.Proofs.YtdogljnddalgdaaDoor.A4
open Go Go.RowKit Go.Proofs.YtdogljnddalgdaaDoor Go.Proofs.YtdogljnddalgdaaDoorW.PrintWords Go.Proofs.YtdogljnddalgdaaDoorW.PrintLast Go.Proofs.YtdogljnddalgdaaDoorW.PrintMore
open Go.Lib (encodeRuneZ encodeRuneZ_one encodeRuneZ_two encodeRuneZ_three encodeRuneZ_four encodeRuneZ_bad encodeRuneZ_byte encodeRuneZ_length)
theorem sl (l : List Int) (i n : Nat) : (l.take (i + n)).drop i = (l.drop i).take n := by rw [List.drop_take]; congr 1; omega
def enc (l : List Int) : List Int := l.flatMap encodeRuneZ
theorem encode_eq (c : Int) : (Utf8.encode c).data.toList = (strOfNums (encodeRuneZ c)).data.toList := by
  rw [strOfNums_data]
  unfold Utf8.encode
  by_cases hv : val c = true
  · have hv2 : Utf8.valid c = true := by rw [val_iff] at hv; unfold Utf8.valid; simp; omega
    have hr := (val_iff c).mp hv
    rw [if_pos hv2]
    obtain ⟨m, rfl⟩ := Int.eq_ofNat_of_zero_le hr.1
    simp only [Int.toNat_natCast]
    rcases enc_cases _ hv with ⟨h1, e⟩ | ⟨h1, h2, e⟩ | ⟨h1, h2, e⟩ | ⟨h1, e⟩
    · rw [e, if_pos (by omega)]; simp
    · rw [e, if_neg (by omega), if_pos (by omega)]
      simp only [List.map_cons, List.map_nil]
      rw [show (192 + (m : Int) / 64).toNat = 0xC0 + m / 64 by omega, show (128 + (m : Int) % 64).toNat = 0x80 + m % 64 by omega]
    · rw [e, if_neg (by omega), if_neg (by omega), if_pos (by omega)]
      simp only [List.map_cons, List.map_nil]
      rw [show (224 + (m : Int) / 4096).toNat = 0xE0 + m / 4096 by omega, show (128 + (m : Int) / 64 % 64).toNat = 0x80 + m / 64 % 64 by omega, show (128 + (m : Int) % 64).toNat = 0x80 + m % 64 by omega]
    · rw [e, if_neg (by omega), if_neg (by omega), if_neg (by omega)]
      simp only [List.map_cons, List.map_nil]
      rw [show (240 + (m : Int) / 262144).toNat = 0xF0 + m / 262144 by omega, show (128 + (m : Int) / 4096 % 64).toNat = 0x80 + m / 4096 % 64 by omega, show (128 + (m : Int) / 64 % 64).toNat = 0x80 + m / 64 % 64 by omega, show (128 + (m : Int) % 64).toNat = 0x80 + m % 64 by omega]
  · have hv2 : ¬ Utf8.valid c = true := by rw [val_iff] at hv; unfold Utf8.valid; simp; omega
    rw [if_neg hv2, encodeRuneZ_bad (by rw [val_iff] at hv; omega)]
    rfl
theorem runesBytes_data (l : List Int) : (runesBytes l).data.toList = (strOfNums (enc l)).data.toList := by
  have g : ∀ (l : List Int) (s : ByteArray), (l.foldl (fun r n => r ++ Utf8.encode n) s).data.toList = s.data.toList ++ (strOfNums (enc l)).data.toList := by
    intro l
    induction l with
    | nil => intro s; simp [enc, strOfNums]
    | cons c l ih =>
      intro s
      rw [List.foldl_cons, ih, ByteArray.data_append, Array.toList_append, encode_eq]
      simp only [strOfNums_data, enc, List.flatMap_cons, List.map_append, List.append_assoc]
  unfold runesBytes
  rw [g]
  rfl
end Go.Proofs.YtdogljnddalgdaaDoor.A4
end
section
namespace Go.Proofs.YtdogljnddalgdaaDoor.A4
open Go Go.RowKit Go.Proofs.YtdogljnddalgdaaDoor Go.Proofs.YtdogljnddalgdaaDoorW.PrintWords Go.Proofs.YtdogljnddalgdaaDoorW.PrintLast Go.Proofs.YtdogljnddalgdaaDoorW.PrintMore
def idx : List Int → Option Nat
  | [] => none
  | c :: t => if c = 93 then some 0 else (idx t).map (· + 1)
def nameS : List Int → Option (ByteArray × Nat)
  | [] => none
  | c :: t => if c = 91 then (idx t).map fun e => (runesBytes (t.take e), e + 2)
    else if c = 40 then (match t with | a :: b :: _ => some (runesBytes [a, b], 3) | _ => none)
    else some (runesBytes [c], 1)
def told (v : Option (ByteArray × Nat)) (f : ByteArray → Int) (kind : Int) (q : Int) (more : Nat) : Option Nat × List S38 × List S41 := match v with
  | none => (none, [], [⟨1, 0, q⟩])
  | some (x, n) => if 0 ≤ f x then (some (n + more), [⟨kind, f x⟩], []) else (some (n + more), [], [⟨2, 0, q⟩])
def escS (q : Int) : List Int → Option Nat × List S38 × List S41
  | [] => (none, [], [⟨1, 0, q⟩])
  | c :: t => if c = 92 ∨ c = 101 then (some 1, [⟨1, 92⟩], [])
    else if c = 45 ∨ c = 46 then (some 1, [⟨1, c⟩], [])
    else if c = 39 then (some 1, [⟨1, 180⟩], [])
    else if c = 96 then (some 1, [⟨1, c⟩], [])
    else if c = 32 ∨ c = 126 ∨ c = 48 then (some 1, [⟨1, 160⟩], [])
    else if c = 38 ∨ c = 37 ∨ c = 47 ∨ c = 44 ∨ c = 58 then (some 1, [], [])
    else if c = 34 then (none, [], [])
    else if c = 40 ∨ c = 91 then told (nameS (c :: t)) nameSpec 1 q 0
    else if c = 102 then told (nameS t) fontSpec 3 q 1
    else (some 1, [], [⟨1, 0, q⟩])
def scanS : Nat → Int → List Int → List S38 × List S41
  | 0, _, _ => ([], [])
  | _ + 1, _, [] => ([], [])
  | n + 1, p, c :: t => if c = 32 ∨ c = 9 then (⟨2, 0⟩ :: (scanS n (p + 1) t).1, (scanS n (p + 1) t).2)
    else if c = 92 then (match (escS (p + 1) t).1 with
      | none => (escS (p + 1) t).2
      | some m => ((escS (p + 1) t).2.1 ++ (scanS n (p + 1 + m) (t.drop m)).1, (escS (p + 1) t).2.2 ++ (scanS n (p + 1 + m) (t.drop m)).2))
    else if ctl c = true then (⟨1, 65533⟩ :: (scanS n (p + 1) t).1, ⟨3, 0, p + 1⟩ :: (scanS n (p + 1) t).2)
    else (⟨1, c⟩ :: (scanS n (p + 1) t).1, (scanS n (p + 1) t).2)
theorem idx_lt : ∀ (l : List Int) {e : Nat}, idx l = some e → e < l.length
  | [], _, h => by cases h
  | c :: t, e, h => by
    unfold idx at h
    split at h
    · cases h; simp
    · obtain ⟨e', h1, rfl⟩ := Option.map_eq_some_iff.mp h
      have := idx_lt t h1
      simp; omega
theorem Ev_Index_l0 (l : List Int) (hl : l.length ≤ 35184372088831) : ∀ (n i : Nat), i + n = l.length → Ev (fun k => slices_Index_rune_rune.l0 k l 93 (l.length : Int) (i : Int)) (match idx (l.drop i) with | none => -1 | some e => ((i + e : Nat) : Int))
  | 0, i, h => by
    refine Ev.succ ?_
    simp only [slices_Index_rune_rune.l0]
    rw [List.drop_eq_nil_of_le (by omega)]
    exact Ev.neg (by omega) (Ev.now _)
  | n + 1, i, h => by
    have hi : i < l.length := by omega
    refine Ev.succ ?_
    simp only [slices_Index_rune_rune.l0]
    rw [List.drop_eq_getElem_cons hi, rd_get l i hi]
    generalize l[i] = c
    refine Ev.pos (by omega) (Ev.pos (by omega) (Ev.pos (by omega) ?_))
    simp only [idx]
    by_cases hc : c = 93
    · refine Ev.pos hc.symm ?_
      rw [if_pos hc]
      exact Ev.now _
    · refine Ev.neg (fun e => hc e.symm) ?_
      rw [if_neg hc, w64 (by omega) (by omega)]
      refine Ev_eq (Ev_Index_l0 l hl n (i + 1) (by omega)) ?_
      cases idx (l.drop (i + 1)) with
      | none => rfl
      | some e => simp only [Option.map_some]; omega
theorem Ev_Index (l : List Int) (hl : l.length ≤ 35184372088831) : Ev (fun k => slices_Index_rune_rune.f k l 93) (match idx l with | none => -1 | some e => (e : Int)) := by
  unfold slices_Index_rune_rune.f
  refine Ev_eq (Ev_Index_l0 l hl l.length 0 (by omega)) ?_
  rw [List.drop_zero]
  cases idx l with
  | none => rfl
  | some e => simp
theorem rd_at {l : List Int} {p : Nat} {c : Int} {t : List Int} (h : l.drop p = c :: t) : p < l.length ∧ rd l (p : Int) = c ∧ l.drop (p + 1) = t ∧ t.length + 1 + p = l.length := by
  have hl : p < l.length := by
    rcases Nat.lt_or_ge p l.length with h1 | h1
    · exact h1
    · rw [List.drop_eq_nil_of_le h1] at h; cases h
  rw [List.drop_eq_getElem_cons hl] at h
  injection h with h1 h2
  refine ⟨hl, by rw [rd_get l p hl, h1], h2, ?_⟩
  rw [← h2, List.length_drop]; omega
theorem rd_end {l : List Int} {p : Nat} (h : l.drop p = []) (hp : p ≤ l.length) : p = l.length := by
  have := congrArg List.length h
  rw [List.length_drop] at this
  simp at this; omega
theorem Ev_rd_name (l : List Int) (hl : l.length ≤ 1000000) (p : Nat) (hp : p ≤ l.length) (one : Bool) (ho : one = true ∨ ∃ c t, l.drop p = c :: t ∧ (c = 91 ∨ c = 40)) :
    ∃ q : Int, Ev (fun k => rd_name k l (p : Int) one) (match nameS (l.drop p) with | none => (⟨#[]⟩, false, q) | some (x, n) => (x, true, ((p + n : Nat) : Int))) := by
  unfold rd_name
  cases hd : l.drop p with
  | nil =>
    have := rd_end hd hp
    exact ⟨_, Ev.pos (by omega) (Ev.now _)⟩
  | cons c t =>
    obtain ⟨h1, h2, h3, h4⟩ := rd_at hd
    rw [hd] at ho
    simp only [h2, Int.toNat_natCast, hd]
    by_cases h91 : c = 91
    · refine ⟨p, Ev.neg (by omega) (Ev.pos h91 ?_)⟩
      refine Ev.bind (Ev_Index (c :: t) (by simp only [List.length_cons]; omega)) ?_
      have e : idx (c :: t) = (idx t).map (· + 1) := if_neg (by omega)
      rw [e]
      simp only [nameS, if_pos h91]
      cases hi : idx t with
      | none => exact Ev.pos (by simp) (Ev.now _)
      | some e =>
        have := idx_lt t hi
        simp only [Option.map_some]
        refine Ev.neg (by omega) (Ev.pos (by simp only [List.length_cons]; omega) (Ev.val ?_))
        rw [Int.toNat_natCast, List.take_succ_cons]
        simp only [List.drop_succ_cons, List.drop_zero]
        congr 2
    by_cases h40 : c = 40
    · refine ⟨((p + 1 : Nat) : Int), Ev.neg (by omega) (Ev.neg h91 (Ev.pos h40 ?_))⟩
      simp only [nameS, if_neg h91, if_pos h40]
      match t, h3, h4 with
      | [], _, h4 =>
        simp only [List.length_nil] at h4
        exact Ev.pos (by omega) (Ev.val (by simp))
      | [a], _, h4 =>
        simp only [List.length_cons, List.length_nil] at h4
        exact Ev.pos (by omega) (Ev.val (by simp))
      | a :: b :: r, h3, h4 =>
        simp only [List.length_cons] at h4
        refine Ev.neg (by omega) (Ev.val ?_)
        rw [show ((p : Int) + 1 + 2).toNat = p + 1 + 2 by omega, show ((p : Int) + 1).toNat = p + 1 by omega, sl, h3]
        simp only [List.take_succ_cons, List.take_zero]
        congr 2
    · have h1' : one = true := by
        rcases ho with h | ⟨c', t', h, h'⟩
        · exact h
        · cases h; omega
      refine ⟨p, Ev.neg (by omega) (Ev.neg h91 (Ev.neg h40 (Ev.pos h1' (Ev.val ?_))))⟩
      simp only [nameS, if_neg h91, if_neg h40]
      rw [show ((p : Int) + 1).toNat = p + 1 by omega, sl, hd]
      simp only [List.take_succ_cons, List.take_zero]
      congr 2
theorem runesBytes_le {l : List Int} (h : l.length ≤ 1000000) : (runesBytes l).size ≤ 9223372036854775807 := by
  have := runesBytes_size_le l
  omega
theorem nameS_size {l : List Int} (h : l.length ≤ 1000000) {x : ByteArray} {n : Nat} (hn : nameS l = some (x, n)) : x.size ≤ 9223372036854775807 ∧ 1 ≤ n ∧ n ≤ l.length := by
  match l, h, hn with
  | [], _, hn => cases hn
  | c :: t, h, hn =>
    simp only [List.length_cons] at h
    simp only [nameS] at hn
    split at hn
    · obtain ⟨e, h1, h2⟩ := Option.map_eq_some_iff.mp hn
      cases h2
      have := idx_lt t h1
      exact ⟨runesBytes_le (by rw [List.length_take]; omega), by omega, by simp only [List.length_cons]; omega⟩
    · split at hn
      · split at hn
        · cases hn
          exact ⟨runesBytes_le (by simp), by omega, by simp⟩
        · cases hn
      · cases hn
        exact ⟨runesBytes_le (by simp), by omega, by simp⟩
def onto (xs : List S38) (ys : List S41) (p : Nat) (q : Int) (t : Option Nat × List S38 × List S41) : Bool × Int × List S38 × List S41 := match t.1 with
  | none => (false, q, xs ++ t.2.1, ys ++ t.2.2)
  | some m => (true, ((p + m : Nat) : Int), xs ++ t.2.1, ys ++ t.2.2)
theorem Ev_rd_named (l : List Int) (hl : l.length ≤ 1000000) (p : Nat) (hp : p ≤ l.length) (xs : List S38) (ys : List S41) (font : Bool) (ho : font = true ∨ ∃ c t, l.drop p = c :: t ∧ (c = 91 ∨ c = 40)) (f : Int) (hf : 0 ≤ f) (hf2 : f ≤ 1000000) :
    ∃ q : Int, Ev (fun k => rd_named k l (p : Int) xs ys font f) (onto xs ys p q (told (nameS (l.drop p)) (if font = true then fontSpec else nameSpec) (if font = true then 3 else 1) (f + 1) 0)) := by
  obtain ⟨q, hq⟩ := Ev_rd_name l hl p hp font ho
  refine ⟨q, ?_⟩
  unfold rd_named
  refine Ev.bind hq ?_
  rw [w64 (by omega) (by omega)]
  cases hn : nameS (l.drop p) with
  | none =>
    simp only [told, onto, List.append_nil]
    exact Ev.neg (by simp) (Ev.now _)
  | some v =>
    obtain ⟨x, n⟩ := v
    have hx := nameS_size (by rw [List.length_drop]; omega) hn
    simp only [told]
    refine Ev.pos trivial ?_
    cases font with
    | true =>
      simp only [reduceIte]
      refine Ev.const_bind (Font_is x hx.1) ?_
      by_cases h0 : 0 ≤ fontSpec x
      · simp only [if_pos h0, onto, List.append_nil, Nat.add_zero]
        exact Ev.pos trivial (Ev.now _)
      · simp only [if_neg h0, onto, List.append_nil, Nat.add_zero]
        exact Ev.neg (by simp) (Ev.now _)
    | false =>
      simp only [Bool.false_eq_true, reduceIte]
      refine Ev.bind (Ev_Name x hx.1) ?_
      by_cases h0 : 0 ≤ nameSpec x
      · simp only [if_pos h0, onto, List.append_nil, Nat.add_zero]
        exact Ev.pos trivial (Ev.now _)
      · simp only [if_neg h0, onto, List.append_nil, Nat.add_zero]
        exact Ev.neg (by simp) (Ev.now _)
theorem Ev_rd_escape (l : List Int) (hl : l.length ≤ 1000000) (p : Nat) (hp : p ≤ l.length) (xs : List S38) (ys : List S41) (f : Int) (hf : 0 ≤ f) (hf2 : f ≤ 1000000) :
    ∃ q : Int, Ev (fun k => rd_escape k l (p : Int) xs ys f) (onto xs ys p q (escS (f + 1) (l.drop p))) := by
  unfold rd_escape
  rw [w64 (n := f + 1) (by omega) (by omega)]
  cases hd : l.drop p with
  | nil =>
    have := rd_end hd hp
    refine ⟨p, Ev.pos (by omega) (Ev.val ?_)⟩
    simp [escS, onto]
  | cons c t =>
    obtain ⟨h1, h2, h3, h4⟩ := rd_at hd
    simp only [h2]
    have base : ¬ (p : Int) = (l.length : Int) := by omega
    simp only [if_neg base]
    simp only [escS]
    have one : ∀ (o : List S38) (e : List S41), ∃ q : Int, Ev (fun _ => some (true, (p : Int) + 1, xs ++ o, ys ++ e)) (onto xs ys p q (some 1, o, e)) := fun o e => ⟨0, Ev.val (by simp [onto])⟩
    by_cases a1 : c = 92 ∨ c = 101
    · simp only [if_pos a1]
      exact ⟨0, Ev.val (by simp [onto])⟩
    simp only [if_neg a1]
    by_cases a2 : c = 45 ∨ c = 46
    · simp only [if_pos a2]
      exact ⟨0, Ev.val (by simp [onto])⟩
    simp only [if_neg a2]
    by_cases a3 : c = 39
    · simp only [if_pos a3]
      exact ⟨0, Ev.val (by simp [onto])⟩
    simp only [if_neg a3]
    by_cases a4 : c = 96
    · simp only [if_pos a4]
      exact ⟨0, Ev.val (by simp [onto])⟩
    simp only [if_neg a4]
    by_cases a5 : c = 32 ∨ c = 126 ∨ c = 48
    · simp only [if_pos a5]
      exact ⟨0, Ev.val (by simp [onto])⟩
    simp only [if_neg a5]
    by_cases a6 : c = 38 ∨ c = 37 ∨ c = 47 ∨ c = 44 ∨ c = 58
    · simp only [if_pos a6]
      exact ⟨0, Ev.val (by simp [onto])⟩
    simp only [if_neg a6]
    by_cases a7 : c = 34
    · simp only [if_pos a7]
      exact ⟨(p : Int) + 1, Ev.val (by simp [onto])⟩
    simp only [if_neg a7]
    by_cases a8 : c = 40 ∨ c = 91
    · simp only [if_pos a8]
      obtain ⟨q, hq⟩ := Ev_rd_named l hl p hp xs ys false (.inr ⟨c, t, hd, a8.symm⟩) f hf hf2
      rw [hd] at hq
      exact ⟨q, hq⟩
    simp only [if_neg a8]
    by_cases a9 : c = 102
    · simp only [if_pos a9]
      obtain ⟨q, hq⟩ := Ev_rd_named l hl (p + 1) (by omega) xs ys true (.inl rfl) f hf hf2
      rw [h3] at hq
      refine ⟨q, Ev_eq hq ?_⟩
      simp only [reduceIte]
      cases nameS t with
      | none => rfl
      | some v =>
        obtain ⟨x, n⟩ := v
        simp only [told]
        by_cases h0 : 0 ≤ fontSpec x
        · simp only [if_pos h0, onto]
          rw [show p + 1 + (n + 0) = p + (n + 1) by omega]
        · simp only [if_neg h0, onto]
          rw [show p + 1 + (n + 0) = p + (n + 1) by omega]
    simp only [if_neg a9]
    exact ⟨0, Ev.val (by simp [onto])⟩
theorem told_small {v : Option (ByteArray × Nat)} {f : ByteArray → Int} {kind q : Int} {more : Nat} : (told v f kind q more).2.1.length ≤ 1 ∧ (told v f kind q more).2.2.length ≤ 1 := by
  cases v with
  | none => simp [told]
  | some w =>
    obtain ⟨x, n⟩ := w
    simp only [told]
    split <;> simp
theorem told_next {v : Option (ByteArray × Nat)} {f : ByteArray → Int} {kind q : Int} {more m : Nat} (h : (told v f kind q more).1 = some m) : ∃ x n, v = some (x, n) ∧ m = n + more := by
  cases v with
  | none => simp [told] at h
  | some w =>
    obtain ⟨x, n⟩ := w
    simp only [told] at h
    split at h <;> (simp at h; exact ⟨x, n, rfl, h.symm⟩)
theorem escS_small (q : Int) (r : List Int) : (escS q r).2.1.length ≤ 1 ∧ (escS q r).2.2.length ≤ 1 := by
  cases r with
  | nil => simp [escS]
  | cons c t =>
    simp only [escS]
    repeat' split
    all_goals first | exact told_small | simp
theorem escS_next (q : Int) (r : List Int) (hr : r.length ≤ 1000000) {m : Nat} (h : (escS q r).1 = some m) : 1 ≤ m ∧ m ≤ r.length := by
  cases r with
  | nil => simp [escS] at h
  | cons c t =>
    simp only [List.length_cons] at hr ⊢
    simp only [escS] at h
    repeat' split at h
    all_goals first
      | (obtain ⟨x, n, e, rfl⟩ := told_next h
         have := nameS_size (by first | assumption | (simp only [List.length_cons]; omega) | omega) e
         try simp only [List.length_cons] at this
         omega)
      | (cases h <;> omega)
theorem Ev_rd_scan (l : List Int) (hl : l.length ≤ 1000000) : ∀ (n p : Nat) (xs : List S38) (ys : List S41), l.length - p ≤ n → p ≤ l.length → xs.length ≤ p → ys.length ≤ p →
    Ev (fun k => rd_scan k l (p : Int) xs ys) (xs ++ (scanS n (p : Int) (l.drop p)).1, ys ++ (scanS n (p : Int) (l.drop p)).2)
  | n, p, xs, ys, hn, hp, hx, hy => by
    cases hd : l.drop p with
    | nil =>
      have := rd_end hd hp
      refine Ev.succ ?_
      simp only [rd_scan]
      refine Ev.neg (by omega) (Ev.val ?_)
      cases n <;> simp [scanS]
    | cons c t =>
      obtain ⟨h1, h2, h3, h4⟩ := rd_at hd
      match n with
      | 0 => omega
      | n + 1 =>
        refine Ev.succ ?_
        simp only [rd_scan, h2]
        refine Ev.pos (by omega) (Ev.pos (by omega) ?_)
        simp only [scanS]
        have next : ∀ (o : List S38) (e : List S41), o.length ≤ 1 → e.length ≤ 1 → Ev (fun k => rd_scan k l ((p : Int) + 1) (xs ++ o) (ys ++ e)) (xs ++ (o ++ (scanS n ((p : Int) + 1) t).1), ys ++ (e ++ (scanS n ((p : Int) + 1) t).2)) := by
          intro o e ho he
          have := Ev_rd_scan l hl n (p + 1) (xs ++ o) (ys ++ e) (by omega) (by omega) (by rw [List.length_append]; omega) (by rw [List.length_append]; omega)
          rw [h3, List.append_assoc, List.append_assoc, show ((p + 1 : Nat) : Int) = (p : Int) + 1 by omega] at this
          exact this
        by_cases a1 : c = 32 ∨ c = 9
        · simp only [if_pos a1]
          have := next [⟨2, 0⟩] [] (by simp) (by simp)
          simpa using this
        simp only [if_neg a1]
        by_cases a2 : c = 92
        · simp only [if_pos a2]
          obtain ⟨q, hq⟩ := Ev_rd_escape l hl (p + 1) (by omega) xs ys p (by omega) (by omega)
          rw [h3, show ((p + 1 : Nat) : Int) = (p : Int) + 1 by omega] at hq
          refine Ev.bind hq ?_
          have sm := escS_small ((p : Int) + 1) t
          have nx := fun m => escS_next ((p : Int) + 1) t (by omega) (m := m)
          unfold onto
          generalize escS ((p : Int) + 1) t = E at *
          obtain ⟨m, o, e⟩ := E
          cases m with
          | none => exact Ev.neg (by simp) (Ev.now _)
          | some m =>
            have := nx m rfl
            refine Ev.pos rfl ?_
            refine Ev_eq (Ev_rd_scan l hl n (p + 1 + m) (xs ++ o) (ys ++ e) (by omega) (by omega) (by rw [List.length_append]; simp only at sm; omega) (by rw [List.length_append]; simp only at sm; omega)) ?_
            simp only
            rw [← h3, List.drop_drop, List.append_assoc, List.append_assoc, show ((p + 1 + m : Nat) : Int) = (p : Int) + 1 + m by omega]
        simp only [if_neg a2]
        refine Ev.bind (Ev_Control c) ?_
        by_cases a3 : ctl c = true
        · simp only [if_pos a3]
          rw [w64 (by omega) (by omega)]
          have := next [⟨1, 65533⟩] [⟨3, 0, (p : Int) + 1⟩] (by simp) (by simp)
          simpa using this
        · simp only [if_neg a3]
          have := next [⟨1, c⟩] [] (by simp) (by simp)
          simpa using this
def scan (s : ByteArray) : List S38 × List S41 := scanS (dec (bytesOf s)).length 0 (dec (bytesOf s))
theorem bytesOf_length (s : ByteArray) : (bytesOf s).length = s.size := by simp [bytesOf]
theorem Ev_Scan (s : ByteArray) (hs : s.size ≤ 1000000) : Ev (fun k => escape_Scan.f k s) (scan s) := by
  unfold escape_Scan.f
  have hb := bytesOf_length s
  have hd := dec_length _ (bytesOf s) (Nat.le_refl _)
  refine Ev.pos (by omega) (Ev.some_bind (Ev.bind (Ev_Decode _ (bytesOf_Bytes s) (by omega)) (Ev.pos (by omega) ?_)))
  refine Ev_eq (Ev_rd_scan _ (by omega) (dec (bytesOf s)).length 0 [] [] (by omega) (by omega) (by simp) (by simp)) ?_
  simp [scan]
end Go.Proofs.YtdogljnddalgdaaDoor.A4
end
section
namespace Go.Proofs.YtdogljnddalgdaaDoor.A4
open Go Go.RowKit Go.Proofs.YtdogljnddalgdaaDoor Go.Proofs.YtdogljnddalgdaaDoorW.PrintWords Go.Proofs.YtdogljnddalgdaaDoorW.PrintLast Go.Proofs.YtdogljnddalgdaaDoorW.PrintMore
theorem Ev_Same4_l0 (l : List S38) (hl : l.length ≤ 8796093022208) : ∀ (n i : Nat), i + n = l.length → Ev (fun k => flongref04_Same.l0 k l l (i : Int)) true
  | 0, i, h => by
    refine Ev.succ ?_
    simp only [flongref04_Same.l0]
    exact Ev.neg (by omega) (Ev.now _)
  | n + 1, i, h => by
    refine Ev.succ ?_
    simp only [flongref04_Same.l0]
    refine Ev.pos (by omega) (Ev.pos (by omega) (Ev.pos (by omega) (Ev.neg (by simp) ?_)))
    rw [w64 (by omega) (by omega)]
    exact Ev_Same4_l0 l hl n (i + 1) (by omega)
theorem Ev_Same4 (l : List S38) (hl : l.length ≤ 8796093022208) : Ev (fun k => flongref04_Same.f k l l) true := by
  unfold flongref04_Same.f
  exact Ev.pos rfl (Ev_Same4_l0 l hl l.length 0 (by omega))
end Go.Proofs.YtdogljnddalgdaaDoor.A4
end
section
namespace Go.Proofs.YtdogljnddalgdaaDoor.A4
open Go Go.RowKit Go.Proofs.YtdogljnddalgdaaDoor Go.Proofs.YtdogljnddalgdaaDoorW.PrintWords Go.Proofs.YtdogljnddalgdaaDoorW.PrintLast Go.Proofs.YtdogljnddalgdaaDoorW.PrintMore
def gatherN : Nat → List Int → Int → Option Int
  | 0, _, x => some x
  | _ + 1, [], _ => none
  | n + 1, b :: t, x => if 128 ≤ b ∧ b ≤ 191 then gatherN n t (x * 64 + (b - 128)) else none
theorem gatherN_take : ∀ (n : Nat) (t : List Int) (x : Int), gatherN n t x = if n ≤ t.length then gather (t.take n) x else none
  | 0, t, x => by simp [gatherN, gather]
  | n + 1, [], x => by simp [gatherN]
  | n + 1, b :: t, x => by
    simp only [gatherN, List.take_succ_cons, gather, List.length_cons, Nat.add_le_add_iff_right]
    rw [gatherN_take n t]
    split
    · rfl
    · split <;> rfl
theorem d1_eq (a : Int) (t : List Int) : d1 a t = match (lead a).1 with
    | 0 => (65533, 1)
    | m + 1 => match gatherN m t (lead a).2 with
      | none => (65533, 1)
      | some v => if val v = true ∧ sz v = (m : Int) + 1 then (v, m + 1) else (65533, 1) := by
  cases hm : (lead a).1 with
  | zero => exact d1_bad (.inl hm)
  | succ m =>
    simp only
    rw [gatherN_take]
    by_cases hl : m ≤ t.length
    · rw [if_pos hl]; exact d1_many hm (by omega)
    · rw [if_neg hl]; exact d1_bad (.inr (by omega))
theorem d1_ascii {a : Int} (h0 : 0 ≤ a) (h : a < 128) (t : List Int) : d1 a t = (a, 1) := by
  have e : lead a = (1, a) := if_pos h
  rw [d1_eq, e]
  simp only [gatherN]
  rw [if_pos]
  unfold val sz
  rw [if_pos h]
  simp
  omega
end Go.Proofs.YtdogljnddalgdaaDoor.A4
end
section
namespace Go.Proofs.YtdogljnddalgdaaDoor.A4
open Go Go.RowKit Go.Proofs.YtdogljnddalgdaaDoor Go.Proofs.YtdogljnddalgdaaDoorW.PrintWords Go.Proofs.YtdogljnddalgdaaDoorW.PrintLast Go.Proofs.YtdogljnddalgdaaDoorW.PrintMore
open Go.Lib (encodeRuneZ encodeRuneZ_one)
def Ascii (l : List Int) : Prop := ∀ b ∈ l, 0 ≤ b ∧ b < 128
theorem dec_ascii : ∀ (a b : List Int), Ascii a → dec (a ++ b) = a ++ dec b
  | [], b, _ => rfl
  | c :: a, b, h => by
    have hc := h c List.mem_cons_self
    rw [List.cons_append, dec, d1_ascii hc.1 hc.2]
    simp only [Nat.sub_self, List.drop_zero]
    rw [dec_ascii a b (fun x hx => h x (List.mem_cons_of_mem _ hx)), List.cons_append]
theorem bytesOf_append (a b : ByteArray) : bytesOf (a ++ b) = bytesOf a ++ bytesOf b := by
  unfold bytesOf
  rw [ByteArray.data_append, Array.toList_append, List.map_append]
theorem enc_ascii : ∀ (l : List Int), Ascii l → enc l = l
  | [], _ => rfl
  | c :: l, h => by
    have hc := h c List.mem_cons_self
    have ih := enc_ascii l (fun x hx => h x (List.mem_cons_of_mem _ hx))
    unfold enc at ih ⊢
    rw [List.flatMap_cons, encodeRuneZ_one hc.1 (by omega), ih]
    rfl
theorem runesBytes_ascii (s : ByteArray) (h : Ascii (bytesOf s)) : runesBytes (bytesOf s) = s := by
  apply bytes_ext
  rw [runesBytes_data, enc_ascii _ h, strOfNums_data]
  unfold bytesOf
  rw [List.map_map]
  conv => rhs; rw [← List.map_id s.data.toList]
  apply List.map_congr_left
  intro x _
  simp
end Go.Proofs.YtdogljnddalgdaaDoor.A4
end
section
namespace Go.Proofs.YtdogljnddalgdaaDoor.A4
open Go Go.RowKit Go.Proofs.YtdogljnddalgdaaDoor Go.Proofs.YtdogljnddalgdaaDoorW.PrintWords Go.Proofs.YtdogljnddalgdaaDoorW.PrintLast Go.Proofs.YtdogljnddalgdaaDoorW.PrintMore
theorem mem_bytes {s : ByteArray} {c : Int} (hc : c ∈ bytesOf s) : ∃ j : Nat, j < s.size ∧ bt s j = c := by
  obtain ⟨j, hj1, hj2⟩ := List.mem_iff_getElem.mp hc
  have hl := bytesOf_length s
  refine ⟨j, by omega, ?_⟩
  rw [bt_get s j (by rw [Array.length_toList]; show j < s.size; omega), ← hj2]
  simp [bytesOf]
theorem idx_append : ∀ (a b : List Int), (∀ c ∈ a, c ≠ 93) → idx (a ++ 93 :: b) = some a.length
  | [], b, _ => by simp [idx]
  | c :: a, b, h => by
    rw [List.cons_append]
    simp only [idx]
    rw [if_neg (h c List.mem_cons_self), idx_append a b (fun x hx => h x (List.mem_cons_of_mem _ hx))]
    rfl
theorem scanS_bracket (a b : List Int) (n : Nat) (p : Int) (h93 : ∀ c ∈ a, c ≠ 93) :
    scanS (n + 1) p (92 :: 91 :: (a ++ 93 :: b)) = if 0 ≤ nameSpec (runesBytes a) then (⟨1, nameSpec (runesBytes a)⟩ :: (scanS n (p + 1 + (a.length + 2 : Nat)) b).1, (scanS n (p + 1 + (a.length + 2 : Nat)) b).2)
      else ((scanS n (p + 1 + (a.length + 2 : Nat)) b).1, ⟨2, 0, p + 1⟩ :: (scanS n (p + 1 + (a.length + 2 : Nat)) b).2) := by
  have hn : nameS (91 :: (a ++ 93 :: b)) = some (runesBytes a, a.length + 2) := by
    simp only [nameS, reduceIte]
    rw [idx_append a b h93]
    simp
  have hd : (91 :: (a ++ 93 :: b)).drop (a.length + 2) = b := by
    rw [List.drop_succ_cons, show a.length + 1 = (a ++ [93]).length by simp, show a ++ 93 :: b = (a ++ [93]) ++ b by simp, List.drop_left]
  have he : escS (p + 1) (91 :: (a ++ 93 :: b)) = told (some (runesBytes a, a.length + 2)) nameSpec 1 (p + 1) 0 := by
    rw [← hn]; rfl
  have hs : scanS (n + 1) p (92 :: 91 :: (a ++ 93 :: b)) = (match (escS (p + 1) (91 :: (a ++ 93 :: b))).1 with
      | none => (escS (p + 1) (91 :: (a ++ 93 :: b))).2
      | some m => ((escS (p + 1) (91 :: (a ++ 93 :: b))).2.1 ++ (scanS n (p + 1 + m) ((91 :: (a ++ 93 :: b)).drop m)).1, (escS (p + 1) (91 :: (a ++ 93 :: b))).2.2 ++ (scanS n (p + 1 + m) ((91 :: (a ++ 93 :: b)).drop m)).2)) := rfl
  rw [hs, he]
  simp only [told]
  by_cases h0 : 0 ≤ nameSpec (runesBytes a)
  · simp only [if_pos h0, Nat.add_zero, hd, List.cons_append, List.nil_append]
  · simp only [if_neg h0, Nat.add_zero, hd, List.cons_append, List.nil_append]
theorem dec_bracket (x : List Int) (b : List Int) (hA : Ascii x) : dec ([92, 91] ++ x ++ [93] ++ b) = 92 :: 91 :: (x ++ 93 :: dec b) := by
  have : Ascii ([92, 91] ++ x ++ [93]) := by
    intro c hc
    simp only [List.mem_append, List.mem_cons, List.not_mem_nil, or_false] at hc
    rcases hc with (hc | hc) | hc
    · omega
    · exact hA c hc
    · omega
  rw [dec_ascii _ _ this]
  simp
end Go.Proofs.YtdogljnddalgdaaDoor.A4
end
section
namespace Go.Proofs.YtdogljnddalgdaaDoor.A4
open Go Go.RowKit Go.Proofs.YtdogljnddalgdaaDoor Go.Proofs.YtdogljnddalgdaaDoorW.PrintWords Go.Proofs.YtdogljnddalgdaaDoorW.PrintLast Go.Proofs.YtdogljnddalgdaaDoorW.PrintMore
theorem Ev_Fonts_l0 (a : ByteArray) (ha : a.size ≤ 140737488351232) : ∀ (n i : Nat), i + n = a.size → (∀ j : Nat, j < i → 97 ≤ bt a j ∧ bt a j ≤ 122) → Ev (fun k => flonglaw04_EscapeFonts.l0 k a (i : Int)) true
  | 0, i, h, hj => by
    refine Ev.succ ?_
    simp only [flonglaw04_EscapeFonts.l0]
    refine Ev.neg (by omega) (Ev.bind (Ev_RName a) ?_)
    have j3 : Ev (fun k => flonglaw04_EscapeFonts.j3 k a true) true := by
      refine Ev.succ ?_
      simp only [flonglaw04_EscapeFonts.j3, reduceIte]
      exact Ev_kn
    by_cases h0 : nameSpec a ≥ 0
    · exact Ev.pos h0 j3
    refine Ev.neg h0 ?_
    by_cases hs : (a.size : Int) > 50
    · rw [decide_eq_true hs]; exact j3
    rw [decide_eq_false hs]
    have hall : ∀ c ∈ bytesOf a, 97 ≤ c ∧ c ≤ 122 := by
      intro c hc
      obtain ⟨j, hj1, rfl⟩ := mem_bytes hc
      exact hj j (by omega)
    have hA : Ascii (bytesOf a) := fun c hc => by have := hall c hc; omega
    have h93 : ∀ c ∈ bytesOf a, c ≠ 93 := fun c hc => by have := hall c hc; omega
    have hrb := runesBytes_ascii a hA
    have s2 : (⟨#[92, 91]⟩ : ByteArray).size = 2 := rfl
    have s1 : (⟨#[93]⟩ : ByteArray).size = 1 := rfl
    have e1 : scan ((⟨#[92, 91]⟩ ++ a) ++ ⟨#[93]⟩) = ([], [⟨2, 0, 1⟩]) := by
      unfold scan
      have hd := dec_bracket (bytesOf a) [] hA
      rw [List.append_nil, dec_nil] at hd
      rw [bytesOf_append, bytesOf_append, show bytesOf ⟨#[92, 91]⟩ = [92, 91] from rfl, show bytesOf ⟨#[93]⟩ = [93] from rfl, hd]
      simp only [List.length_cons]
      rw [scanS_bracket _ _ _ _ h93, hrb, if_neg h0]
      simp only [scanS]
      rfl
    refine Ev.succ ?_
    simp only [flonglaw04_EscapeFonts.j3, Bool.false_eq_true, reduceIte]
    refine Ev.pos (by omega) (Ev.pos (by rw [ByteArray.size_append]; omega) (Ev.bind (Ev_Scan _ (by simp only [ByteArray.size_append]; omega)) ?_))
    rw [e1]
    exact Ev.pos rfl (Ev.pos rfl (Ev.pos (by simp) (Ev.pos rfl Ev_kn)))
  | n + 1, i, h, hj => by
    refine Ev.succ ?_
    simp only [flonglaw04_EscapeFonts.l0]
    refine Ev.pos (by omega) (Ev.pos (by omega) ?_)
    by_cases h1 : bt a (i : Int) < 97
    · exact Ev.pos h1 Ev_kn
    refine Ev.neg h1 ?_
    by_cases h2 : bt a (i : Int) > 122
    · exact Ev.pos h2 Ev_kn
    refine Ev.neg h2 ?_
    rw [w64 (by omega) (by omega)]
    refine Ev_Fonts_l0 a ha n (i + 1) (by omega) ?_
    intro j hji
    by_cases e : j = i
    · subst e; omega
    · exact hj j (by omega)
theorem Ev_Fonts_j1 (a : ByteArray) (ha : a.size ≤ 140737488351232) : Ev (fun k => flonglaw04_EscapeFonts.j1 k a) true := by
  refine Ev.succ ?_
  simp only [flonglaw04_EscapeFonts.j1]
  exact Ev_Fonts_l0 a ha a.size 0 (by omega) (by omega)
theorem scan_at (s : ByteArray) {r : List S38 × List S41} (h : escape_Scan.f 40 s = some r) : Ev (fun k => escape_Scan.f k s) r := Ev.of (fun k => escape_Scan.mono s k) h
theorem sz3 : (⟨#[92, 102, 91]⟩ : ByteArray).size = 3 := rfl
theorem Ev_Fonts_at (a : ByteArray) (ha : a.size ≤ 140737488351232) (i : Int) (s : ByteArray) (f : Int) (hi : 0 ≤ i ∧ i < 5) (hs : rdOf ByteArray.empty [(⟨#[82]⟩ : ByteArray), ⟨#[66]⟩, ⟨#[73]⟩, ⟨#[80]⟩, ⟨#[66, 73]⟩] i = s) (hl : s.size ≤ 2)
    (hf : escape_Font.f s = some (f, true)) (h1 : escape_Scan.f 40 ((⟨#[92, 102, 91]⟩ ++ s) ++ ⟨#[93]⟩) = some ([⟨3, f⟩], [])) (h2 : i < 4 → escape_Scan.f 40 (⟨#[92, 102]⟩ ++ s) = some ([⟨3, f⟩], [])) :
    Ev (fun k => (some (([(⟨#[82]⟩ : ByteArray), (⟨#[66]⟩ : ByteArray), (⟨#[73]⟩ : ByteArray), (⟨#[80]⟩ : ByteArray), (⟨#[66, 73]⟩ : ByteArray)] : List ByteArray) : List ByteArray)).bind fun y421 => (if 0 ≤ i then (if i < (y421.length : Int) then ((escape_Font.f (rdOf ByteArray.empty y421 i)).bind fun bt425 => (if 3 + (rdOf ByteArray.empty y421 i).size ≤ 9223372036854775807 then (if ((⟨#[92, 102, 91]⟩ : ByteArray) ++ (rdOf ByteArray.empty y421 i)).size + 1 ≤ 9223372036854775807 then ((escape_Scan.f k (((⟨#[92, 102, 91]⟩ : ByteArray) ++ (rdOf ByteArray.empty y421 i)) ++ (⟨#[93]⟩ : ByteArray))).bind fun bt428 => ((some (([(⟨3, bt425.1⟩ : S38)] : List (S38)) : List (S38))).bind fun y434 => (if bt425.2 = true then ((flongref04_Same.f k bt428.1 y434).bind fun t437 => (if t437 = true then (flonglaw04_EscapeFonts.j0 k a y421 i y434 ((bt428.2.length : Int) != 0)) else (flonglaw04_EscapeFonts.j0 k a y421 i y434 true))) else (flonglaw04_EscapeFonts.j0 k a y421 i y434 true)))) else (none)) else (none))) else (none)) else (none))) true := by
  refine Ev.some_bind (Ev.pos hi.1 (Ev.pos hi.2 ?_))
  rw [hs]
  refine Ev.const_bind hf (Ev.pos (by omega) (Ev.pos (by rw [ByteArray.size_append, sz3]; omega) (Ev.bind (scan_at _ h1) (Ev.some_bind (Ev.pos rfl (Ev.bind (Ev_Same4 _ (by simp)) (Ev.pos rfl ?_)))))))
  refine Ev.succ ?_
  simp only [flonglaw04_EscapeFonts.j0]
  refine Ev.neg (by simp) ?_
  by_cases h4 : i < 4
  · refine Ev.pos h4 (Ev.pos hi.1 (Ev.pos hi.2 ?_))
    rw [hs]
    exact Ev.pos (by omega) (Ev.bind (scan_at _ (h2 h4)) (Ev.bind (Ev_Same4 _ (by simp)) (Ev.pos rfl (Ev.pos rfl (Ev_Fonts_j1 a ha)))))
  · exact Ev.neg h4 (Ev_Fonts_j1 a ha)
theorem Ev_EscapeFonts (n : Int) (a : ByteArray) (hn : 0 ≤ n ∧ n ≤ 255) (ha : a.size ≤ 140737488351232) : Ev (fun k => flonglaw04_EscapeFonts.f k n a) true := by
  unfold flonglaw04_EscapeFonts.f
  rw [w64 (by omega) (by omega), Int.tmod_eq_emod_of_nonneg hn.1]
  have h5 : n % 5 = 0 ∨ n % 5 = 1 ∨ n % 5 = 2 ∨ n % 5 = 3 ∨ n % 5 = 4 := by omega
  rcases h5 with e | e | e | e | e
  · rw [e]; exact Ev_Fonts_at a ha 0 ⟨#[82]⟩ 0 (by omega) rfl (by decide) (by kernel_rfl) (by kernel_rfl) (fun _ => by kernel_rfl)
  · rw [e]; exact Ev_Fonts_at a ha 1 ⟨#[66]⟩ 1 (by omega) rfl (by decide) (by kernel_rfl) (by kernel_rfl) (fun _ => by kernel_rfl)
  · rw [e]; exact Ev_Fonts_at a ha 2 ⟨#[73]⟩ 2 (by omega) rfl (by decide) (by kernel_rfl) (by kernel_rfl) (fun _ => by kernel_rfl)
  · rw [e]; exact Ev_Fonts_at a ha 3 ⟨#[80]⟩ 4 (by omega) rfl (by decide) (by kernel_rfl) (by kernel_rfl) (fun _ => by kernel_rfl)
  · rw [e]; exact Ev_Fonts_at a ha 4 ⟨#[66, 73]⟩ 3 (by omega) rfl (by decide) (by kernel_rfl) (by kernel_rfl) (fun h => by omega)
end Go.Proofs.YtdogljnddalgdaaDoor.A4
end
section
namespace Go.Proofs.YtdogljnddalgdaaDoor.Pure
open Go Go.RowKit Go.Proofs.YtdogljnddalgdaaDoor.A4 Go.Proofs.YtdogljnddalgdaaDoorW.PrintWords Go.Proofs.YtdogljnddalgdaaDoorW.PrintLast
theorem EscapeFonts : flonglaw04_EscapeFonts.Pure := fun a0 a1 h0 h1 => (Ev_EscapeFonts a0 a1 (by simp only [Lit.wf, Bool.and_eq_true, decide_eq_true_eq] at h0; exact h0) h1).rounds
end Go.Proofs.YtdogljnddalgdaaDoor.Pure
end
