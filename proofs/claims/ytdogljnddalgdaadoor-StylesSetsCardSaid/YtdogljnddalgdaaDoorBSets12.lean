/- Of what the law StylesSets needs: part 12. -/
import Derived.Lib.RuneBytes
import Derived.Test.YtdogljnddalgdaaDoorBSets11
namespace Go.Proofs.YtdogljnddalgdaaDoor
end Go.Proofs.YtdogljnddalgdaaDoor
namespace Go.Proofs.YtdogljnddalgdaaDoorW.PrintLast
end Go.Proofs.YtdogljnddalgdaaDoorW.PrintLast
namespace Go.Proofs.YtdogljnddalgdaaDoorW.PrintMore
end Go.Proofs.YtdogljnddalgdaaDoorW.PrintMore
namespace Go.Proofs.YtdogljnddalgdaaDoorW.PrintWords
end Go.Proofs.YtdogljnddalgdaaDoorW.PrintWords
section
namespace Go.Proofs.YtdogljnddalgdaaDoor.A6
open Go Go.RowKit Go.Proofs.YtdogljnddalgdaaDoor Go.Proofs.YtdogljnddalgdaaDoorW.PrintWords Go.Proofs.YtdogljnddalgdaaDoorW.PrintLast Go.Proofs.YtdogljnddalgdaaDoorW.PrintMore
def Bytes (l : List Int) : Prop := ∀ b ∈ l, 0 ≤ b ∧ b ≤ 255
theorem Bytes.drop {l : List Int} (h : Bytes l) (n : Nat) : Bytes (l.drop n) := fun b hb => h b (List.mem_of_mem_drop hb)
theorem Bytes.take {l : List Int} (h : Bytes l) (n : Nat) : Bytes (l.take n) := fun b hb => h b (List.mem_of_mem_take hb)
theorem bytesOf_Bytes (s : ByteArray) : Bytes (bytesOf s) := by
  intro b hb
  simp only [bytesOf, List.mem_map] at hb
  obtain ⟨x, _, rfl⟩ := hb
  have := x.toNat_lt
  omega
def lead (a : Int) : Nat × Int := if a < 128 then (1, a) else if 192 ≤ a ∧ a ≤ 223 then (2, a - 192) else if 224 ≤ a ∧ a ≤ 239 then (3, a - 224) else if 240 ≤ a ∧ a ≤ 247 then (4, a - 240) else (0, 0)
def gather : List Int → Int → Option Int
  | [], x => some x
  | b :: t, x => if 128 ≤ b ∧ b ≤ 191 then gather t (x * 64 + (b - 128)) else none
def sz (v : Int) : Int := if v < 128 then 1 else if v < 2048 then 2 else if v < 65536 then 3 else 4
def good : List Int → Option Int
  | [] => none
  | a :: t => if (lead a).1 = t.length + 1 then (gather t (lead a).2).bind fun v => if val v = true ∧ sz v = (t.length : Int) + 1 then some v else none else none
def d1 (a : Int) (t : List Int) : Int × Nat := if t.length + 1 < (lead a).1 then (65533, 1) else match good ((a :: t).take (lead a).1) with
  | some v => (v, (lead a).1)
  | none => (65533, 1)
def dec : List Int → List Int
  | [] => []
  | a :: t => (d1 a t).1 :: dec (t.drop ((d1 a t).2 - 1))
termination_by l => l.length
decreasing_by simp; omega
theorem lead_le (a : Int) : (lead a).1 ≤ 4 := by
  unfold lead
  repeat' split
  all_goals simp
theorem good_cons (a : Int) (t : List Int) : good (a :: t) = if (lead a).1 = t.length + 1 then (gather t (lead a).2).bind fun v => if val v = true ∧ sz v = (t.length : Int) + 1 then some v else none else none := rfl
theorem good_lead {a : Int} {t : List Int} {v : Int} (h : good (a :: t) = some v) : (lead a).1 = t.length + 1 ∧ val v = true := by
  rw [good_cons] at h
  split at h
  · rename_i hl
    obtain ⟨x, hx, h2⟩ := Option.bind_eq_some_iff.mp h
    split at h2
    · rename_i hc
      cases h2
      exact ⟨hl, hc.1⟩
    · cases h2
  · cases h
theorem d1_pos (a : Int) (t : List Int) : 1 ≤ (d1 a t).2 ∧ (d1 a t).2 ≤ t.length + 1 := by
  unfold d1
  split
  · simp
  · rename_i h
    split
    · rename_i v hv
      simp only
      cases hm : (lead a).1 with
      | zero => rw [hm] at hv; simp [good] at hv
      | succ m => omega
    · simp
theorem dec_cons (a : Int) (t : List Int) : dec (a :: t) = (d1 a t).1 :: dec ((a :: t).drop (d1 a t).2) := by
  rw [dec]
  obtain ⟨m, hm⟩ : ∃ m, (d1 a t).2 = m + 1 := ⟨(d1 a t).2 - 1, by have := d1_pos a t; omega⟩
  rw [hm]
  rfl
theorem dec_nil : dec [] = [] := by rw [dec]
theorem dec_length : ∀ (n : Nat) (l : List Int), l.length ≤ n → (dec l).length ≤ l.length
  | _, [], _ => by rw [dec_nil]; exact Nat.le_refl _
  | 0, _ :: _, h => by simp at h
  | n + 1, a :: t, h => by
    rw [dec]
    have := dec_length n (t.drop ((d1 a t).2 - 1)) (by simp at h ⊢; omega)
    simp at this ⊢
    omega
theorem u8_224 (a : Int) (h0 : 0 ≤ a) (h1 : a ≤ 255) : Go.bits .and .u8 a 224 = 192 ↔ 192 ≤ a ∧ a ≤ 223 := by
  obtain ⟨m, rfl⟩ := Int.eq_ofNat_of_zero_le h0
  exact (show ∀ m : Nat, m < 256 → (Go.bits .and .u8 (m : Int) 224 = 192 ↔ 192 ≤ (m : Int) ∧ (m : Int) ≤ 223) by decide +kernel) m (by omega)
theorem u8_240 (a : Int) (h0 : 0 ≤ a) (h1 : a ≤ 255) : Go.bits .and .u8 a 240 = 224 ↔ 224 ≤ a ∧ a ≤ 239 := by
  obtain ⟨m, rfl⟩ := Int.eq_ofNat_of_zero_le h0
  exact (show ∀ m : Nat, m < 256 → (Go.bits .and .u8 (m : Int) 240 = 224 ↔ 224 ≤ (m : Int) ∧ (m : Int) ≤ 239) by decide +kernel) m (by omega)
theorem u8_248 (a : Int) (h0 : 0 ≤ a) (h1 : a ≤ 255) : Go.bits .and .u8 a 248 = 240 ↔ 240 ≤ a ∧ a ≤ 247 := by
  obtain ⟨m, rfl⟩ := Int.eq_ofNat_of_zero_le h0
  exact (show ∀ m : Nat, m < 256 → (Go.bits .and .u8 (m : Int) 248 = 240 ↔ 240 ≤ (m : Int) ∧ (m : Int) ≤ 247) by decide +kernel) m (by omega)
theorem u8_192 (a : Int) (h0 : 0 ≤ a) (h1 : a ≤ 255) : Go.bits .and .u8 a 192 = 128 ↔ 128 ≤ a ∧ a ≤ 191 := by
  obtain ⟨m, rfl⟩ := Int.eq_ofNat_of_zero_le h0
  exact (show ∀ m : Nat, m < 256 → (Go.bits .and .u8 (m : Int) 192 = 128 ↔ 128 ≤ (m : Int) ∧ (m : Int) ≤ 191) by decide +kernel) m (by omega)
def gb : Nat → Int
  | 0 => 4194304
  | n + 1 => gb n / 64
theorem gb_le : ∀ n, 0 ≤ gb n ∧ gb n ≤ 4194304
  | 0 => by simp [gb]
  | n + 1 => by have := gb_le n; simp only [gb]; omega
theorem size_is (v : Int) : runes_size.f v = some (sz v) := by
  unfold runes_size.f sz
  repeat' split
  all_goals rfl
theorem Ev_first_l0 (xs : List Int) (hB : Bytes xs) (hl : xs.length ≤ 4) (m : Int) : ∀ (n i : Nat) (x : Int), i + n = xs.length → 0 ≤ x → x < gb n →
    Ev (fun k => runes_first.l0 k m x xs (xs.length : Int) (i : Int)) (match gather (xs.drop i) x with | none => (65533, 1) | some v => if val v = true ∧ sz v = m then (v, m) else (65533, 1))
  | 0, i, x, h, h0, h1 => by
    refine Ev.succ ?_
    simp only [runes_first.l0]
    rw [List.drop_eq_nil_of_le (by omega)]
    refine Ev.neg (by omega) (Ev.const_bind (runes_Valid_is _) ?_)
    simp only [gather]
    by_cases hv : val x = true
    · refine Ev.pos hv (Ev.const_bind (size_is _) ?_)
      by_cases hz : sz x = m
      · exact Ev.pos hz (Ev.val (if_pos (And.intro hv hz)).symm)
      · exact Ev.neg hz (Ev.val (if_neg (c := val x = true ∧ sz x = m) (fun h => hz h.2)).symm)
    · exact Ev.neg hv (Ev.val (if_neg (c := val x = true ∧ sz x = m) (fun h => hv h.1)).symm)
  | n + 1, i, x, h, h0, h1 => by
    have hg := gb_le n
    simp only [gb] at h1
    have hi : i < xs.length := by omega
    refine Ev.succ ?_
    simp only [runes_first.l0]
    rw [List.drop_eq_getElem_cons hi, rd_get xs i hi]
    have hb := hB _ (List.getElem_mem hi)
    generalize xs[i] = b at *
    refine Ev.pos (by omega) (Ev.pos (by omega) (Ev.pos (by omega) ?_))
    simp only [gather]
    by_cases hc : 128 ≤ b ∧ b ≤ 191
    · refine Ev.pos ((u8_192 b hb.1 hb.2).mpr hc) ?_
      rw [if_pos hc, u8_and63 _ hb.1 (by omega), w32 (n := x * 64) (by omega) (by omega), w32 (n := b % 64) (by omega) (by omega), i32_or6 _ _ (by omega) (by omega) (by omega) (by omega) (by omega),
        show x * 64 + b % 64 = x * 64 + (b - 128) by omega, w64 (by omega) (by omega)]
      exact Ev_first_l0 xs hB hl m n (i + 1) _ (by omega) (by omega) (by omega)
    · refine Ev.neg (fun h => hc ((u8_192 b hb.1 hb.2).mp h)) ?_
      rw [if_neg hc]
      exact Ev.now _
theorem d1_bad {a : Int} {t : List Int} (h : (lead a).1 = 0 ∨ t.length + 1 < (lead a).1) : d1 a t = (65533, 1) := by
  unfold d1
  split
  · rfl
  · rcases h with h | h
    · rw [h]; rfl
    · omega
theorem d1_many {a : Int} {t : List Int} {m : Nat} (h : (lead a).1 = m + 1) (hl : m + 1 ≤ t.length + 1) : d1 a t = match gather (t.take m) (lead a).2 with
    | none => (65533, 1)
    | some v => if val v = true ∧ sz v = (m : Int) + 1 then (v, m + 1) else (65533, 1) := by
  unfold d1
  rw [if_neg (by omega), h, List.take_succ_cons]
  have hm : (t.take m).length = m := by rw [List.length_take]; omega
  rw [good_cons, if_pos (by rw [hm]; exact h), hm]
  cases gather (t.take m) (lead a).2 with
  | none => rfl
  | some v =>
    simp only [Option.bind_some]
    by_cases hv : val v = true ∧ sz v = (m : Int) + 1
    · simp only [if_pos hv]
    · simp only [if_neg hv]
theorem Ev_first_j (a : Int) (t : List Int) (hB : Bytes (a :: t)) (m : Nat) (hm : (lead a).1 = m) (hm1 : m ≠ 1) (x : Int) (hx : x = (lead a).2) (h0 : 0 ≤ x) (h1 : m ≠ 0 → x < gb (m - 1)) :
    Ev (fun k => runes_first.j0 k (a :: t) (m : Int) x) ((d1 a t).1, ((d1 a t).2 : Int)) := by
  have hm4 : m ≤ 4 := hm ▸ lead_le a
  have bad : (lead a).1 = 0 ∨ t.length + 1 < (lead a).1 → Ev (fun k => runes_first.j1 k (a :: t) (m : Int) x true) ((d1 a t).1, ((d1 a t).2 : Int)) := by
    intro hb
    rw [d1_bad hb]
    refine Ev.succ ?_
    simp only [runes_first.j1, reduceIte]
    exact Ev.now _
  refine Ev.succ ?_
  simp only [runes_first.j0]
  by_cases hz : m = 0
  · exact Ev.pos (by omega) (bad (.inl (by omega)))
  refine Ev.neg (by omega) ?_
  by_cases hl : t.length + 1 < m
  · rw [show decide ((((a :: t).length : Nat) : Int) < (m : Int)) = true by simp; omega]
    exact bad (.inr (by omega))
  rw [show decide ((((a :: t).length : Nat) : Int) < (m : Int)) = false by simp; omega]
  refine Ev.succ ?_
  simp only [runes_first.j1, Bool.false_eq_true, reduceIte]
  obtain ⟨n, rfl⟩ : ∃ n, m = n + 1 := ⟨m - 1, by omega⟩
  refine Ev.pos (by omega) (Ev.pos (by simp; omega) ?_)
  rw [show (((n + 1 : Nat) : Int)).toNat = n + 1 from rfl, List.take_succ_cons, show ((a :: t.take n).drop 1) = t.take n from rfl]
  have hn : (t.take n).length = n := by rw [List.length_take]; omega
  have hBt : Bytes (t.take n) := fun b hb => hB b (List.mem_cons_of_mem _ (List.mem_of_mem_take hb))
  have e := Ev_first_l0 (t.take n) hBt (by omega) ((n + 1 : Nat) : Int) n 0 x (by omega) h0 (h1 hz)
  refine Ev_eq e ?_
  rw [d1_many hm (by omega), List.drop_zero, hx]
  cases gather (t.take n) (lead a).2 with
  | none => rfl
  | some v =>
    simp only
    by_cases hv : val v = true ∧ sz v = (n : Int) + 1
    · rw [if_pos hv, if_pos (by simpa using hv)]
    · rw [if_neg hv, if_neg (by simpa using hv)]
      rfl
theorem Ev_first (a : Int) (t : List Int) (hB : Bytes (a :: t)) : Ev (fun k => runes_first.f k (a :: t)) ((d1 a t).1, ((d1 a t).2 : Int)) := by
  have ha := hB a List.mem_cons_self
  unfold runes_first.f
  simp only [show rd (a :: t) 0 = a from rfl]
  refine Ev.pos (by simp only [List.length_cons]; omega) ?_
  by_cases h1 : a < 128
  · refine Ev.pos h1 (Ev.val ?_)
    have e : lead a = (1, a) := if_pos h1
    rw [d1_many (m := 0) (by rw [e]) (by omega), w32 (by omega) (by omega), e]
    simp only [List.take_zero, gather]
    rw [if_pos]
    · rfl
    · unfold val sz; rw [if_pos h1]; simp; omega
  refine Ev.neg h1 ?_
  by_cases h2 : 192 ≤ a ∧ a ≤ 223
  · refine Ev.pos ((u8_224 a ha.1 ha.2).mpr h2) ?_
    have e : lead a = (2, a - 192) := by unfold lead; rw [if_neg h1, if_pos h2]
    rw [u8_and31 _ ha.1 (by omega), w32 (by omega) (by omega)]
    exact Ev_first_j a t hB 2 (by rw [e]) (by omega) _ (by rw [e]; simp only; omega) (by omega) (fun _ => by simp only [gb]; omega)
  refine Ev.neg (fun h => h2 ((u8_224 a ha.1 ha.2).mp h)) ?_
  by_cases h3 : 224 ≤ a ∧ a ≤ 239
  · refine Ev.pos ((u8_240 a ha.1 ha.2).mpr h3) ?_
    have e : lead a = (3, a - 224) := by unfold lead; rw [if_neg h1, if_neg h2, if_pos h3]
    rw [u8_and15 _ ha.1 (by omega), w32 (by omega) (by omega)]
    exact Ev_first_j a t hB 3 (by rw [e]) (by omega) _ (by rw [e]; simp only; omega) (by omega) (fun _ => by simp only [gb]; omega)
  refine Ev.neg (fun h => h3 ((u8_240 a ha.1 ha.2).mp h)) ?_
  by_cases h4 : 240 ≤ a ∧ a ≤ 247
  · refine Ev.pos ((u8_248 a ha.1 ha.2).mpr h4) ?_
    have e : lead a = (4, a - 240) := by unfold lead; rw [if_neg h1, if_neg h2, if_neg h3, if_pos h4]
    rw [u8_and7 _ ha.1 (by omega), w32 (by omega) (by omega)]
    exact Ev_first_j a t hB 4 (by rw [e]) (by omega) _ (by rw [e]; simp only; omega) (by omega) (fun _ => by simp only [gb]; omega)
  refine Ev.neg (fun h => h4 ((u8_248 a ha.1 ha.2).mp h)) ?_
  have e : lead a = (0, 0) := by unfold lead; rw [if_neg h1, if_neg h2, if_neg h3, if_neg h4]
  exact Ev_first_j a t hB 0 (by rw [e]) (by omega) _ (by rw [e]) (by omega) (fun h => absurd rfl h)
theorem Ev_Decode_l0 : ∀ (n : Nat) (l acc : List Int), l.length ≤ n → Bytes l → acc.length + l.length ≤ 35184372088831 → Ev (fun k => runes_Decode.l0 k l acc) (acc ++ dec l)
  | _, [], acc, _, _, _ => by
    refine Ev.succ ?_
    simp only [runes_Decode.l0]
    rw [dec_nil, List.append_nil]
    exact Ev.neg (by simp) (Ev.now _)
  | 0, _ :: _, _, h, _, _ => by simp at h
  | n + 1, a :: t, acc, h, hB, hL => by
    have hp := d1_pos a t
    refine Ev.succ ?_
    simp only [runes_Decode.l0]
    simp only [List.length_cons] at h hL
    refine Ev.pos (by simp only [List.length_cons]; omega) (Ev.bind (Ev_first a t hB) (Ev.pos (by omega) (Ev.pos (by simp only; omega) (Ev.pos (by simp; omega) ?_))))
    refine Ev_eq (Ev_Decode_l0 n _ _ (by rw [List.length_drop]; simp only [List.length_cons]; omega) (hB.drop _) (by rw [List.length_drop, List.length_append]; simp only [List.length_cons, List.length_nil]; omega)) ?_
    rw [dec_cons, List.append_assoc]
    rfl
theorem Ev_Decode (l : List Int) (hB : Bytes l) (hL : l.length ≤ 35184372088831) : Ev (fun k => runes_Decode.f k l) (dec l) := by
  unfold runes_Decode.f
  exact Ev_eq (Ev_Decode_l0 _ l [] (Nat.le_refl _) hB (by simpa using hL)) (List.nil_append _)
end Go.Proofs.YtdogljnddalgdaaDoor.A6
end
section
namespace Go.Proofs.YtdogljnddalgdaaDoor.A6
open Go Go.RowKit Go.Proofs.YtdogljnddalgdaaDoor Go.Proofs.YtdogljnddalgdaaDoorW.PrintWords Go.Proofs.YtdogljnddalgdaaDoorW.PrintLast Go.Proofs.YtdogljnddalgdaaDoorW.PrintMore
open Go.Lib (encodeRuneZ encodeRuneZ_one encodeRuneZ_two encodeRuneZ_three encodeRuneZ_four encodeRuneZ_bad encodeRuneZ_byte encodeRuneZ_length)
theorem val_iff (c : Int) : val c = true ↔ 0 ≤ c ∧ c ≤ 1114111 ∧ (c < 55296 ∨ 57343 < c) := by unfold val; simp
theorem Ev_One_j0 (c : Int) (hv : val c = true) : Ev (fun k => flongref02_One.j0 k c) (encodeRuneZ c) := by
  have h := (val_iff c).mp hv
  refine Ev.succ ?_
  simp only [flongref02_One.j0]
  rw [Int.tdiv_eq_ediv_of_nonneg h.1, Int.tdiv_eq_ediv_of_nonneg h.1, Int.tdiv_eq_ediv_of_nonneg h.1, Int.tmod_eq_emod_of_nonneg h.1]
  rw [w64 (n := c / 64) (by omega) (by omega), w64 (n := c / 4096) (by omega) (by omega), w64 (n := c / 262144) (by omega) (by omega)]
  rw [Int.tmod_eq_emod_of_nonneg (a := c / 64) (by omega), Int.tmod_eq_emod_of_nonneg (a := c / 4096) (by omega)]
  rw [w64 (n := 192 + c / 64) (by omega) (by omega), w64 (n := 128 + c % 64) (by omega) (by omega), w64 (n := 224 + c / 4096) (by omega) (by omega), w64 (n := 128 + c / 64 % 64) (by omega) (by omega), w64 (n := 240 + c / 262144) (by omega) (by omega), w64 (n := 128 + c / 4096 % 64) (by omega) (by omega)]
  by_cases h1 : c < 128
  · refine Ev.pos h1 (Ev.val ?_)
    rw [encodeRuneZ_one h.1 (by omega), Int.emod_eq_of_lt h.1 (by omega)]
  refine Ev.neg h1 ?_
  by_cases h2 : c < 2048
  · refine Ev.pos h2 (Ev.val ?_)
    rw [encodeRuneZ_two (by omega) (by omega), Int.emod_eq_of_lt (a := 192 + c / 64) (by omega) (by omega), Int.emod_eq_of_lt (a := 128 + c % 64) (by omega) (by omega)]
  refine Ev.neg h2 ?_
  by_cases h3 : c < 65536
  · refine Ev.pos h3 (Ev.val ?_)
    rw [encodeRuneZ_three (by omega), Int.emod_eq_of_lt (a := 224 + c / 4096) (by omega) (by omega), Int.emod_eq_of_lt (a := 128 + c / 64 % 64) (by omega) (by omega), Int.emod_eq_of_lt (a := 128 + c % 64) (by omega) (by omega)]
  refine Ev.neg h3 (Ev.val ?_)
  rw [encodeRuneZ_four (by omega) (by omega), Int.emod_eq_of_lt (a := 240 + c / 262144) (by omega) (by omega), Int.emod_eq_of_lt (a := 128 + c / 4096 % 64) (by omega) (by omega), Int.emod_eq_of_lt (a := 128 + c / 64 % 64) (by omega) (by omega), Int.emod_eq_of_lt (a := 128 + c % 64) (by omega) (by omega)]
theorem Ev_One (c : Int) : Ev (fun k => flongref02_One.f k c) (encodeRuneZ c) := by
  unfold flongref02_One.f
  refine Ev.const_bind (ref_Valid_is c) ?_
  by_cases hv : val c = true
  · have h := (val_iff c).mp hv
    refine Ev.pos hv ?_
    rw [w64 (by omega) (by omega)]
    exact Ev_One_j0 c hv
  · refine Ev.neg hv (Ev_eq (Ev_One_j0 65533 (by decide)) ?_)
    rw [encodeRuneZ_bad (r := c) (by rw [val_iff] at hv; omega)]
    rfl
theorem strOfNums_inj {a b : List Int} (ha : Bytes a) (hb : Bytes b) : ((strOfNums a).toList == (strOfNums b).toList) = decide (a = b) := by
  have inv : ∀ l : List Int, Bytes l → (strOfNums l).data.toList.map (fun x => (x.toNat : Int)) = l := by
    intro l hl
    rw [strOfNums_data, List.map_map]
    conv => rhs; rw [← List.map_id l]
    apply List.map_congr_left
    intro x hx
    have := hl x hx
    simp
    omega
  rw [toList_data, toList_data]
  by_cases h : a = b
  · subst h; simp
  · rw [decide_eq_false h, beq_eq_false_iff_ne]
    intro e
    apply h
    rw [← inv a ha, ← inv b hb, e]
theorem encodeRuneZ_Bytes (c : Int) : Bytes (encodeRuneZ c) := fun b hb => by have := encodeRuneZ_byte c b hb; omega
def gatherV : List Int → Int → Int
  | [], x => x
  | b :: t, x => gatherV t (x * 64 + b - 128)
def off (n : Nat) : Int := if n = 1 then 192 else if n = 2 then 224 else if n = 3 then 240 else 0
def value : List Int → Int
  | [] => 0
  | a :: t => gatherV t (a - off t.length)
def gv : Nat → Int
  | 0 => 1000000000000
  | n + 1 => gv n / 64 - 4
theorem gv_le : ∀ n, gv n ≤ 1000000000000
  | 0 => by simp [gv]
  | n + 1 => by have := gv_le n; simp only [gv]; omega
theorem Ev_value_l0 (l : List Int) (hB : Bytes l) (h4 : l.length ≤ 4) : ∀ (n i : Nat) (x : Int), i + n = l.length → -(gv n) ≤ x → x ≤ gv n → Ev (fun k => flongref02_value.l0 k l x (i : Int)) (gatherV (l.drop i) x)
  | 0, i, x, h, h0, h1 => by
    refine Ev.succ ?_
    simp only [flongref02_value.l0]
    rw [List.drop_eq_nil_of_le (by omega)]
    exact Ev.neg (by omega) (Ev.now _)
  | n + 1, i, x, h, h0, h1 => by
    have hg := gv_le n
    have hg1 := gv_le (n + 1)
    have e : gv (n + 1) = gv n / 64 - 4 := rfl
    have hi : i < l.length := by omega
    refine Ev.succ ?_
    simp only [flongref02_value.l0]
    rw [List.drop_eq_getElem_cons hi, rd_get l i hi]
    have hb := hB _ (List.getElem_mem hi)
    generalize l[i] = b at *
    refine Ev.pos (by omega) (Ev.pos (by omega) ?_)
    rw [w64 (n := b) (by omega) (by omega), w64 (n := x * 64) (by omega) (by omega), w64 (n := x * 64 + b) (by omega) (by omega), w64 (n := x * 64 + b - 128) (by omega) (by omega), w64 (n := (i : Int) + 1) (by omega) (by omega)]
    exact Ev_value_l0 l hB h4 n (i + 1) _ (by omega) (by omega) (by omega)
theorem Ev_value (l : List Int) (hB : Bytes l) (h0 : l ≠ []) (h4 : l.length ≤ 4) : Ev (fun k => flongref02_value.f k l) (value l) := by
  unfold flongref02_value.f
  obtain ⟨a, t, rfl⟩ : ∃ a t, l = a :: t := by cases l with | nil => exact absurd rfl h0 | cons a t => exact ⟨a, t, rfl⟩
  have ha := hB a (by simp)
  simp only [show rd (a :: t) 0 = a from rfl]
  simp only [List.length_cons] at h4 ⊢
  have j : ∀ x, -(gv 3) ≤ x → x ≤ gv 3 → Ev (fun k => flongref02_value.j0 k (a :: t) x) (gatherV t x) := by
    intro x h1 h2
    refine Ev.succ ?_
    simp only [flongref02_value.j0]
    have := Ev_value_l0 (a :: t) hB (by simpa using h4) t.length 1 x (by simp only [List.length_cons]; omega)
    have hk : gv 3 ≤ gv t.length := by
      have : t.length = 0 ∨ t.length = 1 ∨ t.length = 2 ∨ t.length = 3 := by omega
      rcases this with e | e | e | e <;> rw [e] <;> decide
    exact this (by omega) (by omega)
  have e3 : gv 3 = 3814693 := by decide
  refine Ev.pos (by omega) ?_
  rw [w64 (n := a) (by omega) (by omega), w64 (n := a - 192) (by omega) (by omega), w64 (n := a - 224) (by omega) (by omega), w64 (n := a - 240) (by omega) (by omega)]
  rw [show value (a :: t) = gatherV t (a - off t.length) from rfl]
  by_cases h1 : t.length = 1
  · rw [show off t.length = 192 by rw [h1]; rfl]
    exact Ev.pos (by omega) (j _ (by omega) (by omega))
  refine Ev.neg (by omega) ?_
  by_cases h2 : t.length = 2
  · rw [show off t.length = 224 by rw [h2]; rfl]
    exact Ev.pos (by omega) (j _ (by omega) (by omega))
  refine Ev.neg (by omega) ?_
  by_cases h3 : t.length = 3
  · rw [show off t.length = 240 by rw [h3]; rfl]
    exact Ev.pos (by omega) (j _ (by omega) (by omega))
  refine Ev.neg (by omega) ?_
  rw [show off t.length = 0 by unfold off; rw [if_neg h1, if_neg h2, if_neg h3], Int.sub_zero]
  exact j _ (by omega) (by omega)
theorem lead1 {a : Int} (h : (lead a).1 = 1) : a < 128 ∧ (lead a).2 = a := by
  unfold lead at h ⊢
  split at h
  · rename_i g; rw [if_pos g]; exact ⟨g, rfl⟩
  · split at h
    · cases h
    · split at h
      · cases h
      · split at h <;> cases h
theorem lead2 {a : Int} : (lead a).1 = 2 ↔ 192 ≤ a ∧ a ≤ 223 := by
  unfold lead
  constructor
  · intro h
    split at h
    · cases h
    · split at h
      · assumption
      · split at h
        · cases h
        · split at h <;> cases h
  · intro h
    rw [if_neg (by omega), if_pos h]
theorem lead3 {a : Int} : (lead a).1 = 3 ↔ 224 ≤ a ∧ a ≤ 239 := by
  unfold lead
  constructor
  · intro h
    split at h
    · cases h
    · split at h
      · cases h
      · split at h
        · assumption
        · split at h <;> cases h
  · intro h
    rw [if_neg (by omega), if_neg (by omega), if_pos h]
theorem lead4 {a : Int} : (lead a).1 = 4 ↔ 240 ≤ a ∧ a ≤ 247 := by
  unfold lead
  constructor
  · intro h
    split at h
    · cases h
    · split at h
      · cases h
      · split at h
        · cases h
        · split at h
          · assumption
          · cases h
  · intro h
    rw [if_neg (by omega), if_neg (by omega), if_neg (by omega), if_pos h]
theorem lead_snd {a : Int} : (192 ≤ a ∧ a ≤ 223 → (lead a).2 = a - 192) ∧ (224 ≤ a ∧ a ≤ 239 → (lead a).2 = a - 224) ∧ (240 ≤ a ∧ a ≤ 247 → (lead a).2 = a - 240) := by
  unfold lead
  refine ⟨fun h => ?_, fun h => ?_, fun h => ?_⟩
  · rw [if_neg (by omega), if_pos h]
  · rw [if_neg (by omega), if_neg (by omega), if_pos h]
  · rw [if_neg (by omega), if_neg (by omega), if_neg (by omega), if_pos h]
theorem enc_cases (v : Int) (hv : val v = true) : (v < 128 ∧ encodeRuneZ v = [v]) ∨ (128 ≤ v ∧ v < 2048 ∧ encodeRuneZ v = [192 + v / 64, 128 + v % 64]) ∨ (2048 ≤ v ∧ v < 65536 ∧ encodeRuneZ v = [224 + v / 4096, 128 + v / 64 % 64, 128 + v % 64]) ∨ (65536 ≤ v ∧ encodeRuneZ v = [240 + v / 262144, 128 + v / 4096 % 64, 128 + v / 64 % 64, 128 + v % 64]) := by
  have h := (val_iff v).mp hv
  by_cases h1 : v < 128
  · exact .inl ⟨h1, encodeRuneZ_one h.1 (by omega)⟩
  by_cases h2 : v < 2048
  · exact .inr (.inl ⟨by omega, h2, encodeRuneZ_two (by omega) (by omega)⟩)
  by_cases h3 : v < 65536
  · exact .inr (.inr (.inl ⟨by omega, h3, encodeRuneZ_three (by omega)⟩))
  · exact .inr (.inr (.inr ⟨by omega, encodeRuneZ_four (by omega) (by omega)⟩))
theorem good_of (l : List Int) (hB : Bytes l) (h0 : l ≠ []) (hv : val (value l) = true) (he : encodeRuneZ (value l) = l) : good l = some (value l) := by
  generalize hx : value l = v at *
  have hr := (val_iff v).mp hv
  rcases enc_cases v hv with ⟨h1, e⟩ | ⟨h1, h2, e⟩ | ⟨h1, h2, e⟩ | ⟨h1, e⟩
  all_goals rw [e] at he; subst he
  · rw [good_cons]
    have e1 : lead v = (1, v) := if_pos h1
    rw [e1]
    simp only [List.length_nil, gather, reduceIte, Option.bind_some]
    rw [if_pos ⟨hv, by unfold sz; rw [if_pos h1]; rfl⟩]
  · have hL : (lead (192 + v / 64)).1 = [128 + v % 64].length + 1 := lead2.mpr (by omega)
    rw [good_cons, if_pos hL, (lead_snd.1 (by omega))]
    simp only [gather]
    rw [if_pos (by omega), show (192 + v / 64 - 192) * 64 + (128 + v % 64 - 128) = v by omega]
    simp only [Option.bind_some]
    rw [if_pos ⟨hv, by unfold sz; rw [if_neg (by omega), if_pos (by omega)]; rfl⟩]
  · have hL : (lead (224 + v / 4096)).1 = [128 + v / 64 % 64, 128 + v % 64].length + 1 := lead3.mpr (by omega)
    rw [good_cons, if_pos hL, (lead_snd.2.1 (by omega))]
    simp only [gather]
    rw [if_pos (by omega), if_pos (by omega), show ((224 + v / 4096 - 224) * 64 + (128 + v / 64 % 64 - 128)) * 64 + (128 + v % 64 - 128) = v by omega]
    simp only [Option.bind_some]
    rw [if_pos ⟨hv, by unfold sz; rw [if_neg (by omega), if_neg (by omega), if_pos (by omega)]; rfl⟩]
  · have hL : (lead (240 + v / 262144)).1 = [128 + v / 4096 % 64, 128 + v / 64 % 64, 128 + v % 64].length + 1 := lead4.mpr (by omega)
    rw [good_cons, if_pos hL, (lead_snd.2.2 (by omega))]
    simp only [gather]
    rw [if_pos (by omega), if_pos (by omega), if_pos (by omega), show (((240 + v / 262144 - 240) * 64 + (128 + v / 4096 % 64 - 128)) * 64 + (128 + v / 64 % 64 - 128)) * 64 + (128 + v % 64 - 128) = v by omega]
    simp only [Option.bind_some]
    rw [if_pos ⟨hv, by unfold sz; rw [if_neg (by omega), if_neg (by omega), if_neg (by omega)]; rfl⟩]
theorem gather_V : ∀ (t : List Int) (x v : Int), gather t x = some v → gatherV t x = v ∧ ∀ b ∈ t, 128 ≤ b ∧ b ≤ 191
  | [], x, v, h => by simp only [gather] at h; cases h; exact ⟨rfl, by simp⟩
  | b :: t, x, v, h => by
    simp only [gather] at h
    split at h
    · rename_i hb
      have := gather_V t _ v h
      refine ⟨?_, ?_⟩
      · simp only [gatherV]
        rw [← this.1, show x * 64 + b - 128 = x * 64 + (b - 128) by omega]
      · intro c hc
        rcases List.mem_cons.mp hc with rfl | hc
        · exact hb
        · exact this.2 c hc
    · cases h
theorem of_good (l : List Int) (hB : Bytes l) (h4 : l.length ≤ 4) {v : Int} (h : good l = some v) : value l = v ∧ val v = true ∧ encodeRuneZ v = l := by
  cases l with
  | nil => cases h
  | cons a t =>
    have hl := good_lead h
    rw [good_cons, if_pos hl.1] at h
    obtain ⟨x, hx, h2⟩ := Option.bind_eq_some_iff.mp h
    split at h2
    · rename_i hc
      cases h2
      have hg := gather_V t _ v hx
      have hr := (val_iff v).mp hl.2
      have ha := hB a (by simp)
      have hz := hc.2
      unfold sz at hz
      match t, h4 with
      | [], _ =>
        have e := lead1 hl.1
        simp only [gather, e.2] at hx
        cases hx
        refine ⟨by simp [value, gatherV, off], hl.2, encodeRuneZ_one (by omega) (by omega)⟩
      | [b], _ =>
        have e := lead2.mp hl.1
        have hb := hg.2 b (by simp)
        rw [lead_snd.1 e] at hg
        have hv2 := hg.1
        simp only [gatherV] at hv2
        have h2048 : 128 ≤ v ∧ v < 2048 := by
          simp only [List.length_cons, List.length_nil] at hz
          split at hz
          · omega
          · split at hz
            · omega
            · split at hz <;> omega
        refine ⟨by simp only [value, gatherV, off, List.length_cons, List.length_nil, reduceIte]; omega, hl.2, ?_⟩
        rw [encodeRuneZ_two (by omega) (by omega), show 192 + v / 64 = a by omega, show 128 + v % 64 = b by omega]
      | [b, c], _ =>
        have e := lead3.mp hl.1
        have hb := hg.2 b (by simp)
        have hc' := hg.2 c (by simp)
        rw [lead_snd.2.1 e] at hg
        have hv2 := hg.1
        simp only [gatherV] at hv2
        have h2048 : 2048 ≤ v ∧ v < 65536 := by
          simp only [List.length_cons, List.length_nil] at hz
          split at hz
          · omega
          · split at hz
            · omega
            · split at hz <;> omega
        refine ⟨by simp only [value, gatherV, off, List.length_cons, List.length_nil]; simp; omega, hl.2, ?_⟩
        rw [encodeRuneZ_three (by omega), show 224 + v / 4096 = a by omega, show 128 + v / 64 % 64 = b by omega, show 128 + v % 64 = c by omega]
      | [b, c, d], _ =>
        have e := lead4.mp hl.1
        have hb := hg.2 b (by simp)
        have hc' := hg.2 c (by simp)
        have hd := hg.2 d (by simp)
        rw [lead_snd.2.2 e] at hg
        have hv2 := hg.1
        simp only [gatherV] at hv2
        have h2048 : 65536 ≤ v := by
          simp only [List.length_cons, List.length_nil] at hz
          split at hz
          · omega
          · split at hz
            · omega
            · split at hz <;> omega
        refine ⟨by simp only [value, gatherV, off, List.length_cons, List.length_nil]; simp; omega, hl.2, ?_⟩
        rw [encodeRuneZ_four (by omega) (by omega), show 240 + v / 262144 = a by omega, show 128 + v / 4096 % 64 = b by omega, show 128 + v / 64 % 64 = c by omega, show 128 + v % 64 = d by omega]
    · cases h2
theorem Ev_is (l : List Int) (hB : Bytes l) (h0 : l ≠ []) (h4 : l.length ≤ 4) : Ev (fun k => flongref02_is.f k l) (good l).isSome := by
  unfold flongref02_is.f
  refine Ev.bind (Ev_value l hB h0 h4) ?_
  have bad : ¬ (val (value l) = true ∧ encodeRuneZ (value l) = l) → (good l).isSome = false := by
    intro h
    cases hg : good l with
    | none => rfl
    | some v =>
      have := of_good l hB h4 hg
      exact absurd (by rw [this.1]; exact this.2) h
  by_cases h1 : value l < 0
  · rw [bad (by rw [val_iff]; omega)]
    exact Ev.pos h1 (Ev.now _)
  refine Ev.neg h1 ?_
  by_cases h2 : value l > 1114111
  · rw [bad (by rw [val_iff]; omega)]
    exact Ev.pos h2 (Ev.now _)
  refine Ev.neg h2 ?_
  rw [w32 (by omega) (by omega)]
  refine Ev.const_bind (ref_Valid_is _) ?_
  by_cases hv : val (value l) = true
  · refine Ev.pos hv (Ev.bind (Ev_One _) (Ev.val ?_))
    rw [strOfNums_inj (encodeRuneZ_Bytes _) hB]
    by_cases he : encodeRuneZ (value l) = l
    · rw [good_of l hB h0 hv he]
      simpa using he
    · rw [bad (fun h => he h.2)]
      simpa using he
  · rw [bad (fun h => hv h.1)]
    exact Ev.neg hv (Ev.now _)
end Go.Proofs.YtdogljnddalgdaaDoor.A6
end
section
namespace Go.Proofs.YtdogljnddalgdaaDoor.A6
open Go Go.RowKit Go.Proofs.YtdogljnddalgdaaDoor Go.Proofs.YtdogljnddalgdaaDoorW.PrintWords Go.Proofs.YtdogljnddalgdaaDoorW.PrintLast Go.Proofs.YtdogljnddalgdaaDoorW.PrintMore
open Go.Lib (encodeRuneZ encodeRuneZ_one encodeRuneZ_two encodeRuneZ_three encodeRuneZ_four encodeRuneZ_bad encodeRuneZ_byte encodeRuneZ_length)
theorem sl (l : List Int) (i n : Nat) : (l.take (i + n)).drop i = (l.drop i).take n := by rw [List.drop_take]; congr 1; omega
section
variable {x acc R : List Int} {i : Nat}
theorem RD_stop (hx : x.length ≤ 35184372088831) {n : Nat} (hn1 : 1 ≤ n) (hn : n = 5 ∨ x.length < i + n) (hn5 : n ≤ 5) (hi : i < x.length) (ha : acc.length ≤ i)
    (h : Ev (fun k => flongref02_Decode.l0 k x (acc ++ [65533]) ((i + 1 : Nat) : Int)) R) : Ev (fun k => flongref02_Decode.l1 k x acc (i : Int) 0 (n : Int)) R := by
  have j : Ev (fun k => flongref02_Decode.j2 k x acc (i : Int) 0 (n : Int) false) R := by
    refine Ev.succ ?_
    simp only [flongref02_Decode.j2, Bool.false_eq_true, reduceIte]
    refine Ev.pos (by omega) ?_
    rw [w64 (by omega) (by omega)]
    exact h
  refine Ev.succ ?_
  simp only [flongref02_Decode.l1]
  rw [w64 (by omega) (by omega)]
  by_cases h4 : (n : Int) ≤ 4
  · refine Ev.pos h4 (Ev.neg (by omega) j)
  · exact Ev.neg h4 j
theorem RD_go (hx : x.length ≤ 35184372088831) {n : Nat} (hn1 : 1 ≤ n) (hn4 : n ≤ 4) (hl : i + n ≤ x.length)
    (h : Ev (fun k => (flongref02_is.f k ((x.drop i).take n)).bind fun t164 => if t164 = true then flongref02_Decode.l1 k x acc (i : Int) (n : Int) ((n + 1 : Nat) : Int) else flongref02_Decode.l1 k x acc (i : Int) 0 ((n + 1 : Nat) : Int)) R) :
    Ev (fun k => flongref02_Decode.l1 k x acc (i : Int) 0 (n : Int)) R := by
  refine Ev.succ ?_
  simp only [flongref02_Decode.l1]
  rw [w64 (by omega) (by omega)]
  refine Ev.pos (by omega) (Ev.pos (by omega) (Ev.succ ?_))
  simp only [flongref02_Decode.j2]
  rw [w64 (n := (i : Int) + n) (by omega) (by omega), w64 (n := (n : Int) + 1) (by omega) (by omega)]
  refine Ev.pos rfl (Ev.pos (by omega) (Ev.pos (by omega) (Ev.pos (by omega) ?_)))
  rw [show ((i : Int) + n).toNat = i + n by omega, Int.toNat_natCast, sl]
  exact h
theorem RD_miss (hx : x.length ≤ 35184372088831) (hB : Bytes x) {n : Nat} (hn1 : 1 ≤ n) (hn4 : n ≤ 4) (hl : i + n ≤ x.length) (hg : good ((x.drop i).take n) = none)
    (h : Ev (fun k => flongref02_Decode.l1 k x acc (i : Int) 0 ((n + 1 : Nat) : Int)) R) : Ev (fun k => flongref02_Decode.l1 k x acc (i : Int) 0 (n : Int)) R := by
  refine RD_go hx hn1 hn4 hl ?_
  have hlen : ((x.drop i).take n).length = n := by rw [List.length_take, List.length_drop]; omega
  refine Ev.bind (Ev_is _ ((hB.drop i).take n) (by intro e; rw [e] at hlen; simp at hlen; omega) (by omega)) ?_
  rw [hg]
  exact Ev.neg (by simp) h
theorem RD_hit (hx : x.length ≤ 35184372088831) (hB : Bytes x) {n : Nat} (hn1 : 1 ≤ n) (hn4 : n ≤ 4) (hl : i + n ≤ x.length) {v : Int} (hg : good ((x.drop i).take n) = some v) (ha : acc.length ≤ i)
    (h : Ev (fun k => flongref02_Decode.l0 k x (acc ++ [v]) ((i + n : Nat) : Int)) R) : Ev (fun k => flongref02_Decode.l1 k x acc (i : Int) 0 (n : Int)) R := by
  refine RD_go hx hn1 hn4 hl ?_
  have hlen : ((x.drop i).take n).length = n := by rw [List.length_take, List.length_drop]; omega
  have hne : (x.drop i).take n ≠ [] := by intro e; rw [e] at hlen; simp at hlen; omega
  have hBt := (hB.drop i).take n
  refine Ev.bind (Ev_is _ hBt hne (by omega)) ?_
  rw [hg]
  refine Ev.pos rfl (Ev.succ ?_)
  have hv := of_good _ hBt (by omega) hg
  have hvr := (val_iff v).mp hv.2.1
  have j : Ev (fun k => flongref02_Decode.j2 k x acc (i : Int) (n : Int) ((n + 1 : Nat) : Int) false) R := by
    refine Ev.succ ?_
    simp only [flongref02_Decode.j2, Bool.false_eq_true, reduceIte]
    rw [w64 (n := (i : Int) + n) (by omega) (by omega)]
    refine Ev.neg (by omega) (Ev.pos (by omega) (Ev.pos (by omega) (Ev.pos (by omega) ?_)))
    rw [show ((i : Int) + n).toNat = i + n by omega, Int.toNat_natCast, sl]
    refine Ev.bind (Ev_value _ hBt hne (by omega)) (Ev.pos (by omega) ?_)
    rw [hv.1, w32 (by omega) (by omega), show (i : Int) + n = ((i + n : Nat) : Int) by omega]
    exact h
  simp only [flongref02_Decode.l1]
  by_cases h4 : ((n + 1 : Nat) : Int) ≤ 4
  · refine Ev.pos h4 ?_
    by_cases h5 : wrap64 ((i : Int) + ((n + 1 : Nat) : Int)) ≤ (x.length : Int)
    · refine Ev.pos h5 ?_
      rw [show ((n : Int) == 0) = false by simp; omega]
      exact j
    · exact Ev.neg h5 j
  · exact Ev.neg h4 j
end
theorem good_not_lead {l : List Int} {a : Int} {t : List Int} (he : l = a :: t) (h : (lead a).1 ≠ l.length) : good l = none := by
  subst he
  exact if_neg h
theorem Ev_RDecode_l0 (x : List Int) (hB : Bytes x) (hx : x.length ≤ 35184372088831) : ∀ (n i : Nat) (acc : List Int), x.length - i ≤ n → i ≤ x.length → acc.length ≤ i → Ev (fun k => flongref02_Decode.l0 k x acc (i : Int)) (acc ++ dec (x.drop i))
  | n, i, acc, h, hi, ha => by
    by_cases hl : i < x.length
    case neg =>
      refine Ev.succ ?_
      simp only [flongref02_Decode.l0]
      rw [List.drop_eq_nil_of_le (by omega), dec_nil, List.append_nil]
      exact Ev.neg (by omega) (Ev.now _)
    refine Ev.succ ?_
    simp only [flongref02_Decode.l0]
    refine Ev.pos (by omega) ?_
    obtain ⟨a, t, he⟩ : ∃ a t, x.drop i = a :: t := ⟨_, _, List.drop_eq_getElem_cons hl⟩
    have hlen : t.length + 1 + i = x.length := by have := congrArg List.length he; rw [List.length_drop] at this; simp at this; omega
    have hstep : ∀ (v : Int) (m : Nat), 1 ≤ m → i + m ≤ x.length → d1 a t = (v, m) → Ev (fun k => flongref02_Decode.l0 k x (acc ++ [v]) ((i + m : Nat) : Int)) (acc ++ dec (x.drop i)) := by
      intro v m hm hm2 hd
      match n with
      | 0 => omega
      | n + 1 =>
        refine Ev_eq (Ev_RDecode_l0 x hB hx n (i + m) (acc ++ [v]) (by omega) hm2 (by rw [List.length_append]; simp; omega)) ?_
        rw [he, dec_cons, hd, ← he, List.drop_drop, List.append_assoc]
        rfl
    -- a miss at every length but the lead's
    have miss : ∀ m : Nat, 1 ≤ m → i + m ≤ x.length → (lead a).1 ≠ m → good ((x.drop i).take m) = none := by
      intro m h1 h2 h3
      obtain ⟨m', rfl⟩ : ∃ m', m = m' + 1 := ⟨m - 1, by omega⟩
      refine good_not_lead (a := a) (t := t.take m') (by rw [he, List.take_succ_cons]) ?_
      rw [List.length_take, List.length_drop]
      omega
    have hL := lead_le a
    have all : ∀ (m c : Nat), m + c = 5 → 1 ≤ m → (∀ j : Nat, m ≤ j → i + j ≤ x.length → j ≤ 4 → good ((x.drop i).take j) = none) → d1 a t = (65533, 1) → Ev (fun k => flongref02_Decode.l1 k x acc (i : Int) 0 (m : Int)) (acc ++ dec (x.drop i)) := by
      intro m c
      induction c generalizing m with
      | zero => intro hm h1 hall hd; exact RD_stop hx h1 (.inl (by omega)) (by omega) hl ha (hstep _ 1 (by omega) (by omega) hd)
      | succ c ih =>
        intro hm h1 hall hd
        by_cases hs : x.length < i + m
        · exact RD_stop hx h1 (.inr hs) (by omega) hl ha (hstep _ 1 (by omega) (by omega) hd)
        · exact RD_miss hx hB h1 (by omega) (by omega) (hall m (by omega) (by omega) (by omega)) (ih (m + 1) (by omega) (by omega) (fun j h2 => hall j (by omega)) hd)
    by_cases hbad : (lead a).1 = 0 ∨ t.length + 1 < (lead a).1 ∨ good ((x.drop i).take (lead a).1) = none
    · refine all 1 4 rfl (by omega) ?_ ?_
      · intro j h1 h2 h3
        by_cases hj : (lead a).1 = j
        · subst hj
          rcases hbad with h0 | h0 | h0
          · omega
          · omega
          · exact h0
        · exact miss j h1 h2 hj
      · rcases hbad with h0 | h0 | h0
        · exact d1_bad (.inl h0)
        · exact d1_bad (.inr h0)
        · unfold d1
          split
          · rfl
          · rw [← he, h0]
    · have h0 : (lead a).1 ≠ 0 := fun h => hbad (.inl h)
      have h1 : ¬ t.length + 1 < (lead a).1 := fun h => hbad (.inr (.inl h))
      cases hg : good ((x.drop i).take (lead a).1) with
      | none => exact absurd (.inr (.inr hg)) hbad
      | some v =>
        have hd : d1 a t = (v, (lead a).1) := by
          unfold d1
          rw [if_neg h1, ← he, hg]
        have hit := RD_hit (acc := acc) (R := acc ++ dec (x.drop i)) hx hB (by omega : 1 ≤ (lead a).1) hL (by omega) hg ha (hstep v _ (by omega) (by omega) hd)
        have up : ∀ (c m : Nat), m + c = (lead a).1 → 1 ≤ m → Ev (fun k => flongref02_Decode.l1 k x acc (i : Int) 0 (m : Int)) (acc ++ dec (x.drop i)) := by
          intro c
          induction c with
          | zero => intro m hm h2; rw [show m = (lead a).1 by omega]; exact hit
          | succ c ih => intro m hm h2; exact RD_miss hx hB h2 (by omega) (by omega) (miss m h2 (by omega) (by omega)) (ih (m + 1) (by omega) (by omega))
        exact up ((lead a).1 - 1) 1 (by omega) (by omega)
theorem Ev_RDecode (x : List Int) (hB : Bytes x) (hx : x.length ≤ 35184372088831) : Ev (fun k => flongref02_Decode.f k x) (dec x) := by
  unfold flongref02_Decode.f
  exact Ev_eq (Ev_RDecode_l0 x hB hx x.length 0 [] (by omega) (by omega) (by simp)) (by simp)
def enc (l : List Int) : List Int := l.flatMap encodeRuneZ
theorem Ev_REncode_l0 (l : List Int) (hl : l.length ≤ 35184372088831) : ∀ (n i : Nat) (acc : List Int), i + n = l.length → acc.length ≤ 4 * i → Ev (fun k => flongref02_Encode.l0 k l acc (i : Int)) (acc ++ enc (l.drop i))
  | 0, i, acc, h, ha => by
    refine Ev.succ ?_
    simp only [flongref02_Encode.l0]
    rw [List.drop_eq_nil_of_le (by omega), show enc [] = [] from rfl, List.append_nil]
    exact Ev.neg (by omega) (Ev.now _)
  | n + 1, i, acc, h, ha => by
    have hi : i < l.length := by omega
    refine Ev.succ ?_
    simp only [flongref02_Encode.l0]
    rw [List.drop_eq_getElem_cons hi, rd_get l i hi]
    have h4 := encodeRuneZ_length l[i]
    refine Ev.pos (by omega) (Ev.pos (by omega) (Ev.bind (Ev_One _) (Ev.pos (by omega) ?_)))
    rw [w64 (by omega) (by omega)]
    refine Ev_eq (Ev_REncode_l0 l hl n (i + 1) _ (by omega) (by rw [List.length_append]; omega)) ?_
    rw [List.append_assoc]
    rfl
theorem encode_eq (c : Int) : (Utf8.encode c).data.toList = (strOfNums (encodeRuneZ c)).data.toList := by
  rw [strOfNums_data]
  unfold Utf8.encode
  by_cases hv : val c = true
  · have hv2 : Utf8.valid c = true := by rw [val_iff] at hv; unfold Utf8.valid; simp; omega
    have hr := (val_iff c).mp hv
    rw [if_pos hv2]
    obtain ⟨m, rfl⟩ := Int.eq_ofNat_of_zero_le hr.1
    simp only [Int.toNat_natCast]
    rcases enc_cases _ hv with ⟨h1, e⟩ | ⟨h1, h2, e⟩ | ⟨h1, h2, e⟩ | ⟨h1, e⟩
    · rw [e, if_pos (by omega)]; simp
    · rw [e, if_neg (by omega), if_pos (by omega)]
      simp only [List.map_cons, List.map_nil]
      rw [show (192 + (m : Int) / 64).toNat = 0xC0 + m / 64 by omega, show (128 + (m : Int) % 64).toNat = 0x80 + m % 64 by omega]
    · rw [e, if_neg (by omega), if_neg (by omega), if_pos (by omega)]
      simp only [List.map_cons, List.map_nil]
      rw [show (224 + (m : Int) / 4096).toNat = 0xE0 + m / 4096 by omega, show (128 + (m : Int) / 64 % 64).toNat = 0x80 + m / 64 % 64 by omega, show (128 + (m : Int) % 64).toNat = 0x80 + m % 64 by omega]
    · rw [e, if_neg (by omega), if_neg (by omega), if_neg (by omega)]
      simp only [List.map_cons, List.map_nil]
      rw [show (240 + (m : Int) / 262144).toNat = 0xF0 + m / 262144 by omega, show (128 + (m : Int) / 4096 % 64).toNat = 0x80 + m / 4096 % 64 by omega, show (128 + (m : Int) / 64 % 64).toNat = 0x80 + m / 64 % 64 by omega, show (128 + (m : Int) % 64).toNat = 0x80 + m % 64 by omega]
  · have hv2 : ¬ Utf8.valid c = true := by rw [val_iff] at hv; unfold Utf8.valid; simp; omega
    rw [if_neg hv2, encodeRuneZ_bad (by rw [val_iff] at hv; omega)]
    rfl
theorem runesBytes_data (l : List Int) : (runesBytes l).data.toList = (strOfNums (enc l)).data.toList := by
  have g : ∀ (l : List Int) (s : ByteArray), (l.foldl (fun r n => r ++ Utf8.encode n) s).data.toList = s.data.toList ++ (strOfNums (enc l)).data.toList := by
    intro l
    induction l with
    | nil => intro s; simp [enc, strOfNums]
    | cons c l ih =>
      intro s
      rw [List.foldl_cons, ih, ByteArray.data_append, Array.toList_append, encode_eq]
      simp only [strOfNums_data, enc, List.flatMap_cons, List.map_append, List.append_assoc]
  unfold runesBytes
  rw [g]
  rfl
theorem Ev_Rtext (l : List Int) (hl : l.length ≤ 35184372088831) : Ev (fun k => flongref04_text.f k l) (runesBytes l) := by
  unfold flongref04_text.f
  refine Ev.bind (?_ : Ev (fun k => flongref02_Encode.f k l) (enc l)) (Ev.val (bytes_ext (runesBytes_data l).symm))
  unfold flongref02_Encode.f
  exact Ev_eq (Ev_REncode_l0 l hl l.length 0 [] (by omega) (by simp)) (by simp)
end Go.Proofs.YtdogljnddalgdaaDoor.A6
end
section
namespace Go.Proofs.YtdogljnddalgdaaDoor.A6
open Go Go.RowKit Go.Proofs.YtdogljnddalgdaaDoor Go.Proofs.YtdogljnddalgdaaDoorW.PrintWords Go.Proofs.YtdogljnddalgdaaDoorW.PrintLast Go.Proofs.YtdogljnddalgdaaDoorW.PrintMore
def idx : List Int → Option Nat
  | [] => none
  | c :: t => if c = 93 then some 0 else (idx t).map (· + 1)
def nameS : List Int → Option (ByteArray × Nat)
  | [] => none
  | c :: t => if c = 91 then (idx t).map fun e => (runesBytes (t.take e), e + 2)
    else if c = 40 then (match t with | a :: b :: _ => some (runesBytes [a, b], 3) | _ => none)
    else some (runesBytes [c], 1)
def told (v : Option (ByteArray × Nat)) (f : ByteArray → Int) (kind : Int) (q : Int) (more : Nat) : Option Nat × List S38 × List S41 := match v with
  | none => (none, [], [⟨1, 0, q⟩])
  | some (x, n) => if 0 ≤ f x then (some (n + more), [⟨kind, f x⟩], []) else (some (n + more), [], [⟨2, 0, q⟩])
def escS (q : Int) : List Int → Option Nat × List S38 × List S41
  | [] => (none, [], [⟨1, 0, q⟩])
  | c :: t => if c = 92 ∨ c = 101 then (some 1, [⟨1, 92⟩], [])
    else if c = 45 ∨ c = 46 then (some 1, [⟨1, c⟩], [])
    else if c = 39 then (some 1, [⟨1, 180⟩], [])
    else if c = 96 then (some 1, [⟨1, c⟩], [])
    else if c = 32 ∨ c = 126 ∨ c = 48 then (some 1, [⟨1, 160⟩], [])
    else if c = 38 ∨ c = 37 ∨ c = 47 ∨ c = 44 ∨ c = 58 then (some 1, [], [])
    else if c = 34 then (none, [], [])
    else if c = 40 ∨ c = 91 then told (nameS (c :: t)) nameSpec 1 q 0
    else if c = 102 then told (nameS t) fontSpec 3 q 1
    else (some 1, [], [⟨1, 0, q⟩])
def scanS : Nat → Int → List Int → List S38 × List S41
  | 0, _, _ => ([], [])
  | _ + 1, _, [] => ([], [])
  | n + 1, p, c :: t => if c = 32 ∨ c = 9 then (⟨2, 0⟩ :: (scanS n (p + 1) t).1, (scanS n (p + 1) t).2)
    else if c = 92 then (match (escS (p + 1) t).1 with
      | none => (escS (p + 1) t).2
      | some m => ((escS (p + 1) t).2.1 ++ (scanS n (p + 1 + m) (t.drop m)).1, (escS (p + 1) t).2.2 ++ (scanS n (p + 1 + m) (t.drop m)).2))
    else if ctl c = true then (⟨1, 65533⟩ :: (scanS n (p + 1) t).1, ⟨3, 0, p + 1⟩ :: (scanS n (p + 1) t).2)
    else (⟨1, c⟩ :: (scanS n (p + 1) t).1, (scanS n (p + 1) t).2)
theorem idx_lt : ∀ (l : List Int) {e : Nat}, idx l = some e → e < l.length
  | [], _, h => by cases h
  | c :: t, e, h => by
    unfold idx at h
    split at h
    · cases h; simp
    · obtain ⟨e', h1, rfl⟩ := Option.map_eq_some_iff.mp h
      have := idx_lt t h1
      simp; omega
theorem Ev_Index_l0 (l : List Int) (hl : l.length ≤ 35184372088831) : ∀ (n i : Nat), i + n = l.length → Ev (fun k => slices_Index_rune_rune.l0 k l 93 (l.length : Int) (i : Int)) (match idx (l.drop i) with | none => -1 | some e => ((i + e : Nat) : Int))
  | 0, i, h => by
    refine Ev.succ ?_
    simp only [slices_Index_rune_rune.l0]
    rw [List.drop_eq_nil_of_le (by omega)]
    exact Ev.neg (by omega) (Ev.now _)
  | n + 1, i, h => by
    have hi : i < l.length := by omega
    refine Ev.succ ?_
    simp only [slices_Index_rune_rune.l0]
    rw [List.drop_eq_getElem_cons hi, rd_get l i hi]
    generalize l[i] = c
    refine Ev.pos (by omega) (Ev.pos (by omega) (Ev.pos (by omega) ?_))
    simp only [idx]
    by_cases hc : c = 93
    · refine Ev.pos hc.symm ?_
      rw [if_pos hc]
      exact Ev.now _
    · refine Ev.neg (fun e => hc e.symm) ?_
      rw [if_neg hc, w64 (by omega) (by omega)]
      refine Ev_eq (Ev_Index_l0 l hl n (i + 1) (by omega)) ?_
      cases idx (l.drop (i + 1)) with
      | none => rfl
      | some e => simp only [Option.map_some]; omega
theorem Ev_Index (l : List Int) (hl : l.length ≤ 35184372088831) : Ev (fun k => slices_Index_rune_rune.f k l 93) (match idx l with | none => -1 | some e => (e : Int)) := by
  unfold slices_Index_rune_rune.f
  refine Ev_eq (Ev_Index_l0 l hl l.length 0 (by omega)) ?_
  rw [List.drop_zero]
  cases idx l with
  | none => rfl
  | some e => simp
theorem rd_at {l : List Int} {p : Nat} {c : Int} {t : List Int} (h : l.drop p = c :: t) : p < l.length ∧ rd l (p : Int) = c ∧ l.drop (p + 1) = t ∧ t.length + 1 + p = l.length := by
  have hl : p < l.length := by
    rcases Nat.lt_or_ge p l.length with h1 | h1
    · exact h1
    · rw [List.drop_eq_nil_of_le h1] at h; cases h
  rw [List.drop_eq_getElem_cons hl] at h
  injection h with h1 h2
  refine ⟨hl, by rw [rd_get l p hl, h1], h2, ?_⟩
  rw [← h2, List.length_drop]; omega
theorem rd_end {l : List Int} {p : Nat} (h : l.drop p = []) (hp : p ≤ l.length) : p = l.length := by
  have := congrArg List.length h
  rw [List.length_drop] at this
  simp at this; omega
theorem Ev_rd_name (l : List Int) (hl : l.length ≤ 1000000) (p : Nat) (hp : p ≤ l.length) (one : Bool) (ho : one = true ∨ ∃ c t, l.drop p = c :: t ∧ (c = 91 ∨ c = 40)) :
    ∃ q : Int, Ev (fun k => rd_name k l (p : Int) one) (match nameS (l.drop p) with | none => (⟨#[]⟩, false, q) | some (x, n) => (x, true, ((p + n : Nat) : Int))) := by
  unfold rd_name
  cases hd : l.drop p with
  | nil =>
    have := rd_end hd hp
    exact ⟨_, Ev.pos (by omega) (Ev.now _)⟩
  | cons c t =>
    obtain ⟨h1, h2, h3, h4⟩ := rd_at hd
    rw [hd] at ho
    simp only [h2, Int.toNat_natCast, hd]
    by_cases h91 : c = 91
    · refine ⟨p, Ev.neg (by omega) (Ev.pos h91 ?_)⟩
      refine Ev.bind (Ev_Index (c :: t) (by simp only [List.length_cons]; omega)) ?_
      have e : idx (c :: t) = (idx t).map (· + 1) := if_neg (by omega)
      rw [e]
      simp only [nameS, if_pos h91]
      cases hi : idx t with
      | none => exact Ev.pos (by simp) (Ev.now _)
      | some e =>
        have := idx_lt t hi
        simp only [Option.map_some]
        refine Ev.neg (by omega) (Ev.pos (by simp only [List.length_cons]; omega) (Ev.val ?_))
        rw [Int.toNat_natCast, List.take_succ_cons]
        simp only [List.drop_succ_cons, List.drop_zero]
        congr 2
    by_cases h40 : c = 40
    · refine ⟨((p + 1 : Nat) : Int), Ev.neg (by omega) (Ev.neg h91 (Ev.pos h40 ?_))⟩
      simp only [nameS, if_neg h91, if_pos h40]
      match t, h3, h4 with
      | [], _, h4 =>
        simp only [List.length_nil] at h4
        exact Ev.pos (by omega) (Ev.val (by simp))
      | [a], _, h4 =>
        simp only [List.length_cons, List.length_nil] at h4
        exact Ev.pos (by omega) (Ev.val (by simp))
      | a :: b :: r, h3, h4 =>
        simp only [List.length_cons] at h4
        refine Ev.neg (by omega) (Ev.val ?_)
        rw [show ((p : Int) + 1 + 2).toNat = p + 1 + 2 by omega, show ((p : Int) + 1).toNat = p + 1 by omega, sl, h3]
        simp only [List.take_succ_cons, List.take_zero]
        congr 2
    · have h1' : one = true := by
        rcases ho with h | ⟨c', t', h, h'⟩
        · exact h
        · cases h; omega
      refine ⟨p, Ev.neg (by omega) (Ev.neg h91 (Ev.neg h40 (Ev.pos h1' (Ev.val ?_))))⟩
      simp only [nameS, if_neg h91, if_neg h40]
      rw [show ((p : Int) + 1).toNat = p + 1 by omega, sl, hd]
      simp only [List.take_succ_cons, List.take_zero]
      congr 2
theorem runesBytes_le {l : List Int} (h : l.length ≤ 1000000) : (runesBytes l).size ≤ 9223372036854775807 := by
  have := runesBytes_size_le l
  omega
theorem nameS_size {l : List Int} (h : l.length ≤ 1000000) {x : ByteArray} {n : Nat} (hn : nameS l = some (x, n)) : x.size ≤ 9223372036854775807 ∧ 1 ≤ n ∧ n ≤ l.length := by
  match l, h, hn with
  | [], _, hn => cases hn
  | c :: t, h, hn =>
    simp only [List.length_cons] at h
    simp only [nameS] at hn
    split at hn
    · obtain ⟨e, h1, h2⟩ := Option.map_eq_some_iff.mp hn
      cases h2
      have := idx_lt t h1
      exact ⟨runesBytes_le (by rw [List.length_take]; omega), by omega, by simp only [List.length_cons]; omega⟩
    · split at hn
      · split at hn
        · cases hn
          exact ⟨runesBytes_le (by simp), by omega, by simp⟩
        · cases hn
      · cases hn
        exact ⟨runesBytes_le (by simp), by omega, by simp⟩
def onto (xs : List S38) (ys : List S41) (p : Nat) (q : Int) (t : Option Nat × List S38 × List S41) : Bool × Int × List S38 × List S41 := match t.1 with
  | none => (false, q, xs ++ t.2.1, ys ++ t.2.2)
  | some m => (true, ((p + m : Nat) : Int), xs ++ t.2.1, ys ++ t.2.2)
theorem Ev_rd_named (l : List Int) (hl : l.length ≤ 1000000) (p : Nat) (hp : p ≤ l.length) (xs : List S38) (ys : List S41) (font : Bool) (ho : font = true ∨ ∃ c t, l.drop p = c :: t ∧ (c = 91 ∨ c = 40)) (f : Int) (hf : 0 ≤ f) (hf2 : f ≤ 1000000) :
    ∃ q : Int, Ev (fun k => rd_named k l (p : Int) xs ys font f) (onto xs ys p q (told (nameS (l.drop p)) (if font = true then fontSpec else nameSpec) (if font = true then 3 else 1) (f + 1) 0)) := by
  obtain ⟨q, hq⟩ := Ev_rd_name l hl p hp font ho
  refine ⟨q, ?_⟩
  unfold rd_named
  refine Ev.bind hq ?_
  rw [w64 (by omega) (by omega)]
  cases hn : nameS (l.drop p) with
  | none =>
    simp only [told, onto, List.append_nil]
    exact Ev.neg (by simp) (Ev.now _)
  | some v =>
    obtain ⟨x, n⟩ := v
    have hx := nameS_size (by rw [List.length_drop]; omega) hn
    simp only [told]
    refine Ev.pos trivial ?_
    cases font with
    | true =>
      simp only [reduceIte]
      refine Ev.const_bind (Font_is x hx.1) ?_
      by_cases h0 : 0 ≤ fontSpec x
      · simp only [if_pos h0, onto, List.append_nil, Nat.add_zero]
        exact Ev.pos trivial (Ev.now _)
      · simp only [if_neg h0, onto, List.append_nil, Nat.add_zero]
        exact Ev.neg (by simp) (Ev.now _)
    | false =>
      simp only [Bool.false_eq_true, reduceIte]
      refine Ev.bind (Ev_Name x hx.1) ?_
      by_cases h0 : 0 ≤ nameSpec x
      · simp only [if_pos h0, onto, List.append_nil, Nat.add_zero]
        exact Ev.pos trivial (Ev.now _)
      · simp only [if_neg h0, onto, List.append_nil, Nat.add_zero]
        exact Ev.neg (by simp) (Ev.now _)
theorem Ev_rd_escape (l : List Int) (hl : l.length ≤ 1000000) (p : Nat) (hp : p ≤ l.length) (xs : List S38) (ys : List S41) (f : Int) (hf : 0 ≤ f) (hf2 : f ≤ 1000000) :
    ∃ q : Int, Ev (fun k => rd_escape k l (p : Int) xs ys f) (onto xs ys p q (escS (f + 1) (l.drop p))) := by
  unfold rd_escape
  rw [w64 (n := f + 1) (by omega) (by omega)]
  cases hd : l.drop p with
  | nil =>
    have := rd_end hd hp
    refine ⟨p, Ev.pos (by omega) (Ev.val ?_)⟩
    simp [escS, onto]
  | cons c t =>
    obtain ⟨h1, h2, h3, h4⟩ := rd_at hd
    simp only [h2]
    have base : ¬ (p : Int) = (l.length : Int) := by omega
    simp only [if_neg base]
    simp only [escS]
    have one : ∀ (o : List S38) (e : List S41), ∃ q : Int, Ev (fun _ => some (true, (p : Int) + 1, xs ++ o, ys ++ e)) (onto xs ys p q (some 1, o, e)) := fun o e => ⟨0, Ev.val (by simp [onto])⟩
    by_cases a1 : c = 92 ∨ c = 101
    · simp only [if_pos a1]
      exact ⟨0, Ev.val (by simp [onto])⟩
    simp only [if_neg a1]
    by_cases a2 : c = 45 ∨ c = 46
    · simp only [if_pos a2]
      exact ⟨0, Ev.val (by simp [onto])⟩
    simp only [if_neg a2]
    by_cases a3 : c = 39
    · simp only [if_pos a3]
      exact ⟨0, Ev.val (by simp [onto])⟩
    simp only [if_neg a3]
    by_cases a4 : c = 96
    · simp only [if_pos a4]
      exact ⟨0, Ev.val (by simp [onto])⟩
    simp only [if_neg a4]
    by_cases a5 : c = 32 ∨ c = 126 ∨ c = 48
    · simp only [if_pos a5]
      exact ⟨0, Ev.val (by simp [onto])⟩
    simp only [if_neg a5]
    by_cases a6 : c = 38 ∨ c = 37 ∨ c = 47 ∨ c = 44 ∨ c = 58
    · simp only [if_pos a6]
      exact ⟨0, Ev.val (by simp [onto])⟩
    simp only [if_neg a6]
    by_cases a7 : c = 34
    · simp only [if_pos a7]
      exact ⟨(p : Int) + 1, Ev.val (by simp [onto])⟩
    simp only [if_neg a7]
    by_cases a8 : c = 40 ∨ c = 91
    · simp only [if_pos a8]
      obtain ⟨q, hq⟩ := Ev_rd_named l hl p hp xs ys false (.inr ⟨c, t, hd, a8.symm⟩) f hf hf2
      rw [hd] at hq
      exact ⟨q, hq⟩
    simp only [if_neg a8]
    by_cases a9 : c = 102
    · simp only [if_pos a9]
      obtain ⟨q, hq⟩ := Ev_rd_named l hl (p + 1) (by omega) xs ys true (.inl rfl) f hf hf2
      rw [h3] at hq
      refine ⟨q, Ev_eq hq ?_⟩
      simp only [reduceIte]
      cases nameS t with
      | none => rfl
      | some v =>
        obtain ⟨x, n⟩ := v
        simp only [told]
        by_cases h0 : 0 ≤ fontSpec x
        · simp only [if_pos h0, onto]
          rw [show p + 1 + (n + 0) = p + (n + 1) by omega]
        · simp only [if_neg h0, onto]
          rw [show p + 1 + (n + 0) = p + (n + 1) by omega]
    simp only [if_neg a9]
    exact ⟨0, Ev.val (by simp [onto])⟩
theorem told_small {v : Option (ByteArray × Nat)} {f : ByteArray → Int} {kind q : Int} {more : Nat} : (told v f kind q more).2.1.length ≤ 1 ∧ (told v f kind q more).2.2.length ≤ 1 := by
  cases v with
  | none => simp [told]
  | some w =>
    obtain ⟨x, n⟩ := w
    simp only [told]
    split <;> simp
theorem told_next {v : Option (ByteArray × Nat)} {f : ByteArray → Int} {kind q : Int} {more m : Nat} (h : (told v f kind q more).1 = some m) : ∃ x n, v = some (x, n) ∧ m = n + more := by
  cases v with
  | none => simp [told] at h
  | some w =>
    obtain ⟨x, n⟩ := w
    simp only [told] at h
    split at h <;> (simp at h; exact ⟨x, n, rfl, h.symm⟩)
theorem escS_small (q : Int) (r : List Int) : (escS q r).2.1.length ≤ 1 ∧ (escS q r).2.2.length ≤ 1 := by
  cases r with
  | nil => simp [escS]
  | cons c t =>
    simp only [escS]
    repeat' split
    all_goals first | exact told_small | simp
theorem escS_next (q : Int) (r : List Int) (hr : r.length ≤ 1000000) {m : Nat} (h : (escS q r).1 = some m) : 1 ≤ m ∧ m ≤ r.length := by
  cases r with
  | nil => simp [escS] at h
  | cons c t =>
    simp only [List.length_cons] at hr ⊢
    simp only [escS] at h
    repeat' split at h
    all_goals first
      | (obtain ⟨x, n, e, rfl⟩ := told_next h
         have := nameS_size (by first | assumption | (simp only [List.length_cons]; omega) | omega) e
         try simp only [List.length_cons] at this
         omega)
      | (cases h <;> omega)
theorem Ev_rd_scan (l : List Int) (hl : l.length ≤ 1000000) : ∀ (n p : Nat) (xs : List S38) (ys : List S41), l.length - p ≤ n → p ≤ l.length → xs.length ≤ p → ys.length ≤ p →
    Ev (fun k => rd_scan k l (p : Int) xs ys) (xs ++ (scanS n (p : Int) (l.drop p)).1, ys ++ (scanS n (p : Int) (l.drop p)).2)
  | n, p, xs, ys, hn, hp, hx, hy => by
    cases hd : l.drop p with
    | nil =>
      have := rd_end hd hp
      refine Ev.succ ?_
      simp only [rd_scan]
      refine Ev.neg (by omega) (Ev.val ?_)
      cases n <;> simp [scanS]
    | cons c t =>
      obtain ⟨h1, h2, h3, h4⟩ := rd_at hd
      match n with
      | 0 => omega
      | n + 1 =>
        refine Ev.succ ?_
        simp only [rd_scan, h2]
        refine Ev.pos (by omega) (Ev.pos (by omega) ?_)
        simp only [scanS]
        have next : ∀ (o : List S38) (e : List S41), o.length ≤ 1 → e.length ≤ 1 → Ev (fun k => rd_scan k l ((p : Int) + 1) (xs ++ o) (ys ++ e)) (xs ++ (o ++ (scanS n ((p : Int) + 1) t).1), ys ++ (e ++ (scanS n ((p : Int) + 1) t).2)) := by
          intro o e ho he
          have := Ev_rd_scan l hl n (p + 1) (xs ++ o) (ys ++ e) (by omega) (by omega) (by rw [List.length_append]; omega) (by rw [List.length_append]; omega)
          rw [h3, List.append_assoc, List.append_assoc, show ((p + 1 : Nat) : Int) = (p : Int) + 1 by omega] at this
          exact this
        by_cases a1 : c = 32 ∨ c = 9
        · simp only [if_pos a1]
          have := next [⟨2, 0⟩] [] (by simp) (by simp)
          simpa using this
        simp only [if_neg a1]
        by_cases a2 : c = 92
        · simp only [if_pos a2]
          obtain ⟨q, hq⟩ := Ev_rd_escape l hl (p + 1) (by omega) xs ys p (by omega) (by omega)
          rw [h3, show ((p + 1 : Nat) : Int) = (p : Int) + 1 by omega] at hq
          refine Ev.bind hq ?_
          have sm := escS_small ((p : Int) + 1) t
          have nx := fun m => escS_next ((p : Int) + 1) t (by omega) (m := m)
          unfold onto
          generalize escS ((p : Int) + 1) t = E at *
          obtain ⟨m, o, e⟩ := E
          cases m with
          | none => exact Ev.neg (by simp) (Ev.now _)
          | some m =>
            have := nx m rfl
            refine Ev.pos rfl ?_
            refine Ev_eq (Ev_rd_scan l hl n (p + 1 + m) (xs ++ o) (ys ++ e) (by omega) (by omega) (by rw [List.length_append]; simp only at sm; omega) (by rw [List.length_append]; simp only at sm; omega)) ?_
            simp only
            rw [← h3, List.drop_drop, List.append_assoc, List.append_assoc, show ((p + 1 + m : Nat) : Int) = (p : Int) + 1 + m by omega]
        simp only [if_neg a2]
        refine Ev.bind (Ev_Control c) ?_
        by_cases a3 : ctl c = true
        · simp only [if_pos a3]
          rw [w64 (by omega) (by omega)]
          have := next [⟨1, 65533⟩] [⟨3, 0, (p : Int) + 1⟩] (by simp) (by simp)
          simpa using this
        · simp only [if_neg a3]
          have := next [⟨1, c⟩] [] (by simp) (by simp)
          simpa using this
def scan (s : ByteArray) : List S38 × List S41 := scanS (dec (bytesOf s)).length 0 (dec (bytesOf s))
theorem bytesOf_length (s : ByteArray) : (bytesOf s).length = s.size := by simp [bytesOf]
theorem Ev_Scan (s : ByteArray) (hs : s.size ≤ 1000000) : Ev (fun k => escape_Scan.f k s) (scan s) := by
  unfold escape_Scan.f
  have hb := bytesOf_length s
  have hd := dec_length _ (bytesOf s) (Nat.le_refl _)
  refine Ev.pos (by omega) (Ev.some_bind (Ev.bind (Ev_Decode _ (bytesOf_Bytes s) (by omega)) (Ev.pos (by omega) ?_)))
  refine Ev_eq (Ev_rd_scan _ (by omega) (dec (bytesOf s)).length 0 [] [] (by omega) (by omega) (by simp) (by simp)) ?_
  simp [scan]
end Go.Proofs.YtdogljnddalgdaaDoor.A6
end
section
namespace Go.Proofs.YtdogljnddalgdaaDoor.A6
open Go Go.RowKit Go.Proofs.YtdogljnddalgdaaDoor Go.Proofs.YtdogljnddalgdaaDoorW.PrintWords Go.Proofs.YtdogljnddalgdaaDoorW.PrintLast Go.Proofs.YtdogljnddalgdaaDoorW.PrintMore
theorem Ev_Rclose (l : List Int) (hl : l.length ≤ 1000000) : ∀ (n i : Nat), i + n = l.length → Ev (fun k => flongref04_close.l0 k l (i : Int)) (match idx (l.drop i) with | none => -1 | some e => ((i + e : Nat) : Int))
  | 0, i, h => by
    refine Ev.succ ?_
    simp only [flongref04_close.l0]
    rw [List.drop_eq_nil_of_le (by omega)]
    exact Ev.neg (by omega) (Ev.now _)
  | n + 1, i, h => by
    have hi : i < l.length := by omega
    refine Ev.succ ?_
    simp only [flongref04_close.l0]
    rw [List.drop_eq_getElem_cons hi, rd_get l i hi]
    generalize l[i] = c
    refine Ev.pos (by omega) (Ev.pos (by omega) ?_)
    simp only [idx]
    by_cases hc : c = 93
    · refine Ev.pos hc ?_
      rw [if_pos hc]
      exact Ev.now _
    · refine Ev.neg hc ?_
      rw [if_neg hc, w64 (by omega) (by omega)]
      refine Ev_eq (Ev_Rclose l hl n (i + 1) (by omega)) ?_
      cases idx (l.drop (i + 1)) with
      | none => rfl
      | some e => simp only [Option.map_some]; omega
theorem Ev_Rname (l : List Int) (hl : l.length ≤ 1000000) (p : Nat) (hp : p ≤ l.length) :
    Ev (fun k => flongref04_name.f k l (p : Int)) (match nameS (l.drop p) with | none => (⟨#[]⟩, -1) | some (x, n) => (x, ((p + n : Nat) : Int))) := by
  unfold flongref04_name.f
  cases hd : l.drop p with
  | nil =>
    have := rd_end hd hp
    exact Ev.pos (by omega) (Ev.now _)
  | cons c t =>
    obtain ⟨h1, h2, h3, h4⟩ := rd_at hd
    simp only [h2]
    refine Ev.neg (by omega) (Ev.pos (by omega) (Ev.pos (by omega) ?_))
    rw [w64 (n := (p : Int) + 1) (by omega) (by omega), w64 (n := (p : Int) + 3) (by omega) (by omega)]
    by_cases h91 : c = 91
    · refine Ev.pos h91 ?_
      have hc : Ev (fun k => flongref04_close.f k l (p : Int)) (match idx (l.drop p) with | none => -1 | some e => ((p + e : Nat) : Int)) := by
        unfold flongref04_close.f
        exact Ev_Rclose l hl (l.length - p) p (by omega)
      refine Ev.bind hc ?_
      have e : idx (l.drop p) = (idx t).map (· + 1) := by rw [hd]; exact if_neg (by omega)
      rw [e]
      simp only [nameS, if_pos h91]
      cases hi : idx t with
      | none => exact Ev.pos (by simp) (Ev.now _)
      | some e =>
        have := idx_lt t hi
        simp only [Option.map_some]
        refine Ev.neg (by omega) (Ev.pos (by omega) (Ev.pos (by omega) (Ev.pos (by omega) ?_)))
        rw [Int.toNat_natCast, show ((p : Int) + 1).toNat = p + 1 by omega, show p + (e + 1) = p + 1 + e by omega, sl, h3]
        refine Ev.bind (Ev_Rtext _ (by rw [List.length_take]; omega)) (Ev.val ?_)
        rw [w64 (by omega) (by omega)]
        congr 1
        omega
    refine Ev.neg h91 ?_
    by_cases h40 : c = 40
    · refine Ev.pos h40 ?_
      simp only [nameS, if_neg h91, if_pos h40]
      match t, h3, h4 with
      | [], _, h4 =>
        simp only [List.length_nil] at h4
        exact Ev.pos (by omega) (Ev.now _)
      | [a], _, h4 =>
        simp only [List.length_cons, List.length_nil] at h4
        exact Ev.pos (by omega) (Ev.now _)
      | a :: b :: r, h3, h4 =>
        simp only [List.length_cons] at h4
        refine Ev.neg (by omega) (Ev.pos (by omega) (Ev.pos (by omega) (Ev.pos (by omega) ?_)))
        rw [show ((p : Int) + 3).toNat = p + 1 + 2 by omega, show ((p : Int) + 1).toNat = p + 1 by omega, sl, h3]
        simp only [List.take_succ_cons, List.take_zero]
        exact Ev.bind (Ev_Rtext _ (by simp)) (Ev.val rfl)
    · refine Ev.neg h40 (Ev.pos (by omega) (Ev.pos (by omega) ?_))
      simp only [nameS, if_neg h91, if_neg h40]
      rw [show ((p : Int) + 1).toNat = p + 1 by omega, Int.toNat_natCast, sl, hd]
      simp only [List.take_succ_cons, List.take_zero]
      exact Ev.bind (Ev_Rtext _ (by simp)) (Ev.val rfl)
section
variable {l : List Int} {p : Nat} {xs : List S38} {ys : List S41}
theorem Rsay (xs : List S38) (ys : List S41) (hx : xs.length ≤ 1000000) (a b : Int) : flongref04_say.f xs ys a b = some (xs ++ [⟨a, b⟩], ys) := if_pos (by omega)
theorem Rtell (xs : List S38) (ys : List S41) (hy : ys.length ≤ 1000000) (a b : Int) : flongref04_tell.f xs ys a b = some (xs, ys ++ [⟨a, 0, wrap64 (b + 1)⟩]) := if_pos (by omega)
theorem Ev_Resc_l0 (hl : l.length ≤ 1000000) (hp : p < l.length) (hx : xs.length ≤ 1000000) {q : Int} {A B : List Int} (hAB : A.length = B.length) (hA : A.length ≤ 1000) {R : List S38 × List S41 × Int}
    (hR : Ev (fun k => flongref04_escape.l0 k l (p : Int) q A B (A.length : Int) xs ys) R) : ∀ (n i : Nat), i + n = A.length →
    Ev (fun k => flongref04_escape.l0 k l (p : Int) q A B (i : Int) xs ys) (match ((A.zip B).drop i).find? (fun z => rd l (p : Int) == z.1) with | some z => (xs ++ [⟨1, z.2⟩], ys, (p : Int) + 1) | none => R)
  | 0, i, h => by
    rw [List.drop_eq_nil_of_le (by simp; omega), show i = A.length by omega]
    exact hR
  | n + 1, i, h => by
    have hi : i < A.length := by omega
    refine Ev.succ ?_
    simp only [flongref04_escape.l0]
    rw [List.drop_eq_getElem_cons (by simp; omega), List.find?_cons, rd_get A i hi, List.getElem_zip]
    refine Ev.pos (by omega) (Ev.pos (by omega) (Ev.pos (by omega) (Ev.pos (by omega) ?_)))
    by_cases hc : rd l (p : Int) = A[i]
    · refine Ev.pos hc (Ev.pos (by omega) ?_)
      rw [rd_get B i (by omega), Rsay xs ys hx, w64 (by omega) (by omega)]
      rw [show (rd l (p : Int) == (A[i], B[i]'(by omega)).1) = true by simpa using hc]
      exact Ev.val rfl
    · refine Ev.neg hc ?_
      rw [show (rd l (p : Int) == (A[i], B[i]'(by omega)).1) = false by simpa using hc, w64 (by omega) (by omega)]
      exact Ev_Resc_l0 hl hp hx hAB hA hR n (i + 1) (by omega)
def onto2 (l : List Int) (xs : List S38) (ys : List S41) (p : Nat) (t : Option Nat × List S38 × List S41) : List S38 × List S41 × Int := (xs ++ t.2.1, ys ++ t.2.2, match t.1 with | none => (l.length : Int) | some m => ((p + m : Nat) : Int))
theorem Ev_Rescape (hl : l.length ≤ 1000000) (hp : p ≤ l.length) (hx : xs.length ≤ 1000000) (hy : ys.length ≤ 1000000) :
    Ev (fun k => flongref04_escape.f k xs ys l (p : Int)) (onto2 l xs ys p (escS (p : Int) (l.drop p))) := by
  unfold flongref04_escape.f
  cases hd : l.drop p with
  | nil =>
    have := rd_end hd hp
    refine Ev.pos (by omega) ?_
    rw [Rtell xs ys hy, w64 (n := (p : Int) - 1) (by omega) (by omega), show (p : Int) - 1 + 1 = p by omega, w64 (by omega) (by omega)]
    refine Ev.val ?_
    simp [onto2, escS, this]
  | cons c t =>
    obtain ⟨h1, h2, h3, h4⟩ := rd_at hd
    refine Ev.neg (by omega) ?_
    rw [w64 (n := (p : Int) - 1) (by omega) (by omega)]
    refine Ev_eq (Ev_Resc_l0 (A := [92, 101, 45, 46, 39, 96, 32, 126, 48]) (B := [92, 92, 45, 46, 180, 96, 160, 160, 160]) (R := onto2 l xs ys p (
      if c = 38 ∨ c = 37 ∨ c = 47 ∨ c = 44 ∨ c = 58 then (some 1, [], [])
      else if c = 34 then (none, [], [])
      else if c = 40 ∨ c = 91 then told (nameS (c :: t)) nameSpec 1 (p : Int) 0
      else if c = 102 then told (nameS t) fontSpec 3 (p : Int) 1
      else (some 1, [], [⟨1, 0, (p : Int)⟩]))) hl h1 hx rfl (by decide) ?_ 9 0 (by decide)) ?_
    · refine Ev.succ ?_
      simp only [flongref04_escape.l0, h2]
      refine Ev.neg (by simp) (Ev.pos (by omega) (Ev.pos (by omega) ?_))
      have e1 : wrap64 ((p : Int) + 1) = ((p + 1 : Nat) : Int) := by rw [w64 (by omega) (by omega)]; omega
      have j2 : ¬ (c = 38 ∨ c = 37 ∨ c = 47 ∨ c = 44 ∨ c = 58) → ¬ c = 34 → ∀ b : Bool, b = decide (c = 40 ∨ c = 91) → Ev (fun k => flongref04_escape.j2 k l (p : Int) ((p : Int) - 1) c b xs ys) (onto2 l xs ys p (
          if c = 40 ∨ c = 91 then told (nameS (c :: t)) nameSpec 1 (p : Int) 0
          else if c = 102 then told (nameS t) fontSpec 3 (p : Int) 1
          else (some 1, [], [⟨1, 0, (p : Int)⟩]))) := by
        intro n1 n2 b hb
        refine Ev.succ ?_
        simp only [flongref04_escape.j2, e1]
        by_cases a8 : c = 40 ∨ c = 91
        · simp only [if_pos a8]
          refine Ev.pos (by rw [hb]; simpa using a8) ?_
          have hn := Ev_Rname l hl p hp
          rw [hd] at hn
          refine Ev.bind hn ?_
          cases hN : nameS (c :: t) with
          | none =>
            refine Ev.pos (by simp) ?_
            rw [Rtell xs ys hy, show (p : Int) - 1 + 1 = p by omega, w64 (by omega) (by omega)]
            exact Ev.val (by simp [onto2, told])
          | some v =>
            obtain ⟨x, n⟩ := v
            simp only [told]
            refine Ev.neg (by omega) (Ev.bind (Ev_RName x) ?_)
            have hr := nameSpec_range x
            by_cases h0 : 0 ≤ nameSpec x
            · refine Ev.neg (by omega) (Ev.bind (Ev_RName x) ?_)
              rw [Rsay xs ys hx, w32 (by omega) (by omega)]
              refine Ev.val ?_
              simp [onto2, if_pos h0]
            · refine Ev.pos (by omega) ?_
              rw [Rtell xs ys hy, show (p : Int) - 1 + 1 = p by omega, w64 (by omega) (by omega)]
              refine Ev.val ?_
              simp [onto2, if_neg h0]
        · simp only [if_neg a8]
          refine Ev.neg (by rw [hb]; simpa using a8) ?_
          by_cases a9 : c = 102
          · simp only [if_pos a9]
            have hn := Ev_Rname l hl (p + 1) (by omega)
            rw [h3] at hn
            refine Ev.bind hn ?_
            cases hN : nameS t with
            | none =>
              refine Ev.pos (by simp) ?_
              rw [Rtell xs ys hy, show (p : Int) - 1 + 1 = p by omega, w64 (by omega) (by omega)]
              exact Ev.val (by simp [onto2, told])
            | some v =>
              obtain ⟨x, n⟩ := v
              simp only [told]
              refine Ev.neg (by omega) (Ev.bind (Ev_RFont x) ?_)
              have hr := fontSpec_range x
              by_cases h0 : 0 ≤ fontSpec x
              · refine Ev.neg (by omega) (Ev.bind (Ev_RFont x) ?_)
                rw [Rsay xs ys hx, w32 (by omega) (by omega)]
                refine Ev.val ?_
                simp [onto2, if_pos h0]
                omega
              · refine Ev.pos (by omega) ?_
                rw [Rtell xs ys hy, show (p : Int) - 1 + 1 = p by omega, w64 (by omega) (by omega)]
                refine Ev.val ?_
                simp [onto2, if_neg h0]
                omega
          · simp only [if_neg a9]
            rw [Rtell xs ys hy, show (p : Int) - 1 + 1 = p by omega, w64 (n := (p : Int)) (by omega) (by omega)]
            exact Ev.val (by simp [onto2])
      have j1 : ∀ b : Bool, b = decide (c = 38 ∨ c = 37 ∨ c = 47 ∨ c = 44 ∨ c = 58) → Ev (fun k => flongref04_escape.j1 k l (p : Int) ((p : Int) - 1) c b xs ys) (onto2 l xs ys p (
          if c = 38 ∨ c = 37 ∨ c = 47 ∨ c = 44 ∨ c = 58 then (some 1, [], [])
          else if c = 34 then (none, [], [])
          else if c = 40 ∨ c = 91 then told (nameS (c :: t)) nameSpec 1 (p : Int) 0
          else if c = 102 then told (nameS t) fontSpec 3 (p : Int) 1
          else (some 1, [], [⟨1, 0, (p : Int)⟩]))) := by
        intro b hb
        refine Ev.succ ?_
        simp only [flongref04_escape.j1, e1]
        by_cases a6 : c = 38 ∨ c = 37 ∨ c = 47 ∨ c = 44 ∨ c = 58
        · simp only [if_pos a6]
          exact Ev.pos (by rw [hb]; simpa using a6) (Ev.val (by simp [onto2]))
        simp only [if_neg a6]
        refine Ev.neg (by rw [hb]; simpa using a6) ?_
        by_cases a7 : c = 34
        · simp only [if_pos a7]
          exact Ev.val (by simp [onto2])
        simp only [if_neg a7]
        by_cases a8 : c = 40
        · refine Ev.pos a8 (j2 a6 a7 _ ?_)
          simp [a8]
        · refine Ev.neg a8 (j2 a6 a7 _ ?_)
          simp [a8]
          rfl
      by_cases b1 : c = 38
      · exact Ev.pos b1 (j1 _ (by simp [b1]))
      refine Ev.neg b1 ?_
      by_cases b2 : c = 37
      · exact Ev.pos b2 (j1 _ (by simp [b2]))
      refine Ev.neg b2 ?_
      by_cases b3 : c = 47
      · exact Ev.pos b3 (j1 _ (by simp [b3]))
      refine Ev.neg b3 ?_
      by_cases b4 : c = 44
      · exact Ev.pos b4 (j1 _ (by simp [b4]))
      exact Ev.neg b4 (j1 _ (by simp [b1, b2, b3, b4]; rfl))
    · rw [List.drop_zero, h2]
      simp only [List.zip_cons_cons, List.zip_nil_right, List.find?_cons, List.find?_nil, escS]
      by_cases c1 : c = 92
      · subst c1; simp [onto2]
      by_cases c2 : c = 101
      · subst c2; simp [onto2]
      by_cases c3 : c = 45
      · subst c3; simp [onto2]
      by_cases c4 : c = 46
      · subst c4; simp [onto2]
      by_cases c5 : c = 39
      · subst c5; simp [onto2]
      by_cases c6 : c = 96
      · subst c6; simp [onto2]
      by_cases c7 : c = 32
      · subst c7; simp [onto2]
      by_cases c8 : c = 126
      · subst c8; simp [onto2]
      by_cases c9 : c = 48
      · subst c9; simp [onto2]
      rw [show (c == 92) = false by simpa using c1, show (c == 101) = false by simpa using c2, show (c == 45) = false by simpa using c3, show (c == 46) = false by simpa using c4, show (c == 39) = false by simpa using c5, show (c == 96) = false by simpa using c6, show (c == 32) = false by simpa using c7, show (c == 126) = false by simpa using c8, show (c == 48) = false by simpa using c9]
      simp only [c1, c2, c3, c4, c5, c6, c7, c8, c9, or_self, reduceIte]
end
end Go.Proofs.YtdogljnddalgdaaDoor.A6
end
section
namespace Go.Proofs.YtdogljnddalgdaaDoor.A6
open Go Go.RowKit Go.Proofs.YtdogljnddalgdaaDoor Go.Proofs.YtdogljnddalgdaaDoorW.PrintWords Go.Proofs.YtdogljnddalgdaaDoorW.PrintLast Go.Proofs.YtdogljnddalgdaaDoorW.PrintMore
theorem Ev_RScan_l0 (l : List Int) (hl : l.length ≤ 900000) : ∀ (n p : Nat) (xs : List S38) (ys : List S41), l.length - p ≤ n → p ≤ l.length → xs.length ≤ p → ys.length ≤ p →
    Ev (fun k => flongref04_Scan.l0 k l (p : Int) xs ys) (xs ++ (scanS n (p : Int) (l.drop p)).1, ys ++ (scanS n (p : Int) (l.drop p)).2)
  | n, p, xs, ys, hn, hp, hx, hy => by
    cases hd : l.drop p with
    | nil =>
      have := rd_end hd hp
      refine Ev.succ ?_
      simp only [flongref04_Scan.l0]
      refine Ev.neg (by omega) (Ev.val ?_)
      cases n <;> simp [scanS]
    | cons c t =>
      obtain ⟨h1, h2, h3, h4⟩ := rd_at hd
      match n with
      | 0 => omega
      | n + 1 =>
        refine Ev.succ ?_
        simp only [flongref04_Scan.l0, h2]
        have e1 : wrap64 ((p : Int) + 1) = ((p + 1 : Nat) : Int) := by rw [w64 (by omega) (by omega)]; omega
        refine Ev.pos (by omega) (Ev.pos (by omega) ?_)
        have next : ∀ (o : List S38) (e : List S41), o.length ≤ 1 → e.length ≤ 1 → Ev (fun k => flongref04_Scan.l0 k l ((p + 1 : Nat) : Int) (xs ++ o) (ys ++ e)) (xs ++ (o ++ (scanS n ((p : Int) + 1) t).1), ys ++ (e ++ (scanS n ((p : Int) + 1) t).2)) := by
          intro o e ho he
          have := Ev_RScan_l0 l hl n (p + 1) (xs ++ o) (ys ++ e) (by omega) (by omega) (by rw [List.length_append]; omega) (by rw [List.length_append]; omega)
          rw [h3, List.append_assoc, List.append_assoc] at this
          rw [show (p : Int) + 1 = ((p + 1 : Nat) : Int) by omega]
          exact this
        rw [e1]
        simp only [scanS]
        by_cases a2 : c = 92
        · have a1 : ¬ (c = 32 ∨ c = 9) := by omega
          simp only [if_pos a2, if_neg a1]
          have hq := Ev_Rescape (l := l) (p := p + 1) (xs := xs) (ys := ys) (by omega) (by omega) (by omega) (by omega)
          rw [h3, show ((p + 1 : Nat) : Int) = (p : Int) + 1 by omega] at hq
          rw [show ((p + 1 : Nat) : Int) = (p : Int) + 1 by omega]
          refine Ev.bind hq ?_
          have sm := escS_small ((p : Int) + 1) t
          have nx := fun m => escS_next ((p : Int) + 1) t (by omega) (m := m)
          unfold onto2
          generalize escS ((p : Int) + 1) t = E at *
          obtain ⟨m, o, e⟩ := E
          cases m with
          | none =>
            simp only
            refine Ev.succ ?_
            simp only [flongref04_Scan.l0]
            exact Ev.neg (by omega) (Ev.now _)
          | some m =>
            have := nx m rfl
            refine Ev_eq (Ev_RScan_l0 l hl n (p + 1 + m) (xs ++ o) (ys ++ e) (by omega) (by omega) (by rw [List.length_append]; simp only at sm; omega) (by rw [List.length_append]; simp only at sm; omega)) ?_
            simp only
            rw [← h3, List.drop_drop, List.append_assoc, List.append_assoc, show ((p + 1 + m : Nat) : Int) = (p : Int) + 1 + m by omega]
        simp only [if_neg a2]
        have j1 : ∀ b : Bool, b = decide (c = 32 ∨ c = 9) → Ev (fun k => flongref04_Scan.j1 k l (p : Int) c b xs ys) (xs ++ (if c = 32 ∨ c = 9 then (⟨2, 0⟩ :: (scanS n ((p : Int) + 1) t).1, (scanS n ((p : Int) + 1) t).2)
            else if ctl c = true then (⟨1, 65533⟩ :: (scanS n ((p : Int) + 1) t).1, ⟨3, 0, (p : Int) + 1⟩ :: (scanS n ((p : Int) + 1) t).2)
            else (⟨1, c⟩ :: (scanS n ((p : Int) + 1) t).1, (scanS n ((p : Int) + 1) t).2)).1, ys ++ (if c = 32 ∨ c = 9 then (⟨2, 0⟩ :: (scanS n ((p : Int) + 1) t).1, (scanS n ((p : Int) + 1) t).2)
            else if ctl c = true then (⟨1, 65533⟩ :: (scanS n ((p : Int) + 1) t).1, ⟨3, 0, (p : Int) + 1⟩ :: (scanS n ((p : Int) + 1) t).2)
            else (⟨1, c⟩ :: (scanS n ((p : Int) + 1) t).1, (scanS n ((p : Int) + 1) t).2)).2) := by
          intro b hb
          refine Ev.succ ?_
          simp only [flongref04_Scan.j1, e1]
          by_cases a1 : c = 32 ∨ c = 9
          · simp only [if_pos a1]
            refine Ev.pos (by rw [hb]; simpa using a1) ?_
            rw [Rsay xs ys (by omega)]
            have := next [⟨2, 0⟩] [] (by simp) (by simp)
            refine Ev.some_bind ?_
            simpa using this
          simp only [if_neg a1]
          refine Ev.neg (by rw [hb]; simpa using a1) (Ev.const_bind (ref_Control_is c) ?_)
          by_cases a3 : ctl c = true
          · simp only [if_pos a3]
            rw [Rsay xs ys (by omega)]
            refine Ev.some_bind ?_
            simp only
            rw [Rtell (xs ++ [(⟨1, 65533⟩ : S38)]) ys (by omega), w64 (by omega) (by omega)]
            have := next [⟨1, 65533⟩] [⟨3, 0, (p : Int) + 1⟩] (by simp) (by simp)
            refine Ev.some_bind ?_
            simpa using this
          · simp only [if_neg a3]
            rw [Rsay xs ys (by omega)]
            have := next [⟨1, c⟩] [] (by simp) (by simp)
            refine Ev.some_bind ?_
            simpa using this
        by_cases b1 : c = 32
        · exact Ev.pos b1 (j1 _ (by simp [b1]))
        · exact Ev.neg b1 (j1 _ (by simp [b1]; rfl))
theorem Ev_RScan (s : ByteArray) (hs : s.size ≤ 900000) : Ev (fun k => flongref04_Scan.f k s) (scan s) := by
  unfold flongref04_Scan.f
  have hb := bytesOf_length s
  have hd := dec_length _ (bytesOf s) (Nat.le_refl _)
  refine Ev.pos (by omega) (Ev.some_bind (Ev.bind (Ev_RDecode _ (bytesOf_Bytes s) (by omega)) ?_))
  refine Ev_eq (Ev_RScan_l0 _ (by omega) (dec (bytesOf s)).length 0 [] [] (by omega) (by omega) (by simp) (by simp)) ?_
  simp [scan]
theorem Ev_Same1_l0 (l : List S41) (hl : l.length ≤ 8796093022208) : ∀ (n i : Nat), i + n = l.length → Ev (fun k => flongref01_Same.l0 k l l (i : Int)) true
  | 0, i, h => by
    refine Ev.succ ?_
    simp only [flongref01_Same.l0]
    exact Ev.neg (by omega) (Ev.now _)
  | n + 1, i, h => by
    refine Ev.succ ?_
    simp only [flongref01_Same.l0]
    refine Ev.pos (by omega) (Ev.pos (by omega) (Ev.pos (by omega) (Ev.neg (by simp) ?_)))
    rw [w64 (by omega) (by omega)]
    exact Ev_Same1_l0 l hl n (i + 1) (by omega)
theorem Ev_Same1 (l : List S41) (hl : l.length ≤ 8796093022208) : Ev (fun k => flongref01_Same.f k l l) true := by
  unfold flongref01_Same.f
  exact Ev.pos rfl (Ev_Same1_l0 l hl l.length 0 (by omega))
theorem scanS_length : ∀ (n : Nat) (p : Int) (l : List Int), l.length ≤ 1000000 → (scanS n p l).1.length ≤ l.length ∧ (scanS n p l).2.length ≤ l.length
  | 0, p, l, h => by simp [scanS]
  | n + 1, p, [], h => by simp [scanS]
  | n + 1, p, c :: t, h => by
    simp only [List.length_cons] at h ⊢
    have ih := scanS_length n (p + 1) t (by omega)
    simp only [scanS]
    split
    · simp only [List.length_cons]; omega
    · split
      · have sm := escS_small (p + 1) t
        have nx := fun m => escS_next (p + 1) t (by omega) (m := m)
        split
        · omega
        · rename_i m hm
          have := nx m hm
          have ih2 := scanS_length n (p + 1 + m) (t.drop m) (by rw [List.length_drop]; omega)
          rw [List.length_drop] at ih2
          simp only [List.length_append]
          omega
      · split <;> (simp only [List.length_cons]; omega)
theorem scan_length (s : ByteArray) (hs : s.size ≤ 1000000) : (scan s).1.length ≤ s.size ∧ (scan s).2.length ≤ s.size := by
  have hb := bytesOf_length s
  have hd := dec_length _ (bytesOf s) (Nat.le_refl _)
  have := scanS_length (dec (bytesOf s)).length 0 (dec (bytesOf s)) (by omega)
  unfold scan
  omega
end Go.Proofs.YtdogljnddalgdaaDoor.A6
end
section
namespace Go.Proofs.YtdogljnddalgdaaDoor.A6
open Go Go.RowKit Go.Proofs.YtdogljnddalgdaaDoor Go.Proofs.YtdogljnddalgdaaDoorW.PrintWords Go.Proofs.YtdogljnddalgdaaDoorW.PrintLast Go.Proofs.YtdogljnddalgdaaDoorW.PrintMore
def turnS (a b n : Int) : Int × Int := if n = 4 then (b, a) else if 0 ≤ n ∧ n < 4 then (n, a) else (a, b)
theorem Ev_TurnS (a b n : Int) : Ev (fun k => styles_Turn.f k a b n) (turnS a b n) := by
  unfold turnS
  by_cases h4 : n = 4
  · rw [if_pos h4, h4]; exact Ev_Turn4 a b
  rw [if_neg h4]
  by_cases h : 0 ≤ n ∧ n < 4
  · rw [if_pos h]; exact Ev_Turn a b n h.1 h.2
  rw [if_neg h]
  unfold styles_Turn.f
  refine Ev.neg h4 (Ev.neg (by omega) (Ev.succ ?_))
  simp only [styles_Turn.j0]
  exact Ev.neg (by simp; omega) (Ev.neg (by omega) (Ev.neg (by omega) (Ev.now _)))
theorem RTurn_is (a b n : Int) : flongref06_Turn.f a b n = some (turnS a b n) := by
  unfold flongref06_Turn.f turnS
  by_cases h4 : n = 4
  · rw [if_pos h4, if_pos h4]
  rw [if_neg h4, if_neg h4]
  by_cases h0 : n < 0
  · rw [if_pos h0, if_neg (by omega)]
  rw [if_neg h0]
  by_cases h5 : n > 4
  · rw [if_pos h5, if_neg (by omega)]
  rw [if_neg h5, if_pos (by omega), Int.emod_eq_of_lt (by omega) (by omega)]
def setS : List S38 → Int → Int → List S60 × Int × Int
  | [], a, b => ([], a, b)
  | t :: l, a, b => if t.f0 = 1 then (⟨t.f1, a⟩ :: (setS l a b).1, (setS l a b).2)
    else if t.f0 = 2 then (⟨32, 0⟩ :: (setS l a b).1, (setS l a b).2)
    else if t.f0 = 3 then setS l (turnS a b t.f1).1 (turnS a b t.f1).2
    else setS l a b
theorem rd38_get (l : List S38) (i : Nat) (h : i < l.length) : rd_T38 l (i : Int) = l[i] := by simp [rd_T38, List.getD, List.getElem?_eq_getElem h]
theorem Ev_Set_l0 (l : List S38) (hl : l.length ≤ 1000000) : ∀ (n i : Nat) (a b : Int) (xs : List S60), i + n = l.length → xs.length ≤ i →
    Ev (fun k => styles_Set.l0 k xs l (l.length : Int) (i : Int) a b) (xs ++ (setS (l.drop i) a b).1, (setS (l.drop i) a b).2)
  | 0, i, a, b, xs, h, hx => by
    refine Ev.succ ?_
    simp only [styles_Set.l0]
    rw [List.drop_eq_nil_of_le (by omega)]
    refine Ev.neg (by omega) (Ev.val ?_)
    simp [setS]
  | n + 1, i, a, b, xs, h, hx => by
    have hi : i < l.length := by omega
    have nx := fun a b xs hx => Ev_Set_l0 l hl n (i + 1) a b xs (by omega) hx
    refine Ev.succ ?_
    simp only [styles_Set.l0, rd38_get l i hi]
    rw [List.drop_eq_getElem_cons hi, w64 (by omega) (by omega), show (i : Int) + 1 = ((i + 1 : Nat) : Int) by omega]
    generalize l[i] = t
    refine Ev.pos (by omega) (Ev.pos (by omega) (Ev.pos (by omega) ?_))
    simp only [setS]
    by_cases h1 : t.f0 = 1
    · simp only [if_pos h1]
      refine Ev.pos (by omega) (Ev_eq (nx a b _ (by rw [List.length_append]; simp; omega)) ?_)
      rw [List.append_assoc]; rfl
    simp only [if_neg h1]
    by_cases h2 : t.f0 = 2
    · simp only [if_pos h2]
      refine Ev.pos (by omega) (Ev_eq (nx a b _ (by rw [List.length_append]; simp; omega)) ?_)
      rw [List.append_assoc]; rfl
    simp only [if_neg h2]
    by_cases h3 : t.f0 = 3
    · simp only [if_pos h3]
      exact Ev.bind (Ev_TurnS a b t.f1) (nx _ _ xs (by omega))
    simp only [if_neg h3]
    exact nx a b xs (by omega)
theorem Ev_Set (l : List S38) (hl : l.length ≤ 1000000) (a b : Int) : Ev (fun k => styles_Set.f k a b l) (setS l a b) := by
  unfold styles_Set.f
  exact Ev_eq (Ev_Set_l0 l hl l.length 0 a b [] (by omega) (by simp)) (by simp)
theorem Ev_RSet_l0 (l : List S38) (hl : l.length ≤ 1000000) : ∀ (n i : Nat) (a b : Int) (xs : List S60), i + n = l.length → xs.length ≤ i →
    Ev (fun k => flongref06_Set.l0 k l xs (i : Int) a b) (xs ++ (setS (l.drop i) a b).1, (setS (l.drop i) a b).2)
  | 0, i, a, b, xs, h, hx => by
    refine Ev.succ ?_
    simp only [flongref06_Set.l0]
    rw [List.drop_eq_nil_of_le (by omega)]
    refine Ev.neg (by omega) (Ev.val ?_)
    simp [setS]
  | n + 1, i, a, b, xs, h, hx => by
    have hi : i < l.length := by omega
    have nx := fun a b xs hx => Ev_RSet_l0 l hl n (i + 1) a b xs (by omega) hx
    refine Ev.succ ?_
    simp only [flongref06_Set.l0, rd38_get l i hi]
    rw [List.drop_eq_getElem_cons hi]
    generalize ht : l[i] = t
    refine Ev.pos (by omega) (Ev.pos (by omega) ?_)
    have e1 : wrap64 ((i : Int) + 1) = ((i + 1 : Nat) : Int) := by rw [w64 (by omega) (by omega)]; omega
    simp only [setS]
    by_cases h1 : t.f0 = 1
    · simp only [if_pos h1]
      refine Ev.pos (by omega) (Ev.succ ?_)
      simp only [flongref06_Set.j1, rd38_get l i hi, ht, e1]
      refine Ev.pos (by omega) (Ev.pos (by omega) (Ev.neg (by omega) (Ev.neg (by omega) ?_)))
      refine Ev_eq (nx a b _ (by rw [List.length_append]; simp; omega)) ?_
      rw [List.append_assoc]; rfl
    simp only [if_neg h1]
    refine Ev.succ ?_
    simp only [flongref06_Set.j1, rd38_get l i hi, ht, e1]
    refine Ev.pos (by omega) (Ev.pos (by omega) ?_)
    by_cases h2 : t.f0 = 2
    · simp only [if_pos h2]
      refine Ev.pos (by omega) (Ev.some_bind (Ev.neg (by omega) ?_))
      refine Ev_eq (nx a b _ (by rw [List.length_append]; simp; omega)) ?_
      rw [List.append_assoc]; rfl
    simp only [if_neg h2]
    by_cases h3 : t.f0 = 3
    · simp only [if_pos h3]
      exact Ev.const_bind (RTurn_is a b t.f1) (nx _ _ xs (by omega))
    simp only [if_neg h3]
    exact nx a b xs (by omega)
theorem Ev_RSet (l : List S38) (hl : l.length ≤ 1000000) (a b : Int) : Ev (fun k => flongref06_Set.f k a b l) (setS l a b) := by
  unfold flongref06_Set.f
  exact Ev_eq (Ev_RSet_l0 l hl l.length 0 a b [] (by omega) (by simp)) (by simp)
theorem setS_length : ∀ (l : List S38) (a b : Int), (setS l a b).1.length ≤ l.length
  | [], a, b => by simp [setS]
  | t :: l, a, b => by
    have h1 := setS_length l a b
    have h2 := setS_length l (turnS a b t.f1).1 (turnS a b t.f1).2
    simp only [setS]
    repeat' split
    all_goals simp only [List.length_cons]; omega
theorem Ev_Line (s : ByteArray) (hs : s.size ≤ 900000) (a b : Int) : Ev (fun k => styles_Line.f k a b s) ((setS (scan s).1 a b).1, (setS (scan s).1 a b).2.1, (setS (scan s).1 a b).2.2, (scan s).2) := by
  unfold styles_Line.f
  have := scan_length s (by omega)
  exact Ev.bind (Ev_Scan s (by omega)) (Ev.bind (Ev_Set _ (by omega) a b) (Ev.now _))
theorem Ev_RLine (s : ByteArray) (hs : s.size ≤ 900000) (a b : Int) : Ev (fun k => flongref06_Line.f k a b s) ((setS (scan s).1 a b).1, (setS (scan s).1 a b).2.1, (setS (scan s).1 a b).2.2, (scan s).2) := by
  unfold flongref06_Line.f
  have := scan_length s (by omega)
  exact Ev.bind (Ev_RScan s hs) (Ev.bind (Ev_RSet _ (by omega) a b) (Ev.now _))
theorem Ev_Same3_l0 (l : List S60) (hl : l.length ≤ 8796093022208) : ∀ (n i : Nat), i + n = l.length → Ev (fun k => flongref03_Same.l0 k l l (i : Int)) true
  | 0, i, h => by
    refine Ev.succ ?_
    simp only [flongref03_Same.l0]
    exact Ev.neg (by omega) (Ev.now _)
  | n + 1, i, h => by
    refine Ev.succ ?_
    simp only [flongref03_Same.l0]
    refine Ev.pos (by omega) (Ev.pos (by omega) (Ev.pos (by omega) (Ev.neg (by simp) ?_)))
    rw [w64 (by omega) (by omega)]
    exact Ev_Same3_l0 l hl n (i + 1) (by omega)
theorem Ev_Same3 (l : List S60) (hl : l.length ≤ 8796093022208) : Ev (fun k => flongref03_Same.f k l l) true := by
  unfold flongref03_Same.f
  exact Ev.pos rfl (Ev_Same3_l0 l hl l.length 0 (by omega))
theorem Ev_StylesSets (a b : Int) (l : List S38) (s : ByteArray) : Ev (fun k => flonglaw06_StylesSets.f k a b l s) true := by
  unfold flonglaw06_StylesSets.f
  have big : Ev (fun k => flonglaw06_StylesSets.j0 k l s true a b) true := by
    refine Ev.succ ?_
    simp only [flonglaw06_StylesSets.j0, reduceIte]
    exact Ev_kn6
  by_cases h1 : (l.length : Int) > 200
  · exact Ev.pos h1 big
  refine Ev.neg h1 ?_
  by_cases h2 : (s.size : Int) > 800
  · rw [decide_eq_true h2]; exact big
  rw [decide_eq_false h2]
  refine Ev.succ ?_
  simp only [flonglaw06_StylesSets.j0, Bool.false_eq_true, reduceIte]
  have s1 := setS_length l a b
  have s2 := setS_length (scan s).1 a b
  have s3 := scan_length s (by omega)
  exact Ev.bind (Ev_Set l (by omega) a b) (Ev.bind (Ev_RSet l (by omega) a b) (Ev.bind (Ev_Line s (by omega) a b) (Ev.bind (Ev_RLine s (by omega) a b) (Ev.bind (Ev_Same3 _ (by omega)) (Ev.pos rfl (Ev.pos (by simp) (Ev.bind (Ev_Same3 _ (by simp only; omega)) (Ev.pos rfl (Ev.pos (by simp) (Ev.bind (Ev_Same1 _ (by simp only; omega)) (Ev.pos rfl Ev_kn6)))))))))))
end Go.Proofs.YtdogljnddalgdaaDoor.A6
end
