import Derived.Test.YtdogljnddalgdaaDoorA4P3
import Derived.Test.YtdogljnddalgdaaDoorA423
import Derived.Test.YtdogljnddalgdaaDoorA418
/-! The reference's names, fonts and quoting answer as the plain ones; the law on names. -/
namespace Go.Proofs.YtdogljnddalgdaaDoor.A4
open Go Go.RowKit Go.Proofs.YtdogljnddalgdaaDoor Go.Proofs.YtdogljnddalgdaaDoorW.PrintWords Go.Proofs.YtdogljnddalgdaaDoorW.PrintLast Go.Proofs.YtdogljnddalgdaaDoorW.PrintMore
/-- The reference's search in its list of names. -/
theorem Ev_RName_l0 (s : ByteArray) (A : List ByteArray) (V : List Int) (hl : A.length = V.length) (hA : A.length ≤ 1000) (hV : ∀ v ∈ V, wrap64 v = v)
    {r : Int} (hr : Ev (fun k => if (s.size : Int) < 5 then flongref04_Name.j1 k s true else if (s.size : Int) > 7 then flongref04_Name.j1 k s true else if 0 < (s.size : Int) then flongref04_Name.j1 k s (bt s 0 != 117) else none) r) :
    ∀ (n i : Nat), i + n = A.length → Ev (fun k => flongref04_Name.l0 k s A V (i : Int)) ((((A.map fun a => a.data.toList).zip V).drop i |>.find? fun p => p.1 == s.data.toList).elim r fun p => p.2)
  | 0, i, h => by
    refine Ev.succ ?_
    simp only [flongref04_Name.l0]
    refine Ev.neg (by omega) ?_
    rw [List.drop_eq_nil_of_le (by simp; omega)]
    exact hr
  | n + 1, i, h => by
    refine Ev.succ ?_
    simp only [flongref04_Name.l0]
    refine Ev.pos (by omega) (Ev.pos (by omega) ?_)
    have hi : i < A.length := by omega
    rw [List.drop_eq_getElem_cons (by simp; omega), List.find?_cons]
    rw [rdOf_get A i hi, toList_data, toList_data]
    simp only [List.getElem_zip, List.getElem_map]
    by_cases hc : A[i].data.toList = s.data.toList
    · refine Ev.pos hc (Ev.pos (by omega) (Ev.val ?_))
      rw [rd_get V i (by omega), hV _ (List.getElem_mem _)]
      simp [hc]
    · refine Ev.neg hc ?_
      rw [show (A[i].data.toList == s.data.toList) = false by simpa using hc]
      rw [w64 (by omega) (by omega)]
      exact Ev_RName_l0 s A V hl hA hV hr n (i + 1) (by omega)
theorem Ev_RName_l1 (s : ByteArray) (hs : s.size ≤ 7) : ∀ (n : Nat) (i x : Int), 0 ≤ i → i + n = s.size → 0 ≤ x → x < hb n →
    Ev (fun k => flongref04_Name.l1 k s x i) (match hexfrom s n i x with | none => -1 | some v => if safe v = v then v else -1)
  | 0, i, x, hi, he, h0, h1 => by
    simp only [hb] at h1
    refine Ev.succ ?_
    simp only [flongref04_Name.l1, hexfrom]
    refine Ev.neg (by omega) ?_
    by_cases hx : x > 1114111
    · refine Ev.pos hx (Ev.val ?_)
      have : safe x = 65533 := by
        unfold safe val
        rw [if_neg (by simp; omega)]
      rw [if_neg (by omega)]
    · refine Ev.neg hx (Ev.const_bind (ref_Safe_is _) ?_)
      rw [w32 (by omega) (by omega)]
      by_cases h : safe x = x
      · refine Ev.pos h (Ev.val ?_); rw [if_pos h]
      · refine Ev.neg h (Ev.val ?_); rw [if_neg h]
  | n + 1, i, x, hi, he, h0, h1 => by
    have hl := hb_le n
    simp only [hb] at h1
    refine Ev.succ ?_
    simp only [flongref04_Name.l1]
    have hr := bt_range s i
    rw [w64 (n := bt s i) (by omega) (by omega)]
    refine Ev.pos (by omega) (Ev.pos hi ?_)
    simp only [hexfrom]
    have low : ∀ (b : Bool), b = decide (48 ≤ bt s i ∧ bt s i ≤ 57) → Ev (fun k => flongref04_Name.j3 k s x i (bt s i) b) (match (hexd (bt s i)).bind fun d => hexfrom s n (i + 1) (16 * x + d) with | none => -1 | some v => if safe v = v then v else -1) := by
      intro b hb'
      refine Ev.succ ?_
      simp only [flongref04_Name.j3]
      by_cases hd : 48 ≤ bt s i ∧ bt s i ≤ 57
      · refine Ev.pos (by simp [hb', hd]) ?_
        have e : hexd (bt s i) = some (bt s i - 48) := if_pos hd
        rw [e]
        simp only [Option.bind_some]
        rw [w64 (n := 16 * x) (by omega) (by omega), w64 (n := 16 * x + bt s i) (by omega) (by omega), w64 (n := 16 * x + bt s i - 48) (by omega) (by omega), w64 (n := i + 1) (by omega) (by omega), show 16 * x + bt s i - 48 = 16 * x + (bt s i - 48) by omega]
        exact Ev_RName_l1 s hs n (i + 1) _ (by omega) (by omega) (by omega) (by omega)
      · refine Ev.neg (by simp [hb']; omega) ?_
        by_cases he : 65 ≤ bt s i ∧ bt s i ≤ 70
        · refine Ev.pos he.1 (Ev.pos he.2 ?_)
          have e : hexd (bt s i) = some (bt s i - 55) := by unfold hexd; rw [if_neg hd, if_pos he]
          rw [e]
          simp only [Option.bind_some]
          rw [w64 (n := 16 * x) (by omega) (by omega), w64 (n := 16 * x + bt s i) (by omega) (by omega), w64 (n := 16 * x + bt s i - 55) (by omega) (by omega), w64 (n := i + 1) (by omega) (by omega), show 16 * x + bt s i - 55 = 16 * x + (bt s i - 55) by omega]
          exact Ev_RName_l1 s hs n (i + 1) _ (by omega) (by omega) (by omega) (by omega)
        · have e : hexd (bt s i) = none := by unfold hexd; rw [if_neg hd, if_neg he]
          rw [e]
          by_cases h65 : bt s i ≥ 65
          · exact Ev.pos h65 (Ev.neg (by omega) (Ev.now _))
          · exact Ev.neg h65 (Ev.now _)
    by_cases h48 : bt s i ≥ 48
    · refine Ev.pos h48 (low _ ?_)
      simp [h48]
    · refine Ev.neg h48 (low _ ?_)
      simp [h48]
theorem Ev_RName_hex (s : ByteArray) : Ev (fun k => if (s.size : Int) < 5 then flongref04_Name.j1 k s true else if (s.size : Int) > 7 then flongref04_Name.j1 k s true else if 0 < (s.size : Int) then flongref04_Name.j1 k s (bt s 0 != 117) else none) (hexName s) := by
  have j1 : Ev (fun k => flongref04_Name.j1 k s true) (-1) := by
    refine Ev.succ ?_
    simp only [flongref04_Name.j1, reduceIte]
    exact Ev.now _
  have bad : (s.size : Int) < 5 ∨ (s.size : Int) > 7 ∨ bt s 0 ≠ 117 → hexName s = -1 := fun h => if_pos h
  by_cases h5 : (s.size : Int) < 5
  · rw [bad (.inl h5)]
    exact Ev.pos h5 j1
  refine Ev.neg h5 ?_
  by_cases h7 : (s.size : Int) > 7
  · rw [bad (.inr (.inl h7))]
    exact Ev.pos h7 j1
  refine Ev.neg h7 (Ev.pos (by omega) ?_)
  by_cases hu : bt s 0 = 117
  · have en : ¬ ((s.size : Int) < 5 ∨ (s.size : Int) > 7 ∨ bt s 0 ≠ 117) := by rintro (h | h | h) <;> first | omega | exact h hu
    have eh : hexName s = match hexfrom s (s.size - 1) 1 0 with
      | none => -1
      | some x => if safe x = x then x else -1 := if_neg en
    rw [eh, show (bt s 0 != 117) = false by simp [hu]]
    refine Ev.succ ?_
    simp only [flongref04_Name.j1, Bool.false_eq_true, reduceIte]
    refine Ev_RName_l1 s (by omega) (s.size - 1) 1 0 (by omega) (by omega) (by omega) ?_
    have : s.size - 1 = 4 ∨ s.size - 1 = 5 ∨ s.size - 1 = 6 := by omega
    rcases this with e | e | e <;> rw [e] <;> decide
  · rw [bad (.inr (.inr hu)), show (bt s 0 != 117) = true by simpa using hu]
    exact j1
theorem Ev_RName (s : ByteArray) : Ev (fun k => flongref04_Name.f k s) (nameSpec s) := by
  unfold flongref04_Name.f
  refine Ev.const_bind rfl ?_
  simp only
  refine Ev_eq (Ev_RName_l0 s _ _ (by decide) (by decide) (by intro v hv; simp only [List.mem_cons, List.not_mem_nil, or_false] at hv; exact w64 (by omega) (by omega)) (Ev_RName_hex s) 30 0 (by decide)) ?_
  rw [List.drop_zero]
  unfold nameSpec look
  rw [← find_same (T1 := namesT) (by decide) (by decide)]
  cases (namesT.find? fun q => q.1 == s.data.toList) <;> rfl
/-- Fonts. -/
def fontSpec (s : ByteArray) : Int := (look fontsT s).getD (-1)
theorem fonts_nonneg (s : ByteArray) {r : Int} (hk : look fontsT s = some r) : 0 ≤ r := by
  unfold look at hk
  obtain ⟨p, hp, rfl⟩ := Option.map_eq_some_iff.mp hk
  have hm := List.mem_of_find?_eq_some hp
  exact (show ∀ q ∈ fontsT, 0 ≤ q.2 by decide) p hm
theorem Font_is (s : ByteArray) (hs : s.size ≤ 9223372036854775807) : escape_Font.f s = some (if 0 ≤ fontSpec s then (fontSpec s, true) else (0, false)) := by
  unfold escape_Font.f
  rw [if_pos hs]
  cases hk : look fontsT s with
  | none =>
    have e : fontSpec s = -1 := by unfold fontSpec; rw [hk]; rfl
    rw [e]; rfl
  | some r =>
    have h0 := fonts_nonneg s hk
    have e : fontSpec s = r := by unfold fontSpec; rw [hk]; rfl
    rw [e, if_pos h0]; rfl
theorem one_byte (s : ByteArray) (h : s.size = 1) : s.data.toList = [UInt8.ofNat (bt s 0).toNat] := by
  obtain ⟨⟨l⟩⟩ := s
  match l, h with
  | [x], _ =>
    have e : bt ⟨⟨[x]⟩⟩ 0 = (x.toNat : Int) := bt_get ⟨⟨[x]⟩⟩ 0 (by simp)
    rw [e]
    simp
theorem Ev_RFont_l0 (s : ByteArray) (A : List ByteArray) (hA : A.length ≤ 1000)
    {r : Int} (hr : Ev (fun _ => if (s.size : Int) = 1 then if 0 < (s.size : Int) then if bt s 0 ≥ 49 then if bt s 0 ≤ 52 then some (wrap64 (wrap64 (bt s 0) - 49)) else some (-1) else some (-1) else none else some (-1)) r) :
    ∀ (n i : Nat), i + n = A.length → Ev (fun k => flongref04_Font.l0 k s A (i : Int)) ((((A.map fun a => a.data.toList).zipIdx).drop i |>.find? fun p => p.1 == s.data.toList).elim r fun p => (p.2 : Int))
  | 0, i, h => by
    refine Ev.succ ?_
    simp only [flongref04_Font.l0]
    refine Ev.neg (by omega) ?_
    rw [List.drop_eq_nil_of_le (by simp; omega)]
    exact hr
  | n + 1, i, h => by
    refine Ev.succ ?_
    simp only [flongref04_Font.l0]
    refine Ev.pos (by omega) (Ev.pos (by omega) ?_)
    have hi : i < A.length := by omega
    rw [List.drop_eq_getElem_cons (by simp; omega), List.find?_cons]
    rw [rdOf_get A i hi, toList_data, toList_data]
    simp only [List.getElem_zipIdx, List.getElem_map]
    by_cases hc : A[i].data.toList = s.data.toList
    · refine Ev.pos hc (Ev.val ?_)
      simp [hc]
    · refine Ev.neg hc ?_
      rw [show (A[i].data.toList == s.data.toList) = false by simpa using hc]
      rw [w64 (by omega) (by omega)]
      exact Ev_RFont_l0 s A hA hr n (i + 1) (by omega)
def fonts2 : List (List UInt8 × Int) := [([82], 0), ([66], 1), ([73], 2), ([66, 73], 3), ([80], 4), ([49], 0), ([50], 1), ([51], 2), ([52], 3)]
theorem fontSpec_eq (s : ByteArray) : fontSpec s = ((fonts2.find? fun q => q.1 == s.data.toList).map fun p => p.2).getD (-1) := by
  unfold fontSpec look
  rw [find_same (T1 := fontsT) (T2 := fonts2) (by decide) (by decide)]
theorem Ev_RFont (s : ByteArray) : Ev (fun k => flongref04_Font.f k s) (fontSpec s) := by
  unfold flongref04_Font.f
  have hb := bt_range s 0
  have last : Ev (fun _ => if (s.size : Int) = 1 then if 0 < (s.size : Int) then if bt s 0 ≥ 49 then if bt s 0 ≤ 52 then some (wrap64 (wrap64 (bt s 0) - 49)) else some (-1) else some (-1) else none else some (-1))
      (if (s.size : Int) = 1 ∧ 49 ≤ bt s 0 ∧ bt s 0 ≤ 52 then bt s 0 - 49 else -1) := by
    by_cases h1 : (s.size : Int) = 1
    · refine Ev.pos h1 (Ev.pos (by omega) ?_)
      by_cases h2 : bt s 0 ≥ 49
      · refine Ev.pos h2 ?_
        by_cases h3 : bt s 0 ≤ 52
        · refine Ev.pos h3 (Ev.val ?_)
          rw [if_pos ⟨h1, h2, h3⟩, w64 (n := bt s 0) (by omega) (by omega), w64 (by omega) (by omega)]
        · refine Ev.neg h3 (Ev.val ?_)
          rw [if_neg (by omega)]
      · refine Ev.neg h2 (Ev.val ?_)
        rw [if_neg (by omega)]
    · refine Ev.neg h1 (Ev.val ?_)
      rw [if_neg (by omega)]
  refine Ev_eq (Ev_RFont_l0 s _ (by decide) last 5 0 (by decide)) ?_
  rw [List.drop_zero, fontSpec_eq]
  have z : (([(⟨#[82]⟩ : ByteArray), ⟨#[66]⟩, ⟨#[73]⟩, ⟨#[66, 73]⟩, ⟨#[80]⟩] : List ByteArray).map fun a => a.data.toList).zipIdx = [([82], 0), ([66], 1), ([73], 2), ([66, 73], 3), ([80], 4)] := rfl
  rw [z]
  by_cases h1 : s.size = 1
  · have e := one_byte s h1
    rw [e]
    obtain ⟨m, hm⟩ := Int.eq_ofNat_of_zero_le hb.1
    have hm2 : m < 256 := by omega
    rw [hm]
    have h1' : (s.size : Int) = 1 := by omega
    simp only [h1', true_and]
    have key : ∀ m : Nat, m < 256 → (([([82], 0), ([66], 1), ([73], 2), ([66, 73], 3), ([80], 4)] : List (List UInt8 × Nat)).find? fun p => p.1 == [UInt8.ofNat (m : Int).toNat]).elim (if 49 ≤ (m : Int) ∧ (m : Int) ≤ 52 then (m : Int) - 49 else -1) (fun p => (p.2 : Int)) = ((fonts2.find? fun q => q.1 == [UInt8.ofNat (m : Int).toNat]).map fun p => p.2).getD (-1) := by decide +kernel
    exact key m hm2
  · rw [if_neg (by omega)]
    have ne : ∀ x : UInt8, ([x] == s.data.toList) = false := by
      intro x
      rw [beq_eq_false_iff_ne]
      intro h
      apply h1
      have := congrArg List.length h
      rw [Array.length_toList] at this
      exact this.symm
    simp only [fonts2, List.find?_cons, List.find?_nil, ne]
    cases ([66, 73] == s.data.toList) <;> rfl
/-- Quoting: each backslash doubled as an escape. -/
def quoted (l : List UInt8) : List UInt8 := l.flatMap fun b => if b = 92 then [92, 101] else [b]
def quotedI (xs : List Int) : List Int := xs.flatMap fun b => if b = 92 then [92, 101] else [b]
theorem bt_drop (s : ByteArray) (i : Nat) (h : i < s.size) : (s.data.toList.drop i) = s.data.toList[i]'(by rw [Array.length_toList]; exact h) :: s.data.toList.drop (i + 1) :=
  List.drop_eq_getElem_cons (by rw [Array.length_toList]; exact h)
theorem byte_bt (s : ByteArray) (i : Nat) (h : i < s.size) : UInt8.ofNat (bt s (i : Int)).toNat = s.data.toList[i]'(by rw [Array.length_toList]; exact h) := by
  rw [bt_get s i (by rw [Array.length_toList]; exact h)]
  simp
theorem bt_92 (s : ByteArray) (i : Nat) (h : i < s.size) : bt s (i : Int) = 92 ↔ s.data.toList[i]'(by rw [Array.length_toList]; exact h) = 92 := by
  rw [bt_get s i (by rw [Array.length_toList]; exact h)]
  generalize s.data.toList[i]'(by rw [Array.length_toList]; exact h) = x
  constructor
  · intro h
    have : x.toNat = 92 := by omega
    exact UInt8.toNat_inj.mp this
  · intro h; rw [h]; rfl
theorem Ev_Quote_l0 (s : ByteArray) (hs : s.size ≤ 140737488351232 / 4) : ∀ (n i : Nat) (xs : List Int), i + n = s.size → xs.length ≤ 2 * i →
    Ev (fun k => escape_Quote.l0 k s xs (s.size : Int) (i : Int)) (⟨((xs.map fun n => UInt8.ofNat n.toNat) ++ quoted (s.data.toList.drop i)).toArray⟩)
  | 0, i, xs, h, hx => by
    refine Ev.succ ?_
    simp only [escape_Quote.l0]
    refine Ev.neg (by omega) (Ev.val ?_)
    rw [List.drop_eq_nil_of_le (by rw [Array.length_toList]; show s.size ≤ i; omega)]
    simp [quoted, strOfNums]
  | n + 1, i, xs, h, hx => by
    refine Ev.succ ?_
    simp only [escape_Quote.l0]
    refine Ev.pos (by omega) (Ev.pos (by omega) (Ev.pos (by omega) (Ev.pos (by omega) (Ev.some_bind ?_))))
    have hi : i < s.size := by omega
    have hb := byte_bt s i hi
    rw [bt_drop s i hi]
    rw [w64 (by omega) (by omega), show (i : Int) + 1 = ((i + 1 : Nat) : Int) by omega]
    by_cases hc : bt s i = 92
    · refine Ev.pos hc (Ev.pos (by simp; omega) ?_)
      refine Ev_eq (Ev_Quote_l0 s hs n (i + 1) _ (by omega) (by simp; omega)) ?_
      have hc2 := (bt_92 s i hi).mp hc
      simp only [List.map_append, List.map_cons, List.map_nil, hb, quoted, List.flatMap_cons, hc2, reduceIte, List.append_assoc]
      rfl
    · refine Ev.neg hc ?_
      refine Ev_eq (Ev_Quote_l0 s hs n (i + 1) _ (by omega) (by simp; omega)) ?_
      have hc2 : ¬ _ := fun e => hc ((bt_92 s i hi).mpr e)
      simp only [List.map_append, List.map_cons, List.map_nil, hb, quoted, List.flatMap_cons, hc2, reduceIte, List.append_assoc]
theorem Ev_Quote (s : ByteArray) (hs : s.size ≤ 140737488351232 / 4) : Ev (fun k => escape_Quote.f k s) ⟨(quoted s.data.toList).toArray⟩ := by
  unfold escape_Quote.f
  refine Ev_eq (Ev_Quote_l0 s hs s.size 0 [] (by omega) (by simp)) ?_
  simp
theorem extract_one (s : ByteArray) (i : Nat) (h : i < s.size) : (s.extract i (i + 1)).data.toList = [s.data.toList[i]'(by rw [Array.length_toList]; exact h)] := by
  have h2 : i < s.data.toList.length := by rw [Array.length_toList]; exact h
  rw [ByteArray.data_extract, Array.toList_extract, List.extract_eq_take_drop, List.drop_eq_getElem_cons h2]
  simp
theorem Ev_RQuote_l0 (s : ByteArray) (hs : s.size ≤ 140737488351232 / 4) : ∀ (n i : Nat) (x : ByteArray), i + n = s.size → x.size ≤ 2 * i →
    Ev (fun k => flongref04_Quote.l0 k s x (i : Int)) (⟨(x.data.toList ++ quoted (s.data.toList.drop i)).toArray⟩)
  | 0, i, x, h, hx => by
    refine Ev.succ ?_
    simp only [flongref04_Quote.l0]
    refine Ev.neg (by omega) (Ev.val ?_)
    rw [List.drop_eq_nil_of_le (by rw [Array.length_toList]; show s.size ≤ i; omega)]
    simp [quoted]
  | n + 1, i, x, h, hx => by
    have hi : i < s.size := by omega
    have e1 : (wrap64 ((i : Int) + 1)) = ((i + 1 : Nat) : Int) := by rw [w64 (by omega) (by omega)]; omega
    have hone := extract_one s i hi
    have hsz : (s.extract i (i + 1)).size = 1 := by rw [ByteArray.size_extract]; omega
    refine Ev.succ ?_
    simp only [flongref04_Quote.l0, e1, Int.toNat_natCast]
    refine Ev.pos (by omega) (Ev.pos (by omega) (Ev.pos (by omega) (Ev.pos (by omega) (Ev.pos (by rw [hsz]; omega) ?_))))
    rw [bt_drop s i hi]
    by_cases hc : bt s i = 92
    · refine Ev.pos hc (Ev.pos (by rw [ByteArray.size_append, hsz]; omega) ?_)
      refine Ev_eq (Ev_RQuote_l0 s hs n (i + 1) _ (by omega) (by rw [ByteArray.size_append, ByteArray.size_append, hsz]; show x.size + 1 + 1 ≤ _; omega)) ?_
      have hc2 := (bt_92 s i hi).mp hc
      rw [ByteArray.data_append, ByteArray.data_append, Array.toList_append, Array.toList_append, hone]
      simp only [quoted, List.flatMap_cons, hc2, reduceIte, List.append_assoc]
      rfl
    · refine Ev.neg hc ?_
      refine Ev_eq (Ev_RQuote_l0 s hs n (i + 1) _ (by omega) (by rw [ByteArray.size_append, hsz]; omega)) ?_
      have hc2 : ¬ _ := fun e => hc ((bt_92 s i hi).mpr e)
      rw [ByteArray.data_append, Array.toList_append, hone]
      simp only [quoted, List.flatMap_cons, hc2, reduceIte, List.append_assoc]
theorem Ev_RQuote (s : ByteArray) (hs : s.size ≤ 140737488351232 / 4) : Ev (fun k => flongref04_Quote.f k s) ⟨(quoted s.data.toList).toArray⟩ := by
  unfold flongref04_Quote.f
  refine Ev_eq (Ev_RQuote_l0 s hs s.size 0 _ (by omega) (by decide)) ?_
  simp
theorem known_is : flonglaw04_known.f 40 = some true := by decide +kernel
theorem Ev_known : Ev (fun k => flonglaw04_known.f k) true := Ev.of flonglaw04_known.mono known_is
theorem Ev_kn : Ev (fun k => (flonglaw04_known.f k).bind fun t => some t) true := Ev.bind Ev_known (Ev.now _)
theorem nameSpec_range (s : ByteArray) : -1 ≤ nameSpec s ∧ nameSpec s ≤ 1114111 := by
  unfold nameSpec
  cases hk : look namesT s with
  | some r =>
    unfold look at hk
    obtain ⟨p, hp, rfl⟩ := Option.map_eq_some_iff.mp hk
    have hm := List.mem_of_find?_eq_some hp
    exact (show ∀ q ∈ namesT, -1 ≤ q.2 ∧ q.2 ≤ 1114111 by decide) p hm
  | none =>
    simp only
    unfold hexName
    split
    · omega
    · split
      · omega
      · split
        · rename_i v _ hv
          unfold safe at hv
          split at hv
          · rename_i hc
            have := hc.1
            unfold val at this
            simp at this
            omega
          · omega
        · omega
theorem fontSpec_range (s : ByteArray) : -1 ≤ fontSpec s ∧ fontSpec s ≤ 4 := by
  unfold fontSpec
  cases hk : look fontsT s with
  | some r =>
    unfold look at hk
    obtain ⟨p, hp, rfl⟩ := Option.map_eq_some_iff.mp hk
    have hm := List.mem_of_find?_eq_some hp
    exact (show ∀ q ∈ fontsT, -1 ≤ q.2 ∧ q.2 ≤ 4 by decide) p hm
  | none => simp
theorem pair_same (v : Int) (h : -1 ≤ v ∧ v ≤ 1114111) : wrap64 (if 0 ≤ v then (v, true) else (0, false)).1 = mx v 0 ∧ ((if 0 ≤ v then (v, true) else (0, false)).2 == decide (v ≥ 0)) = true := by
  by_cases h0 : 0 ≤ v
  · simp only [if_pos h0]
    rw [w64 (by omega) (by omega)]
    unfold mx
    rw [if_neg (by omega)]
    exact ⟨rfl, by simpa using h0⟩
  · simp only [if_neg h0]
    unfold mx
    rw [if_pos (by omega)]
    exact ⟨w64 (by omega) (by omega), by simpa using h0⟩
/-- The law on names. -/
theorem Ev_EscapeNames (s : ByteArray) : Ev (fun k => flonglaw04_EscapeNames.f k s) true := by
  unfold flonglaw04_EscapeNames.f
  by_cases h : (s.size : Int) > 300
  · exact Ev.pos h Ev_kn
  have n1 := pair_same _ (nameSpec_range s)
  have n2 := pair_same _ (by have := fontSpec_range s; omega : -1 ≤ fontSpec s ∧ fontSpec s ≤ 1114111)
  exact Ev.neg h (Ev.bind (Ev_Name s (by omega)) (Ev.const_bind (Font_is s (by omega)) (Ev.bind (Ev_RName s) (Ev.bind (Ev_RFont s)
    (Ev.pos n1.1 (Ev.pos n1.2 (Ev.pos n2.1 (Ev.pos n2.2 (Ev.bind (Ev_Quote s (by omega)) (Ev.bind (Ev_RQuote s (by omega)) (Ev.pos rfl Ev_kn)))))))))))
end Go.Proofs.YtdogljnddalgdaaDoor.A4
