/- Of what the law StylesSets needs: part 3. -/
import Derived.Laws.BitsLemmas
import Derived.Test.YtdogljnddalgdaaDoorBSets2
namespace Go.Proofs.YtdogljnddalgdaaDoorW.PrintWords
end Go.Proofs.YtdogljnddalgdaaDoorW.PrintWords
section
namespace Go.Proofs.YtdogljnddalgdaaDoor
open Go Go.RowKit Go.Proofs.YtdogljnddalgdaaDoorW.PrintWords
theorem Ev.succ {α : Type} {g : Nat → Option α} {r : α} (h : Ev (fun k => g (k + 1)) r) : Ev g r := by
  obtain ⟨K, h⟩ := h
  refine ⟨K + 1, fun n hn => ?_⟩
  obtain ⟨m, rfl⟩ : ∃ m, n = m + 1 := ⟨n - 1, by omega⟩
  exact h m (by omega)
theorem Ev.pos {α : Type} {c : Prop} [Decidable c] {f g : Nat → Option α} {r : α} (hc : c) (h : Ev f r) : Ev (fun k => if c then f k else g k) r := Ev.congr (fun _ => if_pos hc) h
theorem Ev.neg {α : Type} {c : Prop} [Decidable c] {f g : Nat → Option α} {r : α} (hc : ¬ c) (h : Ev g r) : Ev (fun k => if c then f k else g k) r := Ev.congr (fun _ => if_neg hc) h
theorem Ev.val {α : Type} {a b : α} (h : a = b) : Ev (fun _ => some a) b := h ▸ Ev.now a
theorem Ev.some_bind {α β : Type} {x : α} {f : Nat → α → Option β} {r : β} (h : Ev (fun k => f k x) r) : Ev (fun k => (some x).bind (f k)) r := Ev.congr (fun _ => rfl) h
theorem Ev.const_bind {α β : Type} {o : Option α} {x : α} {f : Nat → α → Option β} {r : β} (e : o = some x) (h : Ev (fun k => f k x) r) : Ev (fun k => o.bind (f k)) r := by subst e; exact Ev.congr (fun _ => rfl) h
theorem w64 {n : Int} (h0 : -9223372036854775808 ≤ n) (h1 : n ≤ 9223372036854775807) : wrap64 n = n := by unfold wrap64; omega
theorem w32 {n : Int} (h0 : -2147483648 ≤ n) (h1 : n ≤ 2147483647) : wrap32 n = n := by unfold wrap32; omega
theorem rd_get (l : List Int) (i : Nat) (h : i < l.length) : rd l (i : Int) = l[i] := by simp [rd, List.getD, List.getElem?_eq_getElem h]
theorem bt_get (s : ByteArray) (i : Nat) (h : i < s.data.toList.length) : bt s (i : Int) = ((s.data.toList[i]).toNat : Int) := by
  have h2 : i < s.size := by simpa using h
  unfold bt
  rw [dif_pos (by simpa using h2)]
  simp
  rfl
theorem toList_loop (s : ByteArray) : ∀ (n i : Nat) (r : List UInt8), s.size - i = n → ByteArray.toList.loop s i r = r.reverse ++ s.data.toList.drop i
  | 0, i, r, h => by
    rw [ByteArray.toList.loop, if_neg (by omega), List.drop_eq_nil_of_le (by rw [Array.length_toList]; show s.size ≤ i; omega)]
    simp
  | n + 1, i, r, h => by
    have hi : i < s.size := by omega
    rw [ByteArray.toList.loop, if_pos hi, toList_loop s n (i + 1) _ (by omega)]
    have h2 : i < s.data.toList.length := by rw [Array.length_toList]; exact hi
    rw [List.drop_eq_getElem_cons h2]
    simp [ByteArray.get!]
    rw [Array.getElem!_eq_getD]
    simp [Array.getD]
    rw [dif_pos hi]
theorem toList_data (s : ByteArray) : s.toList = s.data.toList := by
  unfold ByteArray.toList
  rw [toList_loop s (s.size - 0) 0 [] rfl]
  simp
theorem bytes_ext {a b : ByteArray} (h : a.data.toList = b.data.toList) : a = b := by
  cases a; cases b
  congr 1
  exact Array.toList_inj.mp h
end Go.Proofs.YtdogljnddalgdaaDoor
end
