/- Of what the law BuildOwn needs: part 1. -/
import Derived.Laws.BytesString
import Derived.Laws.IdiomStrings
import Derived.Test.YtlbjfjaleefiiaaDoorBBO0
set_option linter.unusedSimpArgs false
set_option linter.unusedVariables false
section
namespace Go.Proofs.YtlbjfjaleefiiaaDoor.Ev
open Go
section
variable {W : Wd} {P : Program}
theorem unOf_sound {op : UnOp} {f r : FV} {v : Value} {rf : Option Root} {i : Nat} (hf : FRep W rf i f v) (h : unOf op f = some r) :
    ∃ z, (Op.unary op v).run P W.w = .ok z W.w ∧ FRep W none 0 r z := by
  unfold unOf at h
  split at h
  · obtain rfl := hf.bool
    cases op <;> simp at h
    subst h
    exact ⟨_, rfl, .mkBool⟩
  · obtain rfl := hf.int
    cases op <;> simp at h
    subst h
    exact ⟨_, by simp [Op.unary, Op.intArith], .mkInt⟩
  · simp at h
theorem bytesFrom_get : ∀ {l : List PV} {bs : List UInt8}, bytesFrom l = some bs → bs.length = l.length ∧ ∀ (j : Nat) (hj : j < bs.length), l[j]? = some (.int .u8 (bs[j].toNat : Int)) ∧ True
  | [], bs, h => by simp [bytesFrom] at h; subst h; simp
  | p :: l, bs, h => by
    unfold bytesFrom at h
    split at h
    · rename_i b r hb hr
      simp at h; subst h
      obtain ⟨h1, h2⟩ := bytesFrom_get hr
      refine ⟨by simp [h1], fun j hj => ⟨?_, trivial⟩⟩
      cases j with
      | zero =>
        unfold byteOf at hb
        split at hb
        · split at hb
          · rename_i n hn
            simp at hb; subst hb
            simp only [List.getElem?_cons_zero, List.getElem_cons_zero]
            rw [← hn]
          · simp at hb
        · simp at hb
      | succ j => simpa using (h2 j (by simpa using hj)).1
    · simp at h
theorem runesOf_get : ∀ {l : List PV} {ns : List Int}, runesOf l = some ns → ns.length = l.length ∧ ∀ (j : Nat) (hj : j < ns.length), l[j]? = some (.int .i32 ns[j])
  | [], ns, h => by simp [runesOf] at h; subst h; simp
  | .int .i32 n :: l, ns, h => by
    simp only [runesOf, Option.map_eq_some_iff] at h
    obtain ⟨r, hr, rfl⟩ := h
    obtain ⟨h1, h2⟩ := runesOf_get hr
    refine ⟨by simp [h1], fun j hj => ?_⟩
    cases j with
    | zero => rfl
    | succ j => simpa using h2 j (by simpa using hj)
  | .int .i8 _ :: _, _, h | .int .i16 _ :: _, _, h | .int .i64 _ :: _, _, h | .int .u8 _ :: _, _, h | .int .u16 _ :: _, _, h | .int .u32 _ :: _, _, h | .int .u64 _ :: _, _, h | .bool _ :: _, _, h | .str _ :: _, _, h | .agg _ :: _, _, h | .sl _ :: _, _, h | .mp _ :: _, _, h => by simp [runesOf] at h
theorem convOf_sound {s d : TypeId} {f r : FV} {v : Value} {rf : Option Root} {i : Nat} (hf : FRep W rf i f v) (h : convOf P s d f = some r) :
    ∃ z, (convert s d v).run P W.w = .ok z W.w ∧ FRep W none 0 r z := by
  unfold convOf at h
  split at h
  · obtain rfl := hf.int
    split at h
    · rename_i k n hs hd
      simp at h; subst h
      refine ⟨_, ?_, .mkInt⟩
      unfold convert
      simp only [Sem.run_bind, run_underlying' hs, run_underlying' hd, Result.andThen_ok]
      rfl
    · rename_i k hs hd
      simp at h; subst h
      refine ⟨_, ?_, .mkStr⟩
      unfold convert
      simp only [Sem.run_bind, run_underlying' hs, run_underlying' hd, Result.andThen_ok]
      rfl
    · simp at h
  · obtain rfl := hf.str
    split at h
    · rename_i hs hd
      simp at h; subst h
      refine ⟨_, ?_, .mkStr⟩
      unfold convert
      simp only [Sem.run_bind, run_underlying' hs, run_underlying' hd, Result.andThen_ok]
      rfl
    · simp at h
  · split at h
    · rename_i l el hl hs hd
      split at h
      · rename_i _ _ he hstr
        simp at h; subst h
        obtain ⟨A, len, cap, rfl, hr⟩ := hf.list hl
        obtain rfl := hr.length
        unfold strOf at hstr
        obtain ⟨bs, hbs, rfl⟩ := Option.map_eq_some_iff.1 hstr
        have hb := bytesFrom_get hbs
        refine ⟨_, ?_, .mkStr⟩
        cases hr with
        | nil =>
          obtain rfl : bs = [] := by simpa [bytesFrom] using hbs.symm
          cases A with
          | none =>
            rw [List.length_nil, run_convert_bytes_string W.w s d el none 0 cap hs he hd]
            rfl
          | some A => exact run_convert_bytes_back W.w s d el A cap [] hs he hd (fun j hj => by simp at hj)
        | @sl _ A _ sz n c h0 h1 h2 h3 h4 h5 h6 h7 h8 =>
          rw [← hb.1]
          refine run_convert_bytes_back W.w s d el A cap bs hs he hd (fun j hj => ?_)
          have hjl : j < l.length := by rw [← hb.1]; exact hj
          obtain ⟨hp, hv⟩ := hb.2 j hj
          have hz : sz = 1 := by
            have := h3 j _ hp
            simpa [PV.leaves] using this.symm
          subst hz
          have hc := h5 j 0 _ _ hp rfl
          have hrp := h7 j 0 _ _ hp rfl
          rw [Addr.add_none h1]
          simp only [Nat.mul_one, Nat.add_zero] at hc
          rw [hc]
          generalize c j 0 = cv at hrp
          cases hrp
          rfl
      · rename_i _ _ ns he hns
        simp at h; subst h
        obtain ⟨A, len, cap, rfl, hr⟩ := hf.list hl
        obtain rfl := hr.length
        have hb := runesOf_get hns
        refine ⟨_, ?_, .mkStr⟩
        cases hr with
        | nil =>
          obtain rfl : ns = [] := by simpa [runesOf] using hns.symm
          cases A with
          | none => exact run_convert_runes_nil W.w s d el 0 cap hs he hd
          | some A =>
            have := run_convert_runes (P := P) W.w s d el A 0 cap [] (by simp) hs he hd (fun j hj => by simp at hj)
            simpa using this
        | @sl _ A _ sz n c h0 h1 h2 h3 h4 h5 h6 h7 h8 =>
          rw [← hb.1]
          have := run_convert_runes (P := P) W.w s d el A ns.length cap ns (Nat.le_refl _) hs he hd (fun j hj => by
            have hp := hb.2 j hj
            have hz : sz = 1 := by
              have := h3 j _ hp
              simpa [PV.leaves] using this.symm
            subst hz
            have hc := h5 j 0 _ _ hp rfl
            have hrp := h7 j 0 _ _ hp rfl
            rw [Addr.add_none h1]
            simp only [Nat.mul_one, Nat.add_zero] at hc
            rw [hc]
            generalize c j 0 = cv at hrp
            cases hrp
            simp [List.getD, hj])
          rw [List.take_length] at this
          exact this
      · simp at h
    · simp at h
theorem lenOf_sound {t ty : TypeId} {ts : Array TypeId} {f r : FV} {v : Value} {rf : Option Root} {i : Nat} (ht : ts[0]? = some t) (hf : FRep W rf i f v) (h : lenOf P t f = some r) :
    ∃ z, (Builtin.len_ ts ty #[v]).run P W.w = .ok z W.w ∧ FRep W none 0 r z := by
  unfold lenOf at h
  have hv : (#[v] : Array Value)[0]? = some v := rfl
  split at h
  · rename_i hu
    split at h
    · obtain rfl := hf.str
      simp at h; subst h
      refine ⟨_, ?_, .mkInt⟩
      unfold Builtin.len_
      simp only [ht, hv, Sem.run_bind, run_underlying' hu, Result.andThen_ok]
      rfl
    · simp at h
  · rename_i el hu
    split at h
    · cases hf
      simp at h; subst h
      refine ⟨_, ?_, .mkInt⟩
      unfold Builtin.len_
      simp only [ht, hv, Sem.run_bind, run_underlying' hu, Result.andThen_ok]
      rfl
    · cases hf
      simp at h; subst h
      refine ⟨_, ?_, .mkInt⟩
      unfold Builtin.len_
      simp only [ht, hv, Sem.run_bind, run_underlying' hu, Result.andThen_ok]
      rfl
    · obtain ⟨l, hl, rfl⟩ := Option.map_eq_some_iff.1 h
      obtain ⟨A, len, cap, rfl, hr⟩ := hf.list hl
      have hlen := hr.length
      refine ⟨goInt len, ?_, by rw [hlen]; exact .mkInt⟩
      unfold Builtin.len_
      simp only [ht, hv, Sem.run_bind, run_underlying' hu, Result.andThen_ok]
      rfl
  · simp at h
theorem Rep.cut {w : World} {lim : Nat → Nat} {l : List PV} {A : Option Addr} {len cap n h i : Nat} (hr : Rep w lim (.sl l) (.slice A len cap)) (hi : i ≤ h) (hh : h ≤ l.length)
    (hn : ∀ p, l[0]? = some p → p.leaves.length = n) : Rep w lim (.sl ((l.take h).drop i)) (.slice (if cap = i then A else A.map (·.add (i * n))) (h - i) (cap - i)) := by
  by_cases h0 : h = i
  · subst h0
    have : (l.take h).drop h = [] := by simp
    rw [this, Nat.sub_self]
    exact .nil
  · cases hr with
    | nil => simp at hh; omega
    | @sl _ B _ sz _ c h0' h1 h2 h3 h4 h5 h6 h7 h8 =>
      have hz : sz = n := by
        have hlt : 0 < l.length := by omega
        have e : l[0]? = some l[0] := List.getElem?_eq_getElem hlt
        rw [← h3 0 _ e, hn _ e]
      subst hz
      have hc : cap ≠ i := by omega
      rw [if_neg hc]
      simp only [Option.map_some]
      have hget : ∀ (j : Nat) (e : PV), ((l.take h).drop i)[j]? = some e → l[i + j]? = some e := fun j e he => by
        rw [List.getElem?_drop, List.getElem?_take] at he
        split at he
        · exact he
        · simp at he
      refine .sl (fun j k => c (i + j) k) (by simp; omega) (by rw [Addr.add_none h1]) h2 (fun j e he => h3 _ e (hget j e he)) (fun j k e p he hp => ?_) (fun j k e p he hp => ?_) (fun j k e p he hp => h6 _ k e p (hget j e he) hp)
        (fun j k e p he hp => h7 _ k e p (hget j e he) hp) (by omega)
      · have := h4 _ k e p (hget j e he) hp
        rw [Addr.add_none h1]
        simp only
        rw [Nat.add_mul] at this
        omega
      · have := h5 _ k e p (hget j e he) hp
        rw [Addr.add_none h1]
        simp only
        rw [← this]
        congr 2
        rw [Nat.add_mul]
        omega
theorem Rep.head {w : World} {lim : Nat → Nat} {l : List PV} {A : Option Addr} {len cap : Nat} (hr : Rep w lim (.sl l) (.slice A len cap)) : len ≤ cap := by
  cases hr with
  | nil => exact Nat.zero_le _
  | sl _ _ _ _ _ _ _ _ _ h => exact h
def BRep (W : Wd) : Option FV → Option Value → Prop
  | none, none => True
  | some f, some v => ∃ r i, FRep W r i f v
  | _, _ => False
theorem hi_sound {is : Bool} {f : Option FV} {v : Option Value} {n cap h : Nat} (hb : BRep W f v) (hf : hiOf f n = some h) (hc : n ≤ cap) :
    (match v, (none : Option Value) with
      | some v, some _ => Instr.sliceBound v cap .slice3B
      | some v, none => Instr.sliceBound v cap (if is then .sliceAcap else .sliceAlen)
      | none, none => pure n
      | none, some _ => stuck "Slice: max without high" : Sem Nat).run P W.w = .ok h W.w ∧ h ≤ n := by
  unfold hiOf at hf
  split at hf
  · simp at hf; subst hf
    cases v with
    | none => exact ⟨rfl, Nat.le_refl _⟩
    | some v => simp [BRep] at hb
  · cases v with
    | none => simp [BRep] at hb
    | some v =>
      obtain ⟨r, i, hv⟩ := hb
      obtain rfl := hv.int
      split at hf
      · simp at hf; subst hf
        rename_i hle
        refine ⟨?_, by omega⟩
        simp only [Instr.sliceBound, asIntOf]
        simp only [Sem.run_bind, Sem.run_pure, Result.andThen_ok]
        rw [if_pos (by omega)]
        rfl
      · simp at hf
  · simp at hf
theorem lo_sound {f : Option FV} {v : Option Value} {h l : Nat} {code : BoundsCode} (hb : BRep W f v) (hf : loOf f h = some l) :
    (match v with
      | some v => Instr.sliceBound v h code
      | none => pure 0 : Sem Nat).run P W.w = .ok l W.w ∧ l ≤ h := by
  unfold loOf at hf
  split at hf
  · simp at hf; subst hf
    cases v with
    | none => exact ⟨rfl, Nat.zero_le _⟩
    | some v => simp [BRep] at hb
  · cases v with
    | none => simp [BRep] at hb
    | some v =>
      obtain ⟨r, i, hv⟩ := hb
      obtain rfl := hv.int
      split at hf
      · simp at hf; subst hf
        rename_i hle
        refine ⟨?_, by omega⟩
        simp only [Instr.sliceBound, asIntOf]
        simp only [Sem.run_bind, Sem.run_pure, Result.andThen_ok]
        rw [if_pos (by omega)]
        rfl
      · simp at hf
  · simp at hf
end
end Go.Proofs.YtlbjfjaleefiiaaDoor.Ev
end
section
namespace Go.Proofs.YtlbjfjaleefiiaaDoor.Ev
open Go
section
variable {W : Wd} {P : Program}
theorem sizedB_head {n : Nat} {l : List PV} (h : sizedB n l = true) : ∀ p, l[0]? = some p → p.leaves.length = n := fun p hp => by
  have := List.all_eq_true.1 h p (List.mem_of_getElem? hp)
  simpa using this
theorem run_slice_bounds {is : Bool} {n cap : Nat} {lo hi : Option FV} {vl vh : Option Value} {h l : Nat} (bl : BRep W lo vl) (bh : BRep W hi vh) (hh : hiOf hi n = some h) (hl : loOf lo h = some l) (hc : n ≤ cap) :
    (Instr.sliceBounds is n cap vl vh none).run P W.w = .ok (l, h, cap) W.w ∧ l ≤ h ∧ h ≤ n := by
  obtain ⟨h1, h2⟩ := hi_sound (P := P) (is := is) bh hh hc
  obtain ⟨h3, h4⟩ := lo_sound (P := P) (code := .sliceB) bl hl
  refine ⟨?_, h4, h2⟩
  unfold Instr.sliceBounds
  cases vh <;> cases vl <;> simp_all
theorem sliceOf_sound {t : TypeId} {x r : FV} {lo hi : Option FV} {v : Value} {vl vh : Option Value} {rf : Option Root} {i : Nat} (hx : FRep W rf i x v) (bl : BRep W lo vl) (bh : BRep W hi vh) (h : sliceOf P t x lo hi = some r) :
    ∃ z, (Instr.sliceAt t v vl vh none).run P W.w = .ok z W.w ∧ FRep W none 0 r z := by
  unfold sliceOf at h
  split at h
  · rename_i hu
    split at h
    · rename_i s
      obtain rfl := hx.str
      split at h
      · rename_i k hk
        split at h
        · rename_i m hm
          simp at h; subst h
          obtain ⟨hb, _, _⟩ := run_slice_bounds (P := P) (is := false) bl bh hk hm (Nat.le_refl _)
          refine ⟨.string (s.extract m k), ?_, .mkStr⟩
          unfold Instr.sliceAt Instr.slice
          simp only [Sem.run_bind, run_underlying' hu, Result.andThen_ok]
          simp [hb]
        · simp at h
      · simp at h
    · simp at h
  · rename_i el hu
    split at h
    · rename_i b off len
      split at h
      · rename_i n k hn hk
        split at h
        · rename_i m hm
          cases hx with
          | @bs _ _ _ _ _ cap hbo hcap =>
            obtain ⟨hb, h1, h2⟩ := run_slice_bounds (P := P) (is := true) bl bh hk hm hcap
            have run : ∃ z, (Instr.sliceAt t (.slice (some ⟨W.β b, off, none⟩) len cap) vl vh none).run P W.w = .ok z W.w ∧ z = .slice (if cap = m then some ⟨W.β b, off, none⟩ else (some (⟨W.β b, off, none⟩ : Addr)).map (·.add (m * n))) (k - m) (cap - m) := by
              refine ⟨_, ?_, rfl⟩
              unfold Instr.sliceAt Instr.slice
              simp only [Sem.run_bind, run_underlying' hu, Result.andThen_ok, hb, run_sizeOf' hn]
              rfl
            obtain ⟨z, hz, rfl⟩ := run
            refine ⟨_, hz, ?_⟩
            split at h
            · rename_i hm0
              simp at h; subst h; subst hm0
              have : (if cap = 0 then some (⟨W.β b, off, none⟩ : Addr) else (some (⟨W.β b, off, none⟩ : Addr)).map (·.add (0 * n))) = some ⟨W.β b, off, none⟩ := by
                split <;> simp [Addr.add]
              rw [this, Nat.sub_zero, Nat.sub_zero]
              exact .bs hbo (by omega)
            · rename_i hm0
              split at h
              · rename_i hmk
                simp at h; subst h
                rw [if_neg (by omega)]
                simp only [Option.map_some]
                rw [Addr.add_none rfl]
                exact .bs hbo (by omega)
              · rename_i hmk
                simp at h; subst h
                rw [show k - m = 0 by omega]
                exact .sc rfl .nil
        · simp at h
      · simp at h
    · rename_i b g zz len
      split at h
      · rename_i n k hn hk
        split at h
        · rename_i m hm
          cases hx with
          | @gr _ _ _ _ _ _ cap A hg hcap hal =>
            obtain ⟨hb, h1, h2⟩ := run_slice_bounds (P := P) (is := true) bl bh hk hm hcap
            split at h
            · rename_i hm0
              simp at h; subst h; subst hm0
              have run : ∃ z, (Instr.sliceAt t (.slice (some A) len cap) vl vh none).run P W.w = .ok z W.w ∧ z = .slice (if cap = 0 then some A else (some A).map (·.add (0 * n))) (k - 0) (cap - 0) := by
                refine ⟨_, ?_, rfl⟩
                unfold Instr.sliceAt Instr.slice
                simp only [Sem.run_bind, run_underlying' hu, Result.andThen_ok, hb, run_sizeOf' hn]
                rfl
              obtain ⟨z, hz, rfl⟩ := run
              refine ⟨_, hz, ?_⟩
              have hA : (if cap = 0 then some A else (some A).map (·.add (0 * n))) = some A := by
                split
                · rfl
                · simp only [Option.map_some, Nat.zero_mul]
                  congr 1
              rw [hA, Nat.sub_zero, Nat.sub_zero]
              exact .gr hg (by omega) hal
            · simp at h
        · simp at h
      · simp at h
    · split at h
      · rename_i n k hn hk
        split at h
        · rename_i m hm
          cases hx with
          | @emp _ _ A =>
            obtain ⟨hb, h1, h2⟩ := run_slice_bounds (P := P) (is := true) bl bh hk hm (Nat.le_refl 0)
            simp at h; subst h
            obtain rfl : k = 0 := by omega
            obtain rfl : m = 0 := by omega
            have run : ∃ z, (Instr.sliceAt t (.slice A 0 0) vl vh none).run P W.w = .ok z W.w ∧ z = .slice (if 0 = 0 then A else A.map (·.add (0 * n))) (0 - 0) (0 - 0) := by
              refine ⟨_, ?_, rfl⟩
              unfold Instr.sliceAt Instr.slice
              simp only [Sem.run_bind, run_underlying' hu, Result.andThen_ok, hb, run_sizeOf' hn]
              rfl
            obtain ⟨z, hz, rfl⟩ := run
            exact ⟨_, hz, .emp⟩
        · simp at h
      · simp at h
    · split at h
      · rename_i l n hl hn
        split at h
        · rename_i hz
          split at h
          · rename_i k hk
            split at h
            · rename_i m hm
              simp at h; subst h
              obtain ⟨A, len, cap, rfl, hr⟩ := hx.list hl
              obtain rfl := hr.length
              obtain ⟨hb, h1, h2⟩ := run_slice_bounds (P := P) (is := true) bl bh hk hm hr.head
              refine ⟨_, ?_, .sc rfl (hr.cut h1 h2 (sizedB_head hz))⟩
              unfold Instr.sliceAt Instr.slice
              simp only [Sem.run_bind, run_underlying' hu, Result.andThen_ok, hb, run_sizeOf' hn]
              rfl
            · simp at h
          · simp at h
        · simp at h
      · simp at h
  · simp at h
theorem ofValues_rep : ∀ {vs : List Value} {fs : List FV}, FV.ofValues vs = some fs → fs.length = vs.length ∧ ∀ (i : Nat) (f : FV) (v : Value), fs[i]? = some f → vs[i]? = some v → f.isLeaf = true ∧ FRep W none 0 f v
  | [], fs, h => by simp [FV.ofValues] at h; subst h; simp
  | v :: vs, fs, h => by
    unfold FV.ofValues at h
    split at h
    · rename_i f r hf hr
      simp at h; subst h
      obtain ⟨h1, h2⟩ := ofValues_rep hr
      refine ⟨by simp [h1], fun i g u hg hu => ?_⟩
      cases i with
      | zero =>
        simp at hg hu; subst hg hu
        refine ⟨?_, ofValue_rep hf⟩
        unfold FV.ofValue at hf
        split at hf <;> simp at hf <;> subst hf <;> rfl
      | succ i => exact h2 i g u (by simpa using hg) (by simpa using hu)
    · simp at h
theorem FRep.cells {r : Option Root} {i : Nat} {f : FV} {v : Value} {l : List FV} (h : FRep W r i f v) (hl : f.cells = some l) :
    v.cells.size = l.length ∧ ∀ (j : Nat) (g : FV) (u : Value), l[j]? = some g → v.cells[j]? = some u → (∃ r i, FRep W r i g u) ∧ (r = none → FRep W none 0 g u) := by
  cases h with
  | agg h1 h2 => simp [FV.cells] at hl; subst hl; exact ⟨h1, fun j g u hg hu => ⟨⟨_, _, h2 j g u hg hu⟩, fun _ => h2 j g u hg hu⟩⟩
  | undef => simp [FV.cells] at hl
  | tup => simp [FV.cells] at hl
  | @sc _ _ p v hp hr =>
    simp [FV.cells] at hl; subst hl
    rw [(hr.leafValue hp).2]
    refine ⟨rfl, fun j g u hg hu => ?_⟩
    cases j <;> simp at hg hu
    subst hg hu
    exact ⟨⟨none, 0, .sc hp hr⟩, fun _ => .sc hp hr⟩
  | own a b =>
    simp [FV.cells] at hl; subst hl
    refine ⟨rfl, fun j g u hg hu => ?_⟩
    cases j <;> simp [Value.cells] at hg hu
    subst hg hu
    exact ⟨⟨_, _, .own a b⟩, fun hr => FRep.weaken hr (.own a b)⟩
  | emp =>
    simp [FV.cells] at hl; subst hl
    refine ⟨rfl, fun j g u hg hu => ?_⟩
    cases j <;> simp [Value.cells] at hg hu
    subst hg hu
    have : FRep W none 0 (.own []) (.slice ‹_› 0 0) := .own .nil (.inl rfl)
    exact ⟨⟨_, _, this⟩, fun _ => this⟩
  | ptr a =>
    simp [FV.cells] at hl; subst hl
    refine ⟨rfl, fun j g u hg hu => ?_⟩
    cases j <;> simp [Value.cells] at hg hu
    subst hg hu
    exact ⟨⟨none, 0, .ptr a⟩, fun _ => .ptr a⟩
  | bs a n =>
    simp [FV.cells] at hl; subst hl
    refine ⟨rfl, fun j g u hg hu => ?_⟩
    cases j <;> simp [Value.cells] at hg hu
    subst hg hu
    exact ⟨⟨none, 0, .bs a n⟩, fun _ => .bs a n⟩
  | oagg => simp [FV.cells] at hl
  | gr a n c =>
    simp [FV.cells] at hl; subst hl
    refine ⟨rfl, fun j g u hg hu => ?_⟩
    cases j <;> simp [Value.cells] at hg hu
    subst hg hu
    exact ⟨⟨none, 0, .gr a n c⟩, fun _ => .gr a n c⟩
  | gp a c =>
    simp [FV.cells] at hl; subst hl
    refine ⟨rfl, fun j g u hg hu => ?_⟩
    cases j <;> simp [Value.cells] at hg hu
    subst hg hu
    exact ⟨⟨none, 0, .gp a c⟩, fun _ => .gp a c⟩
  | nilp =>
    simp [FV.cells] at hl; subst hl
    refine ⟨rfl, fun j g u hg hu => ?_⟩
    cases j <;> simp [Value.cells] at hg hu
    subst hg hu
    exact ⟨⟨none, 0, .nilp⟩, fun _ => .nilp⟩
  | ea c a b d e g' =>
    simp [FV.cells] at hl; subst hl
    refine ⟨rfl, fun j g u hg hu => ?_⟩
    cases j <;> simp [Value.cells] at hg hu
    subst hg hu
    exact ⟨⟨none, 0, .ea c a b d e g'⟩, fun _ => .ea c a b d e g'⟩
  | fn a b c d =>
    simp [FV.cells] at hl; subst hl
    refine ⟨rfl, fun j g u hg hu => ?_⟩
    cases j <;> simp [Value.cells] at hg hu
    subst hg hu
    exact ⟨⟨none, 0, .fn a b c d⟩, fun _ => .fn a b c d⟩
  | ext a b =>
    simp [FV.cells] at hl; subst hl
    refine ⟨rfl, fun j g u hg hu => ?_⟩
    cases j <;> simp [Value.cells] at hg hu
    subst hg hu
    exact ⟨⟨_, _, .ext a b⟩, fun hr => FRep.weaken hr (.ext a b)⟩
  | exr =>
    simp [FV.cells] at hl; subst hl
    refine ⟨rfl, fun j g u hg hu => ?_⟩
    cases j <;> simp [Value.cells] at hg hu
    subst hg hu
    exact ⟨⟨none, 0, .exr⟩, fun _ => .exr⟩
  | exq =>
    simp [FV.cells] at hl; subst hl
    refine ⟨rfl, fun j g u hg hu => ?_⟩
    cases j <;> simp [Value.cells] at hg hu
    subst hg hu
    exact ⟨⟨none, 0, .exq⟩, fun _ => .exq⟩
theorem foldl_fill (off : Nat) : ∀ (vs : List Value) (k : Nat) (cs : Array Value), off + k + vs.length ≤ cs.size →
    ((vs.zipIdx k).foldl (fun cs (x : Value × Nat) => cs.setIfInBounds (off + x.2) x.1) cs).toList = cs.toList.take (off + k) ++ vs ++ cs.toList.drop (off + k + vs.length)
  | [], k, cs, h => by simp
  | v :: vs, k, cs, h => by
    simp only [List.length_cons] at h
    simp only [List.zipIdx_cons, List.foldl_cons]
    rw [foldl_fill off vs (k + 1) _ (by simp; omega)]
    have hlt : off + k < cs.toList.length := by simp; omega
    simp only [Array.toList_setIfInBounds, List.length_cons]
    rw [show off + (k + 1) = off + k + 1 by omega]
    generalize cs.toList = L at hlt ⊢
    generalize off + k = m at hlt ⊢
    rw [List.set_eq_take_append_cons_drop, if_pos hlt]
    have e1 : (L.take m).length = m := by simp; omega
    have e2 : List.take (m + 1) (List.take m L ++ v :: List.drop (m + 1) L) = List.take m L ++ [v] := by
      rw [List.take_append, e1, List.take_of_length_le (by omega), show m + 1 - m = 1 by omega]; rfl
    have e3 : List.drop (m + 1 + vs.length) (List.take m L ++ v :: List.drop (m + 1) L) = List.drop (m + (vs.length + 1)) L := by
      rw [List.drop_append, e1, List.drop_of_length_le (by omega), show m + 1 + vs.length - m = vs.length + 1 by omega]
      simp [List.drop_drop]
      congr 1; omega
    rw [e2, e3]
    simp
theorem fillOf_sound {place : Nat → Option (Nat × Nat)} : ∀ {ps : List (Nat × FV)} {vs : List (Nat × Value)} {l r : List FV} {cs : Array Value}, cs.size = l.length →
    (∀ (i : Nat) (f : FV) (v : Value), l[i]? = some f → cs[i]? = some v → FRep W none 0 f v) → vs.length = ps.length →
    (∀ (j : Nat) (p : Nat × FV) (v : Nat × Value), ps[j]? = some p → vs[j]? = some v → p.1 = v.1 ∧ FRep W none 0 p.2 v.2) → fillOf place l ps = some r →
    ∃ ds, Instr.fill place cs vs = some ds ∧ ds.size = r.length ∧ ∀ (i : Nat) (f : FV) (v : Value), r[i]? = some f → ds[i]? = some v → FRep W none 0 f v
  | [], vs, l, r, cs, hs, hc, hv, _, h => by
    obtain rfl : vs = [] := by simpa using hv
    simp [fillOf] at h; subst h
    exact ⟨cs, rfl, hs, hc⟩
  | (i, f) :: ps, [], l, r, cs, hs, hc, hv, hp, h => by simp at hv
  | (i, f) :: ps, (k, v) :: vs, l, r, cs, hs, hc, hv, hp, h => by
    obtain ⟨rfl, hf⟩ := hp 0 _ _ rfl rfl
    unfold fillOf at h
    split at h
    · rename_i off n m hpl hm
      split at h
      · rename_i hle
        obtain ⟨h1, h2⟩ := hf.cells hm
        unfold Instr.fill
        simp only at hf h1 h2 hpl ⊢
        simp only [hpl]
        rw [if_neg (by simp; omega)]
        have hfl : (v.cells.zipIdx.foldl (fun cs (x : Value × Nat) => cs.setIfInBounds (off + x.2) x.1) cs).toList = cs.toList.take off ++ v.cells.toList ++ cs.toList.drop (off + v.cells.size) := by
          have := foldl_fill off v.cells.toList 0 cs (by simp; omega)
          rw [← Array.foldl_toList, Array.toList_zipIdx]
          simpa using this
        have hsz := congrArg List.length hfl
        simp at hsz
        refine fillOf_sound (by simp; omega) (fun j g u hg hu => ?_) (by simpa using hv) (fun j p u hp' hu => hp (j + 1) p u (by simpa using hp') (by simpa using hu)) h
        rw [← Array.getElem?_toList, hfl] at hu
        have hl1 : (cs.toList.take off).length = off := by simp; omega
        have hl2 : (l.take off).length = off := by simp; omega
        rcases Nat.lt_or_ge j off with hj | hj
        · rw [List.append_assoc, List.getElem?_append_left (by omega), List.getElem?_take_of_lt hj] at hu hg
          exact hc j g u hg (by simpa using hu)
        · rcases Nat.lt_or_ge j (off + n) with hj' | hj'
          · rw [List.getElem?_append_left (by simp; omega), List.getElem?_append_right (by omega)] at hu hg
            rw [hl1] at hu; rw [hl2] at hg
            exact (h2 (j - off) g u hg (by simpa using hu)).2 trivial
          · rw [List.getElem?_append_right (by simp; omega), List.getElem?_drop] at hu hg
            refine hc j g u ?_ ?_
            · rw [← hg]; congr 1; simp; omega
            · rw [← hu]; simp; congr 1; omega
      · simp at h
    · simp at h
end
end Go.Proofs.YtlbjfjaleefiiaaDoor.Ev
end
section
namespace Go.Proofs.YtlbjfjaleefiiaaDoor.Ev
open Go
section
variable {C : Ctx} {nt : Nat} {e : Env} {H : Heap} {a : Act} {W : Wd}
theorem rdo_sound (hi : Inv C nt e H a W) {x : Option Operand} {f : Option FV} (h : rdo C e x = some f) : BRep W f (x.map a.eval) := by
  cases x with
  | none => simp [rdo] at h; subst h; trivial
  | some x =>
    simp only [rdo, Option.map_eq_some_iff] at h
    obtain ⟨g, hg, rfl⟩ := h
    exact rd_sound hi hg
theorem rdAll_sound (hi : Inv C nt e H a W) : ∀ {xs : List Operand} {fs : List FV}, rdAll C e xs = some fs →
    fs.length = xs.length ∧ ∀ (j : Nat) (f : FV) (x : Operand), fs[j]? = some f → xs[j]? = some x → FRep W none 0 f (a.eval x)
  | [], fs, h => by simp [rdAll] at h; subst h; simp
  | x :: xs, fs, h => by
    unfold rdAll at h
    split at h
    · rename_i f r hf hr
      simp at h; subst h
      obtain ⟨h1, h2⟩ := rdAll_sound hi hr
      refine ⟨by simp [h1], fun j g y hg hy => ?_⟩
      cases j with
      | zero =>
        simp at hg hy; subst hg hy
        split
        · rename_i hn
          unfold nilArg at hn
          split at hn
          · exact .emp
          · simp at hn
        · exact demote_rd hi hf
      | succ j => exact h2 j g y (by simpa using hg) (by simpa using hy)
    · simp at h
theorem rdParts_sound (hi : Inv C nt e H a W) : ∀ {xs : List (Nat × Operand)} {fs : List (Nat × FV)}, rdParts C e xs = some fs →
    fs.length = xs.length ∧ ∀ (j : Nat) (f : Nat × FV) (x : Nat × Operand), fs[j]? = some f → xs[j]? = some x → f.1 = x.1 ∧ FRep W none 0 f.2 (a.eval x.2)
  | [], fs, h => by simp [rdParts] at h; subst h; simp
  | (i, x) :: xs, fs, h => by
    unfold rdParts at h
    split at h
    · rename_i f r hf hr
      simp at h; subst h
      obtain ⟨h1, h2⟩ := rdParts_sound hi hr
      refine ⟨by simp [h1], fun j g y hg hy => ?_⟩
      cases j with
      | zero => simp at hg hy; subst hg hy; exact ⟨rfl, demote_rd hi hf⟩
      | succ j => exact h2 j g y (by simpa using hg) (by simpa using hy)
    · simp at h
theorem run_fieldPlaces {P : Program} {w : World} : ∀ {fs : List Field} {pl : List (Nat × Nat)}, fieldPlaces P fs = some pl →
    (fs.mapM (fun f => do pure (f.offset, ← sizeOf f.type) : Field → Sem (Nat × Nat))).run P w = .ok pl w
  | [], pl, h => by simp [fieldPlaces] at h; subst h; rfl
  | f :: fs, pl, h => by
    unfold fieldPlaces at h
    split at h
    · rename_i n r hn hr
      simp at h; subst h
      have := run_fieldPlaces (w := w) hr
      simp only [List.mapM_cons, Sem.run_bind, run_sizeOf' hn, Result.andThen_ok, Sem.run_pure, this]
    · simp at h
theorem buildOf_sound (hi : Inv C nt e H a W) {t : TypeId} {parts : Array (Nat × Operand)} {r : FV} (h : buildOf C e t parts.toList = some r) :
    ∃ z, (Instr.build t (parts.map fun (i, x) => (i, a.eval x))).run C.P W.w = .ok z W.w ∧ FRep W none 0 r z := by
  unfold buildOf at h
  split at h
  · rename_i z fs ps hz hu hp
    split at h
    · rename_i zs pl hzs hpl
      obtain ⟨l, hl, rfl⟩ := Option.map_eq_some_iff.1 h
      obtain ⟨h1, h2⟩ := ofValues_rep (W := W) hzs
      obtain ⟨h3, h4⟩ := rdParts_sound hi hp
      have hpl' : (fs.mapM (fun f => do pure (f.offset, ← sizeOf f.type) : Field → Sem (Nat × Nat))).run C.P W.w = .ok pl.toArray W.w := by
        have := run_fieldPlaces (w := W.w) hpl
        rw [Array.mapM_eq_mapM_toList, Sem.run_map, this]
        rfl
      obtain ⟨ds, hd, hs, hr⟩ := fillOf_sound (W := W) (place := fun i => pl[i]?) (ps := ps) (vs := (parts.map fun (i, x) => (i, a.eval x)).toList) (l := zs) (r := l) (cs := z)
        (by simpa using h1.symm) (fun i f v hf hv => (h2 i f v hf (by simpa using hv)).2) (by simpa using h3.symm) (fun j p v hp' hv => by
          simp only [Array.toList_map, List.getElem?_map, Option.map_eq_some_iff] at hv
          obtain ⟨⟨k, y⟩, hy, rfl⟩ := hv
          exact h4 j p _ hp' hy) hl
      refine ⟨.agg ds, ?_, .agg hs hr⟩
      unfold Instr.build
      simp only [Sem.run_bind, run_zeroValue' hz, run_underlying' hu, Result.andThen_ok, hpl', Value.cells]
      have : (fun i : Nat => pl.toArray[i]?) = fun i : Nat => pl[i]? := by funext i; simp
      simp only [this, hd, Sem.run_pure]
    · simp at h
  · rename_i z m el ps hz hu hp
    split at h
    · rename_i zs n hzs hn
      obtain ⟨l, hl, rfl⟩ := Option.map_eq_some_iff.1 h
      obtain ⟨h1, h2⟩ := ofValues_rep (W := W) hzs
      obtain ⟨h3, h4⟩ := rdParts_sound hi hp
      obtain ⟨ds, hd, hs, hr⟩ := fillOf_sound (W := W) (place := fun i => some (i * n, n)) (ps := ps) (vs := (parts.map fun (i, x) => (i, a.eval x)).toList) (l := zs) (r := l) (cs := z)
        (by simpa using h1.symm) (fun i f v hf hv => (h2 i f v hf (by simpa using hv)).2) (by simpa using h3.symm) (fun j p v hp' hv => by
          simp only [Array.toList_map, List.getElem?_map, Option.map_eq_some_iff] at hv
          obtain ⟨⟨k, y⟩, hy, rfl⟩ := hv
          exact h4 j p _ hp' hy) hl
      refine ⟨.agg ds, ?_, .agg hs hr⟩
      unfold Instr.build
      simp only [Sem.run_bind, run_zeroValue' hz, run_underlying' hu, Result.andThen_ok, run_sizeOf' hn, Value.cells, hd, Sem.run_pure]
    · simp at h
  · simp at h
theorem minFrom_sound {P : Program} {k : IntKind} : ∀ {l : List FV} {n : Int} {r : FV} {vs : List Value}, vs.length = l.length → (∀ (j : Nat) (f : FV) (v : Value), l[j]? = some f → vs[j]? = some v → FRep W none 0 f v) → minFrom k n l = some r →
    ∃ z, (vs.foldlM Builtin.min2 (.int k n)).run P W.w = .ok z W.w ∧ FRep W none 0 r z
  | [], n, r, vs, hv, _, h => by
    obtain rfl : vs = [] := by simpa using hv
    simp [minFrom] at h; subst h
    exact ⟨.int k n, rfl, .mkInt⟩
  | f :: l, n, r, [], hv, hf, h => by simp at hv
  | f :: l, n, r, v :: vs, hv, hf, h => by
    unfold minFrom at h
    split at h
    · simp at *
    · rename_i k' b l' heq
      simp only [List.cons.injEq] at heq
      obtain ⟨rfl, rfl⟩ := heq
      obtain rfl := (hf 0 _ _ rfl rfl).int
      obtain ⟨z, hz, hr⟩ := minFrom_sound (P := P) (vs := vs) (by simpa using hv) (fun j f v h1 h2 => hf (j + 1) f v (by simpa using h1) (by simpa using h2)) h
      exact ⟨z, by simpa [List.foldlM, Builtin.min2] using hz, hr⟩
    · simp at h
theorem maxFrom_sound {P : Program} {k : IntKind} : ∀ {l : List FV} {n : Int} {r : FV} {vs : List Value}, vs.length = l.length → (∀ (j : Nat) (f : FV) (v : Value), l[j]? = some f → vs[j]? = some v → FRep W none 0 f v) → maxFrom k n l = some r →
    ∃ z, (vs.foldlM Builtin.max2 (.int k n)).run P W.w = .ok z W.w ∧ FRep W none 0 r z
  | [], n, r, vs, hv, _, h => by
    obtain rfl : vs = [] := by simpa using hv
    simp [maxFrom] at h; subst h
    exact ⟨.int k n, rfl, .mkInt⟩
  | f :: l, n, r, [], hv, hf, h => by simp at hv
  | f :: l, n, r, v :: vs, hv, hf, h => by
    unfold maxFrom at h
    split at h
    · simp at *
    · rename_i k' b l' heq
      simp only [List.cons.injEq] at heq
      obtain ⟨rfl, rfl⟩ := heq
      obtain rfl := (hf 0 _ _ rfl rfl).int
      obtain ⟨z, hz, hr⟩ := maxFrom_sound (P := P) (vs := vs) (by simpa using hv) (fun j f v h1 h2 => hf (j + 1) f v (by simpa using h1) (by simpa using h2)) h
      exact ⟨z, by simpa [List.foldlM, Builtin.max2] using hz, hr⟩
    · simp at h
def Yld (C : Ctx) (a : Act) (W : Wd) (o : Oper) (r : FV) : Prop := ∃ v, (execOp a.eval o).run C.P W.w = .ok (.value v) W.w ∧ FRep W none 0 r v
theorem Yld.of {o : Oper} {r : FV} {s : Sem Value} (he : execOp a.eval o = (do pure (.value (← s)))) (h : ∃ z, s.run C.P W.w = .ok z W.w ∧ FRep W none 0 r z) : Yld C a W o r := by
  obtain ⟨z, hz, hr⟩ := h
  exact ⟨z, by rw [he]; simp [hz], hr⟩
theorem box_get {r : Option Root} {i b off : Nat} {v : Value} (h : FRep W r i (.ptr b off) v) : v = .pointer (some ⟨W.β b, off, none⟩) := by
  cases h; rfl
theorem loadBox_sound (hi : HInv C H W) {b off : Nat} {t : TypeId} {f : FV} (hb : W.o (W.β b) = some (.box b, 0)) (h : partOf C.P t ((H.getD b []).map demote1) off = some f) :
    ∃ v, (loadVar t ⟨W.β b, off, none⟩).run C.P W.w = .ok v W.w ∧ FRep W none 0 f v := by
  have hlt := hi.boxes _ _ _ hb
  obtain ⟨_, _, _, c, T, fz, hc, hs, _, hr⟩ := hi.box0 (List.getElem?_eq_getElem hlt) hb
  have hg : H.getD b [] = H[b] := by simp [List.getD, hlt]
  rw [hg] at h
  refine loadVar_of (g := fun i => c[i + off]?.getD default) rfl (fun i f hf => ?_) (fun i f hf => ?_) h
  · simp only [List.getElem?_map, Option.map_eq_some_iff] at hf
    obtain ⟨g, hg, rfl⟩ := hf
    have hlt' : i + off < c.size := by
      refine Nat.lt_of_lt_of_le ?_ hs
      rcases Nat.lt_or_ge (i + off) H[b].length with h' | h'
      · exact h'
      · simp [List.getElem?_eq_none h'] at hg
    rw [cell_of_heap hc, Nat.add_comm off i]
    simp [hlt']
  · simp only [List.getElem?_map, Option.map_eq_some_iff] at hf
    obtain ⟨g, hg, rfl⟩ := hf
    have hlt' : i + off < c.size := by
      refine Nat.lt_of_lt_of_le ?_ hs
      rcases Nat.lt_or_ge (i + off) H[b].length with h' | h'
      · exact h'
      · simp [List.getElem?_eq_none h'] at hg
    have := (hr (i + off) g c[i + off] hg (by simp [hlt'])).2
    simpa [hlt'] using this.demote1 (r' := none) (i' := 0)
theorem loadRow_sound (hi : HInv C H W) {b g off : Nat} {l : List FV} {t : TypeId} {f : FV} (hb : rowOf H b = some (g, l)) (h : partOf C.P t (l.map demote1) off = some f) :
    ∃ v, (loadVar t ⟨W.β b, off, none⟩).run C.P W.w = .ok v W.w ∧ FRep W none 0 f v := by
  obtain ⟨_, _, _, _, _, c, T, fz, hc, hs, _, hr⟩ := hi.row hb
  refine loadVar_of (g := fun i => c[i + off]?.getD default) rfl (fun i f hf => ?_) (fun i f hf => ?_) h
  · simp only [List.getElem?_map, Option.map_eq_some_iff] at hf
    obtain ⟨g, hg, rfl⟩ := hf
    have hlt' : i + off < c.size := by
      refine Nat.lt_of_lt_of_le ?_ hs
      exact (List.getElem?_eq_some_iff.1 hg).1
    rw [cell_of_heap hc, Nat.add_comm off i]
    simp [hlt']
  · simp only [List.getElem?_map, Option.map_eq_some_iff] at hf
    obtain ⟨g, hg, rfl⟩ := hf
    have hlt' : i + off < c.size := by
      refine Nat.lt_of_lt_of_le ?_ hs
      exact (List.getElem?_eq_some_iff.1 hg).1
    have := (hr (i + off) g c[i + off] hg (by simp [hlt'])).2
    simpa [hlt'] using this.demote1 (r' := none) (i' := 0)
theorem gp_get (hi : HInv C H W) {r : Option Root} {i b g g' off : Nat} {l : List FV} {v : Value} (h : FRep W r i (.gp b g off) v) (hb : rowOf H b = some (g', l)) (hg : g' = g) : v = .pointer (some ⟨W.β b, off, none⟩) ∧ W.gen b = g ∧ W.o (W.β b) = some (.box b, 1) := by
  subst hg
  obtain ⟨_, _, q, q', _⟩ := hi.row hb
  cases h with
  | gp a c => exact ⟨by rw [(c q).1], q, q'⟩
theorem loadEa_sound {r : Option Root} {i : Nat} {l : List PV} {A : Addr} {t : TypeId} {f : FV} (h : FRep W r i (.ea l) (.pointer (some A))) (hp : partOf C.P t (l.map .sc) 0 = some f) :
    ∃ v, (loadVar t A).run C.P W.w = .ok v W.w ∧ FRep W none 0 f v := by
  cases h with
  | ea c h1 h2 h3 h4 h5 =>
    refine loadVar_of (g := c) h1 (fun i f hf => ?_) (fun i f hf => ?_) hp
    · simp only [Nat.add_zero, List.getElem?_map, Option.map_eq_some_iff] at hf
      obtain ⟨p, hp, rfl⟩ := hf
      exact h3 i p hp
    · simp only [Nat.add_zero, List.getElem?_map, Option.map_eq_some_iff] at hf
      obtain ⟨p, hp, rfl⟩ := hf
      exact .sc (h4 i p hp) (h5 i p hp)
theorem ea_drop {r : Option Root} {i n : Nat} {l : List PV} {A : Addr} (h : FRep W r i (.ea l) (.pointer (some A))) : FRep W none 0 (.ea (l.drop n)) (.pointer (some (A.add n))) := by
  cases h with
  | ea c h1 h2 h3 h4 h5 =>
    refine .ea (fun j => c (n + j)) (by rw [Addr.add_none h1]) (fun j p hp => ?_) (fun j p hp => ?_) (fun j p hp => ?_) (fun j p hp => ?_) <;> rw [List.getElem?_drop] at hp
    · have := h2 _ p hp; rw [Addr.add_none h1]; simp only; omega
    · have := h3 _ p hp; rw [Addr.add_none h1]; simp only; rw [← this]; congr 2; omega
    · exact h4 _ p hp
    · exact h5 _ p hp
end
end Go.Proofs.YtlbjfjaleefiiaaDoor.Ev
end
section
namespace Go.Proofs.YtlbjfjaleefiiaaDoor.Ev
open Go
section
variable {C : Ctx} {nt : Nat} {e : Env} {H : Heap} {a : Act} {W : Wd}
theorem ea_addr {r : Option Root} {i : Nat} {l : List PV} {v : Value} (h : FRep W r i (.ea l) v) : ∃ A, v = .pointer (some A) := by
  cases h; exact ⟨_, rfl⟩
theorem box_alive {r : Option Root} {i b off : Nat} {v : Value} (h : FRep W r i (.ptr b off) v) : W.o (W.β b) = some (.box b, 0) := by
  cases h; assumption
theorem run_fieldPlace {P : Program} {w : World} {A : Addr} {f : Field} {n : Nat} (h : szOf P f.type = some (n + 1)) : (fieldPlace A f).run P w = .ok (A.add f.offset) w := by
  unfold fieldPlace
  simp [run_sizeOf' h]
theorem fieldOf_spec {P : Program} {s : TypeId} {f : Nat} {fd : Field} (h : fieldOf P s f = some fd) : ∃ fs, P.underlying s = some (.struct fs) ∧ fs[f]? = some fd := by
  unfold fieldOf at h
  split at h
  · exact ⟨_, by assumption, h⟩
  · simp at h
theorem valOp_sound (hi : Inv C nt e H a W) {o : Oper} {r : FV} (h : valOp C e H o.op = some r) : Yld C a W o r := by
  obtain ⟨dst, op, ty, pos, after, guard⟩ := o
  simp only at h
  unfold valOp at h
  split at h
  · -- move
    obtain ⟨f, hf, rfl⟩ := Option.map_eq_some_iff.1 h
    exact ⟨_, rfl, demote_rd hi hf⟩
  · -- pick
    rename_i c x y
    split at h
    · rename_i hc
      obtain ⟨_, _, hr⟩ := rd_sound hi hc
      obtain ⟨f, hf, rfl⟩ := Option.map_eq_some_iff.1 h
      refine ⟨a.eval x, ?_, demote_rd hi hf⟩
      simp [execOp, hr.bool, asBool]
    · rename_i hc
      obtain ⟨_, _, hr⟩ := rd_sound hi hc
      obtain ⟨f, hf, rfl⟩ := Option.map_eq_some_iff.1 h
      refine ⟨a.eval y, ?_, demote_rd hi hf⟩
      simp [execOp, hr.bool, asBool]
    · simp at h
  · -- load
    rename_i t x
    split at h
    · rename_i b off hx
      obtain ⟨r', i', hr⟩ := rd_sound hi hx
      have hv := box_get hr
      have hb : W.o (W.β b) = some (.box b, 0) := box_alive hr
      obtain ⟨v, h1, h2⟩ := loadBox_sound hi.heap hb h
      refine Yld.of (s := Instr.loadAt t (a.eval x)) rfl ⟨v, ?_, h2⟩
      rw [hv]
      simp [Instr.loadAt, Instr.sureAddr, h1]
    · rename_i b g off hx
      split at h
      · rename_i g' l hb
        split at h
        · rename_i hg
          obtain ⟨r', i', hr⟩ := rd_sound hi hx
          obtain ⟨hv, _, _⟩ := gp_get hi.heap hr hb hg
          obtain ⟨v, h1, h2⟩ := loadRow_sound hi.heap hb h
          refine Yld.of (s := Instr.loadAt t (a.eval x)) rfl ⟨v, ?_, h2⟩
          rw [hv]
          simp [Instr.loadAt, Instr.sureAddr, h1]
        · simp at h
      · simp at h
    · rename_i l hx
      obtain ⟨r', i', hr⟩ := rd_sound hi hx
      obtain ⟨A, hA⟩ := ea_addr hr
      rw [hA] at hr
      obtain ⟨v, h1, h2⟩ := loadEa_sound hr h
      refine Yld.of (s := Instr.loadAt t (a.eval x)) rfl ⟨v, ?_, h2⟩
      rw [hA]
      simp [Instr.loadAt, Instr.sureAddr, h1]
    · simp at h
  · -- fieldAddr
    rename_i s x f
    split at h
    · rename_i fd hfd
      obtain ⟨fs, hu, hf⟩ := fieldOf_spec hfd
      split at h
      · rename_i n hn
        split at h
        · rename_i b off hx
          simp at h; subst h
          obtain ⟨r', i', hr⟩ := rd_sound hi hx
          have hv := box_get hr
          have hb : W.o (W.β b) = some (.box b, 0) := box_alive hr
          refine Yld.of (s := Instr.fieldAt s (a.eval x) f) rfl ⟨_, ?_, .ptr hb⟩
          rw [hv]
          simp [Instr.fieldAt, Instr.sureAddr, run_underlying' hu, hf, run_fieldPlace hn, Addr.add_none]
        · rename_i b g off hx
          simp at h; subst h
          obtain ⟨r', i', hr⟩ := rd_sound hi hx
          generalize hv : a.eval x = v at hr
          cases hr with
          | @gp _ _ _ _ _ A hg hal =>
            refine Yld.of (s := Instr.fieldAt s (a.eval x) f) rfl ⟨_, ?_, .gp (A := A.add fd.offset) hg fun hgen => ⟨by rw [(hal hgen).1, Addr.add_none rfl], (hal hgen).2⟩⟩
            rw [hv]
            simp [Instr.fieldAt, Instr.sureAddr, run_underlying' hu, hf, run_fieldPlace hn]
        · rename_i l hx
          simp at h; subst h
          obtain ⟨r', i', hr⟩ := rd_sound hi hx
          obtain ⟨A, hA⟩ := ea_addr hr
          rw [hA] at hr
          refine Yld.of (s := Instr.fieldAt s (a.eval x) f) rfl ⟨_, ?_, ea_drop hr⟩
          rw [hA]
          simp [Instr.fieldAt, Instr.sureAddr, run_underlying' hu, hf, run_fieldPlace hn]
        · simp at h
      · simp at h
    · simp at h
  · -- field
    rename_i s x f
    split at h
    · rename_i fd l hfd hx
      obtain ⟨fs, hu, hf⟩ := fieldOf_spec hfd
      obtain ⟨r', i', hr⟩ := rd_sound hi hx
      generalize hv : a.eval x = v at hr
      cases hr with
      | agg h1 h2 =>
        obtain ⟨z, h3, h4⟩ := part_of h1 h2 h
        refine Yld.of (s := Instr.field s (a.eval x) f) rfl ⟨z, ?_, h4⟩
        rw [hv]
        simp [Instr.field, run_underlying' hu, hf, asAgg, h3]
    · simp at h
  · -- indexAddr
    rename_i t x ix
    split at h
    · rename_i el b off n k i hu hx hix
      obtain ⟨r', i', hr⟩ := rd_sound hi hx
      obtain ⟨_, _, hri⟩ := rd_sound hi hix
      have hiv := hri.int
      split at h
      · rename_i _ m hn
        split at h
        · rename_i h0
          simp at h; subst h
          generalize hv : a.eval x = v at hr
          cases hr with
          | @bs _ _ _ _ _ cap hbo hcap =>
            refine Yld.of (s := Instr.indexAt t (a.eval x) (a.eval ix)) rfl ⟨.pointer (some ⟨W.β b, off + i.toNat * (m + 1), none⟩), ?_, .ptr hbo⟩
            rw [hv, hiv]
            simp only [Instr.indexAt, asIntOf, Sem.run_bind, Sem.run_pure, Result.andThen_ok, run_underlying' hu]
            rw [if_pos (by omega)]
            simp only [Sem.run_bind, run_sizeOf' hn, Result.andThen_ok, Sem.run_pure]
            rw [Addr.add_none rfl]
        · simp at h
      · simp at h
    · rename_i el b g zz n k i hu hx hix
      obtain ⟨r', i', hr⟩ := rd_sound hi hx
      obtain ⟨_, _, hri⟩ := rd_sound hi hix
      have hiv := hri.int
      split at h
      · rename_i _ m hn
        split at h
        · rename_i h0
          obtain ⟨hz, h0, h1⟩ := h0
          simp at h; subst h
          generalize hv : a.eval x = v at hr
          cases hr with
          | @gr _ _ _ _ _ _ cap A hg hcap hal =>
            refine Yld.of (s := Instr.indexAt t (a.eval x) (a.eval ix)) rfl ⟨.pointer (some (A.add (i.toNat * (m + 1)))), ?_, .gp hg fun hgen => ⟨by rw [(hal hgen).1, Addr.add_none rfl, Nat.zero_add], (hal hgen).2.1⟩⟩
            rw [hv, hiv]
            simp only [Instr.indexAt, asIntOf, Sem.run_bind, Sem.run_pure, Result.andThen_ok, run_underlying' hu]
            rw [if_pos (by omega)]
            simp only [Sem.run_bind, run_sizeOf' hn, Result.andThen_ok, Sem.run_pure]
        · simp at h
      · simp at h
    · rename_i el k o n _ kk i hu hx hix
      obtain ⟨r', i', hr⟩ := rd_sound hi hx
      obtain ⟨_, _, hri⟩ := rd_sound hi hix
      have hiv := hri.int
      split at h
      · rename_i m s hn
        split at h
        · rename_i h0
          simp at h; subst h
          generalize hv : a.eval (.tmp s) = v at hr
          cases hr with
          | @exr _ _ _ _ _ _ cap =>
            refine Yld.of (s := Instr.indexAt t (a.eval (.tmp s)) (a.eval ix)) rfl ⟨.pointer (some ⟨k, o + i.toNat * (m + 1), none⟩), ?_, .exq⟩
            rw [hv, hiv]
            simp only [Instr.indexAt, asIntOf, Sem.run_bind, Sem.run_pure, Result.andThen_ok, run_underlying' hu]
            rw [if_pos (by omega)]
            simp only [Sem.run_bind, run_sizeOf' hn, Result.andThen_ok, Sem.run_pure]
            rw [Addr.add_none rfl]
        · simp at h
      · simp at h
    · rename_i el k o _ l kk i hu hx hix
      obtain ⟨r', i', hr⟩ := rd_sound hi hx
      obtain ⟨_, _, hri⟩ := rd_sound hi hix
      have hiv := hri.int
      split at h
      · rename_i m s hn
        split at h
        · rename_i h0
          simp at h; subst h
          generalize hv : a.eval (.tmp s) = v at hr
          cases hr with
          | @ext _ _ _ _ _ cap =>
            refine Yld.of (s := Instr.indexAt t (a.eval (.tmp s)) (a.eval ix)) rfl ⟨.pointer (some ⟨k, o + i.toNat * (m + 1), none⟩), ?_, .exq⟩
            rw [hv, hiv]
            simp only [Instr.indexAt, asIntOf, Sem.run_bind, Sem.run_pure, Result.andThen_ok, run_underlying' hu]
            rw [if_pos (by omega)]
            simp only [Sem.run_bind, run_sizeOf' hn, Result.andThen_ok, Sem.run_pure]
            rw [Addr.add_none rfl]
        · simp at h
      · simp at h
    · rename_i el f k i _ _ _ _ hu hx hix
      obtain ⟨r', i', hr⟩ := rd_sound hi hx
      obtain ⟨_, _, hri⟩ := rd_sound hi hix
      have hiv := hri.int
      split at h
      · rename_i l n hl hn
        split at h
        · rename_i h0
          split at h
          · rename_i p hp
            split at h
            · rename_i hz
              simp at h; subst h
              obtain ⟨A, len, cap, hv, hrep⟩ := hr.list hl
              rw [hv] at hrep
              obtain ⟨B, rfl, hlt, hea⟩ := hrep.elem hp hz
              refine Yld.of (s := Instr.indexAt t (a.eval x) (a.eval ix)) rfl ⟨_, ?_, hea⟩
              rw [hv, hiv]
              simp only [Instr.indexAt, asIntOf, Sem.run_bind, Sem.run_pure, Result.andThen_ok, run_underlying' hu]
              rw [if_pos (by omega)]
              simp only [Sem.run_bind, run_sizeOf' hn, Result.andThen_ok, Sem.run_pure]
            · simp at h
          · simp at h
        · simp at h
      · simp at h
    · rename_i m el l k i hu hx hix
      obtain ⟨r', i', hr⟩ := rd_sound hi hx
      obtain ⟨_, _, hri⟩ := rd_sound hi hix
      have hiv := hri.int
      split at h
      · rename_i n hn
        split at h
        · rename_i h0
          simp at h; subst h
          obtain ⟨A, hA⟩ := ea_addr hr
          rw [hA] at hr
          refine Yld.of (s := Instr.indexAt t (a.eval x) (a.eval ix)) rfl ⟨_, ?_, ea_drop hr⟩
          rw [hA, hiv]
          simp only [Instr.indexAt, asIntOf, Instr.sureAddr, Sem.run_bind, Sem.run_pure, Result.andThen_ok, run_underlying' hu]
          rw [if_pos (by omega)]
          simp only [Sem.run_bind, run_sizeOf' hn, Result.andThen_ok, Sem.run_pure]
        · simp at h
      · simp at h
    · rename_i m el b off k i hu hx hix
      obtain ⟨r', i', hr⟩ := rd_sound hi hx
      obtain ⟨_, _, hri⟩ := rd_sound hi hix
      have hiv := hri.int
      split at h
      · rename_i n hn
        split at h
        · rename_i h0
          simp at h; subst h
          generalize hv : a.eval x = v at hr
          cases hr with
          | ptr hbo =>
            refine Yld.of (s := Instr.indexAt t (a.eval x) (a.eval ix)) rfl ⟨.pointer (some ⟨W.β b, off + i.toNat * n, none⟩), ?_, .ptr hbo⟩
            rw [hv, hiv]
            simp only [Instr.indexAt, asIntOf, Instr.sureAddr, Sem.run_bind, Sem.run_pure, Result.andThen_ok, run_underlying' hu]
            rw [if_pos (by omega)]
            simp only [Sem.run_bind, run_sizeOf' hn, Result.andThen_ok, Sem.run_pure]
            rw [Addr.add_none rfl]
        · simp at h
      · simp at h
    · simp at h
  · -- index
    rename_i t x ix
    split at h
    · rename_i s k i hu hx hix
      obtain ⟨_, _, hr⟩ := rd_sound hi hx
      obtain ⟨_, _, hri⟩ := rd_sound hi hix
      have hv := hr.str; have hiv := hri.int
      split at h
      · rename_i h0
        obtain ⟨b, hb, rfl⟩ := Option.map_eq_some_iff.1 h
        refine Yld.of (s := Instr.index t (a.eval x) (a.eval ix)) rfl ⟨_, ?_, .mkInt⟩
        rw [hv, hiv]
        simp only [Instr.index, asIntOf, Sem.run_bind, Sem.run_pure, Result.andThen_ok, run_underlying' hu]
        rw [if_pos h0]
        have : s[i.toNat]? = some b := hb
        simp only [this]
        rfl
      · simp at h
    · simp at h
  · -- look-ups
    rename_i t x ix
    split at h
    · rename_i g s hx hix
      obtain ⟨_, _, hr⟩ := rd_sound hi hx
      obtain ⟨_, _, hri⟩ := rd_sound hi hix
      have hiv := hri.str
      split at h
      · rename_i T hT
        split at h
        · rename_i hc
          simp at h; subst h
          obtain ⟨rfl, hs⟩ := hc
          obtain ⟨w0, k1, k2, k3⟩ := hi.heap.kept
          generalize hv : a.eval x = v at hr
          cases hr with
          | sc _ hr =>
            cases hr with
            | @mp _ b m1 m2 =>
              refine Yld.of (s := Instr.lookup C.mapT (a.eval x) (a.eval ix) true) rfl ⟨_, by rw [hv, hiv]; exact C.mapsOk w0 W.w g b T s k1 (fun b hb => (k3 b hb).1) hT hs m2, ?_⟩
              refine .tup rfl fun j f u hf hu => ?_
              match j, hf, hu with
              | 0, hf, hu => simp at hf hu; subst hf; subst hu; exact .mkInt
              | 1, hf, hu => simp at hf hu; subst hf; subst hu; exact .mkBool
              | j + 2, hf, _ => simp at hf
        · simp at h
      · simp at h
    · simp at h
  · -- binOp
    rename_i op t x y yt
    split at h
    · rename_i f g hx hy
      obtain ⟨_, _, hf⟩ := rd_sound hi hx
      obtain ⟨_, _, hg⟩ := rd_sound hi hy
      exact Yld.of (s := do eqGuard op t x y (a.eval x) (a.eval y); binOp op t (a.eval x) (a.eval y)) rfl (binOf_sound hf hg h)
    · simp at h
  · -- unOp
    rename_i op t x
    split at h
    · rename_i f hx
      obtain ⟨_, _, hf⟩ := rd_sound hi hx
      exact Yld.of (s := Op.unary op (a.eval x)) rfl (unOf_sound hf h)
    · simp at h
  · -- convert
    rename_i s d x
    split at h
    · rename_i f hx
      obtain ⟨_, _, hf⟩ := rd_sound hi hx
      exact Yld.of (s := convert s d (a.eval x)) rfl (convOf_sound hf h)
    · simp at h
  · -- slice
    rename_i t x lo hi'
    split at h
    · rename_i f l g hx hl hg
      obtain ⟨_, _, hf⟩ := rd_sound hi hx
      exact Yld.of (s := Instr.sliceAt t (a.eval x) (lo.map a.eval) (hi'.map a.eval) none) rfl (sliceOf_sound hf (rdo_sound hi hl) (rdo_sound hi hg) h)
    · simp at h
  · -- build
    rename_i t parts
    exact Yld.of (s := Instr.build t (parts.map fun (i, x) => (i, a.eval x))) rfl (buildOf_sound hi h)
  · -- extract
    rename_i x i
    split at h
    · rename_i l hx
      obtain ⟨f, hf, rfl⟩ := Option.map_eq_some_iff.1 h
      obtain ⟨r', i', hr⟩ := rd_sound hi hx
      generalize hv : a.eval x = v at hr
      cases hr with
      | @tup _ _ _ vs h1 h2 =>
        have hlt : i < l.length := by
          rcases Nat.lt_or_ge i l.length with h' | h'
          · exact h'
          · simp [List.getElem?_eq_none h'] at hf
        have hz : vs[i]? = some vs[i] := by simp [h1, hlt]
        refine Yld.of (s := Instr.extract (a.eval x) i) rfl ⟨vs[i], ?_, (h2 i f _ hf hz).demote⟩
        rw [hv]
        simp [Instr.extract, h1, hlt]
    · simp at h
  · -- makeFunc
    rename_i f first cap
    split at h
    · rename_i l m hl hm
      simp at h; subst h
      obtain ⟨h1, h2⟩ := rdAll_sound hi hl
      obtain ⟨h3, h4⟩ := rdAll_sound hi hm
      refine Yld.of (s := Instr.makeFunc (.func f) (first.map a.eval) (cap.map a.eval)) rfl ⟨_, rfl, .fn (by simpa using h1.symm) (by simpa using h3.symm) (fun j g v hg hv => ?_) (fun j g v hg hv => ?_)⟩
      · simp only [Array.getElem?_map, Option.map_eq_some_iff] at hv
        obtain ⟨x, hx, rfl⟩ := hv
        exact h2 j g x hg (by simpa using hx)
      · simp only [Array.getElem?_map, Option.map_eq_some_iff] at hv
        obtain ⟨x, hx, rfl⟩ := hv
        exact h4 j g x hg (by simpa using hx)
    · simp at h
  · -- nilCheck
    rename_i x
    split at h
    · rename_i b off hx
      simp at h; subst h
      obtain ⟨r', i', hr⟩ := rd_sound hi hx
      have hv := box_get hr
      have hb : W.o (W.β b) = some (.box b, 0) := box_alive hr
      refine ⟨.pointer (some ⟨W.β b, off, none⟩), ?_, .ptr hb⟩
      simp [execOp, hv]
    · rename_i b g off hx
      simp at h; subst h
      obtain ⟨r', i', hr⟩ := rd_sound hi hx
      generalize hv : a.eval x = v at hr
      cases hr with
      | @gp _ _ _ _ _ A hg hal =>
        refine ⟨.pointer (some A), ?_, .gp hg hal⟩
        simp [execOp, hv]
    · rename_i l hx
      simp at h; subst h
      obtain ⟨r', i', hr⟩ := rd_sound hi hx
      obtain ⟨A, hA⟩ := ea_addr hr
      refine ⟨.pointer (some A), ?_, ?_⟩
      · simp [execOp, hA]
      · rw [hA] at hr; cases hr with | ea c h1 h2 h3 h4 h5 => exact .ea c h1 h2 h3 h4 h5
    · simp at h
  · -- builtins
    rename_i b args ts
    split at h
    · split at h
      · rename_i x t hx ht
        split at h
        · rename_i f hf
          obtain ⟨_, _, hr⟩ := rd_sound hi hf
          have ha : args = #[x] := by rw [← Array.toList_inj]; simpa using hx
          have ht' : ts[0]? = some t := by rw [← Array.getElem?_toList, ht]; rfl
          subst ha
          obtain ⟨z, hz, hr'⟩ := lenOf_sound (ty := ty) ht' hr h
          refine ⟨z, ?_, hr'⟩
          simp [execOp, resolve, invoke, builtin, hz]
        · simp at h
      · simp at h
    · split at h
      · rename_i l hl
        obtain ⟨h1, h2⟩ := rdAll_sound hi hl
        unfold foldMin at h
        split at h
        · rename_i k n l'
          cases hx : args.toList with
          | nil => simp [hx] at h1
          | cons x xs =>
            rw [hx] at h1 h2
            have h0 := (h2 0 _ x rfl rfl).int
            obtain ⟨z, hz, hr⟩ := minFrom_sound (P := C.P) (W := W) (vs := xs.map a.eval) (by simpa using h1.symm) (fun j f v hf hv => by
              simp only [List.getElem?_map, Option.map_eq_some_iff] at hv
              obtain ⟨y, hy, rfl⟩ := hv
              exact h2 (j + 1) f y (by simpa using hf) (by simpa using hy)) h
            refine ⟨z, ?_, hr⟩
            have : (args.map a.eval).toList = .int k n :: xs.map a.eval := by simp [hx, h0]
            simp only [execOp, resolve, invoke, builtin, Builtin.min_, Sem.run_bind, Sem.run_pure, Result.andThen_ok, this, hz]
        · simp at h
      · simp at h
    · split at h
      · rename_i l hl
        obtain ⟨h1, h2⟩ := rdAll_sound hi hl
        unfold foldMax at h
        split at h
        · rename_i k n l'
          cases hx : args.toList with
          | nil => simp [hx] at h1
          | cons x xs =>
            rw [hx] at h1 h2
            have h0 := (h2 0 _ x rfl rfl).int
            obtain ⟨z, hz, hr⟩ := maxFrom_sound (P := C.P) (W := W) (vs := xs.map a.eval) (by simpa using h1.symm) (fun j f v hf hv => by
              simp only [List.getElem?_map, Option.map_eq_some_iff] at hv
              obtain ⟨y, hy, rfl⟩ := hv
              exact h2 (j + 1) f y (by simpa using hf) (by simpa using hy)) h
            refine ⟨z, ?_, hr⟩
            have : (args.map a.eval).toList = .int k n :: xs.map a.eval := by simp [hx, h0]
            simp only [execOp, resolve, invoke, builtin, Builtin.max_, Sem.run_bind, Sem.run_pure, Result.andThen_ok, this, hz]
        · simp at h
      · simp at h
    · split at h
      · rename_i x t hx ht
        split at h
        · rename_i el hu hf
          simp at h; subst h
          obtain ⟨_, _, hr⟩ := rd_sound hi hf
          have ha : args = #[x] := by rw [← Array.toList_inj]; simpa using hx
          have ht' : ts[0]? = some t := by rw [← Array.getElem?_toList, ht]; rfl
          subst ha
          generalize hv : a.eval x = v at hr
          cases hr
          refine ⟨.int .i64 0, ?_, .mkInt⟩
          simp [execOp, resolve, invoke, builtin, Builtin.cap_, ht', hv, run_underlying' hu, goInt]
        · simp at h
      · simp at h
    · simp at h
  · simp at h
end
end Go.Proofs.YtlbjfjaleefiiaaDoor.Ev
end
section
namespace Go.Proofs.YtlbjfjaleefiiaaDoor.Ev
open Go
theorem run_storeCells_at' {P : Program} {A : Addr} (hA : A.spot = none) : ∀ (vs : List Value) (i : Nat) (w : World) (c : Array Value) (T : TypeId) (fz : Nat × Nat), w.heap[A.block]? = some (Obj.cells c T fz) →
    A.off + i + vs.length ≤ c.size → Free fz c.size → (∀ v ∈ vs, v.oneCell' = true) →
    ∃ (w' : World) (c' : Array Value), (storeCells A vs i).run P w = .ok () w' ∧ w'.heap[A.block]? = some (Obj.cells c' T fz) ∧ c'.size = c.size ∧
      (∀ j, c'[j]? = if A.off + i ≤ j ∧ j < A.off + i + vs.length then vs[j - (A.off + i)]? else c[j]?) ∧ (∀ b, b ≠ A.block → w'.heap[b]? = w.heap[b]?) ∧ w'.heap.size = w.heap.size ∧
      w'.os = w.os ∧ w'.tape = w.tape ∧ w'.output = w.output
  | [], i, w, c, T, fz, hb, _, _, _ => ⟨w, c, rfl, hb, rfl, fun j => by rw [if_neg (by simp)], fun _ _ => rfl, rfl, rfl, rfl, rfl⟩
  | v :: vs, i, w, c, T, fz, hb, hle, hfz, h1 => by
    simp only [List.length_cons] at hle
    have hlt : A.off + i < c.size := by omega
    have hcell : w.cell? ⟨A.block, A.off + i, none⟩ = some c[A.off + i] := by rw [cell_of_heap hb]; simp [hlt]
    have hfr : w.frozen? ⟨A.block, A.off + i, none⟩ = false := by
      have := hfz _ hlt
      simp only [World.frozen?, hb]
      obtain ⟨lo, hi⟩ := fz
      simp only at this ⊢
      simp only [Bool.and_eq_false_iff, decide_eq_false_iff_not]
      omega
    have hst : (store (A.add i) v).run P w = .ok () (w.setCell ⟨A.block, A.off + i, none⟩ v) := by
      rw [Addr.add_none hA, run_store P w _ v _ (h1 v (by simp)), hcell]
      simp [hfr]
    have hlt' : A.block < w.heap.size := by
      rcases Nat.lt_or_ge A.block w.heap.size with h' | h'
      · exact h'
      · simp [Array.getElem?_eq_none h'] at hb
    have hb' : (w.setCell ⟨A.block, A.off + i, none⟩ v).heap[A.block]? = some (Obj.cells (c.setIfInBounds (A.off + i) v) T fz) := by
      simp only [World.setCell, Array.getElem?_modify]
      simp [hb]
    have hne : ∀ b, b ≠ A.block → (w.setCell ⟨A.block, A.off + i, none⟩ v).heap[b]? = w.heap[b]? := fun b hne => by
      simp only [World.setCell, Array.getElem?_modify]
      rw [if_neg (by simpa using hne.symm)]
    obtain ⟨w', c', h2, h3, h4, h5, h6, h7, h8, h9, h10⟩ := run_storeCells_at' (P := P) hA vs (i + 1) _ _ T fz hb' (by simp; omega) (by simpa using hfz) (fun u hu => h1 u (by simp [hu]))
    refine ⟨w', c', ?_, h3, by simpa using h4, fun j => ?_, fun b hb => by rw [h6 b hb, hne b hb], by rw [h7]; simp, by rw [h8]; rfl, by rw [h9]; rfl, by rw [h10]; rfl⟩
    · simp only [storeCells, Sem.run_bind, hst, Result.andThen_ok, h2]
    · rw [h5]
      simp only [List.length_cons]
      by_cases hj : j = A.off + i
      · subst hj
        rw [if_neg (by omega), if_pos (by omega)]
        simp [hlt]
      · by_cases hj2 : A.off + (i + 1) ≤ j ∧ j < A.off + (i + 1) + vs.length
        · rw [if_pos hj2, if_pos (by omega)]
          rw [show j - (A.off + i) = (j - (A.off + (i + 1))) + 1 by omega, List.getElem?_cons_succ]
        · rw [if_neg hj2, if_neg (by omega)]
          rw [Array.getElem?_setIfInBounds_ne (by omega)]
theorem FRep.home {W : Wd} {r : Option Root} {i : Nat} {f : FV} {v : Value} (h : FRep W r i f v) : FRep W r i f.home v := by
  cases h with
  | emp => exact .own .nil (.inl rfl)
  | undef => exact .undef
  | sc a b => exact .sc a b
  | own a b => exact .own a b
  | agg a b => exact .agg a b
  | ptr a => exact .ptr a
  | bs a n => exact .bs a n
  | gr a n c => exact .gr a n c
  | gp a c => exact .gp a c
  | nilp => exact .nilp
  | ea c a b d e g => exact .ea c a b d e g
  | tup a b => exact .tup a b
  | oagg a b => exact .oagg a b
  | fn a b c d => exact .fn a b c d
  | ext a b => exact .ext a b
  | exr => exact .exr
  | exq => exact .exq
theorem FRep.homeE {W : Wd} {r : Option Root} {i : Nat} {f : FV} {v : Value} (h : FRep W r i f v) (b : Bool) : FRep W r i (f.homeE b) v := by
  unfold FV.homeE
  split
  · split
    · cases h with
      | @own _ _ _ a len cap hr hs =>
        have hl : len = 0 := by cases hr <;> simp_all
        subst hl
        rcases hs with hs | ⟨e, A, c, T, fz, h0, _⟩
        · subst hs; exact .emp
        · simp at h0
    · cases h; exact .emp
    · exact h.home
  · exact h.home
theorem tmps_put {a : Act} {nt : Nat} {dst : Option Tmp} {v : Value} (hd : dstOk nt dst) (hs : nt ≤ a.tmps.size) (t : Nat) :
    (a.put dst v).tmps.getD t undef = if dst = some t then v else a.tmps.getD t undef := by
  cases dst with
  | none => simp [Act.put]
  | some d =>
    simp only [Act.put, Option.some.injEq]
    by_cases h : d = t
    · subst h
      have : d < a.tmps.size := Nat.lt_of_lt_of_le hd hs
      simp [this]
    · simp [h, Array.getElem?_setIfInBounds_ne h]
theorem put_size {a : Act} {dst : Option Tmp} {v : Value} : (a.put dst v).tmps.size = a.tmps.size := by cases dst <;> simp [Act.put]
theorem put_defers {a : Act} {dst : Option Tmp} {v : Value} : (a.put dst v).defers = a.defers := by cases dst <;> rfl
theorem get_put {e : Env} {dst : Option Nat} {f : FV} (t : Nat) : (e.put dst f).get t = if dst = some t then f else e.get t := by
  cases dst with
  | none => simp [Env.put]
  | some d => simp [Env.put, Env.get]
section
variable {C : Ctx} {nt : Nat} {e : Env} {H : Heap} {a : Act} {W : Wd}
theorem Inv.val (hi : Inv C nt e H a W) {dst : Option Tmp} (hd : dstOk nt dst) {f : FV} {v : Value} (h : FRep W none 0 f v) : Inv C nt (e.put dst f) H (a.put dst v) W where
  heap := hi.heap
  env t := by
    rw [tmps_put hd hi.size, get_put]
    split
    · exact h.weaken rfl
    · exact hi.env t
  size := by rw [put_size]; exact hi.size
  defers := by rw [put_defers]; exact hi.defers
theorem HInv.evo' {H : Heap} {W W' : Wd} (h : HInv C H W) {keep : Root → Nat → Prop} (hE : Evo0 W W' keep) (hk : ∀ b i j, i < H.length → keep (.leaf i b) j) (hw : W'.w = W.w) (hl : W'.lim = W.lim) (hg : W'.gen = W.gen)
    (ho : ∀ b, W.w.heap.size ≤ b → W'.o b = none) (hb : ∀ b i k, W'.o b = some (.box i, k) → i < H.length) (hn : Kept C W') : HInv C H W' where
  box b fs hfs := by
    obtain ⟨h1, h2, c, T, fz, h3, h4, h5, h6⟩ := h.box b fs hfs
    obtain ⟨h8, h7⟩ := h1.mono hE (by rw [hg])
    have hlt : b < H.length := by
      rcases Nat.lt_or_ge b H.length with h' | h'
      · exact h'
      · simp [List.getElem?_eq_none h'] at hfs
    rw [h7]
    exact ⟨h8, by rw [hl]; exact h2, c, T, fz, by rw [hw]; exact h3, h4, h5, fun i f v hf' hv => ⟨(h6 i f v hf' hv).1, (h6 i f v hf' hv).2.mono0 hE (fun q j hq => by cases hq; exact hk _ _ _ hlt)⟩⟩
  laid g ls hls j q hq := by
    obtain ⟨h1, h2, v, h3, h4⟩ := h.laid g ls hls j q hq
    exact ⟨h1, Nat.lt_of_lt_of_le h2 (hE.lim g), v, by rw [hw]; exact h3, h4.mono hE.cell hE.lim⟩
  fresh b hb' := by
    rw [hw] at hb'
    obtain ⟨h1, _⟩ := h.fresh b hb'
    exact ⟨by rw [hl]; exact h1, ho b hb'⟩
  boxes := hb
  gen0 b hb' := by rw [hg]; exact h.gen0 b hb'
  kept := hn
theorem HInv.evo {H : Heap} {W W' : Wd} (h : HInv C H W) {keep : Root → Nat → Prop} (hE : Evo0 W W' keep) (hk : ∀ b i j, i < H.length → keep (.leaf i b) j) (hw : W'.w = W.w) (hl : W'.lim = W.lim) (hg : W'.gen = W.gen)
    (ho : ∀ b, W.w.heap.size ≤ b → W'.o b = none) (hb : ∀ b i k, W'.o b = some (.box i, k) → i < H.length) (hn : ∀ b, W.o b = none → W'.o b = none) : HInv C H W' :=
  h.evo' hE hk hw hl hg ho hb (h.kept.same (by rw [hw]) hn)
theorem HInv.rehome {H : Heap} {W : Wd} (h : HInv C H W) {t : Nat} {r' : Root} (hr : ∀ b, r' ≠ .box b) : HInv C H (W.rehome (.tmp t) r') := by
  refine h.evo (Evo.rehome W (by simp)).toEvo0 (by simp) rfl rfl rfl (fun b hb => by simp [Wd.rehome, (h.fresh b hb).2]) (fun b i k hb => ?_) (fun b hb => by simp [Wd.rehome, hb])
  · simp only [Wd.rehome] at hb
    split at hb
    · rename_i q k' hq
      simp only [Option.some.injEq, Prod.mk.injEq] at hb
      obtain ⟨h1, rfl⟩ := hb
      split at h1
      · exact absurd h1 (hr i)
      · subst h1; exact h.boxes _ _ _ hq
    · simp at hb
theorem give_sound (hi : Inv C nt e H a W) {x : Operand} {f : FV} {e' : Env} (h : give C e x = some (f, e')) {r : Root} (hr : ∀ b, r ≠ .box b) :
    ∃ W', W'.w = W.w ∧ W'.lim = W.lim ∧ W'.β = W.β ∧ Evo W W' (fun q _ => ∀ t, q ≠ .tmp t) ∧ FRep W' (some r) 0 f (a.eval x) ∧ (∀ t, r ≠ .tmp t → FRep W' (some (.tmp t)) 0 (e'.get t) (a.tmps.getD t undef)) ∧ (∀ H', HInv C H' W → HInv C H' W') := by
  cases x with
  | tmp t =>
    simp only [give, Option.some.injEq, Prod.mk.injEq] at h
    obtain ⟨rfl, rfl⟩ := h
    have hE := Evo.rehome W (r := .tmp t) (r' := r) (by simp)
    refine ⟨W.rehome (.tmp t) r, rfl, rfl, rfl, hE.weaken (fun q i hq => hq t), (hi.env t).rehomed (by simp), fun s hs => ?_, fun H' hH => hH.rehome hr⟩
    simp only [Env.get]
    split
    · rename_i hts; subst hts
      exact ((hi.env t).rehome (r := .tmp t) (r' := r) (by simp)).demote
    · rename_i hts
      exact (hi.env s).mono hE (fun q j hq => by cases hq; simp; omega)
  | const v =>
    simp only [give, Option.map_eq_some_iff] at h
    obtain ⟨g, hg, hh⟩ := h
    simp only [Prod.mk.injEq] at hh
    obtain ⟨rfl, rfl⟩ := hh
    refine ⟨W, rfl, rfl, rfl, Evo.refl _ _, (ofConst_rep (show FV.ofConst v = some g from hg)).weaken rfl, fun s _ => hi.env s, fun _ h => h⟩
  | func v =>
    simp only [give, Option.map_eq_some_iff] at h
    obtain ⟨g, hg, hh⟩ := h
    simp only [Prod.mk.injEq] at hh
    obtain ⟨rfl, rfl⟩ := hh
    refine ⟨W, rfl, rfl, rfl, Evo.refl _ _, ?_, fun s _ => hi.env s, fun _ h => h⟩
    simp [rd] at hg; subst hg
    exact .fn rfl rfl (by simp) (by simp)
  | global v =>
    simp only [give, Option.map_eq_some_iff] at h
    obtain ⟨g, hg, hh⟩ := h
    simp only [Prod.mk.injEq] at hh
    obtain ⟨rfl, rfl⟩ := hh
    obtain ⟨_, _, hr⟩ := rd_sound hi hg
    refine ⟨W, rfl, rfl, rfl, Evo.refl _ _, ?_, fun s _ => hi.env s, fun _ h => h⟩
    simp only [rd, Option.map_eq_some_iff] at hg
    obtain ⟨ls, _, rfl⟩ := hg
    simp only [Act.eval] at hr ⊢
    cases hr with | ea c h1 h2 h3 h4 h5 => exact .ea c h1 h2 h3 h4 h5
def After (C : Ctx) (nt : Nat) (W : Wd) (K : Env → Heap → Prop) (a : Act) (w : World) : Prop :=
  ∃ e H W', W'.w = w ∧ K e H ∧ Inv C nt e H a W' ∧ Evo W W' (fun _ _ => False)
theorem step_give (hi : Inv C nt e H a W) {x : Operand} {f : FV} {e' : Env} (h : give C e x = some (f, e')) {dst : Option Tmp} (hd : dstOk nt dst) :
    ∃ W', W'.w = W.w ∧ Inv C nt (e'.put dst f.home) H (a.put dst (a.eval x)) W' ∧ Evo W W' (fun _ _ => False) := by
  obtain ⟨W', h1, h2, h2', h3, h4, h5, h6⟩ := give_sound hi h (r := match dst with | some d => .tmp d | none => .res) (by cases dst <;> simp)
  refine ⟨W', h1, ⟨h6 H hi.heap, fun t => ?_, by rw [put_size]; exact hi.size, by rw [put_defers]; exact hi.defers⟩, h3.weaken (by simp)⟩
  rw [tmps_put hd hi.size, get_put]
  split
  · rename_i hdt; subst hdt
    exact h4.home
  · rename_i hdt
    exact h5 t (by cases dst <;> simp_all)
theorem step_giveE (b : Bool) (hi : Inv C nt e H a W) {x : Operand} {f : FV} {e' : Env} (h : give C e x = some (f, e')) {dst : Option Tmp} (hd : dstOk nt dst) :
    ∃ W', W'.w = W.w ∧ Inv C nt (e'.put dst (f.homeE b)) H (a.put dst (a.eval x)) W' ∧ Evo W W' (fun _ _ => False) := by
  obtain ⟨W', h1, h2, h2', h3, h4, h5, h6⟩ := give_sound hi h (r := match dst with | some d => .tmp d | none => .res) (by cases dst <;> simp)
  refine ⟨W', h1, ⟨h6 H hi.heap, fun t => ?_, by rw [put_size]; exact hi.size, by rw [put_defers]; exact hi.defers⟩, h3.weaken (by simp)⟩
  rw [tmps_put hd hi.size, get_put]
  split
  · rename_i hdt; subst hdt
    exact h4.homeE b
  · rename_i hdt
    exact h5 t (by cases dst <;> simp_all)
end
end Go.Proofs.YtlbjfjaleefiiaaDoor.Ev
end
section
namespace Go.Proofs.YtlbjfjaleefiiaaDoor.Ev
open Go
theorem heap_alloc_lt {w : World} {o : Obj} {b : Nat} (h : b < w.heap.size) : (w.alloc o).heap[b]? = w.heap[b]? := by
  simp only [World.alloc, Array.getElem?_push]
  rw [if_neg (by omega)]
theorem heap_alloc_new {w : World} {o : Obj} : (w.alloc o).heap[w.heap.size]? = some o := by
  show (w.heap.push o)[w.heap.size]? = some o
  simp
theorem cell_alloc {w : World} {o : Obj} {b off : Nat} (h : b < w.heap.size) : (w.alloc o).cell? ⟨b, off, none⟩ = w.cell? ⟨b, off, none⟩ := by
  simp only [World.cell?, heap_alloc_lt h]
def Wd.more (W : Wd) (o : Obj) (q : Option (Root × Nat)) (lm : Nat) (β : Nat → Nat) : Wd :=
  { w := W.w.alloc o, lim := fun b => if b = W.w.heap.size then lm else W.lim b, β := β, o := fun b => if b = W.w.heap.size then q else W.o b, gen := W.gen }
structure Fresh (W : Wd) : Prop where
  lim : ∀ b, W.w.heap.size ≤ b → W.lim b = 0
  o : ∀ b, W.w.heap.size ≤ b → W.o b = none
theorem lt_of_lim {W : Wd} (hf : Fresh W) {b off : Nat} (h : off < W.lim b) : b < W.w.heap.size := by
  rcases Nat.lt_or_ge b W.w.heap.size with h' | h'
  · exact h'
  · rw [hf.lim b h'] at h; omega
theorem lt_of_o {W : Wd} (hf : Fresh W) {b : Nat} {q : Root × Nat} (h : W.o b = some q) : b < W.w.heap.size := by
  rcases Nat.lt_or_ge b W.w.heap.size with h' | h'
  · exact h'
  · rw [hf.o b h'] at h; simp at h
theorem Evo.more {W : Wd} (hf : Fresh W) (o : Obj) (q : Option (Root × Nat)) (lm : Nat) {β : Nat → Nat} (hβ : ∀ b i k, W.o b = some (.box i, k) → β i = W.β i) : Evo W (W.more o q lm β) (fun _ _ => True) where
  os := rfl
  tape := rfl
  output := rfl
  size := by simp [Wd.more]
  cell b off h := cell_alloc (lt_of_lim hf h)
  lim b := by
    simp only [Wd.more]
    split
    · subst_vars; rw [hf.lim _ (Nat.le_refl _)]; exact Nat.zero_le _
    · exact Nat.le_refl _
  shape b c T fz h := ⟨c, by
    have : b < W.w.heap.size := by
      rcases Nat.lt_or_ge b W.w.heap.size with h' | h'
      · exact h'
      · simp [Array.getElem?_eq_none h'] at h
    simp only [Wd.more]
    rw [heap_alloc_lt this, h], rfl⟩
  hold b r i ho _ := by
    have := lt_of_o hf ho
    simp only [Wd.more]
    rw [if_neg (by omega), if_neg (by omega)]
    exact ⟨ho, rfl⟩
  beta b i ho hb := by
    have := lt_of_o hf ho
    simp only [Wd.more]
    rw [if_neg (by omega), hβ b i _ ho]
    exact ⟨hb, ho⟩
  row i := ⟨Nat.le_refl _, fun _ ho => by
    have := lt_of_o hf ho
    simp only [Wd.more]
    rw [if_neg (by omega)]
    exact ⟨hβ _ i _ ho, ho⟩⟩
  away b hb ho := by
    simp only [Wd.more]
    rw [if_neg (by omega), if_neg (by omega), heap_alloc_lt hb]
    exact ⟨rfl, rfl, ho⟩
theorem HInv.toFresh {C : Ctx} {H : Heap} {W : Wd} (h : HInv C H W) : Fresh W := ⟨fun b hb => (h.fresh b hb).1, fun b hb => (h.fresh b hb).2⟩
theorem HInv.more {C : Ctx} {H : Heap} {W : Wd} (h : HInv C H W) (o : Obj) (q : Option (Root × Nat)) (lm : Nat) (hq : ∀ i k, q ≠ some (.box i, k)) : HInv C H (W.more o q lm W.β) := by
  have hE := Evo.more h.toFresh o q lm (β := W.β) (fun _ _ _ _ => rfl)
  constructor
  · intro b fs hfs
    obtain ⟨h1, h2, c, T, fz, h3, h4, h5, h6⟩ := h.box b fs hfs
    have hlt := lt_of_o h.toFresh h1.1
    refine ⟨(h1.mono hE.toEvo0 rfl).1, ?_, c, T, fz, ?_, h4, h5, fun i f v hf hv => ⟨(h6 i f v hf hv).1, (h6 i f v hf hv).2.mono hE (by simp)⟩⟩
    · simp only [Wd.more]; rw [if_neg (by omega)]; exact h2
    · simp only [Wd.more]; rw [heap_alloc_lt hlt]; exact h3
  · intro g ls hls j q' hq'
    obtain ⟨h1, h2, v, h3, h4⟩ := h.laid g ls hls j q' hq'
    exact ⟨h1, Nat.lt_of_lt_of_le h2 (hE.lim g), v, by rw [hE.cell _ _ h2]; exact h3, h4.mono hE.cell hE.lim⟩
  · intro b hb
    simp only [Wd.more, World.size_alloc] at hb ⊢
    rw [if_neg (by omega), if_neg (by omega)]
    exact h.fresh b (by omega)
  · intro b i k hb
    simp only [Wd.more] at hb
    split at hb
    · exact absurd hb (hq i k)
    · exact h.boxes b i k hb
  · exact h.gen0
  · exact h.kept.evo hE
theorem HInv.newAny {C : Ctx} {H : Heap} {W : Wd} (h : HInv C H W) (cs : Array Value) (T : TypeId) (fs : List FV) (hs : (body fs).length ≤ cs.size) (hk : ∀ W' : Wd, W'.gen H.length = 0 → GenOk W' H.length fs)
    (hf : ∀ (i : Nat) (f : FV) (v : Value), (body fs)[i]? = some f → cs[i]? = some v → f.isLeaf = true ∧ FRep W (some (.leaf H.length i)) 0 f v) :
    ∃ W', W'.w = W.w.alloc (.cells cs T) ∧ HInv C (H ++ [fs]) W' ∧ Evo W W' (fun _ _ => True) ∧ W'.β H.length = W.w.heap.size ∧ W'.o W.w.heap.size = some (.box H.length, rowK fs) ∧ W'.gen = W.gen := by
  have hE := Evo.more h.toFresh (.cells cs T) (some (.box H.length, rowK fs)) 0 (β := fun i => if i = H.length then W.w.heap.size else W.β i) (fun b i k ho => by
    have := h.boxes b i k ho
    show (if i = H.length then _ else _) = _
    rw [if_neg (by omega)])
  refine ⟨_, rfl, ⟨?_, ?_, ?_, ?_, ?_, h.kept.evo hE⟩, hE, by simp [Wd.more], by simp [Wd.more], rfl⟩
  · intro b gs hgs
    rcases Nat.lt_or_ge b H.length with hlt | hge
    · rw [List.getElem?_append_left hlt] at hgs
      obtain ⟨h1, h2, c, T', fz, h3, h4, h5, h6⟩ := h.box b gs hgs
      have hlt' := lt_of_o h.toFresh h1.1
      have hb : (W.more (.cells cs T) (some (.box H.length, rowK fs)) 0 (fun i => if i = H.length then W.w.heap.size else W.β i)).β b = W.β b := by
        simp only [Wd.more]; rw [if_neg (by omega)]
      refine ⟨(h1.mono hE.toEvo0 rfl).1, ?_, c, T', fz, ?_, h4, h5, fun i f v hf hv => ⟨(h6 i f v hf hv).1, (h6 i f v hf hv).2.mono hE (by simp)⟩⟩
      · rw [hb]; simp only [Wd.more]; rw [if_neg (by omega)]; exact h2
      · rw [hb]; simp only [Wd.more]; rw [heap_alloc_lt hlt']; exact h3
    · rw [List.getElem?_append_right hge] at hgs
      have : b - H.length = 0 := by
        rcases Nat.eq_zero_or_pos (b - H.length) with h' | h'
        · exact h'
        · rw [List.getElem?_eq_none (by simp; omega)] at hgs; simp at hgs
      rw [this] at hgs
      simp at hgs
      obtain rfl : b = H.length := by omega
      subst hgs
      refine ⟨⟨by simp [Wd.more], hk _ (h.gen0 _ (Nat.le_refl _))⟩, by simp [Wd.more], cs, T, (0, 0), by simp only [Wd.more, if_true]; exact heap_alloc_new, hs, fun _ _ => by simp, fun i f v hf' hv => ⟨(hf i f v hf' hv).1, (hf i f v hf' hv).2.mono hE (by simp)⟩⟩
  · intro g ls hls j q' hq'
    obtain ⟨h1, h2, v, h3, h4⟩ := h.laid g ls hls j q' hq'
    exact ⟨h1, Nat.lt_of_lt_of_le h2 (hE.lim g), v, by rw [hE.cell _ _ h2]; exact h3, h4.mono hE.cell hE.lim⟩
  · intro b hb
    simp only [Wd.more, World.size_alloc] at hb ⊢
    rw [if_neg (by omega), if_neg (by omega)]
    exact h.fresh b (by omega)
  · intro b i k hb
    simp only [Wd.more] at hb
    split at hb
    · simp at hb; simp; omega
    · have := h.boxes b i k hb; simp; omega
  · intro b hb
    simp only [List.length_append, List.length_cons, List.length_nil] at hb
    exact h.gen0 b (by omega)
theorem HInv.newBox {C : Ctx} {H : Heap} {W : Wd} (h : HInv C H W) (cs : Array Value) (T : TypeId) (fs : List FV) (hs : fs.length ≤ cs.size)
    (hf : ∀ (i : Nat) (f : FV) (v : Value), fs[i]? = some f → cs[i]? = some v → f.isLeaf = true ∧ FRep W (some (.leaf H.length i)) 0 f v) :
    ∃ W', W'.w = W.w.alloc (.cells cs T) ∧ HInv C (H ++ [fs]) W' ∧ Evo W W' (fun _ _ => True) ∧ W'.β H.length = W.w.heap.size ∧ W'.o W.w.heap.size = some (.box H.length, 0) := by
  rcases kind_cases fs with ⟨k1, k2, k3⟩ | ⟨g, l, rfl⟩
  · obtain ⟨W', h1, h2, h3, h4, h5, _⟩ := h.newAny cs T fs (by rw [k2]; exact hs) (fun W' _ => k3 W' _) (by rw [k2]; exact hf)
    exact ⟨W', h1, h2, h3, h4, by rw [h5, k1]⟩
  · have hlt : 0 < cs.size := Nat.lt_of_lt_of_le Nat.zero_lt_one hs
    have := (hf 0 _ cs[0] rfl (by simp [hlt])).1
    simp [FV.isLeaf] at this
theorem HInv.newRow {C : Ctx} {H : Heap} {W : Wd} (h : HInv C H W) (cs : Array Value) (T : TypeId) (l : List FV) (hs : l.length ≤ cs.size)
    (hf : ∀ (i : Nat) (f : FV) (v : Value), l[i]? = some f → cs[i]? = some v → f.isLeaf = true ∧ FRep W (some (.leaf H.length i)) 0 f v) :
    ∃ W', W'.w = W.w.alloc (.cells cs T) ∧ HInv C (H ++ [[.row 0 l]]) W' ∧ Evo W W' (fun _ _ => True) ∧ W'.β H.length = W.w.heap.size ∧ W'.o W.w.heap.size = some (.box H.length, 1) ∧ W'.gen H.length = 0 := by
  obtain ⟨W', h1, h2, h3, h4, h5, h6⟩ := h.newAny cs T [.row 0 l] hs (fun W' hg => hg) hf
  exact ⟨W', h1, h2, h3, h4, h5, by rw [h6]; exact h.gen0 _ (Nat.le_refl _)⟩
section
variable {C : Ctx} {nt : Nat} {e : Env} {H : Heap} {a : Act} {W : Wd}
theorem FV.home_leaf {f : FV} (h : f.isLeaf = true) : f.home.isLeaf = true := by cases f <;> simp_all [FV.home, FV.isLeaf]
theorem step_alloc (hi : Inv C nt e H a W) {dst : Option Tmp} (hd : dstOk nt dst) {t : TypeId} {z : Value} {l : List FV} (hz : zeroOf C.P t = some z) (hl : FV.ofValues z.cells.toList = some l) :
    ∃ W' v, (Instr.alloc t true (.tuple #[])).run C.P W.w = .ok v W'.w ∧ Inv C nt (e.put dst (.ptr H.length 0)) (H ++ [l.map FV.home]) (a.put dst v) W' ∧ Evo W W' (fun _ _ => False) := by
  obtain ⟨h1, h2⟩ := ofValues_rep (W := W) hl
  obtain ⟨W', hw, hH, hE, hβ, ho⟩ := hi.heap.newBox z.cells t (l.map FV.home) (Nat.le_of_eq (by simpa using h1)) (fun i f v hf hv => by
    simp only [List.getElem?_map, Option.map_eq_some_iff] at hf
    obtain ⟨g, hg, rfl⟩ := hf
    obtain ⟨h3, h4⟩ := h2 i g v hg (by simpa using hv)
    exact ⟨FV.home_leaf h3, (h4.weaken rfl).home⟩)
  refine ⟨W', .pointer (some ⟨W.w.heap.size, 0, none⟩), ?_, ⟨hH, fun s => ?_, by rw [put_size]; exact hi.size, by rw [put_defers]; exact hi.defers⟩, hE.weaken (by simp)⟩
  · unfold Instr.alloc
    simp only [Sem.run_bind, run_zeroValue' hz, Result.andThen_ok, newVar, newRow, run_newObj, Sem.run_pure, hw]
    rfl
  · rw [tmps_put hd hi.size, get_put]
    split
    · have := FRep.ptr (W := W') (r := some (.tmp s)) (i := 0) (b := H.length) (off := 0) (by rw [hβ]; exact ho)
      rw [hβ] at this; exact this
    · exact (hi.env s).mono hE (by simp)
theorem given_cells {W : Wd} {b off : Nat} {f : FV} {v : Value} {l : List FV} (h : FRep W (some (.leaf b off)) 0 f v) (hl : f.cells = some l) (hleaf : ∀ m, f = .agg m → m.all FV.isLeaf = true) :
    v.cells.size = l.length ∧ ∀ (j : Nat) (g : FV) (u : Value), (l.map FV.home)[j]? = some g → v.cells[j]? = some u → g.isLeaf = true ∧ FRep W (some (.leaf b (off + j))) 0 g u := by
  cases h with
  | agg h1 h2 =>
    simp [FV.cells] at hl; subst hl
    refine ⟨h1, fun j g u hg hu => ?_⟩
    simp only [List.getElem?_map, Option.map_eq_some_iff] at hg
    obtain ⟨g, hg, rfl⟩ := hg
    have := List.all_eq_true.1 (hleaf _ rfl) g (List.mem_of_getElem? hg)
    exact ⟨FV.home_leaf this, ((h2 j g u hg hu).weaken rfl).home⟩
  | undef => simp [FV.cells] at hl
  | tup => simp [FV.cells] at hl
  | oagg => simp [FV.cells] at hl
  | @sc _ _ p v hp hr =>
    simp [FV.cells] at hl; subst hl
    rw [(hr.leafValue hp).2]
    refine ⟨rfl, fun j g u hg hu => ?_⟩
    cases j <;> simp at hg hu
    subst hg hu
    exact ⟨hp, .sc hp hr⟩
  | own p q =>
    simp [FV.cells] at hl; subst hl
    refine ⟨rfl, fun j g u hg hu => ?_⟩
    cases j <;> simp [Value.cells] at hg hu
    subst hg hu
    exact ⟨rfl, .own p q⟩
  | emp =>
    simp [FV.cells] at hl; subst hl
    refine ⟨rfl, fun j g u hg hu => ?_⟩
    cases j <;> simp [Value.cells] at hg hu
    subst hg hu
    exact ⟨rfl, .own .nil (.inl rfl)⟩
  | ptr p =>
    simp [FV.cells] at hl; subst hl
    refine ⟨rfl, fun j g u hg hu => ?_⟩
    cases j <;> simp [Value.cells] at hg hu
    subst hg hu
    exact ⟨rfl, .ptr p⟩
  | bs p n =>
    simp [FV.cells] at hl; subst hl
    refine ⟨rfl, fun j g u hg hu => ?_⟩
    cases j <;> simp [Value.cells] at hg hu
    subst hg hu
    exact ⟨rfl, .bs p n⟩
  | gr p n q =>
    simp [FV.cells] at hl; subst hl
    refine ⟨rfl, fun j g u hg hu => ?_⟩
    cases j <;> simp [Value.cells] at hg hu
    subst hg hu
    exact ⟨rfl, .gr p n q⟩
  | gp p q =>
    simp [FV.cells] at hl; subst hl
    refine ⟨rfl, fun j g u hg hu => ?_⟩
    cases j <;> simp [Value.cells] at hg hu
    subst hg hu
    exact ⟨rfl, .gp p q⟩
  | nilp =>
    simp [FV.cells] at hl; subst hl
    refine ⟨rfl, fun j g u hg hu => ?_⟩
    cases j <;> simp [Value.cells] at hg hu
    subst hg hu
    exact ⟨rfl, .nilp⟩
  | ea c a1 a2 a3 a4 a5 =>
    simp [FV.cells] at hl; subst hl
    refine ⟨rfl, fun j g u hg hu => ?_⟩
    cases j <;> simp [Value.cells] at hg hu
    subst hg hu
    exact ⟨rfl, .ea c a1 a2 a3 a4 a5⟩
  | fn a1 a2 a3 a4 =>
    simp [FV.cells] at hl; subst hl
    refine ⟨rfl, fun j g u hg hu => ?_⟩
    cases j <;> simp [Value.cells] at hg hu
    subst hg hu
    exact ⟨rfl, .fn a1 a2 a3 a4⟩
  | ext p q =>
    simp [FV.cells] at hl; subst hl
    refine ⟨rfl, fun j g u hg hu => ?_⟩
    cases j <;> simp [Value.cells] at hg hu
    subst hg hu
    exact ⟨rfl, .ext p q⟩
  | exr =>
    simp [FV.cells] at hl; subst hl
    refine ⟨rfl, fun j g u hg hu => ?_⟩
    cases j <;> simp [Value.cells] at hg hu
    subst hg hu
    exact ⟨rfl, .exr⟩
  | exq =>
    simp [FV.cells] at hl; subst hl
    refine ⟨rfl, fun j g u hg hu => ?_⟩
    cases j <;> simp [Value.cells] at hg hu
    subst hg hu
    exact ⟨rfl, .exq⟩
theorem step_box (hi : Inv C nt e H a W) {dst : Option Tmp} (hd : dstOk nt dst) {t : TypeId} {x : Operand} {f : FV} {e' : Env} {l : List FV} (hg : give C e x = some (f, e')) (hl : f.cells = some l) (hleaf : ∀ m, f = .agg m → m.all FV.isLeaf = true) :
    ∃ W' v, (Instr.box t (a.eval x)).run C.P W.w = .ok v W'.w ∧ Inv C nt (e'.put dst (.ptr H.length 0)) (H ++ [l.map FV.home]) (a.put dst v) W' ∧ Evo W W' (fun _ _ => False) := by
  obtain ⟨W₁, h1, h1l, h1b, h2, h3, h4, h5⟩ := give_sound hi hg (r := .leaf H.length 0) (by simp)
  have hH := h5 H hi.heap
  obtain ⟨h6, h7⟩ := given_cells h3 hl hleaf
  obtain ⟨W', hw, hH', hE, hβ, ho⟩ := hH.newBox (a.eval x).cells t (l.map FV.home) (Nat.le_of_eq (by simpa using h6.symm)) (fun i f v hf hv => by simpa using h7 i f v hf hv)
  refine ⟨W', .pointer (some ⟨W.w.heap.size, 0, none⟩), ?_, ⟨hH', fun s => ?_, by rw [put_size]; exact hi.size, by rw [put_defers]; exact hi.defers⟩, ((h2.weaken (k' := fun _ _ => False) (by simp)).trans (hE.weaken (k' := fun _ _ => False) (by simp))).weaken (by simp)⟩
  · unfold Instr.box
    simp only [Sem.run_bind, Result.andThen_ok, newVar, newRow, run_newObj, Sem.run_pure, hw, h1]
    rfl
  · rw [tmps_put hd hi.size, get_put]
    split
    · have := FRep.ptr (W := W') (r := some (.tmp s)) (i := 0) (b := H.length) (off := 0) (by rw [hβ]; exact ho)
      rw [hβ, h1] at this; exact this
    · exact (h4 s (by simp)).mono hE (by simp)
end
end Go.Proofs.YtlbjfjaleefiiaaDoor.Ev
end
section
namespace Go.Proofs.YtlbjfjaleefiiaaDoor.Ev
open Go
section
variable {C : Ctx} {nt : Nat} {e : Env} {H : Heap} {a : Act} {W : Wd}
theorem splice_get {fs l : List FV} {off : Nat} (h : off + l.length ≤ fs.length) (j : Nat) : (splice fs off l)[j]? = if off ≤ j ∧ j < off + l.length then l[j - off]? else fs[j]? := by
  unfold splice
  have e1 : (fs.take off).length = off := by simp; omega
  by_cases h1 : j < off
  · rw [if_neg (by omega), List.append_assoc, List.getElem?_append_left (by omega), List.getElem?_take_of_lt h1]
  · by_cases h2 : j < off + l.length
    · rw [if_pos (by omega), List.append_assoc, List.getElem?_append_right (by omega), List.getElem?_append_left (by omega), e1]
    · rw [if_neg (by omega), List.getElem?_append_right (by simp; omega), List.getElem?_drop]
      congr 1; simp; omega
theorem splice_length {fs l : List FV} {off : Nat} (h : off + l.length ≤ fs.length) : (splice fs off l).length = fs.length := by
  unfold splice; simp; omega
theorem heap_get {b : Nat} (hb : b < H.length) : H.getD b [] = H[b] := by simp [List.getD, hb]
theorem kind_leaf {fs : List FV} (h : ∀ (i : Nat) (f : FV), fs[i]? = some f → f.isLeaf = true) : rowK fs = 0 ∧ body fs = fs ∧ ∀ W b, GenOk W b fs := by
  rcases kind_cases fs with hk | ⟨g, l, rfl⟩
  · exact hk
  · have := h 0 _ rfl
    simp [FV.isLeaf] at this
theorem demote_leaf {f : FV} (h : f.isLeaf = true) : (demote f).isLeaf = true := by cases f <;> simp_all [demote, FV.isLeaf, PV.isLeaf]
theorem loadmv_any (hi : Inv C nt e H a W) {d : Nat} (hd : d < nt) {t : TypeId} {x : Operand} {f : FV} {fs gs₀ : List FV} {b off : Nat}
    (hxv : a.eval x = .pointer (some ⟨W.β b, off, none⟩)) (hfs : H[b]? = some fs) (ha : aggOf C.P t = some false) (hf : (body fs)[off]? = some f) (hgb : body gs₀ = (body fs).set off (demote f)) (hgo : ∀ W, Own W b fs → Own W b gs₀) :
    ∃ W' v, W'.w = W.w ∧ (Instr.loadAt t (a.eval x)).run C.P W.w = .ok v W.w ∧ Inv C nt (e.put (some d) f) (H.set b gs₀) (a.put (some d) v) W' ∧ Evo W W' (fun _ _ => False) := by
  have hlt : b < H.length := (List.getElem?_eq_some_iff.1 hfs).1
  obtain ⟨k1, k2, c, T, fz, k3, k4, k5, k6⟩ := hi.heap.box b fs hfs
  have hol : off < (body fs).length := (List.getElem?_eq_some_iff.1 hf).1
  have hv : c[off]? = some c[off] := by rw [Array.getElem?_eq_getElem (by omega)]
  obtain ⟨q1, q2⟩ := k6 off f _ hf hv
  have hE := Evo.rehome W (r := .leaf b off) (r' := .tmp d) (by simp)
  refine ⟨W.rehome (.leaf b off) (.tmp d), c[off], rfl, ?_, ⟨⟨?_, ?_, ?_, ?_, fun b' hb' => hi.heap.gen0 b' (by simpa using hb'), hi.heap.kept.evo hE⟩, fun s => ?_, by rw [put_size]; exact hi.size, by rw [put_defers]; exact hi.defers⟩, hE.weaken (by simp)⟩
  · rw [hxv]
    have : W.w.cell? ⟨W.β b, off, none⟩ = some c[off] := by rw [cell_of_heap k3]; exact hv
    simp [Instr.loadAt, Instr.sureAddr, loadVar, run_isAgg' ha, this]
  · intro b' gs hgs
    by_cases hbb : b' = b
    · subst hbb
      rw [List.getElem?_set_self hlt] at hgs
      simp only [Option.some.injEq] at hgs
      subst hgs
      refine ⟨hgo _ (k1.mono hE.toEvo0 rfl).1, k2, c, T, fz, k3, by rw [hgb]; simpa using k4, k5, fun i g v hg hv' => ?_⟩
      rw [hgb] at hg
      by_cases hio : i = off
      · subst hio
        rw [List.getElem?_set_self hol] at hg
        simp only [Option.some.injEq] at hg
        subst hg
        rw [hv] at hv'; simp only [Option.some.injEq] at hv'; subst hv'
        exact ⟨demote_leaf q1, (q2.rehome (r := .leaf b' i) (r' := .tmp d) (by simp)).demote⟩
      · rw [List.getElem?_set_ne (fun h => hio h.symm)] at hg
        exact ⟨(k6 i g v hg hv').1, (k6 i g v hg hv').2.mono hE (fun q j hq => by cases hq; simp; omega)⟩
    · rw [List.getElem?_set_ne (fun h => hbb h.symm)] at hgs
      obtain ⟨m1, m2, c₂, T₂, fz₂, m3, m4, m5, m6⟩ := hi.heap.box b' gs hgs
      exact ⟨(m1.mono hE.toEvo0 rfl).1, m2, c₂, T₂, fz₂, m3, m4, m5, fun i g v hg hv => ⟨(m6 i g v hg hv).1, (m6 i g v hg hv).2.mono hE (fun q j hq => by cases hq; simp; omega)⟩⟩
  · intro g ls hls j q' hq'
    obtain ⟨m1, m2, v, m3, m4⟩ := hi.heap.laid g ls hls j q' hq'
    exact ⟨m1, m2, v, m3, m4⟩
  · intro b' hb'
    obtain ⟨m1, m2⟩ := hi.heap.fresh b' hb'
    exact ⟨m1, by simp [Wd.rehome, m2]⟩
  · intro b' i k hb'
    rw [List.length_set]
    simp only [Wd.rehome] at hb'
    split at hb'
    · rename_i q k' hq
      simp only [Option.some.injEq, Prod.mk.injEq] at hb'
      obtain ⟨h1, rfl⟩ := hb'
      split at h1
      · simp at h1
      · subst h1; exact hi.heap.boxes _ _ _ hq
    · simp at hb'
  · rw [tmps_put (dst := some d) hd hi.size, get_put]
    split
    · rename_i hdt; simp only [Option.some.injEq] at hdt; subst hdt
      exact q2.rehomed (by simp)
    · exact (hi.env s).mono hE (fun q j hq => by cases hq; simp)
theorem step_loadmv (hi : Inv C nt e H a W) {d : Nat} (hd : d < nt) {t : TypeId} {x : Operand} {f : FV} {b off : Nat}
    (hx : rd C e x = some (.ptr b off)) (ha : aggOf C.P t = some false) (hf : (H.getD b [])[off]? = some f) :
    ∃ W' v, W'.w = W.w ∧ (Instr.loadAt t (a.eval x)).run C.P W.w = .ok v W.w ∧ Inv C nt (e.put (some d) f) (H.set b ((H.getD b []).set off (demote f))) (a.put (some d) v) W' ∧ Evo W W' (fun _ _ => False) := by
  obtain ⟨_, _, hrx⟩ := rd_sound hi hx
  have hbo := box_alive hrx
  have hxv := box_get hrx
  have hlt := hi.heap.boxes _ _ _ hbo
  rw [heap_get hlt] at hf ⊢
  obtain ⟨k0, k1, _, c, T, fz, _, k4, _, k6⟩ := hi.heap.box0 (List.getElem?_eq_getElem hlt) hbo
  have hin : ∀ (i : Nat) (g : FV), H[b][i]? = some g → g.isLeaf = true := fun i g hg => by
    have hlt' := (List.getElem?_eq_some_iff.1 hg).1
    exact (k6 i g c[i] hg (by simp [show i < c.size by omega])).1
  have hlf : ∀ (i : Nat) (g : FV), (H[b].set off (demote f))[i]? = some g → g.isLeaf = true := fun i g hg => by
    by_cases hio : i = off
    · subst hio
      rw [List.getElem?_set_self (List.getElem?_eq_some_iff.1 hf).1] at hg
      simp only [Option.some.injEq] at hg; subst hg
      exact demote_leaf (hin _ _ hf)
    · rw [List.getElem?_set_ne (fun h => hio h.symm)] at hg
      exact hin _ _ hg
  obtain ⟨q0, q1, q2⟩ := kind_leaf hlf
  exact loadmv_any hi hd hxv (List.getElem?_eq_getElem hlt) ha (by rw [k1]; exact hf) (by rw [k1, q1]) (fun W ho => ⟨by rw [q0, ← k0]; exact ho.1, q2 _ _⟩)
theorem step_loadmvRow (hi : Inv C nt e H a W) {d : Nat} (hd : d < nt) {t : TypeId} {x : Operand} {f : FV} {m : List FV} {b g off : Nat}
    (hx : rd C e x = some (.gp b g off)) (hb : rowOf H b = some (g, m)) (ha : aggOf C.P t = some false) (hf : m[off]? = some f) :
    ∃ W' v, W'.w = W.w ∧ (Instr.loadAt t (a.eval x)).run C.P W.w = .ok v W.w ∧ Inv C nt (e.put (some d) f) (H.set b [.row g (m.set off (demote f))]) (a.put (some d) v) W' ∧ Evo W W' (fun _ _ => False) := by
  obtain ⟨_, _, hrx⟩ := rd_sound hi hx
  obtain ⟨hxv, _, _⟩ := gp_get hi.heap hrx hb rfl
  obtain ⟨_, hfs, _⟩ := hi.heap.row hb
  exact loadmv_any hi hd hxv hfs ha hf rfl (fun W ho => ho)
theorem strip_rep {r : Option Root} {i : Nat} {f : FV} {v : Value} (h : FRep W r i f v) : FRep W r i (strip f) v ∧ (strip f).isTup = false := by
  cases h with
  | undef => exact ⟨.undef, rfl⟩
  | sc a b => exact ⟨.sc a b, rfl⟩
  | own a b => exact ⟨.own a b, rfl⟩
  | emp => exact ⟨.emp, rfl⟩
  | agg a b => exact ⟨.agg a b, rfl⟩
  | ptr a => exact ⟨.ptr a, rfl⟩
  | bs a n => exact ⟨.bs a n, rfl⟩
  | gr a n c => exact ⟨.gr a n c, rfl⟩
  | gp a c => exact ⟨.gp a c, rfl⟩
  | nilp => exact ⟨.nilp, rfl⟩
  | ea c a b d e g => exact ⟨.ea c a b d e g, rfl⟩
  | tup a b => exact ⟨.undef, rfl⟩
  | oagg a b => exact ⟨FRep.demoted a b, rfl⟩
  | fn a b c d => exact ⟨.fn a b c d, rfl⟩
  | ext a b => exact ⟨.ext a b, rfl⟩
  | exr => exact ⟨.exr, rfl⟩
  | exq => exact ⟨.exq, rfl⟩
theorem step_extractmv (hi : Inv C nt e H a W) {d : Nat} (hd : d < nt) {t i : Nat} {l : List FV} {f : FV} (hx : e.get t = .tup l) (hf : (l.map strip)[i]? = some f) :
    ∃ W' v, W'.w = W.w ∧ (Instr.extract (a.eval (.tmp t)) i).run C.P W.w = .ok v W.w ∧ Inv C nt (Env.put ((t, .tup ((l.map strip).set i .undef)) :: e) (some d) f.home) H (a.put (some d) v) W' ∧ Evo W W' (fun _ _ => False) := by
  have hr := hi.env t
  rw [hx] at hr
  generalize hv : a.tmps.getD t undef = v at hr
  cases hr with
  | @tup _ _ _ vs h1 h2 =>
    have hlt : i < l.length := by
      rcases Nat.lt_or_ge i l.length with h' | h'
      · exact h'
      · rw [List.getElem?_eq_none (by simpa using h')] at hf; simp at hf
    have hfi : f = strip l[i] := by
      rw [List.getElem?_map, List.getElem?_eq_getElem hlt] at hf
      simpa using hf.symm
    have hz : vs[i]? = some vs[i] := by simp [h1, hlt]
    obtain ⟨q1, q2⟩ := strip_rep (h2 i _ _ (List.getElem?_eq_getElem hlt) hz)
    rw [← hfi] at q1 q2
    have hE := Evo.rehome1 W (r := .tmp t) (i := i) (r' := .tmp d) (i' := 0) (by simp)
    refine ⟨W.rehome1 (.tmp t) i (.tmp d) 0, vs[i], rfl, ?_, ⟨hi.heap.evo hE.toEvo0 (by simp) rfl rfl rfl (fun b hb => by simp [Wd.rehome1, (hi.heap.fresh b hb).2]) (fun b j k hb => ?_) (fun b hb => by simp [Wd.rehome1, hb]), fun s => ?_, by rw [put_size]; exact hi.size, by rw [put_defers]; exact hi.defers⟩, hE.weaken (by simp)⟩
    · have : a.eval (.tmp t) = .tuple vs := hv
      rw [this]
      simp [Instr.extract, h1, hlt]
    · simp only [Wd.rehome1] at hb
      split at hb
      · simp at hb
      · exact hi.heap.boxes _ _ _ hb
    · rw [tmps_put (dst := some d) hd hi.size, get_put]
      split
      · rename_i hdt; simp only [Option.some.injEq] at hdt; subst hdt
        exact (q1.rehomed1 (by simp) q2).home
      · simp only [Env.get]
        split
        · rename_i hts; subst hts
          rw [hv]
          refine .tup (by simpa using h1) fun j g u hg hu => ?_
          by_cases hj : j = i
          · subst hj
            rw [List.getElem?_set_self (by simpa using hlt)] at hg
            simp only [Option.some.injEq] at hg; subst hg
            exact .undef
          · rw [List.getElem?_set_ne (fun h => hj h.symm), List.getElem?_map, Option.map_eq_some_iff] at hg
            obtain ⟨g', hg', rfl⟩ := hg
            obtain ⟨p1, p2⟩ := strip_rep (h2 j g' u hg' hu)
            exact p1.mono1 hE p2 (fun q hq => by cases hq; simp [hj])
        · rename_i hts
          exact (hi.env s).mono hE (fun q j hq => by cases hq; simp; intro h; exact absurd h.symm hts)
end
end Go.Proofs.YtlbjfjaleefiiaaDoor.Ev
end
section
namespace Go.Proofs.YtlbjfjaleefiiaaDoor.Ev
open Go
structure RowCells (W : Wd) (s : Nat) (l : List PV) (cs : Array Value) : Prop where
  size : cs.size = l.length * s
  cell : ∀ (i j : Nat) (p q : PV), l[i]? = some p → p.leaves[j]? = some q → ∃ c, cs[i * s + j]? = some c ∧ q.isLeaf = true ∧ Rep W.w W.lim q c
  sized : ∀ (i : Nat) (p : PV), l[i]? = some p → p.leaves.length = s
theorem RowCells.one {W : Wd} {s : Nat} {l : List PV} {cs : Array Value} (h : RowCells W s l cs) (hs : 0 < s) : ∀ v ∈ cs.toList, v.oneCell' = true := by
  intro v hv
  obtain ⟨k, hk⟩ := List.getElem?_of_mem hv
  have hkl : k < cs.size := by
    rcases Nat.lt_or_ge k cs.size with h' | h'
    · exact h'
    · rw [List.getElem?_eq_none (by simpa using h')] at hk; simp at hk
  rw [h.size] at hkl
  have hi : k / s < l.length := Nat.div_lt_of_lt_mul (by rw [Nat.mul_comm]; exact hkl)
  have hj : k % s < s := Nat.mod_lt _ hs
  have e1 := List.getElem?_eq_getElem hi
  have e2 := h.sized _ _ e1
  have e3 := List.getElem?_eq_getElem (l := l[k / s].leaves) (i := k % s) (by omega)
  obtain ⟨c, h1, h2, h3⟩ := h.cell _ _ _ _ e1 e3
  have : k / s * s + k % s = k := by rw [Nat.mul_comm]; exact Nat.div_add_mod k s
  rw [this] at h1
  have : v = c := by
    have hk' : cs[k]? = some v := by simpa using hk
    rw [h1] at hk'; simpa using hk'.symm
  subst this
  exact (h3.leafValue h2).1
theorem RowCells.mono {A B : Wd} {keep : Root → Nat → Prop} (hE : Evo A B keep) {s : Nat} {l : List PV} {cs : Array Value} (h : RowCells A s l cs) : RowCells B s l cs :=
  ⟨h.size, fun i j p q hp hq => let ⟨c, h1, h2, h3⟩ := h.cell i j p q hp hq; ⟨c, h1, h2, h3.mono hE.cell hE.lim⟩, h.sized⟩
theorem RowCells.append {W : Wd} {s : Nat} {l r : List PV} {cs ds : Array Value} (h : RowCells W s l cs) (k : RowCells W s r ds) : RowCells W s (l ++ r) (cs ++ ds) where
  size := by simp [h.size, k.size, Nat.add_mul]
  cell i j p q hp hq := by
    rcases Nat.lt_or_ge i l.length with hi | hi
    · rw [List.getElem?_append_left hi] at hp
      obtain ⟨c, h1, h2, h3⟩ := h.cell i j p q hp hq
      refine ⟨c, ?_, h2, h3⟩
      have : i * s + j < cs.size := by
        rcases Nat.lt_or_ge (i * s + j) cs.size with h' | h'
        · exact h'
        · simp [Array.getElem?_eq_none h'] at h1
      rw [Array.getElem?_append_left this]
      exact h1
    · rw [List.getElem?_append_right hi] at hp
      obtain ⟨c, h1, h2, h3⟩ := k.cell _ j p q hp hq
      refine ⟨c, ?_, h2, h3⟩
      have e : i * s = l.length * s + (i - l.length) * s := by rw [← Nat.add_mul]; congr 1; omega
      rw [Array.getElem?_append_right (by rw [h.size]; omega), h.size]
      rw [← h1]; congr 1; omega
  sized i p hp := by
    rcases Nat.lt_or_ge i l.length with hi | hi
    · rw [List.getElem?_append_left hi] at hp; exact h.sized i p hp
    · rw [List.getElem?_append_right hi] at hp; exact k.sized _ p hp
theorem RowCells.rep {W : Wd} {s : Nat} {l : List PV} {cs : Array Value} (h : RowCells W s l cs) (hs : 0 < s) {A : Addr} {cap : Nat} (hA : A.spot = none) (hl : A.off + l.length * s ≤ W.lim A.block)
    (hc : ∀ k, k < cs.size → W.w.cell? ⟨A.block, A.off + k, none⟩ = cs[k]?) (hcap : l.length ≤ cap) : Rep W.w W.lim (.sl l) (.slice (some A) l.length cap) := by
  have hb : ∀ (i j : Nat) (p q : PV), l[i]? = some p → p.leaves[j]? = some q → i * s + j < l.length * s := fun i j p q hp hq => by
    have h1 := h.sized i p hp
    have h2 : j < s := by
      rcases Nat.lt_or_ge j p.leaves.length with h' | h'
      · omega
      · simp [List.getElem?_eq_none h'] at hq
    have h3 : i < l.length := by
      rcases Nat.lt_or_ge i l.length with h' | h'
      · exact h'
      · simp [List.getElem?_eq_none h'] at hp
    have : (i + 1) * s ≤ l.length * s := Nat.mul_le_mul_right s h3
    rw [Nat.add_mul] at this
    omega
  refine .sl (fun i j => cs[i * s + j]?.getD default) rfl hA hs h.sized (fun i j p q hp hq => ?_) (fun i j p q hp hq => ?_) (fun i j p q hp hq => ?_) (fun i j p q hp hq => ?_) hcap
  · have := hb i j p q hp hq; omega
  · have := hb i j p q hp hq
    obtain ⟨c, h1, _⟩ := h.cell i j p q hp hq
    rw [hc _ (by rw [h.size]; exact this), h1]; rfl
  · exact (h.cell i j p q hp hq).choose_spec.2.1
  · obtain ⟨c, h1, _, h3⟩ := h.cell i j p q hp hq
    rw [h1]; exact h3
theorem row_sound {P : Program} {W : Wd} {r : Option Root} {i m : Nat} {f : FV} {v : Value} {l : List PV} (h : FRep W r i f v) (hl : f.asRow = some l) (hz : Sized (m + 1) l) :
    ∃ cs, (Builtin.lenOf v).run P W.w = .ok l.length W.w ∧ (Builtin.firstCells (m + 1) l.length v).run P W.w = .ok cs W.w ∧ RowCells W (m + 1) l cs ∧
      (∀ A n cap, v = .slice (some A) n cap → ∀ k, k < cs.size → W.w.cell? ⟨A.block, A.off + k, none⟩ = cs[k]?) := by
  have hsz : ∀ (i : Nat) (p : PV), l[i]? = some p → p.leaves.length = m + 1 := fun i p hp => hz p (List.mem_of_getElem? hp)
  have hnil : RowCells W (m + 1) [] #[] := ⟨by simp, by simp, by simp⟩
  have hsl : ∀ {a : Option Addr} {n cap : Nat}, Rep W.w W.lim (.sl l) (.slice a n cap) → ∃ cs, (Builtin.lenOf (.slice a n cap)).run P W.w = .ok l.length W.w ∧ (Builtin.firstCells (m + 1) l.length (.slice a n cap)).run P W.w = .ok cs W.w ∧ RowCells W (m + 1) l cs ∧
      (∀ A n' cap', Value.slice a n cap = .slice (some A) n' cap' → ∀ k, k < cs.size → W.w.cell? ⟨A.block, A.off + k, none⟩ = cs[k]?) := by
    intro a n cap hr
    cases hr with
    | nil =>
      refine ⟨#[], rfl, ?_, hnil, by simp⟩
      cases a <;> simp [Builtin.firstCells, loadCells, loadCellsFrom]
    | @sl _ A _ sz _ c h0 h1 h2 h3 h4 h5 h6 h7 h8 =>
      subst h0
      by_cases hl0 : l = []
      · subst hl0
        exact ⟨#[], rfl, by simp [Builtin.firstCells, loadCells, loadCellsFrom], hnil, by simp⟩
      · have hlt : 0 < l.length := List.length_pos_iff.2 hl0
        have hszz : sz = m + 1 := by rw [← h3 0 _ (List.getElem?_eq_getElem hlt), hsz 0 _ (List.getElem?_eq_getElem hlt)]
        subst hszz
        have hcell : ∀ k, k < l.length * (m + 1) → W.w.cell? (A.add k) = some (c (k / (m + 1)) (k % (m + 1))) := fun k hk => by
          have hi : k / (m + 1) < l.length := Nat.div_lt_of_lt_mul (by rw [Nat.mul_comm]; exact hk)
          have hj : k % (m + 1) < m + 1 := Nat.mod_lt _ (by omega)
          have e1 := List.getElem?_eq_getElem hi
          have e3 := List.getElem?_eq_getElem (l := l[k / (m + 1)].leaves) (i := k % (m + 1)) (by have := hsz _ _ e1; omega)
          have := h5 _ _ _ _ e1 e3
          rw [show k / (m + 1) * (m + 1) + k % (m + 1) = k by rw [Nat.mul_comm]; exact Nat.div_add_mod k (m + 1)] at this
          rw [Addr.add_none h1]
          exact this
        have hlc := run_loadCells' (P := P) (w := W.w) (A := A) (fun k => c (k / (m + 1)) (k % (m + 1))) (n := l.length * (m + 1)) hcell
        refine ⟨_, rfl, by simp only [Builtin.firstCells]; exact hlc, ⟨by simp, fun i j p q hp hq => ⟨c i j, ?_, h6 i j p q hp hq, h7 i j p q hp hq⟩, hsz⟩, fun B n' cap' hB k hk => by
          simp only [Value.slice.injEq, Option.some.injEq] at hB
          obtain ⟨rfl, _, _⟩ := hB
          simp only [List.size_toArray, List.length_map, List.length_range] at hk
          have := hcell k hk
          rw [Addr.add_none h1] at this
          rw [this]
          simp [hk]⟩
        have hj : j < m + 1 := by
          rcases Nat.lt_or_ge j p.leaves.length with h' | h'
          · have := hsz i p hp; omega
          · simp [List.getElem?_eq_none h'] at hq
        have hi : i < l.length := by
          rcases Nat.lt_or_ge i l.length with h' | h'
          · exact h'
          · simp [List.getElem?_eq_none h'] at hp
        have hlt' : i * (m + 1) + j < l.length * (m + 1) := by
          have : (i + 1) * (m + 1) ≤ l.length * (m + 1) := Nat.mul_le_mul_right _ hi
          rw [Nat.add_mul] at this
          omega
        have e1 : (i * (m + 1) + j) / (m + 1) = i := by
          rw [Nat.mul_comm, Nat.mul_add_div (by omega), Nat.div_eq_of_lt hj]; rfl
        have e2 : (i * (m + 1) + j) % (m + 1) = j := by
          rw [Nat.mul_comm, Nat.mul_add_mod, Nat.mod_eq_of_lt hj]
        simp [hlt', e1, e2]
  cases h with
  | own hr hs => simp [FV.asRow] at hl; subst hl; exact hsl hr
  | emp => simp [FV.asRow] at hl; subst hl; exact hsl .nil
  | @sc _ _ p v hp hr =>
    cases p with
    | sl l' =>
      simp [FV.asRow] at hl; subst hl
      cases hr with
      | nil => exact hsl .nil
      | sl c h0 h1 h2 h3 h4 h5 h6 h7 h8 => exact hsl (.sl c h0 h1 h2 h3 h4 h5 h6 h7 h8)
    | str s =>
      simp [FV.asRow] at hl; subst hl
      cases hr
      have hm : s.size ≠ 0 → m = 0 := fun h0 => by
        have hlt : 0 < (bytesPV s).length := by simp [bytesPV]; omega
        have := hsz 0 _ (List.getElem?_eq_getElem hlt)
        simp [bytesPV, PV.leaves] at this
        omega
      refine ⟨s.data.map fun b => .int .u8 b.toNat, by simp [Builtin.lenOf, bytesPV], ?_, ⟨?_, fun i j p q hp hq => ?_, hsz⟩, by simp⟩
      · simp only [Builtin.firstCells, bytesPV, List.length_map, Array.length_toList, Sem.run_pure]
        congr 2
        have : s.extract 0 s.data.size = s := by
          apply ByteArray.ext
          simp
        rw [this]
      · simp [bytesPV]
        by_cases h0 : s.size = 0
        · simp [h0]
        · rw [hm h0]; simp
      · simp only [bytesPV, List.getElem?_map, Option.map_eq_some_iff] at hp
        obtain ⟨b, hb, rfl⟩ := hp
        have hlt : i < s.data.size := by
          rcases Nat.lt_or_ge i s.data.toList.length with h' | h'
          · simpa using h'
          · simp [List.getElem?_eq_none h'] at hb
        have h0 : m = 0 := hm (by have : s.size = s.data.size := rfl; omega)
        subst h0
        cases j with
        | succ j => simp [PV.leaves] at hq
        | zero =>
          simp [PV.leaves] at hq; subst hq
          refine ⟨.int .u8 b.toNat, ?_, rfl, .int⟩
          simp only [Nat.zero_add, Nat.mul_one, Nat.add_zero, Array.getElem?_map]
          rw [← Array.getElem?_toList, hb]; rfl
    | _ => simp [FV.asRow] at hl
  | _ => simp [FV.asRow] at hl
end Go.Proofs.YtlbjfjaleefiiaaDoor.Ev
end
section
namespace Go.Proofs.YtlbjfjaleefiiaaDoor.Ev
open Go
section
variable {C : Ctx} {nt : Nat} {e : Env} {H : Heap} {a : Act} {W : Wd}
theorem growBy_le (n : Nat) : ∀ (k c : Nat), c ≤ 2 * n + 256 → Builtin.growBy n k c ≤ 2 * n + 256
  | 0, c, h => h
  | k + 1, c, h => by
    unfold Builtin.growBy
    split
    · exact h
    · exact growBy_le n k _ (by omega)
theorem nextcap_le {n c : Nat} (h : c < n) : Builtin.nextslicecap n c ≤ 2 * n + 256 := by
  unfold Builtin.nextslicecap
  split
  · omega
  · split
    · omega
    · exact growBy_le n 4 c (by omega)
def Wd.drew (W : Wd) : Wd := { W with w := W.w.drew }
theorem Evo.drew (W : Wd) (keep : Root → Nat → Prop) : Evo W W.drew keep :=
  Evo.of rfl rfl rfl (Nat.le_refl _) (fun _ _ _ => rfl) (fun _ => Nat.le_refl _) (fun _ c _ _ h => ⟨c, h, rfl⟩) (fun _ _ _ h _ => ⟨h, rfl⟩) (fun _ _ h h' => ⟨h', h⟩) (fun _ => ⟨Nat.le_refl _, fun _ h => ⟨rfl, h⟩⟩) (fun _ _ h => ⟨rfl, rfl, h⟩)
theorem HInv.drew {H : Heap} {W : Wd} (h : HInv C H W) : HInv C H W.drew where
  box b fs hfs := by
    obtain ⟨h1, h2, c, T, fz, h3, h4, h5, h6⟩ := h.box b fs hfs
    exact ⟨h1, h2, c, T, fz, h3, h4, h5, fun i f v hf hv => ⟨(h6 i f v hf hv).1, (h6 i f v hf hv).2.mono (Evo.drew W (fun _ _ => True)) (by simp)⟩⟩
  laid g ls hls j q hq := by
    obtain ⟨h1, h2, v, h3, h4⟩ := h.laid g ls hls j q hq
    exact ⟨h1, h2, v, h3, h4.mono (Evo.drew W (fun _ _ => True)).cell (Evo.drew W (fun _ _ => True)).lim⟩
  fresh := h.fresh
  boxes := h.boxes
  gen0 := h.gen0
  kept := h.kept.evo (Evo.drew W (fun _ _ => True))
theorem run_zeroCells {z : Array Value} {m n : Nat} (h : z.size = m) : (Builtin.zeroCells z n).size = n * m := by
  simp [Builtin.zeroCells, h]
theorem grow_from {P : Program} {W : Wd} {root : Root} (hroot : ∀ b, root ≠ .box b) (hroot' : ∀ b i, root ≠ .leaf b i) (hH : HInv C H W) {l r : List PV} {v u : Value} {tyId t ut el : TypeId} {ud : TypeDesc} {ts : Array TypeId} {m bs : Nat} {z : Value}
    (hv : FRep W (some root) 0 (.own l) v) (hs1 : ∃ ns, (Builtin.lenOf u).run P W.w = .ok r.length W.w ∧ (Builtin.firstCells (m + 1) r.length u).run P W.w = .ok ns W.w ∧ RowCells W (m + 1) r ns) (hs2 : ∃ ns, (Builtin.firstCells (m + 1) r.length u).run P W.drew.w = .ok ns W.drew.w ∧ RowCells W.drew (m + 1) r ns) (ht : ts[0]? = some t) (ht' : ts[1]? = some ut) (hud : P.underlying ut = some ud) (hni : ∀ k, ud ≠ .int k)
    (hel : P.underlying t = some (.slice el)) (hsz : szOf P el = some (m + 1)) (hz : zeroOf P el = some z) (hzs : z.cells.size = m + 1) (hbs : bytesOf P el = some bs) (hb0 : 0 < bs) (hb1 : bs ≤ 256)
    (hl : Sized (m + 1) l) (hr : Sized (m + 1) r) (hle : l.length + r.length ≤ lenMax) :
    ∃ W' x, (Builtin.append_ ts tyId #[v, u]).run P W.w = .ok x W'.w ∧ FRep W' (some root) 0 (.own (l ++ r)) x ∧ HInv C H W' ∧ Evo W W' (fun q _ => q ≠ root) := by
  obtain ⟨ns, hns1, hns2, hns3⟩ := hs1
  obtain ⟨os, hos1, hos2, hos3, hos4⟩ := row_sound (P := P) hv (show (FV.own l).asRow = some l from rfl) hl
  have hi : ∃ i, P.info? el = some i ∧ i.bytes = bs := by
    unfold bytesOf at hbs
    exact Option.map_eq_some_iff.1 hbs
  obtain ⟨inf, hinf, hinfb⟩ := hi
  have hDv := hv.mono (Evo.drew W (fun _ _ => True)) (by simp)
  cases hv with
  | @own _ _ _ A len cap hrep hsp =>
    have hlen := hrep.length
    have hlc := hrep.head
    subst hlen
    have e0 : (#[Value.slice A l.length cap, u] : Array Value)[0]? = some (.slice A l.length cap) := rfl
    have e1 : (#[Value.slice A l.length cap, u] : Array Value)[1]? = some u := rfl
    unfold Builtin.append_
    simp only [ht, e0, e1, ht', Sem.run_bind, run_underlying' hel, run_underlying' hud, Result.andThen_ok, run_sizeOf' hsz, Sem.run_pure, Bool.false_eq_true, if_false, hns1]
    by_cases hneed : l.length + r.length ≤ cap
    · rw [if_pos hneed]
      simp only [Bool.not_false, if_true, Sem.run_bind, hns2, Result.andThen_ok]
      by_cases hr0 : r = []
      · subst hr0
        have hn0 : ns.toList = [] := by
          have := hns3.size; simp at this; simp [this]
        refine ⟨W, .slice A l.length cap, ?_, by rw [List.append_nil]; exact .own hrep hsp, hH, Evo.refl _ _⟩
        cases A <;> simp [hn0, storeCells]
      · have hrl : 0 < r.length := List.length_pos_iff.2 hr0
        rcases hsp with hsp | ⟨e₀, x, c, T, fz, h0, rfl, h2, h3, h4, h5, h6, h7, h8⟩
        · omega
        · have hz0 : e₀.leaves.length = m + 1 := hl _ (List.mem_of_getElem? h0)
          rw [hz0] at h7 h8
          simp only [Option.map_some] at h4
          have hmul : (l.length + r.length) * (m + 1) ≤ cap * (m + 1) := Nat.mul_le_mul_right _ hneed
          rw [Nat.add_mul] at hmul
          have hnl : ns.toList.length = r.length * (m + 1) := by simp [hns3.size]
          obtain ⟨w', c', r1, r2, r3, r4, r5, r6, r7, r8, r9⟩ := run_storeCells_at' (P := P) (A := x.add (l.length * (m + 1))) (by rw [Addr.add_none h2]) ns.toList 0 W.w c T fz (by rw [Addr.add_none h2]; exact h5) (by rw [Addr.add_none h2, hnl]; simp only; omega) h6 (hns3.one (by omega))
          simp only [Addr.add_none h2, hnl, Nat.add_zero] at r2 r4 r5
          have hE : Evo W { W with w := w', lim := fun b => if b = x.block then x.off + (l.length + r.length) * (m + 1) else W.lim b } (fun q _ => q ≠ root) := by
            refine Evo.of r7 r8 r9 (by simp only [r6]; exact Nat.le_refl _) (fun b' o' ho' => ?_) (fun b' => ?_) (fun b' c₀ T₀ fz₀ hb' => ?_) (fun b' q i h hq => ?_) (fun b' i h h' => ⟨h', h⟩) (fun _ => ⟨Nat.le_refl _, fun _ h => ⟨rfl, h⟩⟩) (fun b' _ hb' => ?_)
            · by_cases hbb : b' = x.block
              · subst hbb
                rw [h8] at ho'
                rw [cell_of_heap r2, cell_of_heap h5, r4, if_neg (by omega)]
              · simp only [World.cell?, r5 b' hbb]
            · simp only
              split
              · subst_vars; rw [h8, Nat.add_mul]; omega
              · exact Nat.le_refl _
            · by_cases hbb : b' = x.block
              · subst hbb
                rw [h5] at hb'
                simp only [Option.some.injEq, Obj.cells.injEq] at hb'
                obtain ⟨rfl, rfl, rfl⟩ := hb'
                exact ⟨c', r2, r3⟩
              · exact ⟨c₀, by simp only; rw [r5 b' hbb]; exact hb', rfl⟩
            · have : b' ≠ x.block := fun hh => by rw [hh, h4] at h; simp at h; exact hq h.1.symm
              exact ⟨h, by simp only; rw [if_neg this]⟩
            · have : b' ≠ x.block := fun hh => by rw [hh, h4] at hb'; simp at hb'
              exact ⟨by simp only; rw [r5 b' this], by simp only; rw [if_neg this], hb'⟩
          refine ⟨_, .slice (some x) (l.length + r.length) cap, ?_, ?_, ?_, hE⟩
          · simp only [Sem.run_bind, r1, Result.andThen_ok, Sem.run_pure]
          · have hrc := (hos3.append hns3).mono hE
            have := hrc.rep (by omega) (A := x) (cap := cap) h2 (by simp) (fun k hk => by
              simp only [Array.size_append, hos3.size, hns3.size] at hk
              simp only
              rw [cell_of_heap r2, r4]
              by_cases hkl : k < l.length * (m + 1)
              · rw [if_neg (by omega), Array.getElem?_append_left (by rw [hos3.size]; exact hkl), ← hos4 x _ _ rfl k (by rw [hos3.size]; exact hkl), cell_of_heap h5]
              · rw [if_pos (by omega), Array.getElem?_append_right (by rw [hos3.size]; omega), hos3.size, Array.getElem?_toList]
                congr 1; omega) (by simpa using hneed)
            rw [List.length_append] at this
            refine .own this (.inr ⟨e₀, x, c', T, fz, ?_, rfl, h2, by simp, by simpa using h4, r2, by rw [r3]; exact h6, by rw [r3, hz0]; exact h7, by simp [hz0]⟩)
            rw [List.getElem?_append_left]
            · exact h0
            · rcases Nat.lt_or_ge 0 l.length with h' | h'
              · exact h'
              · rw [List.getElem?_eq_none h'] at h0; simp at h0
          · constructor
            · intro b fs hfs
              obtain ⟨m1, m2, c₂, T₂, fz₂, m3, m4, m5, m6⟩ := hH.box b fs hfs
              have hne : W.β b ≠ x.block := fun h => by
                have q := m1.1
                rw [h, h4] at q
                simp at q
                exact hroot _ q.1
              refine ⟨m1, by simp only; rw [if_neg hne]; exact m2, c₂, T₂, fz₂, by simp only; rw [r5 _ hne]; exact m3, m4, m5, fun i g v hg hv => ⟨(m6 i g v hg hv).1, (m6 i g v hg hv).2.mono hE (fun q j hq => by cases hq; exact (hroot' _ _).symm)⟩⟩
            · intro g ls hls j q' hq'
              obtain ⟨m1, m2, v, m3, m4⟩ := hH.laid g ls hls j q' hq'
              exact ⟨m1, Nat.lt_of_lt_of_le m2 (hE.lim g), v, by rw [hE.cell _ _ m2]; exact m3, m4.mono hE.cell hE.lim⟩
            · intro b hb
              simp only [r6] at hb
              obtain ⟨q1, q2⟩ := hH.fresh b hb
              have hne : b ≠ x.block := fun h => by rw [h, h4] at q2; simp at q2
              exact ⟨by simp only; rw [if_neg hne]; exact q1, q2⟩
            · exact hH.boxes
            · exact hH.gen0
            · exact hH.kept.evo hE
    · rw [if_neg hneed]
      obtain ⟨ns', hns2', hns3'⟩ := hs2
      obtain ⟨os', _, hos2', hos3', _⟩ := row_sound (P := P) hDv (show (FV.own l).asRow = some l from rfl) hl
      have hcapb := nextcap_le (n := l.length + r.length) (c := cap) (by omega)
      have hlim : l.length + r.length ≤ 137438953472 := hle
      have hnr : ¬ (Builtin.nextslicecap (l.length + r.length) cap * bs > 2 ^ 48) := by
        have : Builtin.nextslicecap (l.length + r.length) cap * bs ≤ (2 * (l.length + r.length) + 256) * 256 := Nat.mul_le_mul hcapb hb1
        omega
      have hforced : (Question.appendCap (l.length + r.length) cap el).forced = false := rfl
      have hch : (choose (.appendCap (l.length + r.length) cap el)).run P W.w = .ok ((Question.appendCap (l.length + r.length) cap el).cut (W.w.tape W.w.drawn (.appendCap (l.length + r.length) cap el))) W.drew.w := by
        simp [hforced, Wd.drew]
      generalize hN : (Question.appendCap (l.length + r.length) cap el).cut (W.w.tape W.w.drawn (.appendCap (l.length + r.length) cap el)) = N at hch
      have hNge : l.length + r.length ≤ N := by rw [← hN]; simp [Question.cut]
      simp only [Bool.not_false, if_true, Sem.run_bind, run_typeInfo' hinf, Result.andThen_ok, hinfb, false_or]
      rw [if_neg (by omega)]
      simp only [Sem.run_bind, run_typeInfo' hinf, Result.andThen_ok, hinfb]
      rw [if_neg hnr]
      simp only [Sem.run_bind, hch, Result.andThen_ok, run_typeInfo' hinf, run_askRoom, hos2', hns2', run_zeroValue' hz, newRow, run_newObj, Sem.run_pure, World.alloc_eq]
      generalize hR : Builtin.zeroCells z.cells (N - (l.length + r.length)) = rest
      have hRs : rest.size = (N - (l.length + r.length)) * (m + 1) := by rw [← hR]; exact run_zeroCells hzs
      have hHd := hH.drew
      have hE2 := Evo.more (W := W.drew) hHd.toFresh (.cells (os' ++ ns' ++ rest) el) (some (root, 0)) ((l.length + r.length) * (m + 1)) (β := W.drew.β) (fun _ _ _ _ => rfl)
      have hE : Evo W (W.drew.more (.cells (os' ++ ns' ++ rest) el) (some (root, 0)) ((l.length + r.length) * (m + 1)) W.drew.β) (fun q _ => q ≠ root) := ((Evo.drew W (fun _ _ => True)).trans hE2).weaken (by simp)
      refine ⟨_, _, rfl, ?_, hHd.more _ _ _ (by simp; exact fun i => hroot i), hE⟩
      have hrc := (hos3'.append hns3').mono hE2
      have hcs : (os' ++ ns' ++ rest).size = N * (m + 1) := by
        simp only [Array.size_append, hos3'.size, hns3'.size, hRs]
        rw [← Nat.add_mul, ← Nat.add_mul]
        congr 1; omega
      have hheap : (W.drew.more (.cells (os' ++ ns' ++ rest) el) (some (root, 0)) ((l.length + r.length) * (m + 1)) W.drew.β).w.heap[W.drew.w.heap.size]? = some (.cells (os' ++ ns' ++ rest) el (0, 0)) := heap_alloc_new
      have := hrc.rep (by omega) (A := ⟨W.drew.w.heap.size, 0, none⟩) (cap := N) rfl (by simp [Wd.more]) (fun k hk => by
        simp only [Nat.zero_add]
        rw [cell_of_heap hheap, Array.getElem?_append_left hk]) (by simpa using hNge)
      rw [List.length_append] at this
      have hne : (l ++ r) ≠ [] := by intro h; simp at h; obtain ⟨rfl, rfl⟩ := h; simp at hneed
      obtain ⟨e₀, t₀, he⟩ := List.exists_cons_of_ne_nil hne
      have hz0 : e₀.leaves.length = m + 1 := by
        have : e₀ ∈ l ++ r := by rw [he]; simp
        rcases List.mem_append.1 this with h | h
        · exact hl _ h
        · exact hr _ h
      refine .own this (.inr ⟨e₀, _, _, _, _, by rw [he]; rfl, rfl, rfl, by simp, by simp [Wd.more], hheap, fun _ _ => by simp, ?_, ?_⟩)
      · rw [hz0, hcs]; simp
      · rw [hz0]; simp [Wd.more]
theorem grow_sound {P : Program} {W : Wd} {root : Root} (hroot : ∀ b, root ≠ .box b) (hroot' : ∀ b i, root ≠ .leaf b i) (hH : HInv C H W) {l r : List PV} {v u : Value} {tyId t ut el : TypeId} {ud : TypeDesc} {ts : Array TypeId} {m bs : Nat} {z : Value} {g : FV} {rg : Option Root} {ig : Nat}
    (hv : FRep W (some root) 0 (.own l) v) (hu : FRep W rg ig g u) (hg : g.asRow = some r) (ht : ts[0]? = some t) (ht' : ts[1]? = some ut) (hud : P.underlying ut = some ud) (hni : ∀ k, ud ≠ .int k)
    (hel : P.underlying t = some (.slice el)) (hsz : szOf P el = some (m + 1)) (hz : zeroOf P el = some z) (hzs : z.cells.size = m + 1) (hbs : bytesOf P el = some bs) (hb0 : 0 < bs) (hb1 : bs ≤ 256)
    (hl : Sized (m + 1) l) (hr : Sized (m + 1) r) (hle : l.length + r.length ≤ lenMax) :
    ∃ W' x, (Builtin.append_ ts tyId #[v, u]).run P W.w = .ok x W'.w ∧ FRep W' (some root) 0 (.own (l ++ r)) x ∧ HInv C H W' ∧ Evo W W' (fun q _ => q ≠ root) := by
  obtain ⟨ns, h1, h2, h3, _⟩ := row_sound (P := P) hu hg hr
  obtain ⟨ns', _, h2', h3', _⟩ := row_sound (P := P) (hu.mono (Evo.drew W (fun _ _ => True)) (by simp)) hg hr
  exact grow_from hroot hroot' hH hv ⟨ns, h1, h2, h3⟩ ⟨ns', h2', h3'⟩ ht ht' hud hni hel hsz hz hzs hbs hb0 hb1 hl hr hle
end
end Go.Proofs.YtlbjfjaleefiiaaDoor.Ev
end
section
namespace Go.Proofs.YtlbjfjaleefiiaaDoor.Ev
open Go
section
variable {C : Ctx} {nt : Nat} {e : Env} {H : Heap} {a : Act} {W : Wd}
theorem leafPV_rep {r : Option Root} {i : Nat} {g : FV} {v : Value} {q : PV} (h : FRep W r i g v) (hq : g.leafPV = some q) : q.isLeaf = true ∧ Rep W.w W.lim q v := by
  cases h with
  | sc a b => simp [FV.leafPV] at hq; subst hq; exact ⟨a, b⟩
  | own a b => simp [FV.leafPV] at hq; subst hq; exact ⟨rfl, a⟩
  | emp => simp [FV.leafPV] at hq; subst hq; exact ⟨rfl, .nil⟩
  | _ => simp [FV.leafPV] at hq
theorem allPV_get : ∀ {l : List FV} {ps : List PV}, allPV l = some ps → ps.length = l.length ∧ ∀ (j : Nat) (q : PV), ps[j]? = some q → ∃ g, l[j]? = some g ∧ g.leafPV = some q
  | [], ps, h => by simp [allPV] at h; subst h; simp
  | f :: l, ps, h => by
    unfold allPV at h
    split at h
    · rename_i p q hp hq
      simp at h; subst h
      obtain ⟨h1, h2⟩ := allPV_get hq
      refine ⟨by simp [h1], fun j x hx => ?_⟩
      cases j with
      | zero => simp at hx; subst hx; exact ⟨f, rfl, hp⟩
      | succ j => exact h2 j x (by simpa using hx)
    · simp at h
theorem toPV_cells {r : Option Root} {i : Nat} {f : FV} {v : Value} {p : PV} (h : FRep W r i f v) (hp : f.toPV = some p) :
    ∃ c, f.cells = some c ∧ c.length = p.leaves.length ∧ ∀ (j : Nat) (q : PV), p.leaves[j]? = some q → ∃ g, c[j]? = some g ∧ g.leafPV = some q := by
  cases h with
  | agg a b =>
    simp only [FV.toPV, Option.map_eq_some_iff] at hp
    obtain ⟨ps, hps, rfl⟩ := hp
    obtain ⟨h1, h2⟩ := allPV_get hps
    exact ⟨_, rfl, h1.symm, h2⟩
  | @sc _ _ q v hq hr =>
    simp [FV.toPV, FV.leafPV] at hp; subst hp
    refine ⟨_, rfl, by cases q <;> simp_all [PV.isLeaf, PV.leaves], fun j x hx => ?_⟩
    have : q.leaves = [q] := by cases q <;> simp_all [PV.isLeaf, PV.leaves]
    rw [this] at hx
    cases j <;> simp at hx
    subst hx
    exact ⟨_, rfl, rfl⟩
  | own a b =>
    simp [FV.toPV, FV.leafPV] at hp; subst hp
    refine ⟨_, rfl, rfl, fun j x hx => ?_⟩
    cases j <;> simp [PV.leaves] at hx
    subst hx
    exact ⟨_, rfl, rfl⟩
  | emp =>
    simp [FV.toPV, FV.leafPV] at hp; subst hp
    refine ⟨_, rfl, rfl, fun j x hx => ?_⟩
    cases j <;> simp [PV.leaves] at hx
    subst hx
    exact ⟨_, rfl, rfl⟩
  | _ => simp [FV.toPV, FV.leafPV] at hp
theorem fillOf_row {s : Nat} : ∀ (ps : List (Nat × FV)) (k : Nat) (pre : List FV), (∀ (j : Nat) (p : Nat × FV), ps[j]? = some p → p.1 = k + j ∧ ∃ c, p.2.cells = some c ∧ c.length = s) → pre.length = k * s →
    ∃ r, fillOf (fun i => some (i * s, s)) (pre ++ List.replicate (ps.length * s) .undef) ps = some r ∧ r.length = pre.length + ps.length * s ∧ (∀ i, i < pre.length → r[i]? = pre[i]?) ∧
      ∀ (j : Nat) (p : Nat × FV) (c : List FV) (x : Nat) (g : FV), ps[j]? = some p → p.2.cells = some c → c[x]? = some g → r[(k + j) * s + x]? = some g
  | [], k, pre, _, _ => ⟨pre, by simp [fillOf], by simp, fun _ _ => rfl, by simp⟩
  | (i, f) :: ps, k, pre, hp, hpre => by
    obtain ⟨h1, c, hc, hcl⟩ := hp 0 _ rfl
    simp only [Nat.add_zero] at h1
    subst h1
    simp only at hc
    obtain ⟨r, h2, h3, h4, h5⟩ := fillOf_row ps (i + 1) (pre ++ c) (fun j p hj => by
      obtain ⟨q1, q2⟩ := hp (j + 1) p (by simpa using hj)
      exact ⟨by omega, q2⟩) (by rw [List.length_append, hpre, hcl, Nat.add_mul]; omega)
    have hlen : (((i, f) :: ps).length * s) = s + ps.length * s := by simp [Nat.add_mul]; omega
    refine ⟨r, ?_, by rw [h3, List.length_append, hlen, hcl]; omega, fun x hx => ?_, fun j p c' x g hj hc' hg => ?_⟩
    · unfold fillOf
      simp only [hc]
      rw [if_pos ⟨hcl, by rw [List.length_append, hpre, List.length_replicate, hlen]; omega⟩]
      rw [← h2]
      congr 1
      rw [hlen, List.take_left' hpre, List.drop_append, List.drop_of_length_le (by omega), hpre]
      simp [Nat.add_sub_cancel_left]
    · rw [h4 x (by rw [List.length_append]; omega), List.getElem?_append_left hx]
    · cases j with
      | zero =>
        simp only [List.getElem?_cons_zero, Option.some.injEq] at hj
        subst hj
        rw [hc] at hc'
        simp only [Option.some.injEq] at hc'
        subst hc'
        have hx : x < c.length := by
          rcases Nat.lt_or_ge x c.length with h' | h'
          · exact h'
          · simp [List.getElem?_eq_none h'] at hg
        simp only [Nat.add_zero]
        rw [h4 _ (by rw [List.length_append, hpre]; omega), List.getElem?_append_right (by omega)]
        rw [← hg]; congr 1; omega
      | succ j =>
        have := h5 j p c' x g (by simpa using hj) hc' hg
        rw [show i + (j + 1) = i + 1 + j by omega]
        exact this
theorem mapM_get {α β : Type} {f : α → Option β} : ∀ {l : List α} {r : List β}, l.mapM f = some r → r.length = l.length ∧ ∀ (j : Nat) (x : α), l[j]? = some x → ∃ y, r[j]? = some y ∧ f x = some y
  | [], r, h => by simp at h; subst h; simp
  | a :: l, r, h => by
    rw [List.mapM_cons] at h
    cases ha : f a with
    | none => simp [ha] at h
    | some b =>
      cases hl : l.mapM f with
      | none => simp [ha, hl] at h
      | some r' =>
        simp [ha, hl] at h
        subst h
        obtain ⟨h1, h2⟩ := mapM_get hl
        refine ⟨by simp [h1], fun j x hx => ?_⟩
        cases j with
        | zero => simp at hx; subst hx; exact ⟨b, rfl, ha⟩
        | succ j => exact h2 j x (by simpa using hx)
theorem step_buildSlice (hi : Inv C nt e H a W) {dst : Option Tmp} (hd : dstOk nt dst) {t el : TypeId} {n m : Nat} {parts : Array (Nat × Operand)} {z : Value} {ps : List (Nat × FV)} {l : List PV}
    (hu : C.P.underlying t = some (.slice el)) (hsz : szOf C.P el = some (m + 1)) (hz : zeroOf C.P el = some z) (hps : rdParts C e parts.toList = some ps) (hn : n = ps.length) (hidx : ps.map (·.1) = List.range n)
    (hle : n * (m + 1) ≤ 16777216) (hl : ps.mapM (fun p => p.2.toPV) = some l) (hs : Sized (m + 1) l) :
    ∃ W' v, (Instr.buildSlice t n (parts.map fun (i, x) => (i, a.eval x))).run C.P W.w = .ok v W'.w ∧ Inv C nt (e.put dst (.own l)) H (a.put dst v) W' ∧ Evo W W' (fun _ _ => False) := by
  obtain ⟨h1, h2⟩ := rdParts_sound hi hps
  obtain ⟨h3, h4⟩ := mapM_get hl
  have hvs : ∀ (j : Nat) (p : Nat × FV), ps[j]? = some p → ∃ v, (parts.map fun (i, x) => (i, a.eval x)).toList[j]? = some (p.1, v) ∧ FRep W none 0 p.2 v := fun j p hp => by
    have hjl : j < parts.toList.length := by
      rw [← h1]
      rcases Nat.lt_or_ge j ps.length with h' | h'
      · exact h'
      · simp [List.getElem?_eq_none h'] at hp
    obtain ⟨q1, q2⟩ := h2 j p _ hp (List.getElem?_eq_getElem hjl)
    refine ⟨_, ?_, q2⟩
    rw [Array.toList_map, List.getElem?_map, List.getElem?_eq_getElem hjl, q1]
    rfl
  have hpc : ∀ (j : Nat) (p : Nat × FV), ps[j]? = some p → p.1 = 0 + j ∧ ∃ c, p.2.cells = some c ∧ c.length = m + 1 := fun j p hp => by
    obtain ⟨v, _, hr⟩ := hvs j p hp
    obtain ⟨y, hy, hpy⟩ := h4 j p hp
    obtain ⟨c, hc, hcl, _⟩ := toPV_cells hr hpy
    refine ⟨?_, c, hc, by rw [hcl]; exact hs _ (List.mem_of_getElem? hy)⟩
    have := congrArg (·[j]?) hidx
    simp only [List.getElem?_map, hp, Option.map_some] at this
    have hjn : j < n := by
      rw [hn]
      rcases Nat.lt_or_ge j ps.length with h' | h'
      · exact h'
      · simp [List.getElem?_eq_none h'] at hp
    rw [List.getElem?_range hjn] at this
    simpa using this
  obtain ⟨r, hr1, hr2, _, hr4⟩ := fillOf_row ps 0 [] hpc (by simp)
  simp only [List.nil_append, List.length_nil, Nat.zero_add] at hr1 hr2 hr4
  have hfill : ∀ (cs : Array Value), cs.size = n * (m + 1) → ∃ ds, Instr.fill (fun i => some (i * (m + 1), m + 1)) cs (parts.map fun (i, x) => (i, a.eval x)).toList = some ds ∧ ds.size = r.length ∧
      ∀ (i : Nat) (f : FV) (v : Value), r[i]? = some f → ds[i]? = some v → FRep W none 0 f v := fun cs hcs =>
    fillOf_sound (W := W) (ps := ps) (l := List.replicate (ps.length * (m + 1)) .undef) (r := r) (cs := cs) (by simp [hcs, hn]) (fun i f v hf _ => by
      have := List.mem_of_getElem? hf
      simp only [List.mem_replicate] at this
      rw [this.2]; exact .undef) (by simpa using h1.symm) (fun j p v hp hv => by
      obtain ⟨u, hu1, hu2⟩ := hvs j p hp
      rw [hu1] at hv
      simp only [Option.some.injEq] at hv
      subst hv
      exact ⟨rfl, hu2⟩) hr1
  have hrc : ∀ ds : Array Value, ds.size = r.length → (∀ (i : Nat) (f : FV) (v : Value), r[i]? = some f → ds[i]? = some v → FRep W none 0 f v) → RowCells W (m + 1) l ds := fun ds hds hdr => by
    refine ⟨by rw [hds, hr2, h3], fun i j p q hp hq => ?_, fun i p hp => hs _ (List.mem_of_getElem? hp)⟩
    have hil : i < ps.length := by
      rw [← h3]
      rcases Nat.lt_or_ge i l.length with h' | h'
      · exact h'
      · simp [List.getElem?_eq_none h'] at hp
    have hpi := List.getElem?_eq_getElem hil
    obtain ⟨v, _, hrep⟩ := hvs i _ hpi
    obtain ⟨y, hy, hpy⟩ := h4 i _ hpi
    rw [hp] at hy; simp only [Option.some.injEq] at hy; subst hy
    obtain ⟨c, hc, hcl, hcg⟩ := toPV_cells hrep hpy
    obtain ⟨g, hg, hgq⟩ := hcg j q hq
    have hrg := hr4 i _ c j g hpi hc hg
    have hlt : i * (m + 1) + j < ds.size := by
      rw [hds]
      rcases Nat.lt_or_ge (i * (m + 1) + j) r.length with h' | h'
      · exact h'
      · rw [List.getElem?_eq_none h'] at hrg; simp at hrg
    have hdv : ds[i * (m + 1) + j]? = some ds[i * (m + 1) + j] := by simp [hlt]
    exact ⟨_, hdv, leafPV_rep (hdr _ g _ hrg hdv) hgq⟩
  generalize hcs0 : (Array.range (n * (m + 1))).map ((if n * (m + 1) = 0 then (#[] : Array Value) else z.cells)[· % (if n * (m + 1) = 0 then (#[] : Array Value) else z.cells).size]!) = cs0
  have hcs0s : cs0.size = n * (m + 1) := by rw [← hcs0]; simp
  obtain ⟨ds, hd1, hd2, hd3⟩ := hfill cs0 hcs0s
  have hRC := hrc ds hd2 hd3
  have hE := Evo.more (W := W) hi.heap.toFresh (.cells ds el) none (n * (m + 1)) (β := W.β) (fun _ _ _ _ => rfl)
  have hln : l.length = n := by rw [h3, hn]
  refine ⟨W.more (.cells ds el) none (n * (m + 1)) W.β, .slice (some ⟨W.w.heap.size, 0, none⟩) n n, ?_, ⟨hi.heap.more _ _ _ (by simp), fun s => ?_, by rw [put_size]; exact hi.size, by rw [put_defers]; exact hi.defers⟩, hE.weaken (by simp)⟩
  · unfold Instr.buildSlice
    simp only [Sem.run_bind, run_underlying' hu, Result.andThen_ok, run_sizeOf' hsz]
    rw [if_neg (by omega)]
    by_cases h0 : n * (m + 1) = 0
    · simp only [h0, if_true] at hcs0 ⊢
      simp only [Sem.run_bind, Sem.run_pure, Result.andThen_ok]
      rw [hcs0, hd1]
      simp only [Sem.run_bind, newRow, run_newObj, Result.andThen_ok, Sem.run_pure]
      rfl
    · simp only [h0, if_false] at hcs0 ⊢
      simp only [Sem.run_bind, run_zeroValue' hz, Sem.run_pure, Result.andThen_ok]
      rw [hcs0, hd1]
      simp only [Sem.run_bind, newRow, run_newObj, Result.andThen_ok, Sem.run_pure]
      rfl
  · rw [tmps_put hd hi.size, get_put]
    split
    · have hheap : (W.more (.cells ds el) none (n * (m + 1)) W.β).w.heap[W.w.heap.size]? = some (.cells ds el (0, 0)) := heap_alloc_new
      have := (hRC.mono hE).rep (by omega) (A := ⟨W.w.heap.size, 0, none⟩) (cap := n) rfl (by simp [Wd.more, hln]) (fun k _ => by rw [Nat.zero_add, cell_of_heap hheap]) (by omega)
      rw [hln] at this
      exact .own this (.inl rfl)
    · exact (hi.env s).mono hE (by simp)
end
end Go.Proofs.YtlbjfjaleefiiaaDoor.Ev
end
section
namespace Go.Proofs.YtlbjfjaleefiiaaDoor.Ev
open Go
theorem FRep.carry {A B : Wd} {r r' : Root} (hc : ∀ b off, off < A.lim b → B.w.cell? ⟨b, off, none⟩ = A.w.cell? ⟨b, off, none⟩) (hl : ∀ b, A.lim b ≤ B.lim b)
    (hs : ∀ (b : Nat) (c : Array Value) (T : TypeId) (fz : Nat × Nat), A.w.heap[b]? = some (Obj.cells c T fz) → ∃ c' : Array Value, B.w.heap[b]? = some (Obj.cells c' T fz) ∧ c'.size = c.size)
    (hh : ∀ b i, A.o b = some (r, i) → B.o b = some (r', i) ∧ B.lim b = A.lim b) (hb : ∀ b i, A.o b = some (.box i, 0) → A.β i = b → B.β i = b ∧ B.o b = some (.box i, 0))
    (hw : ∀ i, A.gen i ≤ B.gen i ∧ (B.gen i = A.gen i → A.o (A.β i) = some (.box i, 1) → B.β i = A.β i ∧ B.o (A.β i) = some (.box i, 1)))
    {q : Option Root} {i : Nat} {f : FV} {v : Value} (h : FRep A q i f v) (hq : q = none ∨ q = some r) : FRep B (q.map fun _ => r') i f v := by
  induction h with
  | undef => exact .undef
  | sc a b => exact .sc a (b.mono hc hl)
  | @own q i l a len cap hp b =>
    refine .own (hp.mono hc hl) ?_
    rcases b with b | ⟨e, x, c, T, fz, h0, h1, h2, h3, h4, h5, h6, h7, h8⟩
    · exact .inl b
    · rcases hq with rfl | rfl
      · exact absurd rfl h3
      · obtain ⟨c', hc', hsz⟩ := hs _ _ _ _ h5
        obtain ⟨ho, hlm⟩ := hh _ _ h4
        exact .inr ⟨e, x, c', T, fz, h0, h1, h2, by simp, ho, hc', hsz ▸ h6, hsz ▸ h7, hlm ▸ h8⟩
  | emp => exact .emp
  | agg a _ ih => exact .agg a fun j f v hf hv => ih j f v hf hv (.inl rfl)
  | @ptr _ _ b off hbo =>
    obtain ⟨h1, h2⟩ := hb _ _ hbo rfl
    rw [← h1]
    exact .ptr (by rw [h1]; exact h2)
  | @bs _ _ b off n cap hbo hn =>
    obtain ⟨h1, h2⟩ := hb _ _ hbo rfl
    rw [← h1]
    exact .bs (by rw [h1]; exact h2) hn
  | @gr _ _ b g z n cap A' hg hn hcc =>
    have hE : Evo0 A B (fun _ _ => False) := { cell := hc, lim := hl, shape := hs, hold := fun _ _ _ _ h => h.elim, beta := hb, row := hw }
    exact ((FRep.gr (r := none) (i := 0) hg hn hcc).mono0 hE (by simp)).weaken rfl
  | @gp _ _ b g off A' hg hcc =>
    have hE : Evo0 A B (fun _ _ => False) := { cell := hc, lim := hl, shape := hs, hold := fun _ _ _ _ h => h.elim, beta := hb, row := hw }
    exact ((FRep.gp (r := none) (i := 0) hg hcc).mono0 hE (by simp)).weaken rfl
  | nilp => exact .nilp
  | ea c h1 h2 h3 h4 h5 => exact .ea c h1 (fun j p hp => Nat.lt_of_lt_of_le (h2 j p hp) (hl _)) (fun j p hp => by rw [hc _ _ (h2 j p hp)]; exact h3 j p hp) h4 (fun j p hp => (h5 j p hp).mono hc hl)
  | tup a _ ih => exact .tup a fun j f v hf hv => ih j f v hf hv hq
  | oagg a _ ih => exact .oagg a fun j f v hf hv => ih j f v hf hv hq
  | fn a b _ _ ih1 ih2 => exact .fn a b (fun j f v hf hv => ih1 j f v hf hv (.inl rfl)) (fun j f v hf hv => ih2 j f v hf hv (.inl rfl))
  | ext a b =>
    refine .ext (a.mono hc hl) ?_
    obtain ⟨h1, h2, h3, h4, h5, h6, c, T, fz, h7, h8, h9⟩ := b
    rcases hq with rfl | rfl
    · exact absurd rfl h1
    · obtain ⟨c', hc', hsz⟩ := hs _ _ _ _ h7
      obtain ⟨ho, hlm⟩ := hh _ _ h2
      exact ⟨by simp, ho, h3, h4, h5, hlm.trans h6, c', T, fz, hc', hsz ▸ h8, hsz ▸ h9⟩
  | exr => exact .exr
  | exq => exact .exq
section
variable {A B : Wd} {r r' : Root} (hc : ∀ b off, off < A.lim b → B.w.cell? ⟨b, off, none⟩ = A.w.cell? ⟨b, off, none⟩) (hl : ∀ b, A.lim b ≤ B.lim b)
    (hs : ∀ (b : Nat) (c : Array Value) (T : TypeId) (fz : Nat × Nat), A.w.heap[b]? = some (Obj.cells c T fz) → ∃ c' : Array Value, B.w.heap[b]? = some (Obj.cells c' T fz) ∧ c'.size = c.size)
include hc hl hs
theorem FRep.np0 {q : Option Root} (hh : q = some r → ∀ b i, A.o b = some (r, i) → B.o b = some (r', i) ∧ B.lim b = A.lim b) {i : Nat} {f : FV} {v : Value} (h : FRep A q i f v) (hq : q = none ∨ q = some r) (hn : f.np0 = true) : FRep B (q.map fun _ => r') i f v := by
  cases h with
  | sc a b => exact .sc a (b.mono hc hl)
  | @own _ _ l a len cap hp b =>
    refine .own (hp.mono hc hl) ?_
    rcases b with b | ⟨e, x, c, T, fz, h0, h1, h2, h3, h4, h5, h6, h7, h8⟩
    · exact .inl b
    · rcases hq with rfl | rfl
      · exact absurd rfl h3
      · obtain ⟨c', hc', hsz⟩ := hs _ _ _ _ h5
        obtain ⟨ho, hlm⟩ := hh rfl _ _ h4
        exact .inr ⟨e, x, c', T, fz, h0, h1, h2, by simp, ho, hc', hsz ▸ h6, hsz ▸ h7, hlm ▸ h8⟩
  | emp => exact .emp
  | ea c h1 h2 h3 h4 h5 => exact .ea c h1 (fun j p hp => Nat.lt_of_lt_of_le (h2 j p hp) (hl _)) (fun j p hp => by rw [hc _ _ (h2 j p hp)]; exact h3 j p hp) h4 (fun j p hp => (h5 j p hp).mono hc hl)
  | @fn _ _ f first cap fs cs a b c d =>
    cases first with
    | nil =>
      cases cap with
      | nil => exact .fn a b (by simp) (by simp)
      | cons _ _ => simp [FV.np0] at hn
    | cons _ _ => simp [FV.np0] at hn
  | _ => simp [FV.np0] at hn
theorem FRep.np1 {q : Option Root} (hh : q = some r → ∀ b i, A.o b = some (r, i) → B.o b = some (r', i) ∧ B.lim b = A.lim b) {i : Nat} {f : FV} {v : Value} (h : FRep A q i f v) (hq : q = none ∨ q = some r) (hn : f.np1 = true) : FRep B (q.map fun _ => r') i f v := by
  by_cases h0 : f.np0 = true
  · exact h.np0 hc hl hs hh hq h0
  · cases h with
    | agg a b =>
      refine .agg a fun j g u hg hu => ?_
      have := List.all_eq_true.1 hn g (List.mem_of_getElem? hg)
      exact (b j g u hg hu).np0 (r := r) (r' := r') hc hl hs (by simp) (.inl rfl) this
    | @fn _ _ f first cap fs cs a b c d =>
      cases first <;> cases cap <;> simp_all [FV.np0, FV.np1]
    | _ => simp_all [FV.np0, FV.np1]
theorem FRep.np {q : Option Root} (hh : q = some r → ∀ b i, A.o b = some (r, i) → B.o b = some (r', i) ∧ B.lim b = A.lim b) {i : Nat} {f : FV} {v : Value} (h : FRep A q i f v) (hq : q = none ∨ q = some r) (hn : f.noPtr = true) : FRep B (q.map fun _ => r') i f v := by
  by_cases h0 : f.np1 = true
  · exact h.np1 hc hl hs hh hq h0
  · cases h with
    | tup a b =>
      refine .tup a fun j g u hg hu => ?_
      have := List.all_eq_true.1 hn g (List.mem_of_getElem? hg)
      exact (b j g u hg hu).np1 hc hl hs hh hq this
    | oagg a b =>
      refine .oagg a fun j g u hg hu => ?_
      have := List.all_eq_true.1 hn g (List.mem_of_getElem? hg)
      exact (b j g u hg hu).np0 hc hl hs hh hq this
    | @fn _ _ f first cap fs cs a b c d =>
      cases first <;> cases cap <;> simp_all [FV.np1, FV.noPtr]
    | _ => simp_all [FV.np1, FV.noPtr]
end
def Root.heap : Root → Bool
  | .box _ => true
  | .leaf _ _ => true
  | _ => false
def Con (C : Ctx) (f : FuncId) (args : List FV) (H : Heap) (r : FV) (H' : Heap) : Prop :=
  ∀ (vs : List Value) (W : Wd), vs.length = args.length → (∀ (j : Nat) (g : FV) (v : Value), args[j]? = some g → vs[j]? = some v → FRep W none 0 g v) → HInv C H W →
    (∀ b q k, W.o b = some (q, k) → q.heap = true) →
    Calls C.P f vs.toArray W.w fun x w' => ∃ v W', x = .returned v ∧ W'.w = w' ∧ FRep W' (some .res) 0 r v ∧ HInv C H' W' ∧ Evo W W' (fun _ _ => False)
def PCon (C : Ctx) (f : FuncId) (args : List FV) (r : FV) : Prop :=
  ∀ (vs : List Value) (W : Wd), vs.length = args.length → (∀ (j : Nat) (g : FV) (v : Value), args[j]? = some g → vs[j]? = some v → FRep W none 0 g v) → HInv C [] W →
    (∀ b q k, W.o b = some (q, k) → q.heap = true) →
    Calls C.P f vs.toArray W.w fun x w' => ∃ v W' J, x = .returned v ∧ W'.w = w' ∧ FRep W' (some .res) 0 r v ∧ HInv C J W' ∧ Evo W W' (fun _ _ => False)
def Call (C : Ctx) (f : FuncId) (args : List FV) (H : Heap) (r : FV) (H' : Heap) : Prop :=
  callable C.P f = true ∧ ((H' = H ∧ args.all FV.noPtr = true ∧ r.noPtr = true ∧ PCon C f args r) ∨ Con C f args H r H')
def Wd.only (W : Wd) (p : Root → Bool) : Wd := { W with o := fun b => match W.o b with | some (q, k) => if p q = true then some (q, k) else none | none => none }
def Wd.nogen (W : Wd) : Wd := { W with gen := fun _ => 0 }
def Wd.back (W W' : Wd) (p : Root → Bool) (d : Root) (β γ : Nat → Nat) : Wd :=
  { W' with β := β, gen := γ, o := fun b => match W'.o b with
    | some (q, k) => if q = .res then some (d, k) else if p q = true then some (q, k) else if b < W.w.heap.size then (match W.o b with | some (q, k) => if p q = true then none else some (q, k) | none => none) else none
    | none => if b < W.w.heap.size then (match W.o b with | some (q, k) => if p q = true then none else some (q, k) | none => none) else none }
def Wd.lend (W : Wd) (t : Nat) : Wd := { W with gen := fun _ => 0, o := fun b => match W.o b with | some (q, k) => if q = .tmp t then some (.tmp 0, k) else none | none => none }
def Wd.backL (W W' : Wd) (t : Nat) (d : Root) : Wd :=
  { W' with β := W.β, gen := W.gen, o := fun b => match W'.o b with
    | some (q, k) => if q = .res then some (d, k) else if b < W.w.heap.size then (match W.o b with | some (q, k) => if q = .tmp t then none else some (q, k) | none => none) else none
    | none => if b < W.w.heap.size then (match W.o b with | some (q, k) => if q = .tmp t then none else some (q, k) | none => none) else none }
theorem Evo.only (W : Wd) (p : Root → Bool) : Evo1 W (W.only p) (fun q _ => p q = true) where
  cell _ _ _ := rfl
  lim _ := Nat.le_refl _
  shape _ c _ _ h := ⟨c, h, rfl⟩
  hold b r i ho hk := ⟨by simp [Wd.only, ho, hk], rfl⟩
section
variable {C : Ctx} {H H' : Heap} {W W' : Wd}
theorem only_none {b : Nat} {p : Root → Bool} (h : ∀ q k, W.o b = some (q, k) → p q = false) : (W.only p).o b = none := by
  simp only [Wd.only]
  split
  · rename_i q k hq; simp [h q k hq]
  · rfl
theorem back_pure (hH : HInv C H W) (hE : Evo (W.only fun _ => false).nogen W' (fun _ _ => False)) (hF : ∀ b, W'.w.heap.size ≤ b → W'.lim b = 0 ∧ W'.o b = none) (d : Root) (hd : ∀ i, d ≠ .box i) :
    Evo W (W.back W' (fun _ => false) d W.β W.gen) (fun _ _ => True) ∧ HInv C H (W.back W' (fun _ => false) d W.β W.gen) := by
  have hn : ∀ b, b < W.w.heap.size → W'.w.heap[b]? = W.w.heap[b]? ∧ W'.lim b = W.lim b ∧ W'.o b = none := fun b hb => hE.away b hb (only_none fun _ _ _ => rfl)
  have ho : ∀ b, b < W.w.heap.size → (W.back W' (fun _ => false) d W.β W.gen).o b = W.o b := fun b hb => by
    simp only [Wd.back, (hn b hb).2.2, hb, if_true]
    split <;> simp_all
  have hE' : Evo W (W.back W' (fun _ => false) d W.β W.gen) (fun _ _ => True) := by
    refine Evo.of hE.os hE.tape hE.output hE.size hE.cell hE.lim hE.shape (fun b r i hb _ => ?_) (fun b i hb hβ => ?_) (fun i => ?_) (fun b hb hbo => ?_)
    · have := lt_of_o hH.toFresh hb
      exact ⟨by rw [ho b this, hb], (hn b this).2.1⟩
    · have := lt_of_o hH.toFresh hb
      exact ⟨hβ, by rw [ho b this, hb]⟩
    · exact ⟨Nat.le_refl _, fun _ h => ⟨rfl, by rw [ho _ (lt_of_o hH.toFresh h)]; exact h⟩⟩
    · exact ⟨(hn b hb).1, (hn b hb).2.1, by rw [ho b hb, hbo]⟩
  refine ⟨hE', ?_, ?_, ?_, ?_, hH.gen0, hH.kept.evo hE'⟩
  · intro b fs hfs
    obtain ⟨h1, h2, c, T, fz, h3, h4, h5, h6⟩ := hH.box b fs hfs
    have hlt := lt_of_o hH.toFresh h1.1
    refine ⟨(h1.mono hE'.toEvo0 rfl).1, ?_, c, T, fz, ?_, h4, h5, fun i f v hf hv => ⟨(h6 i f v hf hv).1, (h6 i f v hf hv).2.mono hE' (by simp)⟩⟩
    · show W'.lim (W.β b) = 0
      rw [(hn _ hlt).2.1]; exact h2
    · show W'.w.heap[W.β b]? = _
      rw [(hn _ hlt).1]; exact h3
  · intro g ls hls j q' hq'
    obtain ⟨m1, m2, v, m3, m4⟩ := hH.laid g ls hls j q' hq'
    exact ⟨m1, Nat.lt_of_lt_of_le m2 (hE'.lim g), v, by rw [hE'.cell _ _ m2]; exact m3, m4.mono hE'.cell hE'.lim⟩
  · intro b hb
    obtain ⟨q1, q2⟩ := hF b hb
    have : W.w.heap.size ≤ W'.w.heap.size := hE.size
    refine ⟨q1, ?_⟩
    simp only [Wd.back, q2]
    rw [if_neg (by have : W'.w.heap.size ≤ b := hb; omega)]
  · intro b i k hb
    simp only [Wd.back] at hb
    by_cases hlt : b < W.w.heap.size
    · rw [(hn b hlt).2.2] at hb
      simp only [hlt, if_true] at hb
      split at hb
      · rename_i q k' hq
        simp at hb
        exact hH.boxes b i k (by rw [hq]; simp [hb])
      · simp at hb
    · split at hb
      · split at hb
        · simp at hb; exact absurd hb.1 (hd i)
        · simp at hb
      · simp [hlt] at hb
theorem back_shared (hH : HInv C H W) (hE : Evo (W.only Root.heap) W' (fun _ _ => False)) (hH' : HInv C H' W') (d : Root) (hd : d.heap = false) :
    Evo W (W.back W' Root.heap d W'.β W'.gen) (fun q _ => q.heap = false) ∧ HInv C H' (W.back W' Root.heap d W'.β W'.gen) := by
  have hn : ∀ b q k, W.o b = some (q, k) → q.heap = false → b < W.w.heap.size ∧ W'.w.heap[b]? = W.w.heap[b]? ∧ W'.lim b = W.lim b ∧ W'.o b = none := fun b q k hb hq => by
    have hlt := lt_of_o hH.toFresh hb
    exact ⟨hlt, hE.away b hlt (only_none fun q' k' h => by rw [hb] at h; simp at h; rw [← h.1]; exact hq)⟩
  have hn0 : ∀ b, b < W.w.heap.size → W.o b = none → W'.w.heap[b]? = W.w.heap[b]? ∧ W'.lim b = W.lim b ∧ W'.o b = none := fun b hlt hb =>
    hE.away b hlt (only_none fun q' k' h => by rw [hb] at h; simp at h)
  have hEv : Evo W (W.back W' Root.heap d W'.β W'.gen) (fun q _ => q.heap = false) := by
    refine Evo.of hE.os hE.tape hE.output hE.size hE.cell hE.lim hE.shape (fun b r i hb hr => ?_) (fun b i hb hβ => ?_) (fun i => ?_) (fun b hb hbo => ?_)
    · obtain ⟨h1, h2, h3, h4⟩ := hn b r i hb hr
      refine ⟨?_, h3⟩
      simp [Wd.back, h4, h1, hb, hr]
    · obtain ⟨h1, h2⟩ := hE.beta b i (by simp [Wd.only, hb, Root.heap]) hβ
      exact ⟨h1, by simp [Wd.back, h2, Root.heap]⟩
    · obtain ⟨h1, h2⟩ := hE.row i
      refine ⟨h1, fun hg ho => ?_⟩
      obtain ⟨h3, h4⟩ := h2 hg (by show (W.only Root.heap).o (W.β i) = _; simp [Wd.only, ho, Root.heap])
      have h4' : W'.o (W.β i) = some (.box i, 1) := h4
      exact ⟨h3, by simp [Wd.back, h4', Root.heap]⟩
    · obtain ⟨h1, h2, h3⟩ := hn0 b hb hbo
      refine ⟨h1, h2, ?_⟩
      simp [Wd.back, h3, hb, hbo]
  refine ⟨hEv, ?_⟩
  · have hE0 : Evo0 W' (W.back W' Root.heap d W'.β W'.gen) (fun q _ => q.heap = true) := by
      refine { cell := fun _ _ _ => rfl, lim := fun _ => Nat.le_refl _, shape := fun _ c _ _ h => ⟨c, h, rfl⟩, hold := fun b r i hb hr => ⟨?_, rfl⟩, beta := fun b i hb hβ => ⟨hβ, ?_⟩, row := fun i => ⟨Nat.le_refl _, fun _ h => ⟨rfl, ?_⟩⟩ }
      · have : r ≠ .res := fun h => by rw [h] at hr; simp [Root.heap] at hr
        simp [Wd.back, hb, this, hr]
      · simp [Wd.back, hb, Root.heap]
      · simp [Wd.back, h, Root.heap]
    refine hH'.evo' hE0 (fun _ _ _ _ => rfl) rfl rfl rfl (fun b hb => ?_) (fun b i k hb => ?_) (hH.kept.evo hEv)
    · have h1 : W.w.heap.size ≤ W'.w.heap.size := hE.size
      simp only [Wd.back, (hH'.fresh b hb).2]
      rw [if_neg (by omega)]
    · simp only [Wd.back] at hb
      split at hb
      · rename_i q k' hq
        split at hb
        · simp at hb; rw [hb.1] at hd; simp [Root.heap] at hd
        · split at hb
          · simp at hb; exact hH'.boxes b i k (by rw [hq]; simp [hb])
          · split at hb
            · split at hb
              · split at hb
                · simp at hb
                · rename_i hp; simp at hb; rw [hb.1] at hp; simp [Root.heap] at hp
              · simp at hb
            · simp at hb
      · split at hb
        · split at hb
          · split at hb
            · simp at hb
            · rename_i hp; simp at hb; rw [hb.1] at hp; simp [Root.heap] at hp
          · simp at hb
        · simp at hb
theorem lend_none {t b : Nat} (h : ∀ k, W.o b ≠ some (.tmp t, k)) : (W.lend t).o b = none := by
  simp only [Wd.lend]
  split
  · rename_i q k hq
    split
    · rename_i he; subst he; exact absurd hq (h k)
    · rfl
  · rfl
theorem back_lent {t : Nat} (hH : HInv C H W) (hE : Evo (W.lend t) W' (fun _ _ => False)) (hF : ∀ b, W'.w.heap.size ≤ b → W'.lim b = 0 ∧ W'.o b = none) (d : Root) (hd : ∀ i, d ≠ .box i) :
    Evo W (W.backL W' t d) (fun q _ => q ≠ .tmp t) ∧ HInv C H (W.backL W' t d) := by
  have hn : ∀ b, b < W.w.heap.size → (∀ k, W.o b ≠ some (.tmp t, k)) → W'.w.heap[b]? = W.w.heap[b]? ∧ W'.lim b = W.lim b ∧ W'.o b = none := fun b hb h => hE.away b hb (lend_none h)
  have ho : ∀ b, b < W.w.heap.size → (∀ k, W.o b ≠ some (.tmp t, k)) → (W.backL W' t d).o b = W.o b := fun b hb h => by
    simp only [Wd.backL, (hn b hb h).2.2, hb, if_true]
    split
    · rename_i q k hq
      rw [if_neg (fun he => h k (by rw [hq, he])), hq]
    · rename_i hq; exact hq.symm
  have hne : ∀ {b : Nat} {q : Root} {k : Nat}, W.o b = some (q, k) → q ≠ .tmp t → ∀ k', W.o b ≠ some (.tmp t, k') := fun hb hq k' h => by
    rw [hb] at h; simp at h; exact hq h.1
  have hE' : Evo W (W.backL W' t d) (fun q _ => q ≠ .tmp t) := by
    refine Evo.of hE.os hE.tape hE.output hE.size hE.cell hE.lim hE.shape (fun b r i hb hr => ?_) (fun b i hb hβ => ?_) (fun i => ?_) (fun b hb hbo => ?_)
    · have := lt_of_o hH.toFresh hb
      exact ⟨by rw [ho b this (hne hb hr), hb], (hn b this (hne hb hr)).2.1⟩
    · have := lt_of_o hH.toFresh hb
      exact ⟨hβ, by rw [ho b this (hne hb (by simp)), hb]⟩
    · exact ⟨Nat.le_refl _, fun _ h => ⟨rfl, by rw [ho _ (lt_of_o hH.toFresh h) (hne h (by simp))]; exact h⟩⟩
    · have hx : ∀ k, W.o b ≠ some (.tmp t, k) := fun k h => by rw [hbo] at h; simp at h
      exact ⟨(hn b hb hx).1, (hn b hb hx).2.1, by rw [ho b hb hx, hbo]⟩
  refine ⟨hE', ?_, ?_, ?_, ?_, hH.gen0, hH.kept.evo hE'⟩
  · intro b fs hfs
    obtain ⟨h1, h2, c, T, fz, h3, h4, h5, h6⟩ := hH.box b fs hfs
    have hlt := lt_of_o hH.toFresh h1.1
    have hx := hne h1.1 (by simp)
    refine ⟨(h1.mono hE'.toEvo0 rfl).1, ?_, c, T, fz, ?_, h4, h5, fun i f v hf hv => ⟨(h6 i f v hf hv).1, (h6 i f v hf hv).2.mono hE' (by simp)⟩⟩
    · show W'.lim (W.β b) = 0
      rw [(hn _ hlt hx).2.1]; exact h2
    · show W'.w.heap[W.β b]? = _
      rw [(hn _ hlt hx).1]; exact h3
  · intro g ls hls j q' hq'
    obtain ⟨m1, m2, v, m3, m4⟩ := hH.laid g ls hls j q' hq'
    exact ⟨m1, Nat.lt_of_lt_of_le m2 (hE'.lim g), v, by rw [hE'.cell _ _ m2]; exact m3, m4.mono hE'.cell hE'.lim⟩
  · intro b hb
    obtain ⟨q1, q2⟩ := hF b hb
    have : W.w.heap.size ≤ W'.w.heap.size := hE.size
    refine ⟨q1, ?_⟩
    simp only [Wd.backL, q2]
    rw [if_neg (by have : W'.w.heap.size ≤ b := hb; omega)]
  · intro b i k hb
    have key : ∀ {x : Option (Root × Nat)}, (if b < W.w.heap.size then (match W.o b with | some (q, k) => if q = .tmp t then none else some (q, k) | none => none) else none) = some (Root.box i, k) → i < H.length := fun h => by
      split at h
      · split at h
        · rename_i q k' hq
          split at h
          · simp at h
          · simp at h; exact hH.boxes b i k (by rw [hq]; simp [h])
        · simp at h
      · simp at h
    simp only [Wd.backL] at hb
    split at hb
    · split at hb
      · simp at hb; exact absurd hb.1 (hd i)
      · exact key (x := none) hb
    · exact key (x := none) hb
end
end Go.Proofs.YtlbjfjaleefiiaaDoor.Ev
end
section
namespace Go.Proofs.YtlbjfjaleefiiaaDoor.Ev
open Go
section
variable {C : Ctx} {nt : Nat} {mv : List Nat} {e : Env} {H : Heap} {a : Act} {W : Wd} {K : Env → Heap → Prop} {Q : Exit → Act → World → Prop}
theorem wp_value {P : Program} {o : Oper} {a : Act} {w w' : World} {v : Value} {next : Act → World → Prop} (h : (execOp a.eval o).run P w = .ok (.value v) w') (hn : next (a.put o.dst v) w') : o.wp P a w next Q := by
  unfold Oper.wp; rw [h]; exact hn
theorem wp_skip' {P : Program} {o : Oper} {a : Act} {w w' : World} {next : Act → World → Prop} (h : (execOp a.eval o).run P w = .ok .skip w') (hn : next (a.put o.dst undef) w') : o.wp P a w next Q := by
  unfold Oper.wp; rw [h]; exact hn
theorem wp_val (hi : Inv C nt e H a W) {o : Oper} (hd : dstOk nt o.dst) {r : FV} (h : Yld C a W o r) (hK : K (e.put o.dst r) H) : o.wp C.P a W.w (After C nt W K) Q := by
  obtain ⟨v, h1, h2⟩ := h
  exact wp_value h1 ⟨_, _, W, rfl, hK, hi.val hd h2, Evo.refl _ _⟩
theorem wp_of {s : Sem Value} {o : Oper} {W' : Wd} {v : Value} (hs : execOp a.eval o = (do pure (.value (← s)))) (h1 : s.run C.P W.w = .ok v W'.w) {e' : Env} {H' : Heap}
    (hi : Inv C nt e' H' (a.put o.dst v) W') (hE : Evo W W' (fun _ _ => False)) (hK : K e' H') : o.wp C.P a W.w (After C nt W K) Q :=
  wp_value (w' := W'.w) (by rw [hs]; simp [h1]) ⟨e', H', W', rfl, hK, hi, hE⟩
theorem wp_give {o : Oper} (hi : Inv C nt e H a W) (hd : dstOk nt o.dst) {x : Operand} (ho : execOp a.eval o = pure (.value (a.eval x))) {f : FV} {e' : Env} (hg : give C e x = some (f, e')) (hK : K (e'.put o.dst f.home) H) :
    o.wp C.P a W.w (After C nt W K) Q := by
  obtain ⟨W', h1, h2, h3⟩ := step_give hi hg hd
  refine wp_value (w' := W.w) (v := a.eval x) (by rw [ho]; rfl) ⟨_, _, W', h1, hK, h2, h3⟩
theorem wp_giveE (b : Bool) {o : Oper} (hi : Inv C nt e H a W) (hd : dstOk nt o.dst) {x : Operand} (ho : execOp a.eval o = pure (.value (a.eval x))) {f : FV} {e' : Env} (hg : give C e x = some (f, e')) (hK : K (e'.put o.dst (f.homeE b)) H) :
    o.wp C.P a W.w (After C nt W K) Q := by
  obtain ⟨W', h1, h2, h3⟩ := step_giveE b hi hg hd
  refine wp_value (w' := W.w) (v := a.eval x) (by rw [ho]; rfl) ⟨_, _, W', h1, hK, h2, h3⟩
theorem args_get (hi : Inv C nt e H a W) {first cap : List FV} {xs : List Operand} {l : List FV} {fs cs : Array Value} (h1 : fs.size = first.length) (h2 : cs.size = cap.length)
    (h3 : ∀ (j : Nat) (f : FV) (v : Value), first[j]? = some f → fs[j]? = some v → FRep W none 0 f v) (h4 : ∀ (j : Nat) (f : FV) (v : Value), cap[j]? = some f → cs[j]? = some v → FRep W none 0 f v)
    (hl : rdAll C e xs = some l) : (fs.toList ++ xs.map a.eval ++ cs.toList).length = (first ++ l ++ cap).length ∧
    ∀ (j : Nat) (g : FV) (v : Value), (first ++ l ++ cap)[j]? = some g → (fs.toList ++ xs.map a.eval ++ cs.toList)[j]? = some v → FRep W none 0 g v := by
  obtain ⟨h5, h6⟩ := rdAll_sound hi hl
  refine ⟨by simp [h1, h2, h5], fun j g v hg hv => ?_⟩
  rcases Nat.lt_or_ge j first.length with hj | hj
  · rw [List.append_assoc, List.getElem?_append_left hj] at hg
    rw [List.append_assoc, List.getElem?_append_left (by simpa [h1] using hj)] at hv
    exact h3 j g v hg (by simpa using hv)
  · rcases Nat.lt_or_ge j (first.length + l.length) with hj' | hj'
    · rw [List.getElem?_append_left (by simpa using hj'), List.getElem?_append_right hj] at hg
      rw [List.getElem?_append_left (by simp [h1]; omega), List.getElem?_append_right (by simpa [h1] using hj)] at hv
      simp only [Array.length_toList, h1, List.getElem?_map, Option.map_eq_some_iff] at hv
      obtain ⟨x, hx, rfl⟩ := hv
      exact h6 _ g x hg hx
    · rw [List.getElem?_append_right (by simpa using hj')] at hg
      rw [List.getElem?_append_right (by simp [h1]; omega)] at hv
      refine h4 _ g v hg ?_
      rw [← hv]
      simp [h1, h5]
theorem run_callFunc {P : Program} {w : World} {f : FuncId} {args : Array Value} (h : callable P f = true) : (callFunc f args).run P w = .ok (.enter f args) w := by
  unfold callable at h
  unfold callFunc
  simp only [Sem.run_bind, run_program, Result.andThen_ok]
  cases hf : P.funcs[f]? with
  | none => simp [hf] at h
  | some fn =>
    simp only [hf, Bool.and_eq_true, Bool.not_eq_true'] at h
    simp only
    rw [if_neg (by simp [h.1]), if_neg (by cases hb : fn.body <;> simp_all)]
    rfl
theorem wp_call (hi : Inv C nt e H a W) {o : Oper} (hd : dstOk nt o.dst) {x : Operand} {args : Array Operand} {ts : Array TypeId} (ho : o.op = .call { callee := .value x, args, argTypes := ts }) {f : FuncId} {first cap l : List FV} {r : FV} {H' : Heap}
    (hx : rd C e x = some (.fn f first cap)) (hl : rdAll C e args.toList = some l) (hc : Call C f (first ++ l ++ cap) H r H') (hK : K (e.put o.dst r.home) H') : o.wp C.P a W.w (After C nt W K) Q := by
  obtain ⟨hcl, hc⟩ := hc
  obtain ⟨_, _, hr⟩ := rd_sound hi hx
  generalize hv : a.eval x = xv at hr
  cases hr with
  | @fn _ _ _ _ _ fs cs h1 h2 h3 h4 =>
    obtain ⟨h5, h6⟩ := args_get (a := a) hi h1 h2 h3 h4 hl
    have hrun : (execOp a.eval o).run C.P W.w = .ok (.enter f (fs.toList ++ args.toList.map a.eval ++ cs.toList).toArray) W.w := by
      obtain ⟨dst, op, ty, pos, after, guard⟩ := o
      simp only at ho
      subst ho
      simp only [execOp, resolve, hv, Deferred.ofValue, Sem.run_bind, Sem.run_pure, Result.andThen_ok, invoke]
      rw [run_callFunc hcl]
      congr 2
      apply Array.toList_inj.1
      simp
    unfold Oper.wp
    rw [hrun]
    simp only [Oper.upon]
    -- the slot that is written
    have hdr : ∃ d : Root, (∀ i, d ≠ .box i) ∧ d.heap = false ∧ ∀ t, o.dst = some t → d = .tmp t := by
      cases hod : o.dst with
      | none => exact ⟨.res, by simp, rfl, by simp⟩
      | some t => exact ⟨.tmp t, by simp, rfl, by simp⟩
    obtain ⟨d, hd1, hd2, hd3⟩ := hdr
    have put : ∀ {v : Value} {W'' : Wd} {H'' : Heap}, HInv C H'' W'' → (∀ t, FRep W'' (some (.tmp t)) 0 (e.get t) (a.tmps.getD t undef)) → FRep W'' (some d) 0 r v → Inv C nt (e.put o.dst r.home) H'' (a.put o.dst v) W'' := fun hH hE hr => by
      refine ⟨hH, fun t => ?_, by rw [put_size]; exact hi.size, by rw [put_defers]; exact hi.defers⟩
      rw [tmps_put hd hi.size, get_put]
      split
      · rename_i ht
        rw [hd3 t ht] at hr
        exact hr.home
      · exact hE t
    rcases hc with ⟨rfl, hna, hnp, hcon⟩ | hcon
    · refine (hcon _ (W.only fun _ => false).nogen h5 (fun j g v hg hv => ?_) ?_ (fun b q k hb => ?_)).mono fun x w' hx' => ?_
      · have := List.all_eq_true.1 hna g (List.mem_of_getElem? hg)
        exact (h6 j g v hg hv).np (A := W) (r := .res) (r' := .res) (B := (W.only fun _ => false).nogen) (fun _ _ _ => rfl) (fun _ => Nat.le_refl _) (fun _ c _ _ h => ⟨c, h, rfl⟩) (by simp) (.inl rfl) this
      · refine ⟨by simp, fun g ls hls j q hq => ?_, fun b hb => ⟨(hi.heap.fresh b hb).1, only_none (by simp)⟩, fun b i k hb => ?_, fun _ _ => rfl, hi.heap.kept.same rfl fun b hb => only_none (by simp)⟩
        · exact hi.heap.laid g ls hls j q hq
        · simp only [Wd.nogen, Wd.only] at hb; split at hb <;> simp at hb
      · simp only [Wd.nogen, Wd.only] at hb; split at hb <;> simp at hb
      · obtain ⟨v, W', J, rfl, rfl, h7, h8, h9⟩ := hx'
        obtain ⟨h10, h11⟩ := back_pure hi.heap h9 h8.fresh d hd1
        refine ⟨_, _, W.back W' (fun _ => false) d W.β W.gen, rfl, hK, put h11 (fun t => (hi.env t).mono h10 (by simp)) ?_, h10.weaken (by simp)⟩
        exact h7.np (A := W') (r := .res) (r' := d) (B := W.back W' (fun _ => false) d W.β W.gen) (fun _ _ _ => rfl) (fun _ => Nat.le_refl _) (fun _ c _ _ h => ⟨c, h, rfl⟩) (fun _ b i hb => ⟨by simp [Wd.back, hb], rfl⟩) (.inr rfl) hnp
    · have hE1 := Evo.only W Root.heap
      have hE0 : Evo0 W (W.only Root.heap) (fun q _ => q.heap = true) := { hE1 with beta := fun b i hb hβ => ⟨hβ, by simp [Wd.only, hb, Root.heap]⟩, row := fun i => ⟨Nat.le_refl _, fun _ h => ⟨rfl, by simp [Wd.only, h, Root.heap]⟩⟩ }
      refine (hcon _ (W.only Root.heap) h5 (fun j g v hg hv => (h6 j g v hg hv).mono0 hE0 (by simp)) ?_ (fun b q k hb => ?_)).mono fun x w' hx' => ?_
      · refine hi.heap.evo hE0 (fun _ _ _ _ => rfl) rfl rfl rfl (fun b hb => only_none fun q k hq => by rw [(hi.heap.fresh b hb).2] at hq; simp at hq) (fun b i k hb => ?_) (fun b hb => only_none fun q k hq => by rw [hb] at hq; simp at hq)
        simp only [Wd.only] at hb
        split at hb
        · rename_i q k' hq
          split at hb
          · simp at hb; exact hi.heap.boxes b i k (by rw [hq]; simp [hb])
          · simp at hb
        · simp at hb
      · simp only [Wd.only] at hb
        split at hb
        · split at hb
          · rename_i hp; simp at hb; rw [← hb.1]; exact hp
          · simp at hb
        · simp at hb
      · obtain ⟨v, W', rfl, rfl, h7, h8, h9⟩ := hx'
        obtain ⟨h10, h11⟩ := back_shared hi.heap h9 h8 d hd2
        refine ⟨_, _, W.back W' Root.heap d W'.β W'.gen, rfl, hK, put h11 (fun t => (hi.env t).mono h10 (fun q j hq => by cases hq; rfl)) ?_, h10.weaken (by simp)⟩
        exact h7.carry (A := W') (r := .res) (r' := d) (B := W.back W' Root.heap d W'.β W'.gen) (fun _ _ _ => rfl) (fun _ => Nat.le_refl _) (fun _ c _ _ h => ⟨c, h, rfl⟩) (fun b i hb => ⟨by simp [Wd.back, hb], rfl⟩) (fun b i hb hβ => ⟨hβ, by simp [Wd.back, hb, Root.heap]⟩) (fun i => ⟨Nat.le_refl _, fun _ h => ⟨rfl, by simp [Wd.back, h, Root.heap]⟩⟩) (.inr rfl)
theorem wp_hand (hi : Inv C nt e H a W) {o : Oper} (hd : dstOk nt o.dst) {x : Operand} {args : Array Operand} {ts : Array TypeId} (ho : o.op = .call { callee := .value x, args, argTypes := ts })
    (h : HandQ C e o.dst x args.toList H K) : o.wp C.P a W.w (After C nt W K) Q := by
  unfold HandQ at h
  split at h
  rotate_left
  · exact h.elim
  rename_i f t ys hx hargs
  split at h
  rotate_left
  · exact h.elim
  rename_i l hl
  obtain ⟨r, hcl, hna, hnp, hcon, hK⟩ := h
  obtain ⟨_, _, hr⟩ := rd_sound hi hx
  have hv : a.eval x = .func (.func f) #[] #[] := by
    generalize a.eval x = xv at hr
    cases hr with
    | @fn _ _ _ _ _ fs cs h1 h2 h3 h4 =>
      have e1 : fs = #[] := Array.eq_empty_of_size_eq_zero h1
      have e2 : cs = #[] := Array.eq_empty_of_size_eq_zero h2
      rw [e1, e2]
  obtain ⟨h5, h6⟩ := rdAll_sound hi hl
  have hrun : (execOp a.eval o).run C.P W.w = .ok (.enter f (args.toList.map a.eval).toArray) W.w := by
    obtain ⟨dst, op, ty, pos, after, guard⟩ := o
    simp only at ho
    subst ho
    simp only [execOp, resolve, hv, Deferred.ofValue, Sem.run_bind, Sem.run_pure, Result.andThen_ok, invoke]
    rw [run_callFunc hcl]
    congr 2
    apply Array.toList_inj.1
    simp
  unfold Oper.wp
  rw [hrun]
  simp only [Oper.upon]
  have hdr : ∃ d : Root, (∀ i, d ≠ .box i) ∧ ∀ t, o.dst = some t → d = .tmp t := by
    cases hod : o.dst with
    | none => exact ⟨.res, by simp, by simp⟩
    | some t => exact ⟨.tmp t, by simp, by simp⟩
  obtain ⟨d, hd1, hd3⟩ := hdr
  refine (hcon (args.toList.map a.eval) (W.lend t) (by rw [hargs]; simp [h5]) (fun j g v hg hv => ?_) ?_).mono fun x w' hx' => ?_
  · rw [hargs] at hv
    have hnp : g.noPtr = true := List.all_eq_true.1 hna g (List.mem_of_getElem? hg)
    cases j with
    | zero =>
      simp only [List.map_cons, List.getElem?_cons_zero, Option.some.injEq] at hg hv
      subst hg hv
      exact (hi.env t).np (A := W) (r := .tmp t) (r' := .tmp 0) (B := W.lend t) (fun _ _ _ => rfl) (fun _ => Nat.le_refl _) (fun _ c _ _ h => ⟨c, h, rfl⟩) (fun _ b i hb => ⟨by simp [Wd.lend, hb], rfl⟩) (.inr rfl) hnp
    | succ j =>
      simp only [List.map_cons, List.getElem?_cons_succ, List.getElem?_map, Option.map_eq_some_iff] at hg hv
      obtain ⟨y, hy, rfl⟩ := hv
      exact ((h6 j g y hg hy).np (A := W) (r := .res) (r' := .res) (B := W.lend t) (fun _ _ _ => rfl) (fun _ => Nat.le_refl _) (fun _ c _ _ h => ⟨c, h, rfl⟩) (by simp) (.inl rfl) hnp).weaken rfl
  · refine ⟨by simp, fun g ls hls j q hq => hi.heap.laid g ls hls j q hq, fun b hb => ⟨(hi.heap.fresh b hb).1, lend_none fun k hk => by rw [(hi.heap.fresh b hb).2] at hk; simp at hk⟩, fun b i k hb => ?_, fun _ _ => rfl, hi.heap.kept.same rfl fun b hb => lend_none fun k hk => by rw [hb] at hk; simp at hk⟩
    simp only [Wd.lend] at hb
    split at hb
    · split at hb <;> simp at hb
    · simp at hb
  · obtain ⟨v, W', J, rfl, rfl, h7, h8, h9⟩ := hx'
    obtain ⟨h10, h11⟩ := back_lent hi.heap h9 h8.fresh d hd1
    refine ⟨_, _, W.backL W' t d, rfl, hK, ⟨h11, fun s => ?_, by rw [put_size]; exact hi.size, by rw [put_defers]; exact hi.defers⟩, h10.weaken (by simp)⟩
    rw [tmps_put hd hi.size, get_put]
    split
    · rename_i hs
      refine FRep.home ?_
      rw [← hd3 s hs]
      exact h7.np (A := W') (r := .res) (r' := d) (B := W.backL W' t d) (fun _ _ _ => rfl) (fun _ => Nat.le_refl _) (fun _ c _ _ h => ⟨c, h, rfl⟩) (fun _ b i hb => ⟨by simp [Wd.backL, hb], rfl⟩) (.inr rfl) hnp
    · by_cases hst : t = s
      · subst hst
        rw [show Env.get ((t, demote (e.get t)) :: e) t = demote (e.get t) by simp [Env.get]]
        exact (((hi.env t).demote (r' := none) (i' := 0)).mono h10 (by simp)).weaken rfl
      · rw [show Env.get ((t, demote (e.get t)) :: e) s = e.get s by simp [Env.get, hst]]
        exact (hi.env s).mono h10 (fun q j hq => by cases hq; simp; exact fun h => hst h.symm)
end
end Go.Proofs.YtlbjfjaleefiiaaDoor.Ev
end
