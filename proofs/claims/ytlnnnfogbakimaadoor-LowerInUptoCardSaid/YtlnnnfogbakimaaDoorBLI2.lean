/- Of what the law LowerIn needs: part 2. -/
import Derived.Lib.ConvBytes
import Derived.Test.YtlnnnfogbakimaaDoorBLI1
set_option linter.unusedSimpArgs false
set_option linter.unusedVariables false
section
namespace Go.Proofs.YtlnnnfogbakimaaDoor.Ev
open Go
section
variable {C : Ctx} {nt : Nat} {mv : List Nat} {e : Env} {H : Heap} {a : Act} {W : Wd} {K : Env → Heap → Prop} {Q : Exit → Act → World → Prop}
theorem asRow_weak {W W₁ : Wd} {keep : Root → Nat → Prop} (h2 : Evo W W₁ keep) {rg : Option Root} {ig : Nat} {g : FV} {v : Value} {r : List PV} (hu : FRep W rg ig g v) (hr : g.asRow = some r) :
    FRep W₁ none 0 (.sc (.sl r)) v ∨ ∃ s, g = .sc (.str s) ∧ v = .string s := by
  cases hu with
  | @sc _ _ p v hp hrep =>
    cases p with
    | str s => right; cases hrep; exact ⟨s, rfl, rfl⟩
    | sl l' => simp [FV.asRow] at hr; subst hr; left; exact .sc rfl (hrep.mono h2.cell h2.lim)
    | _ => simp [FV.asRow] at hr
  | own p q => simp [FV.asRow] at hr; subst hr; left; exact .sc rfl (p.mono h2.cell h2.lim)
  | emp => simp [FV.asRow] at hr; subst hr; left; exact .sc rfl .nil
  | _ => simp [FV.asRow] at hr
theorem flat_get {s : Nat} (hs : 0 < s) : ∀ {r : List PV} {k : Nat} {q : PV}, Sized s r → (r.flatMap PV.leaves)[k]? = some q → ∃ p, r[k / s]? = some p ∧ p.leaves[k % s]? = some q
  | [], k, q, _, h => by simp at h
  | p :: r, k, q, hz, h => by
    have hp : p.leaves.length = s := hz p (by simp)
    rw [List.flatMap_cons] at h
    by_cases hk : k < s
    · rw [List.getElem?_append_left (by omega)] at h
      exact ⟨p, by rw [Nat.div_eq_of_lt hk]; rfl, by rw [Nat.mod_eq_of_lt hk]; exact h⟩
    · rw [List.getElem?_append_right (by omega), hp] at h
      obtain ⟨p', h1, h2⟩ := flat_get hs (fun x hx => hz x (by simp [hx])) h
      have e1 : k / s = (k - s) / s + 1 := by
        rw [← Nat.add_div_right _ hs]; congr 1; omega
      have e2 : k % s = (k - s) % s := by
        rw [← Nat.add_mod_right (k - s)]; congr 1; omega
      exact ⟨p', by rw [e1]; exact h1, by rw [e2]; exact h2⟩
theorem flat_len {s : Nat} : ∀ {r : List PV}, Sized s r → (r.flatMap PV.leaves).length = r.length * s
  | [], _ => by simp
  | p :: r, hz => by
    rw [List.flatMap_cons, List.length_append, hz p (by simp), flat_len (fun x hx => hz x (by simp [hx])), List.length_cons, Nat.add_mul]; omega
theorem grow_box {P : Program} (hC : C.P = P) {W : Wd} {root : Root} (hH : HInv C H W) {r : List PV} {v u : Value} {tyId t ut el : TypeId} {ud : TypeDesc} {ts : Array TypeId} {m bs : Nat} {z : Value} {rg : Option Root} {ig : Nat} {g : FV}
    (hv : FRep W (some root) 0 (.own []) v) (hu : FRep W rg ig g u) (hg : g.asRow = some r) (hr0 : r ≠ []) (ht : ts[0]? = some t) (ht' : ts[1]? = some ut) (hud : P.underlying ut = some ud) (hni : ∀ k, ud ≠ .int k)
    (hel : P.underlying t = some (.slice el)) (hsz : szOf P el = some (m + 1)) (hz : zeroOf P el = some z) (hzs : z.cells.size = m + 1) (hbs : bytesOf P el = some bs) (hb0 : 0 < bs) (hb1 : bs ≤ 256)
    (hr : Sized (m + 1) r) (hle : r.length ≤ lenMax) :
    ∃ W' x, (Builtin.append_ ts tyId #[v, u]).run P W.w = .ok x W'.w ∧ FRep W' (some root) 0 (.bs H.length 0 r.length) x ∧ HInv C (H ++ [(r.flatMap PV.leaves).map .sc]) W' ∧ Evo W W' (fun _ _ => True) := by
  subst hC
  obtain ⟨ns, hns1, hns2, hns3, _⟩ := row_sound (P := C.P) hu hg hr
  have hi : ∃ i, C.P.info? el = some i ∧ i.bytes = bs := by
    unfold bytesOf at hbs
    exact Option.map_eq_some_iff.1 hbs
  obtain ⟨inf, hinf, hinfb⟩ := hi
  have hDv := hv.mono (Evo.drew W (fun _ _ => True)) (by simp)
  have hDu := hu.mono (Evo.drew W (fun _ _ => True)) (by simp)
  cases hv with
  | @own _ _ _ A len cap hrep hsp =>
    have hlen := hrep.length
    simp only [List.length_nil] at hlen
    subst hlen
    have hcap : cap = 0 := by
      rcases hsp with h | ⟨e₀, _, _, _, _, h0, _⟩
      · exact h
      · simp at h0
    subst hcap
    have hrl : 0 < r.length := List.length_pos_iff.2 hr0
    have e0 : (#[Value.slice A 0 0, u] : Array Value)[0]? = some (.slice A 0 0) := rfl
    have e1 : (#[Value.slice A 0 0, u] : Array Value)[1]? = some u := rfl
    unfold Builtin.append_
    simp only [ht, e0, e1, ht', Sem.run_bind, run_underlying' hel, run_underlying' hud, Result.andThen_ok, run_sizeOf' hsz, Sem.run_pure, Bool.false_eq_true, if_false, hns1, Nat.zero_add]
    rw [if_neg (by omega)]
    obtain ⟨ns', _, hns2', hns3', _⟩ := row_sound (P := C.P) hDu hg hr
    obtain ⟨os', _, hos2', hos3', _⟩ := row_sound (P := C.P) (m := m) hDv (show (FV.own []).asRow = some [] from rfl) (fun _ h => by simp at h)
    have hos0 : os' = #[] := by
      have := hos3'.size
      simpa using this
    subst hos0
    have hos2' : Sem.run C.P (Builtin.firstCells (m + 1) 0 (.slice A 0 0)) W.drew.w = .ok #[] W.drew.w := hos2'
    have hcapb := nextcap_le (n := r.length) (c := 0) (by omega)
    have hlim : r.length ≤ 137438953472 := hle
    have hnr : ¬ (Builtin.nextslicecap (r.length) 0 * bs > 2 ^ 48) := by
      have : Builtin.nextslicecap (r.length) 0 * bs ≤ (2 * (r.length) + 256) * 256 := Nat.mul_le_mul hcapb hb1
      omega
    have hforced : (Question.appendCap (r.length) 0 el).forced = false := rfl
    have hch : (choose (.appendCap (r.length) 0 el)).run C.P W.w = .ok ((Question.appendCap (r.length) 0 el).cut (W.w.tape W.w.drawn (.appendCap (r.length) 0 el))) W.drew.w := by
      simp [hforced, Wd.drew]
    generalize hN : (Question.appendCap (r.length) 0 el).cut (W.w.tape W.w.drawn (.appendCap (r.length) 0 el)) = N at hch
    have hNge : r.length ≤ N := by rw [← hN]; simp [Question.cut]
    simp only [Bool.not_false, if_true, Sem.run_bind, run_typeInfo' hinf, Result.andThen_ok, hinfb, false_or]
    rw [if_neg (by omega)]
    simp only [Sem.run_bind, run_typeInfo' hinf, Result.andThen_ok, hinfb]
    rw [if_neg hnr]
    simp only [Sem.run_bind, hch, Result.andThen_ok, run_typeInfo' hinf, run_askRoom, hos2', hns2', run_zeroValue' hz, newRow, run_newObj, Sem.run_pure, World.alloc_eq]
    generalize hR : Builtin.zeroCells z.cells (N - (r.length)) = rest
    have hHd := hH.drew
    have hfl := flat_len hr
    obtain ⟨W', hw, hH', hE, hβ, ho⟩ := hHd.newBox (#[] ++ ns' ++ rest) el ((r.flatMap PV.leaves).map .sc) (by rw [List.length_map, hfl, Array.size_append, Array.size_append, hns3'.size]; omega) (fun k f v hf hv => by
      rw [List.getElem?_map] at hf
      obtain ⟨q, hq, rfl⟩ := Option.map_eq_some_iff.1 hf
      obtain ⟨p, h1, h2⟩ := flat_get (Nat.succ_pos m) hr hq
      obtain ⟨c, h3, h4, h5⟩ := hns3'.cell _ _ _ _ h1 h2
      have hk : k / (m + 1) * (m + 1) + k % (m + 1) = k := by rw [Nat.mul_comm]; exact Nat.div_add_mod k (m + 1)
      rw [hk] at h3
      have hlt : k < ns'.size := (Array.getElem?_eq_some_iff.1 h3).1
      rw [Array.empty_append, Array.getElem?_append_left hlt, h3] at hv
      obtain rfl := Option.some.inj hv
      exact ⟨h4, .sc h4 h5⟩)
    have hEE : Evo W W' (fun _ _ => True) := ((Evo.drew W (fun _ _ => True)).trans hE).weaken (by simp)
    refine ⟨W', _, by rw [hw], ?_, hH', hEE⟩
    have hb : FRep W' (some root) 0 (.bs H.length 0 r.length) (.slice (some ⟨W'.β H.length, 0, none⟩) r.length N) := .bs (by rw [hβ]; exact ho) (by omega)
    rw [hβ] at hb
    simpa using hb
theorem wp_append_box (hi : Inv C nt e H a W) {o : Oper} (hd : dstOk nt o.dst) {x y : Operand} {args : Array Operand} {ts : Array TypeId} (ho : o.op = .call { callee := .builtin .append, args, argTypes := ts })
    (hargs : args.toList = [x, y]) {t u el : TypeId} {tr : List TypeId} (hts : ts.toList = t :: u :: tr) {ud : TypeDesc} (hel : C.P.underlying t = some (.slice el)) (hud : C.P.underlying u = some ud) {m bs : Nat} {z : Value} {f g : FV} {e' : Env} {r : List PV}
    (hsz : szOf C.P el = some (m + 1)) (hz : zeroOf C.P el = some z) (hbs : bytesOf C.P el = some bs) (hg : give C e x = some (f, e')) (hy : rd C e y = some g) (hf : f.home = .own []) (hr : g.asRow = some r) (hr0 : r ≠ [])
    (hni : ∀ k, ud ≠ .int k) (hzs : z.cells.size = m + 1) (hb0 : 0 < bs) (hb1 : bs ≤ 256) (hrs : Sized (m + 1) r) (hle : r.length ≤ lenMax) (hK : K (e'.put o.dst (.bs H.length 0 r.length)) (H ++ [(r.flatMap PV.leaves).map .sc])) :
    o.wp C.P a W.w (After C nt W K) Q := by
  have hdr : ∃ d : Root, (∀ i, d ≠ .box i) ∧ (∀ i j, d ≠ .leaf i j) ∧ (∀ t, o.dst = some t → d = .tmp t) ∧ ∀ t, d = .tmp t → o.dst = some t := by
    cases hod : o.dst with
    | none => exact ⟨.res, by simp, by simp, by simp, by simp⟩
    | some t => exact ⟨.tmp t, by simp, by simp, by simp, by simp⟩
  obtain ⟨d, hd1, hd2, hd3, hd4⟩ := hdr
  obtain ⟨W₁, h1, h1l, h1b, h2, h3, h4, h5⟩ := give_sound hi hg (r := d) hd1
  have h3' := h3.home
  rw [hf] at h3'
  obtain ⟨_, _, hu⟩ := rd_sound hi hy
  have hgs := asRow_weak h2 hu hr
  have hgo : ∃ (W' : Wd) (v : Value), (Builtin.append_ ts o.type #[a.eval x, a.eval y]).run C.P W₁.w = .ok v W'.w ∧ FRep W' (some d) 0 (.bs H.length 0 r.length) v ∧ HInv C (H ++ [(r.flatMap PV.leaves).map .sc]) W' ∧ Evo W₁ W' (fun _ _ => True) := by
    have ht0 : ts[0]? = some t := by rw [← Array.getElem?_toList, hts]; rfl
    have ht1 : ts[1]? = some u := by rw [← Array.getElem?_toList, hts]; rfl
    rcases hgs with hgs | ⟨s, rfl, hs⟩
    · exact grow_box rfl (h5 H hi.heap) h3' hgs rfl hr0 ht0 ht1 hud hni hel hsz hz hzs hbs hb0 hb1 hrs hle
    · exact grow_box rfl (h5 H hi.heap) h3' (rg := none) (ig := 0) (g := .sc (.str s)) (by rw [hs]; exact .mkStr) hr hr0 ht0 ht1 hud hni hel hsz hz hzs hbs hb0 hb1 hrs hle
  obtain ⟨W', v, g1, g2, g3, g4⟩ := hgo
  refine wp_of (s := Builtin.append_ ts o.type #[a.eval x, a.eval y]) (W' := W') (v := v) ?_ (by rw [← h1]; exact g1) ⟨g3, fun s => ?_, by rw [put_size]; exact hi.size, by rw [put_defers]; exact hi.defers⟩ (((h2.weaken (k' := fun _ _ => False) (by simp)).trans (g4.weaken (k' := fun _ _ => False) (by simp))).weaken (by simp)) hK
  · obtain ⟨dst, op, ty, pos, after, guard⟩ := o
    simp only at ho
    subst ho
    have : args = #[x, y] := by rw [← Array.toList_inj]; simpa using hargs
    subst this
    simp only [execOp, resolve, invoke, builtin, pure_bind, List.map_toArray, List.map_cons, List.map_nil]
  · rw [tmps_put hd hi.size, get_put]
    split
    · rename_i hdt
      rw [hd3 s hdt] at g2
      exact g2
    · rename_i hdt
      have hds : d ≠ .tmp s := fun h => hdt (hd4 s h)
      exact (h4 s hds).mono g4 (by simp)
theorem wp_append (hi : Inv C nt e H a W) {o : Oper} (hd : dstOk nt o.dst) {x y : Operand} {args : Array Operand} {ts : Array TypeId} (ho : o.op = .call { callee := .builtin .append, args, argTypes := ts })
    (hargs : args.toList = [x, y]) {t u el : TypeId} {tr : List TypeId} (hts : ts.toList = t :: u :: tr) {ud : TypeDesc} (hel : C.P.underlying t = some (.slice el)) (hud : C.P.underlying u = some ud) {m bs : Nat} {z : Value} {f g : FV} {e' : Env} {l r : List PV}
    (hsz : szOf C.P el = some (m + 1)) (hz : zeroOf C.P el = some z) (hbs : bytesOf C.P el = some bs) (hg : give C e x = some (f, e')) (hy : rd C e y = some g) (hf : f.home = .own l) (hr : g.asRow = some r)
    (hni : ∀ k, ud ≠ .int k) (hzs : z.cells.size = m + 1) (hb0 : 0 < bs) (hb1 : bs ≤ 256) (hl : Sized (m + 1) l) (hrs : Sized (m + 1) r) (hle : l.length + r.length ≤ lenMax) (hK : K (e'.put o.dst (.own (l ++ r))) H) :
    o.wp C.P a W.w (After C nt W K) Q := by
  have hdr : ∃ d : Root, (∀ i, d ≠ .box i) ∧ (∀ i j, d ≠ .leaf i j) ∧ (∀ t, o.dst = some t → d = .tmp t) ∧ ∀ t, d = .tmp t → o.dst = some t := by
    cases hod : o.dst with
    | none => exact ⟨.res, by simp, by simp, by simp, by simp⟩
    | some t => exact ⟨.tmp t, by simp, by simp, by simp, by simp⟩
  obtain ⟨d, hd1, hd2, hd3, hd4⟩ := hdr
  obtain ⟨W₁, h1, h1l, h1b, h2, h3, h4, h5⟩ := give_sound hi hg (r := d) hd1
  have h3' := h3.home
  rw [hf] at h3'
  obtain ⟨_, _, hu⟩ := rd_sound hi hy
  -- what is appended, seen behind the transfer
  have hgs := asRow_weak h2 hu hr
  have hgo : ∃ (W' : Wd) (v : Value), (Builtin.append_ ts o.type #[a.eval x, a.eval y]).run C.P W₁.w = .ok v W'.w ∧ FRep W' (some d) 0 (.own (l ++ r)) v ∧ HInv C H W' ∧ Evo W₁ W' (fun q _ => q ≠ d) := by
    have ht0 : ts[0]? = some t := by rw [← Array.getElem?_toList, hts]; rfl
    have ht1 : ts[1]? = some u := by rw [← Array.getElem?_toList, hts]; rfl
    rcases hgs with hgs | ⟨s, rfl, hs⟩
    · exact grow_sound hd1 hd2 (h5 H hi.heap) h3' hgs rfl ht0 ht1 hud hni hel hsz hz hzs hbs hb0 hb1 hl hrs hle
    · exact grow_sound hd1 hd2 (h5 H hi.heap) h3' (rg := none) (ig := 0) (g := .sc (.str s)) (by rw [hs]; exact .mkStr) hr ht0 ht1 hud hni hel hsz hz hzs hbs hb0 hb1 hl hrs hle
  obtain ⟨W', v, g1, g2, g3, g4⟩ := hgo
  refine wp_of (s := Builtin.append_ ts o.type #[a.eval x, a.eval y]) (W' := W') (v := v) ?_ (by rw [← h1]; exact g1) ⟨g3, fun s => ?_, by rw [put_size]; exact hi.size, by rw [put_defers]; exact hi.defers⟩ (((h2.weaken (k' := fun _ _ => False) (by simp)).trans (g4.weaken (k' := fun _ _ => False) (by simp))).weaken (by simp)) hK
  · obtain ⟨dst, op, ty, pos, after, guard⟩ := o
    simp only at ho
    subst ho
    have : args = #[x, y] := by rw [← Array.toList_inj]; simpa using hargs
    subst this
    simp only [execOp, resolve, invoke, builtin, pure_bind, List.map_toArray, List.map_cons, List.map_nil]
  · rw [tmps_put hd hi.size, get_put]
    split
    · rename_i hdt
      rw [hd3 s hdt] at g2
      exact g2
    · rename_i hdt
      have hds : d ≠ .tmp s := fun h => hdt (hd4 s h)
      exact (h4 s hds).mono g4 (fun q j hq => by cases hq; exact fun h => hds h.symm)
theorem wp_conv (hi : Inv C nt e H a W) {o : Oper} (hd : dstOk nt o.dst) {s d : TypeId} {x : Operand} (ho : o.op = .convert s d x) {t : ByteArray} (hc : bytesConv C e s d x = some t) (hK : K (e.put o.dst (.sc (.sl (bytesPV t)))) H) :
    o.wp C.P a W.w (After C nt W K) Q := by
  unfold bytesConv at hc
  split at hc
  · rename_i u el t' hs hdt hx
    split at hc
    · rename_i he
      simp at hc; subst hc
      obtain ⟨_, _, hr⟩ := rd_sound hi hx
      have hrun := Go.Lib.run_convert_string_bytes (P := C.P) W.w s d el t' hs hdt he
      let W' : Wd := { W with w := Go.Lib.bytesWorld W.w el t', lim := fun b => if b = W.w.heap.size then t'.size else W.lim b }
      have hold := fun b (hb : b < W.w.heap.size) => Go.Lib.bytesWorld_at_old W.w el t' b hb
      have hE : Evo W W' (fun _ _ => True) := by
        refine Evo.of rfl rfl rfl (by show W.w.heap.size ≤ (Go.Lib.bytesWorld W.w el t').heap.size; rw [Go.Lib.bytesWorld_size]; omega) (fun b off h => ?_) (fun b => ?_) (fun b c T fz h => ?_) (fun b r i h _ => ⟨h, ?_⟩) (fun b i h h' => ⟨h', h⟩) (fun b hb h => ?_)
        · exact Go.Lib.bytesWorld_old W.w el t' _ (lt_of_lim hi.heap.toFresh h)
        · simp only [W']
          split
          · subst_vars; rw [hi.heap.toFresh.lim _ (Nat.le_refl _)]; exact Nat.zero_le _
          · exact Nat.le_refl _
        · have hb : b < W.w.heap.size := by
            rcases Nat.lt_or_ge b W.w.heap.size with h' | h'
            · exact h'
            · simp [Array.getElem?_eq_none h'] at h
          exact ⟨c, by simp only [W']; rw [hold b hb]; exact h, rfl⟩
        · have := lt_of_o hi.heap.toFresh h
          simp only [W']; rw [if_neg (by omega)]
        · exact ⟨by simp only [W']; exact hold b hb, by simp only [W']; rw [if_neg (by omega)], h⟩
      have hH : HInv C H W' := by
        refine ⟨fun b fs hfs => ?_, fun g ls hls j q' hq' => ?_, fun b hb => ?_, hi.heap.boxes⟩
        · obtain ⟨h1, h2, c, T, fz, h3, h4, h5, h6⟩ := hi.heap.box b fs hfs
          have hlt := lt_of_o hi.heap.toFresh h1
          exact ⟨h1, by simp only [W']; rw [if_neg (by omega)]; exact h2, c, T, fz, by simp only [W']; rw [hold _ hlt]; exact h3, h4, h5, fun i f v hf hv => ⟨(h6 i f v hf hv).1, (h6 i f v hf hv).2.mono hE (by simp)⟩⟩
        · obtain ⟨h1, h2, v, h3, h4⟩ := hi.heap.laid g ls hls j q' hq'
          exact ⟨h1, Nat.lt_of_lt_of_le h2 (hE.lim g), v, by rw [hE.cell _ _ h2]; exact h3, h4.mono hE.cell hE.lim⟩
        · have hsz : (Go.Lib.bytesWorld W.w el t').heap.size = W.w.heap.size + 1 := Go.Lib.bytesWorld_size W.w el t'
          have hb' : W.w.heap.size + 1 ≤ b := by rw [← hsz]; exact hb
          obtain ⟨q1, q2⟩ := hi.heap.fresh b (by omega)
          exact ⟨by simp only [W']; rw [if_neg (by omega)]; exact q1, q2⟩
      have hlen : (bytesPV t').length = t'.size := by simp [bytesPV]
      have hcap : t'.size ≤ grownCap W.w t'.size 0 el := grownCap_ge W.w t'.size 0 el
      have hat : ∀ (i : Nat) (p : PV), (bytesPV t')[i]? = some p → i < t'.size ∧ p = .int .u8 (t'.data.toList.getD i 0).toNat := fun i p hp => by
        have hlt : i < t'.size := by rw [← hlen]; exact (List.getElem?_eq_some_iff.1 hp).1
        refine ⟨hlt, ?_⟩
        have hlt' : i < t'.data.toList.length := by simpa using hlt
        simp only [bytesPV, List.getElem?_map, List.getElem?_eq_getElem hlt', Option.map_some, Option.some.injEq] at hp
        rw [← hp]
        simp [List.getD, List.getElem?_eq_getElem hlt']
      have hrep : Rep W'.w W'.lim (.sl (bytesPV t')) (.slice (some ⟨W.w.heap.size, 0, none⟩) t'.size (grownCap W.w t'.size 0 el)) := by
        refine .sl (fun i _ => .int .u8 (t'.data.toList.getD i 0).toNat) (sz := 1) hlen.symm rfl (by decide) (fun i p hp => ?_) (fun i j p q hp hq => ?_) (fun i j p q hp hq => ?_) (fun i j p q hp hq => ?_) (fun i j p q hp hq => ?_) hcap
        all_goals obtain ⟨h1, rfl⟩ := hat i _ hp
        · rfl
        all_goals
          have hj : j = 0 := by
            have := (List.getElem?_eq_some_iff.1 hq).1
            simp [PV.leaves] at this; exact this
          subst hj
          obtain rfl := Option.some.inj (show some (PV.int .u8 ((t'.data.toList.getD i 0).toNat : Nat)) = some q from hq)
        · simp only [W', if_true]; omega
        · simp only [W', Nat.mul_one, Nat.add_zero, Nat.zero_add]; exact Go.Lib.bytesWorld_cell W.w el t' i h1
        · rfl
        · exact .int
      refine wp_of (s := convert s d (a.eval x)) (W' := W') (v := .slice (some ⟨W.w.heap.size, 0, none⟩) t'.size (grownCap W.w t'.size 0 el)) ?_ (by rw [hr.str]; exact hrun) ⟨hH, fun k => ?_, by rw [put_size]; exact hi.size, by rw [put_defers]; exact hi.defers⟩ (hE.weaken (by simp)) hK
      · obtain ⟨dst, op, ty, pos, after, guard⟩ := o; simp only at ho; subst ho; rfl
      · rw [tmps_put hd hi.size, get_put]
        split
        · exact .sc rfl hrep
        · exact (hi.env k).mono hE (by simp)
    · simp at hc
  · simp at hc
theorem wp_clear (hi : Inv C nt e H a W) {o : Oper} (hd : dstOk nt o.dst) {x : Operand} {args : Array Operand} {ts : Array TypeId} (ho : o.op = .call { callee := .builtin .clear, args, argTypes := ts }) (hargs : args.toList = [x])
    {t el : TypeId} {tr : List TypeId} (hts : ts.toList = t :: tr) (hel : C.P.underlying t = some (.slice el)) {m b off n : Nat} {z : Value} (hz : zeroOf C.P el = some z) (hzl : (FV.ofValues z.cells.toList).isSome = true) (hzs : z.cells.size = m + 1)
    (hx : rd C e x = some (.bs b off n)) (hle : off + n * (m + 1) ≤ (H.getD b []).length) (hK : K (e.put o.dst .undef) (H.set b ((H.getD b []).take off))) : o.wp C.P a W.w (After C nt W K) Q := by
  obtain ⟨_, _, hrx⟩ := rd_sound hi hx
  generalize hv : a.eval x = v at hrx
  cases hrx with
  | @bs _ _ _ _ _ cap hbo hcap =>
    have hlt := hi.heap.boxes _ _ _ hbo
    rw [heap_get hlt] at hle hK
    obtain ⟨k1, k2, c, T, fz, k3, k4, k5, k6⟩ := hi.heap.box b H[b] (List.getElem?_eq_getElem hlt)
    obtain ⟨zl, hzl⟩ := Option.isSome_iff_exists.1 hzl
    obtain ⟨z1, z2⟩ := ofValues_rep (W := W) hzl
    have hone : ∀ v ∈ (Builtin.zeroCells z.cells n).toList, v.oneCell' = true := fun v hv => by
      obtain ⟨j, hj⟩ := List.getElem?_of_mem hv
      have hjs : j < (Builtin.zeroCells z.cells n).size := by
        rcases Nat.lt_or_ge j (Builtin.zeroCells z.cells n).size with h' | h'
        · exact h'
        · rw [List.getElem?_eq_none (by simpa using h')] at hj; simp at hj
      rw [Array.getElem?_toList, Array.getElem?_eq_getElem hjs] at hj
      have hmod : j % z.cells.size < z.cells.size := Nat.mod_lt _ (by omega)
      have hval : v = z.cells[j % z.cells.size] := by
        have := Option.some.inj hj
        rw [← this]
        simp [Builtin.zeroCells, hmod]
      have hl : j % z.cells.size < zl.length := by rw [z1]; simpa using hmod
      obtain ⟨q1, q2⟩ := z2 (j % z.cells.size) zl[j % z.cells.size] v (List.getElem?_eq_getElem hl) (by rw [Array.getElem?_toList, Array.getElem?_eq_getElem hmod, hval])
      exact (q2.leafValue q1).1
    have hzn : (Builtin.zeroCells z.cells n).toList.length = n * (m + 1) := by rw [Array.length_toList, run_zeroCells hzs]
    obtain ⟨w', c', r1, r2, r3, r4, r5, r6, r7, r8, r9⟩ := run_storeCells_at' (P := C.P) (A := ⟨W.β b, off, none⟩) rfl (Builtin.zeroCells z.cells n).toList 0 W.w c T fz k3 (by simp only [hzn]; omega) k5 hone
    have hE : Evo W { W with w := w' } (fun _ _ => True) := by
      refine Evo.of r7 r8 r9 (by simp only [r6]; exact Nat.le_refl _) (fun b' o' ho' => ?_) (fun _ => Nat.le_refl _) (fun b' c₀ T₀ fz₀ hb' => ?_) (fun _ _ _ h _ => ⟨h, rfl⟩) (fun _ _ h h' => ⟨h', h⟩) (fun b' _ hb' => ?_)
      · have : b' ≠ W.β b := fun h => by rw [h, k2] at ho'; omega
        simp only [World.cell?, r5 b' this]
      · by_cases hbb : b' = W.β b
        · subst hbb
          rw [k3] at hb'
          simp only [Option.some.injEq, Obj.cells.injEq] at hb'
          obtain ⟨rfl, rfl, rfl⟩ := hb'
          exact ⟨c', r2, r3⟩
        · exact ⟨c₀, by simp only; rw [r5 b' hbb]; exact hb', rfl⟩
      · have : b' ≠ W.β b := fun h => by rw [h, k1] at hb'; simp at hb'
        exact ⟨by simp only; rw [r5 b' this], rfl, hb'⟩
    have hH : HInv C (H.set b (H[b].take off)) { W with w := w' } := by
      refine ⟨fun b' gs hgs => ?_, fun g ls hls j q' hq' => ?_, fun b' hb' => ?_, fun b' i k hb' => ?_⟩
      · by_cases hbb : b' = b
        · subst hbb
          rw [List.getElem?_set_self hlt] at hgs
          simp only [Option.some.injEq] at hgs
          subst hgs
          refine ⟨k1, k2, c', T, fz, r2, by rw [r3, List.length_take]; omega, by rw [r3]; exact k5, fun i g v hg hv => ?_⟩
          have hio : i < off := by
            rcases Nat.lt_or_ge i off with h' | h'
            · exact h'
            · rw [List.getElem?_take_eq_none h'] at hg; simp at hg
          rw [List.getElem?_take_of_lt hio] at hg
          rw [r4, if_neg (by simp only; omega)] at hv
          exact ⟨(k6 i g v hg hv).1, (k6 i g v hg hv).2.mono hE (by simp)⟩
        · rw [List.getElem?_set_ne (fun h => hbb h.symm)] at hgs
          obtain ⟨m1, m2, c₂, T₂, fz₂, m3, m4, m5, m6⟩ := hi.heap.box b' gs hgs
          have hne : W.β b' ≠ W.β b := fun h => by rw [h, k1] at m1; simp at m1; omega
          exact ⟨m1, m2, c₂, T₂, fz₂, by simp only; rw [r5 _ hne]; exact m3, m4, m5, fun i g v hg hv => ⟨(m6 i g v hg hv).1, (m6 i g v hg hv).2.mono hE (by simp)⟩⟩
      · obtain ⟨m1, m2, v, m3, m4⟩ := hi.heap.laid g ls hls j q' hq'
        exact ⟨m1, m2, v, by rw [hE.cell _ _ m2]; exact m3, m4.mono hE.cell hE.lim⟩
      · simp only [r6] at hb'
        exact hi.heap.fresh b' hb'
      · rw [List.length_set]
        exact hi.heap.boxes b' i k hb'
    have ht0 : ts[0]? = some t := by rw [← Array.getElem?_toList, hts]; rfl
    have hrun : (Builtin.clear_ ts o.type #[.slice (some ⟨W.β b, off, none⟩) n cap]).run C.P W.w = .ok (.tuple #[]) w' := by
      have e0 : (#[Value.slice (some ⟨W.β b, off, none⟩) n cap] : Array Value)[0]? = some (.slice (some ⟨W.β b, off, none⟩) n cap) := rfl
      unfold Builtin.clear_
      cases n with
      | zero =>
        have : w' = W.w := by
          have h0 : (Builtin.zeroCells z.cells 0).toList = [] := List.eq_nil_of_length_eq_zero (by rw [hzn]; omega)
          rw [h0] at r1
          simp [storeCells] at r1
          exact r1.symm
        subst this
        simp only [ht0, e0, Sem.run_bind, run_underlying' hel, Result.andThen_ok, Sem.run_pure]
      | succ n =>
        simp only [ht0, e0, Sem.run_bind, run_underlying' hel, Result.andThen_ok, run_zeroValue' hz, r1, Sem.run_pure]
    refine wp_of (s := Builtin.clear_ ts o.type #[a.eval x]) (W' := { W with w := w' }) (v := .tuple #[]) ?_ (by rw [hv]; exact hrun) ⟨hH, fun k => ?_, by rw [put_size]; exact hi.size, by rw [put_defers]; exact hi.defers⟩ (hE.weaken (by simp)) hK
    · obtain ⟨dst, op, ty, pos, after, guard⟩ := o
      simp only at ho
      subst ho
      have : args = #[x] := by rw [← Array.toList_inj]; simpa using hargs
      subst this
      simp only [execOp, resolve, invoke, builtin, pure_bind, List.map_toArray, List.map_cons, List.map_nil]
    · rw [tmps_put hd hi.size, get_put]
      split
      · exact .undef
      · exact (hi.env k).mono hE (by simp)
theorem wp_clear_nil (hi : Inv C nt e H a W) {o : Oper} (hd : dstOk nt o.dst) {x : Operand} {args : Array Operand} {ts : Array TypeId} (ho : o.op = .call { callee := .builtin .clear, args, argTypes := ts }) (hargs : args.toList = [x])
    {t el : TypeId} {tr : List TypeId} (hts : ts.toList = t :: tr) (hel : C.P.underlying t = some (.slice el)) (hx : rd C e x = some (.sc (.sl []))) (hK : K (e.put o.dst .undef) H) : o.wp C.P a W.w (After C nt W K) Q := by
  obtain ⟨_, _, hrx⟩ := rd_sound hi hx
  obtain ⟨A, len, cap, hv, hr⟩ := hrx.list (show (FV.sc (.sl [])).asList = some [] from rfl)
  rw [hv] at hr
  obtain rfl : len = 0 := by simpa using hr.length
  have ht0 : ts[0]? = some t := by rw [← Array.getElem?_toList, hts]; rfl
  have hrun : (Builtin.clear_ ts o.type #[.slice A 0 cap]).run C.P W.w = .ok (.tuple #[]) W.w := by
    have e0 : (#[Value.slice A 0 cap] : Array Value)[0]? = some (.slice A 0 cap) := rfl
    unfold Builtin.clear_
    cases A <;> simp only [ht0, e0, Sem.run_bind, run_underlying' hel, Result.andThen_ok, Sem.run_pure]
  refine wp_of (s := Builtin.clear_ ts o.type #[a.eval x]) (W' := W) (v := .tuple #[]) ?_ (by rw [hv]; exact hrun) ⟨hi.heap, fun k => ?_, by rw [put_size]; exact hi.size, by rw [put_defers]; exact hi.defers⟩ (Evo.refl _ _) hK
  · obtain ⟨dst, op, ty, pos, after, guard⟩ := o
    simp only at ho
    subst ho
    have : args = #[x] := by rw [← Array.toList_inj]; simpa using hargs
    subst this
    simp only [execOp, resolve, invoke, builtin, pure_bind, List.map_toArray, List.map_cons, List.map_nil]
  · rw [tmps_put hd hi.size, get_put]
    split
    · exact .undef
    · exact hi.env k
end
end Go.Proofs.YtlnnnfogbakimaaDoor.Ev
end
section
namespace Go.Proofs.YtlnnnfogbakimaaDoor.Ev
open Go
section
variable {C : Ctx} {nt : Nat} {mv : List Nat} {e : Env} {H : Heap} {a : Act} {W : Wd} {K : Env → Heap → Prop} {Q : Exit → Act → World → Prop}
set_option maxHeartbeats 1000000 in
theorem wpOp_sound (hi : Inv C nt e H a W) {o : Oper} (h : wpOp C nt mv (Call C) o e H K) : o.wp C.P a W.w (After C nt W K) Q := by
  have hval : ∀ {op : Op}, o.op = op → dstOk nt o.dst → ∀ {f : FV}, valOp C e H op = some f → K (e.put o.dst f) H → o.wp C.P a W.w (After C nt W K) Q := fun ho hd f hf hK =>
    wp_val hi hd (valOp_sound hi (by rw [ho]; exact hf)) hK
  unfold wpOp at h
  obtain ⟨hd, h⟩ := h
  split at h
  · -- assign
    rename_i x ho
    split at h
    · rename_i f e' hg
      exact wp_give hi hd (x := x) (by obtain ⟨dst, op, ty, pos, after, guard⟩ := o; simp only at ho; subst ho; rfl) hg h
    · exact h.elim
  · -- move
    rename_i x ho
    split at h
    · split at h
      · rename_i f e' hg
        exact wp_give hi hd (x := x) (by obtain ⟨dst, op, ty, pos, after, guard⟩ := o; simp only at ho; subst ho; rfl) hg h
      · exact h.elim
    · split at h
      · rename_i f hf
        exact hval ho hd hf h
      · exact h.elim
  · -- extract
    rename_i x i ho
    split at h
    · rename_i hmv
      split at h
      · rename_i t l hx
        split at h
        · rename_i f hf
          cases hod : o.dst with
          | none => rw [hod] at hmv; simp [mvOf] at hmv
          | some d =>
            rw [hod] at hd h
            have hget : e.get t = .tup l := by simpa [rd] using hx
            obtain ⟨W', v, h1, h2, h3, h4⟩ := step_extractmv hi hd hget hf
            rw [← hod] at h3 h
            refine wp_of (s := Instr.extract (a.eval (.tmp t)) i) (W' := W') (v := v) ?_ (by rw [h2, h1]) h3 h4 h
            obtain ⟨dst, op, ty, pos, after, guard⟩ := o; simp only at ho; subst ho; rfl
        · exact h.elim
      · exact h.elim
    · split at h
      · rename_i f hf
        exact hval ho hd hf h
      · exact h.elim
  · -- load
    rename_i t x ho
    split at h
    · rename_i hmv
      split at h
      · rename_i b off hx ha
        split at h
        · rename_i f hf
          cases hod : o.dst with
          | none => rw [hod] at hmv; simp [mvOf] at hmv
          | some d =>
            rw [hod] at hd h
            obtain ⟨W', v, h1, h2, h3, h4⟩ := step_loadmv hi hd hx ha hf
            rw [← hod] at h3 h
            refine wp_of (s := Instr.loadAt t (a.eval x)) (W' := W') (v := v) ?_ (by rw [h2, h1]) h3 h4 h
            obtain ⟨dst, op, ty, pos, after, guard⟩ := o; simp only at ho; subst ho; rfl
        · exact h.elim
      · exact h.elim
    · split at h
      · rename_i f hf
        exact hval ho hd hf h
      · exact h.elim
  · -- alloc
    rename_i t ho
    split at h
    · rename_i z hz
      split at h
      · rename_i l hl
        obtain ⟨W', v, h1, h2, h3⟩ := step_alloc hi hd hz hl
        refine wp_of (s := Instr.alloc t true (.tuple #[])) (W' := W') (v := v) ?_ h1 h2 h3 h
        obtain ⟨dst, op, ty, pos, after, guard⟩ := o; simp only at ho; subst ho; rfl
      · exact h.elim
    · exact h.elim
  · -- box
    rename_i t x ho
    split at h
    · rename_i f e' hg
      split at h
      · rename_i l hl
        obtain ⟨hlf, h⟩ := h
        obtain ⟨W', v, h1, h2, h3⟩ := step_box (t := t) hi hd hg hl (fun m hm => by subst hm; simp [FV.cells] at hl; subst hl; exact hlf)
        refine wp_of (s := Instr.box t (a.eval x)) (W' := W') (v := v) ?_ h1 h2 h3 h
        obtain ⟨dst, op, ty, pos, after, guard⟩ := o; simp only at ho; subst ho; rfl
      · exact h.elim
    · exact h.elim
  · -- store
    rename_i t x y ho
    split at h
    · rename_i b off f e' n hx hg hn
      split at h
      · rename_i l hl
        obtain ⟨hlf, hln, hle, h⟩ := h
        obtain ⟨W', h1, h2, h3⟩ := step_store hi hd hx hg hn hl hlf hln hle
        refine wp_skip' (w' := W'.w) ?_ ⟨_, _, W', rfl, h, h2, h3⟩
        obtain ⟨dst, op, ty, pos, after, guard⟩ := o; simp only at ho; subst ho
        simp [execOp, h1]
      · exact h.elim
    · exact h.elim
  · -- buildSlice
    rename_i t n parts ho
    split at h
    · rename_i el hu
      split at h
      · rename_i m z ps hsz hz hps
        obtain ⟨hn, hidx, hle, hzs, h⟩ := h
        split at h
        · rename_i l hl
          obtain ⟨hs, h⟩ := h
          obtain ⟨W', v, h1, h2, h3⟩ := step_buildSlice hi hd hu hsz hz hps hn hidx hle hl hs
          refine wp_of (s := Instr.buildSlice t n (parts.map fun (i, x) => (i, a.eval x))) (W' := W') (v := v) ?_ h1 h2 h3 h
          obtain ⟨dst, op, ty, pos, after, guard⟩ := o; simp only at ho; subst ho; rfl
        · exact h.elim
      · exact h.elim
    · exact h.elim
  · -- a row against nil
    rename_i op t x y yt ho
    split at h
    rotate_left
    · split at h
      · rename_i f hf
        exact hval ho hd hf h
      · exact h.elim
    rename_i hny
    obtain ⟨rfl⟩ : y = .const (.slice none 0 0) := by
      unfold nilRow at hny
      split at hny
      · simp only [Bool.and_eq_true, beq_iff_eq] at hny; rw [hny.1, hny.2]
      · simp at hny
    have key : ∀ {sg : Bool} {el : TypeId} {f : FV} {l : List PV}, (op = .eql ∧ sg = false ∨ op = .neq ∧ sg = true) → C.P.underlying t = some (.slice el) → rd C e x = some f → f.asList = some l →
        (l ≠ [] → K (e.put o.dst (.sc (.bool sg))) H) → (l = [] → ∀ b, K (e.put o.dst (.sc (.bool b))) H) → o.wp C.P a W.w (After C nt W K) Q := by
      intro sg el f l hop hu hx hl h1 h2
      obtain ⟨_, _, hr⟩ := rd_sound hi hx
      obtain ⟨A, len, cap, hv, hrep⟩ := hr.list hl
      have hrun : ∃ b, (do eqGuard op t x (.const (.slice none 0 0)) (a.eval x) (.slice none 0 0); binOp op t (a.eval x) (.slice none 0 0) : Sem Value).run C.P W.w = .ok (.bool b) W.w ∧ (l ≠ [] → b = sg) := by
        rw [hv]
        simp only [Sem.run_bind, run_eqGuard_plain (v := .slice A len cap) rfl (by simp), Result.andThen_ok]
        have heq : (Op.equal t (.slice A len cap) (.slice none 0 0)).run C.P W.w = .ok A.isNone W.w := by
          show (Op.equalIn (9999 + 1) t _ _).run C.P W.w = _
          cases A <;> (unfold Op.equalIn; simp only [Sem.run_bind, run_underlying' hu, Result.andThen_ok]; rfl)
        have hne : l ≠ [] → A.isNone = false := fun hl' => by
          rw [hv] at hrep
          cases hrep with
          | nil => exact absurd rfl hl'
          | sl => rfl
        rcases hop with ⟨rfl, rfl⟩ | ⟨rfl, rfl⟩
        · exact ⟨A.isNone, by simp [binOp, heq], hne⟩
        · exact ⟨!A.isNone, by simp [binOp, heq], fun h => by rw [hne h]; rfl⟩
      obtain ⟨b, hb, hbl⟩ := hrun
      refine wp_of (s := do eqGuard op t x (.const (.slice none 0 0)) (a.eval x) (.slice none 0 0); binOp op t (a.eval x) (.slice none 0 0)) (W' := W) (v := .bool b) ?_ hb (hi.val hd .mkBool) (Evo.refl _ _) ?_
      · obtain ⟨dst, op', ty, pos, after, guard⟩ := o; simp only at ho; subst ho; simp only [execOp, Act.eval]
      · by_cases hl' : l = []
        · exact h2 hl' b
        · rw [hbl hl']; exact h1 hl'
    have keyB : ∀ {sg : Bool} {el : TypeId} {b off n : Nat}, (op = .eql ∧ sg = false ∨ op = .neq ∧ sg = true) → C.P.underlying t = some (.slice el) → rd C e x = some (.bs b off n) →
        K (e.put o.dst (.sc (.bool sg))) H → o.wp C.P a W.w (After C nt W K) Q := by
      intro sg el b off n hop hu hx h1
      obtain ⟨_, _, hr⟩ := rd_sound hi hx
      generalize hv : a.eval x = v at hr
      cases hr with
      | @bs _ _ _ _ _ cap hbo hcap =>
        have hrun : (do eqGuard op t x (.const (.slice none 0 0)) (a.eval x) (.slice none 0 0); binOp op t (a.eval x) (.slice none 0 0) : Sem Value).run C.P W.w = .ok (.bool sg) W.w := by
          rw [hv]
          simp only [Sem.run_bind, run_eqGuard_plain (v := .slice (some ⟨W.β b, off, none⟩) n cap) rfl (by simp), Result.andThen_ok]
          have heq : (Op.equal t (.slice (some ⟨W.β b, off, none⟩) n cap) (.slice none 0 0)).run C.P W.w = .ok false W.w := by
            show (Op.equalIn (9999 + 1) t _ _).run C.P W.w = _
            unfold Op.equalIn; simp only [Sem.run_bind, run_underlying' hu, Result.andThen_ok]; rfl
          rcases hop with ⟨rfl, rfl⟩ | ⟨rfl, rfl⟩ <;> simp [binOp, heq]
        refine wp_of (s := do eqGuard op t x (.const (.slice none 0 0)) (a.eval x) (.slice none 0 0); binOp op t (a.eval x) (.slice none 0 0)) (W' := W) (v := .bool sg) ?_ hrun (hi.val hd .mkBool) (Evo.refl _ _) h1
        obtain ⟨dst, op', ty, pos, after, guard⟩ := o; simp only at ho; subst ho; simp only [execOp, Act.eval]
    split at h
    · rename_i el b off n hu hx
      exact keyB (.inl ⟨rfl, rfl⟩) hu hx h
    · rename_i el b off n hu hx
      exact keyB (.inr ⟨rfl, rfl⟩) hu hx h
    · rename_i el f _ hu hx
      split at h
      · rename_i l hl
        exact key (.inl ⟨rfl, rfl⟩) hu hx hl h.1 h.2
      · exact h.elim
    · rename_i el f _ hu hx
      split at h
      · rename_i l hl
        exact key (.inr ⟨rfl, rfl⟩) hu hx hl h.1 h.2
      · exact h.elim
    · exact h.elim
  · -- conversions
    rename_i s d x ho
    split at h
    · rename_i t ht
      exact wp_conv hi hd ho ht h
    · split at h
      · rename_i f hf
        exact hval ho hd hf h
      · exact h.elim
  · -- calls
    rename_i c ho
    obtain ⟨callee, args, ts⟩ := c
    simp only at h
    split at h
    · rename_i x
      split at h
      · rename_i f first cap l hx hl
        obtain ⟨r, H', hc, hK⟩ := h
        exact wp_call hi hd ho hx hl hc hK
      · exact h.elim
    · rename_i b
      split at h
      · rename_i hb
        obtain rfl : b = .append := by cases b <;> simp_all [isAppend]
        split at h
        · rename_i x y t u tr hargs hts
          split at h
          · rename_i el ud hel hud
            split at h
            · rename_i m z bs f e' g hsz hz hbs hg hy
              split at h
              · rename_i l r hf hr
                split at h
                · obtain ⟨rfl, hr0, hni, hzs, hb0, hb1, hrs, hle, hK⟩ := h
                  exact wp_append_box hi hd ho hargs hts hel hud hsz hz hbs hg hy hf hr hr0 hni hzs hb0 hb1 hrs hle hK
                obtain ⟨hni, hzs, hb0, hb1, hl, hrs, hle, hK⟩ := h
                exact wp_append hi hd ho hargs hts hel hud hsz hz hbs hg hy hf hr hni hzs hb0 hb1 hl hrs hle hK
              · exact h.elim
            · exact h.elim
          · exact h.elim
        · exact h.elim
      · split at h
        · rename_i hb
          obtain rfl : b = .clear := by cases b <;> simp_all [isClear]
          split at h
          · rename_i x t tr hargs hts
            split at h
            · rename_i el b off n hel hx
              split at h
              · rename_i m z hsz hz
                obtain ⟨h1, h2, h3, hK⟩ := h
                exact wp_clear hi hd ho hargs hts hel hz h1 h2 hx h3 hK
              · exact h.elim
            · rename_i el hel hx
              exact wp_clear_nil hi hd ho hargs hts hel hx h
            · exact h.elim
          · exact h.elim
        · split at h
          · rename_i f hf
            exact hval ho hd hf h
          · exact h.elim
    · exact h.elim
  · rename_i op _ _ _ _ _ _ _ _ _ _
    split at h
    · rename_i f hf
      exact hval rfl hd hf h
    · exact h.elim
theorem wanted_sound (hi : Inv C nt e H a W) {ops : Array Oper} {o : Oper} {b : Bool} (h : wanted nt ops e o = some b) : Region.wanted o (yielded ops a.tmps) = b := by
  unfold wanted at h
  unfold Region.wanted
  split at h
  · rename_i hg
    simp only [Option.some.injEq] at h
    rw [hg]; simp [← h]
  · rename_i j want hg
    rw [hg]
    simp only
    split at h
    · rename_i d hd
      split at h
      · rename_i hlt0
        split at h
        · rename_i b' hb
          simp only [Option.some.injEq] at h
          have hv := (hi.env d)
          rw [hb] at hv
          have hv' := hv.bool
          have hlt : d < a.tmps.size := Nat.lt_of_lt_of_le hlt0 hi.size
          have : a.tmps[d]? = some (.bool b') := by
            simp only [Array.getD_eq_getD_getElem?, Array.getElem?_eq_getElem hlt, Option.getD_some] at hv'
            rw [Array.getElem?_eq_getElem hlt, hv']
          unfold yielded
          rw [hd]
          simp only [Option.bind_some, this]
          rw [← h]
          cases b' <;> cases want <;> rfl
        · rename_i hb
          simp only [Option.some.injEq] at h
          have hv := (hi.env d)
          rw [hb] at hv
          have hlt : d < a.tmps.size := Nat.lt_of_lt_of_le hlt0 hi.size
          have hv' : ∀ b', a.tmps[d]? ≠ some (.bool b') := fun b' hb' => by
            simp only [Array.getD_eq_getD_getElem?, hb', Option.getD_some] at hv
            cases hv
          rw [← h]
          unfold yielded
          rw [hd]
          simp only [Option.bind_some]
          first
            | rfl
            | (rw [Array.getElem?_eq_getElem hlt] at hv' ⊢
               cases hx : a.tmps[d] <;> first | rfl | (exact absurd (by rw [hx]) (hv' _)))
        · simp at h
      · simp at h
    · simp at h
end
end Go.Proofs.YtlnnnfogbakimaaDoor.Ev
end
section
namespace Go.Proofs.YtlnnnfogbakimaaDoor.Ev
open Go
section
variable {C : Ctx} {nt : Nat} {mv : List Nat}
theorem Inv.undef {e : Env} {H : Heap} {a : Act} {W : Wd} (hi : Inv C nt e H a W) (dst : Option Tmp) : Inv C nt (e.put dst (.tup [])) H (a.put dst Go.undef) W where
  heap := hi.heap
  env t := by
    rw [get_put]
    split
    · rename_i h
      have : (a.put dst Go.undef).tmps.getD t Go.undef = Go.undef := by
        subst h
        simp only [Act.put, Array.getD_eq_getD_getElem?]
        by_cases ht : t < a.tmps.size
        · rw [Array.getElem?_setIfInBounds_self_of_lt ht]; rfl
        · rw [Array.getElem?_eq_none (by simpa using ht)]; rfl
      rw [this]
      exact .tup rfl (fun j f v hf => by simp at hf)
    · rename_i h
      have : (a.put dst Go.undef).tmps.getD t Go.undef = a.tmps.getD t Go.undef := by
        cases dst with
        | none => rfl
        | some d =>
          have : d ≠ t := fun hh => h (by rw [hh])
          simp [Act.put, Array.getElem?_setIfInBounds_ne this]
      rw [this]; exact hi.env t
  size := by rw [put_size]; exact hi.size
  defers := by rw [put_defers]; exact hi.defers
theorem Evo.trans0 {A B D : Wd} (h : Evo A B (fun _ _ => False)) (h' : Evo B D (fun _ _ => False)) : Evo A D (fun _ _ => False) := (h.trans h').weaken (by simp)
theorem wpOps_sound {ops : Array Oper} {K : Env → Heap → Prop} {Q : Exit → Act → World → Prop} {W₀ : Wd} (hQ : ∀ e H a W, K e H → Inv C nt e H a W → Evo W₀ W (fun _ _ => False) → Q .normal a W.w) :
    ∀ (l : List Oper) (e : Env) (H : Heap) (a : Act) (W : Wd), Inv C nt e H a W → Evo W₀ W (fun _ _ => False) → wpOps C nt mv (Call C) ops l e H K → wpList C.P ops Q l a W.w
  | [], e, H, a, W, hi, hE, h => hQ e H a W h hi hE
  | o :: l, e, H, a, W, hi, hE, h => by
    unfold wpOps at h
    unfold wpList
    split at h
    · rename_i hw
      rw [if_pos (wanted_sound hi hw)]
      left
      have := wpOp_sound (Q := Q) hi h
      refine Oper.wp_mono (fun a' w' hA => ?_) this
      obtain ⟨e', H', W', rfl, hK, hi', hE'⟩ := hA
      exact wpOps_sound hQ l e' H' a' W' hi' (hE.trans0 hE') hK
    · rename_i hw
      rw [if_neg (by rw [wanted_sound hi hw]; simp)]
      exact wpOps_sound hQ l _ H _ W (hi.undef o.dst) hE h
    · exact h.elim
end
def CallP (C : Ctx) (f : FuncId) (args : List FV) (H : Heap) (r : FV) (H' : Heap) : Prop :=
  callable C.P f = true ∧ H' = H ∧ args.all FV.noPtr = true ∧ r.noPtr = true ∧ PCon C f args r
def CallD (C : Ctx) (ρ : FuncId → List FV → FV → Prop) (f : FuncId) (args : List FV) (H : Heap) (r : FV) (H' : Heap) : Prop := CallP C f args H r H' ∧ ρ f args r
theorem CallP.call {C : Ctx} {f : FuncId} {args : List FV} {H : Heap} {r : FV} {H' : Heap} (h : CallP C f args H r H') : Call C f args H r H' := ⟨h.1, .inl h.2⟩
end Go.Proofs.YtlnnnfogbakimaaDoor.Ev
end
section
namespace Go.Proofs.YtlnnnfogbakimaaDoor.Ev
open Go
def opTmps : Operand → List Nat
  | .tmp t => [t]
  | _ => []
def optTmps : Option Operand → List Nat
  | some x => opTmps x
  | none => []
def listTmps : List Operand → List Nat
  | [] => []
  | x :: l => opTmps x ++ listTmps l
def partTmps : List (Nat × Operand) → List Nat
  | [] => []
  | x :: l => opTmps x.2 ++ partTmps l
inductive Kind where
  | quiet | load | take | store | other
  deriving DecidableEq
def kindOf (mv : List Nat) (o : Oper) : Kind :=
  match o.op with
  | .assign _ | .move _ | .buildSlice .. => .quiet
  | .extract .. => if mvOf mv o.dst then .other else .quiet
  | .load .. => if mvOf mv o.dst then .take else .load
  | .store .. => .store
  | .binOp _ _ _ y _ => if nilRow y = true then .other else .quiet
  | .pick .. | .fieldAddr .. | .field .. | .indexAddr .. | .index .. | .unOp .. | .convert .. | .slice .. | .build .. | .makeFunc .. | .nilCheck .. => .quiet
  | .call { callee := .value _, .. } => .quiet
  | .call { callee := .builtin .append, .. } => if boxed mv o.dst = true then .other else .quiet
  | .call { callee := .builtin .len, .. } => .quiet
  | .call { callee := .builtin .min, .. } => .quiet
  | .call { callee := .builtin .max, .. } => .quiet
  | _ => .other
def readsOp : Op → List Nat
  | .assign x | .move x | .extract x _ | .load _ x | .fieldAddr _ x _ | .field _ x _ | .unOp _ _ x | .convert _ _ x | .nilCheck x => opTmps x
  | .store _ x y | .indexAddr _ x y | .index _ x y | .binOp _ _ x y _ => opTmps x ++ opTmps y
  | .pick c x y => opTmps c ++ opTmps x ++ opTmps y
  | .slice _ x lo hi _ => opTmps x ++ optTmps lo ++ optTmps hi
  | .build _ ps | .buildSlice _ _ ps => partTmps ps.toList
  | .makeFunc _ a b => listTmps a.toList ++ listTmps b.toList
  | .call { callee := .value x, args, .. } => opTmps x ++ listTmps args.toList
  | .call { args, .. } => listTmps args.toList
  | _ => []
def writesOp (mv : List Nat) (o : Oper) : List Nat :=
  o.dst.toList ++ match o.op with
  | .assign x => opTmps x
  | .move x => if mvOf mv o.dst = true then opTmps x else []
  | .store _ _ y => opTmps y
  | .call { callee := .builtin .append, args, .. } => match args.toList with
    | x :: _ => opTmps x
    | [] => []
  | _ => []
def Agree (ts : List Nat) (e e' : Env) : Prop := ∀ t ∈ ts, e'.get t = e.get t
section
variable {C : Ctx} {ρ : FuncId → List FV → FV → Prop} {e e' : Env} {H : Heap}
theorem rd_congr {x : Operand} (h : Agree (opTmps x) e e') : rd C e' x = rd C e x := by
  cases x <;> simp only [rd]
  rw [h _ (by simp [opTmps])]
theorem Agree.left {a b : List Nat} (h : Agree (a ++ b) e e') : Agree a e e' := fun t ht => h t (List.mem_append_left _ ht)
theorem Agree.right {a b : List Nat} (h : Agree (a ++ b) e e') : Agree b e e' := fun t ht => h t (List.mem_append_right _ ht)
theorem rdAll_congr : ∀ {xs : List Operand}, Agree (listTmps xs) e e' → rdAll C e' xs = rdAll C e xs
  | [], _ => rfl
  | x :: xs, h => by
    simp only [rdAll]
    rw [rd_congr h.left, rdAll_congr h.right]
theorem rdParts_congr : ∀ {xs : List (Nat × Operand)}, Agree (partTmps xs) e e' → rdParts C e' xs = rdParts C e xs
  | [], _ => rfl
  | (i, x) :: xs, h => by
    simp only [rdParts]
    rw [rd_congr h.left, rdParts_congr h.right]
theorem rdo_congr {x : Option Operand} (h : Agree (optTmps x) e e') : rdo C e' x = rdo C e x := by
  cases x with
  | none => rfl
  | some x => simp only [rdo]; rw [rd_congr h]
theorem valOp_congr {op : Op} (h : Agree (readsOp op) e e') : valOp C e' H op = valOp C e H op := by
  unfold valOp
  split
  all_goals first
    | (simp only [readsOp] at h; rw [rd_congr h]; done)
    | (simp only [readsOp] at h; rw [rd_congr h.left, rd_congr h.right]; done)
    | (simp only [readsOp] at h; rw [rd_congr h.left.left, rd_congr h.left.right, rd_congr h.right]; done)
    | (simp only [readsOp] at h; rw [rd_congr h.left.left, rdo_congr h.left.right, rdo_congr h.right]; done)
    | (simp only [readsOp] at h; rw [rdAll_congr h.left, rdAll_congr h.right]; done)
    | (simp only [readsOp] at h; unfold buildOf; rw [rdParts_congr h]; done)
    | skip
  all_goals first
    | rfl
    | (split
       · split
         · rename_i x t hx ht
           have : rd C e' x = rd C e x := rd_congr fun s hs => h s (by simp only [readsOp, hx, listTmps]; simp [hs])
           rw [this]
         · rfl
       · simp only [readsOp] at h; rw [rdAll_congr h]
       · simp only [readsOp] at h; rw [rdAll_congr h]
       · rfl)
theorem valOp_heap {op : Op} {H' : Heap} (h : ∀ t x, op ≠ .load t x) : valOp C e H' op = valOp C e H op := by
  unfold valOp
  split <;> first | rfl | (rename_i t x; exact absurd rfl (h t x))
theorem give_congr {x : Operand} {f : FV} {e₁ : Env} (h : Agree (opTmps x) e e') (hg : give C e x = some (f, e₁)) :
    ∃ δ : Env, e₁ = δ ++ e ∧ give C e' x = some (f, δ ++ e') ∧ ∀ p ∈ δ, p.1 ∈ opTmps x := by
  cases x with
  | tmp t =>
    simp only [give, Option.some.injEq, Prod.mk.injEq] at hg
    obtain ⟨rfl, rfl⟩ := hg
    exact ⟨[(t, demote (e.get t))], rfl, by simp [give, h t (by simp [opTmps])], by simp [opTmps]⟩
  | _ =>
    simp only [give, Option.map_eq_some_iff] at hg
    obtain ⟨g, hg, hh⟩ := hg
    simp only [Prod.mk.injEq] at hh
    obtain ⟨rfl, rfl⟩ := hh
    exact ⟨[], rfl, by simp only [give]; rw [rd_congr (fun t ht => by simp [opTmps] at ht), hg]; rfl, by simp⟩
theorem put_append (δ e : Env) (d : Option Nat) (f : FV) : (δ ++ e).put d f = (δ.put d f) ++ e := by cases d <;> rfl
theorem put_nil (e : Env) (d : Option Nat) (f : FV) : e.put d f = (Env.put [] d f) ++ e := by cases d <;> rfl
def dem (H : Heap) : Heap := H.map fun fs => fs.map demote1
def chg : Kind → Bool
  | .store | .take => true
  | _ => false
def Compat : Kind → Heap → Heap → Prop
  | .quiet, _, _ => True
  | .load, H', H => dem H' = dem H
  | _, H', H => H' = H
theorem Compat.refl (k : Kind) (H : Heap) : Compat k H H := by cases k <;> simp [Compat]
theorem dem_at {H H' : Heap} (h : dem H' = dem H) (b : Nat) : (H'.getD b []).map demote1 = (H.getD b []).map demote1 := by
  have e : ∀ H : Heap, (H.getD b []).map demote1 = (dem H).getD b [] := fun H => by
    simp only [dem, List.getD, List.getElem?_map]
    cases H[b]? <;> simp
  rw [e, e, h]
theorem demote1_demote (f : FV) : demote1 (demote f) = demote1 f := by cases f <;> rfl
theorem dem_take {H : Heap} {b off : Nat} {f : FV} (h : (H.getD b [])[off]? = some f) : dem (H.set b ((H.getD b []).set off (demote f))) = dem H := by
  simp only [dem, List.map_set]
  have hb : b < H.length := by
    rcases Nat.lt_or_ge b H.length with h' | h'
    · exact h'
    · simp [List.getD, List.getElem?_eq_none h'] at h
  have hg : H.getD b [] = H[b] := by simp [List.getD, hb]
  rw [hg] at h ⊢
  have ho := (List.getElem?_eq_some_iff.1 h).1
  have hf := (List.getElem?_eq_some_iff.1 h).2
  have : (H[b].map demote1).set off (demote1 (demote f)) = H[b].map demote1 := by
    rw [demote1_demote, ← hf]
    have : demote1 H[b][off] = (H[b].map demote1)[off]'(by simpa using ho) := by simp
    rw [this, List.set_getElem_self]
  rw [this]
  have : H[b].map demote1 = (H.map fun fs => fs.map demote1)[b]'(by simpa using hb) := by simp
  rw [this, List.set_getElem_self]
theorem valOp_dem {op : Op} {H' : Heap} (h : Ev.dem H' = Ev.dem H) : valOp C e H' op = valOp C e H op := by
  unfold valOp
  split <;> first | rfl | skip
  all_goals
    first
    | rfl
    | simp only [dem_at h]
structure Eff (C : Ctx) (ρ : FuncId → List FV → FV → Prop) (nt : Nat) (mv : List Nat) (o : Oper) (e : Env) (H : Heap) (δ : Env) (H₁ : Heap) : Prop where
  keys : ∀ p ∈ δ, p.1 ∈ writesOp mv o
  heap : chg (kindOf mv o) = false → H₁ = H
  dem : kindOf mv o ≠ .store → dem H₁ = dem H
  again : ∀ (e' : Env) (H' : Heap) (K : Env → Heap → Prop), Agree (readsOp o.op) e e' → Compat (kindOf mv o) H' H →
    K (δ ++ e') (if chg (kindOf mv o) = true then H₁ else H') → wpOp C nt mv (CallD C ρ) o e' H' K
theorem dst_mem {mv : List Nat} {o : Oper} {t : Nat} (h : o.dst = some t) : t ∈ writesOp mv o := by
  unfold writesOp; rw [h]; simp
theorem keys_put {mv : List Nat} {o : Oper} {f : FV} : ∀ p ∈ (Env.put [] o.dst f), p.1 ∈ writesOp mv o := by
  intro p hp
  cases hd : o.dst with
  | none => rw [hd] at hp; simp [Env.put] at hp
  | some d => rw [hd] at hp; simp [Env.put] at hp; subst hp; exact dst_mem hd
theorem keys_put' {mv : List Nat} {o : Oper} {f : FV} {δ : Env} (h : ∀ p ∈ δ, p.1 ∈ writesOp mv o) : ∀ p ∈ (δ.put o.dst f), p.1 ∈ writesOp mv o := by
  intro p hp
  cases hd : o.dst with
  | none => rw [hd] at hp; exact h p hp
  | some d =>
    rw [hd] at hp
    simp only [Env.put, List.mem_cons] at hp
    rcases hp with rfl | hp
    · exact dst_mem hd
    · exact h p hp
end
end Go.Proofs.YtlnnnfogbakimaaDoor.Ev
end
section
namespace Go.Proofs.YtlnnnfogbakimaaDoor.Ev
open Go
section
variable {C : Ctx} {ρ : FuncId → List FV → FV → Prop} {nt : Nat} {mv : List Nat} {e : Env} {H : Heap} {K : Env → Heap → Prop}
theorem eff_val {o : Oper} {f : FV} (hv : valOp C e H o.op = some f) (hK : K (e.put o.dst f) H) (hkk : kindOf mv o = .quiet ∨ kindOf mv o = .load) (hkl : kindOf mv o = .quiet → ∀ t x, o.op ≠ .load t x)
    (hgo : ∀ (e' : Env) (H' : Heap) (K' : Env → Heap → Prop), valOp C e' H' o.op = some f → K' (e'.put o.dst f) H' → wpOp C nt mv (CallD C ρ) o e' H' K') : ∃ δ H₁, Eff C ρ nt mv o e H δ H₁ ∧ K (δ ++ e) H₁ := by
  refine ⟨Env.put [] o.dst f, H, ⟨keys_put, fun _ => rfl, fun _ => rfl, fun e' H' K' ha hh hK' => ?_⟩, by rw [← put_nil]; exact hK⟩
  refine hgo e' H' K' ?_ ?_
  · rw [valOp_congr ha]
    rcases hkk with hq | hl
    · rw [← hv]; exact valOp_heap (hkl hq)
    · rw [hl] at hh; rw [valOp_dem hh]; exact hv
  · rw [put_nil]
    rcases hkk with hq | hl
    · simpa [hq, chg] using hK'
    · simpa [hl, chg] using hK'
set_option maxHeartbeats 1000000 in
theorem eff_of {o : Oper} (hk : kindOf mv o ≠ .other) (h : wpOp C nt mv (CallD C ρ) o e H K) : ∃ δ H₁, Eff C ρ nt mv o e H δ H₁ ∧ K (δ ++ e) H₁ := by
  obtain ⟨dst, op, ty, pos, after, guard⟩ := o
  have h0 := h
  unfold wpOp at h
  obtain ⟨hd, h⟩ := h
  simp only at hd h
  split at h
  · -- assign
    rename_i x
    split at h
    · rename_i f e₁ hg
      obtain ⟨δ, rfl, _, hδ⟩ := give_congr (e' := e) (fun _ _ => rfl) hg
      rw [put_append] at h
      refine ⟨δ.put dst f.home, H, ⟨keys_put' (o := ⟨dst, .assign x, ty, pos, after, guard⟩) fun p hp => ?_, fun _ => rfl, fun _ => rfl, fun e' H' K' ha hh hK' => ?_⟩, h⟩
      · simp only [writesOp, List.mem_append]; exact .inr (hδ p hp)
      · obtain ⟨δ', hδ', hg', _⟩ := give_congr (e' := e') (by simpa [readsOp] using ha) hg
        obtain rfl : δ = δ' := List.append_cancel_right hδ'
        simp only [kindOf, chg, Bool.false_eq_true, if_false] at hK'
        unfold wpOp
        refine ⟨hd, ?_⟩
        simp only [hg', put_append]
        exact hK'
    · exact h.elim
  · -- move
    rename_i x
    split at h
    · rename_i hmv
      split at h
      · rename_i f e₁ hg
        obtain ⟨δ, rfl, _, hδ⟩ := give_congr (e' := e) (fun _ _ => rfl) hg
        rw [put_append] at h
        refine ⟨δ.put dst f.home, H, ⟨keys_put' (o := ⟨dst, .move x, ty, pos, after, guard⟩) fun p hp => ?_, fun _ => rfl, fun _ => rfl, fun e' H' K' ha hh hK' => ?_⟩, h⟩
        · simp only [writesOp, hmv, if_true, List.mem_append]; exact .inr (hδ p hp)
        · obtain ⟨δ', hδ', hg', _⟩ := give_congr (e' := e') (by simpa [readsOp] using ha) hg
          obtain rfl : δ = δ' := List.append_cancel_right hδ'
          simp only [kindOf, chg, Bool.false_eq_true, if_false] at hK'
          unfold wpOp
          refine ⟨hd, ?_⟩
          simp only [hmv, if_true, hg', put_append]
          exact hK'
      · exact h.elim
    · rename_i hmv
      split at h
      · rename_i f hf
        refine eff_val (o := ⟨dst, .move x, ty, pos, after, guard⟩) hf h (.inl rfl) (by simp) (fun e' H' K' hv hK' => ?_)
        unfold wpOp
        refine ⟨hd, ?_⟩
        simp only at hv
        simp only [hmv, if_false, hv, Bool.false_eq_true]
        exact hK'
      · exact h.elim
  · -- extract
    rename_i x i
    split at h
    · rename_i hmv
      simp [kindOf, hmv] at hk
    · rename_i hmv
      split at h
      · rename_i f hf
        refine eff_val (o := ⟨dst, .extract x i, ty, pos, after, guard⟩) hf h (.inl (by simp [kindOf, hmv])) (by simp) (fun e' H' K' hv hK' => ?_)
        unfold wpOp
        refine ⟨hd, ?_⟩
        simp only at hv
        simp only [hmv, if_false, hv, Bool.false_eq_true]
        exact hK'
      · exact h.elim
  · -- load
    rename_i t x
    split at h
    · rename_i hmv
      split at h
      · rename_i b off hx hag
        split at h
        · rename_i f hf
          have hkk : kindOf mv ⟨dst, .load t x, ty, pos, after, guard⟩ = .take := by simp [kindOf, hmv]
          refine ⟨Env.put [] dst f, _, ⟨keys_put (o := ⟨dst, .load t x, ty, pos, after, guard⟩), fun hh => by rw [hkk] at hh; simp [chg] at hh, fun _ => dem_take hf, fun e' H' K' ha hh hK' => ?_⟩, by rw [← put_nil]; exact h⟩
          rw [hkk] at hh hK'
          obtain rfl : H' = H := hh
          unfold wpOp
          refine ⟨hd, ?_⟩
          simp only [hmv, if_true, rd_congr (show Agree (opTmps x) e e' from ha), hx, hag, hf]
          rw [put_nil]
          simpa [chg] using hK'
        · exact h.elim
      · exact h.elim
    · rename_i hmv
      split at h
      · rename_i f hf
        refine eff_val (o := ⟨dst, .load t x, ty, pos, after, guard⟩) hf h (.inr (by simp [kindOf, hmv])) (by simp [kindOf, hmv]) (fun e' H' K' hv hK' => ?_)
        unfold wpOp
        refine ⟨hd, ?_⟩
        simp only at hv
        simp only [hmv, if_false, hv, Bool.false_eq_true]
        exact hK'
      · exact h.elim
  · simp [kindOf] at hk
  · simp [kindOf] at hk
  · -- store
    rename_i t x y
    split at h
    · rename_i b off f e₁ n hx hg hn
      split at h
      · rename_i l hl
        obtain ⟨h1, h2, h3, h⟩ := h
        obtain ⟨δ, rfl, _, hδ⟩ := give_congr (e' := e) (fun _ _ => rfl) hg
        rw [put_append] at h
        refine ⟨δ.put dst .undef, _, ⟨keys_put' (o := ⟨dst, .store t x y, ty, pos, after, guard⟩) fun p hp => ?_, fun hh => by simp [kindOf, chg] at hh, fun hh => absurd rfl hh, fun e' H' K' ha hh hK' => ?_⟩, h⟩
        · simp only [writesOp, List.mem_append]; exact .inr (hδ p hp)
        · have hax : Agree (opTmps x) e e' := fun s hs => ha s (by simp only [readsOp, List.mem_append]; exact .inl hs)
          have hay : Agree (opTmps y) e e' := fun s hs => ha s (by simp only [readsOp, List.mem_append]; exact .inr hs)
          obtain ⟨δ', hδ', hg', _⟩ := give_congr (e' := e') hay hg
          obtain rfl : δ = δ' := List.append_cancel_right hδ'
          obtain rfl : H' = H := hh
          simp only [kindOf, if_true] at hK'
          unfold wpOp
          refine ⟨hd, ?_⟩
          simp only [rd_congr hax, hx, hg', hn, hl, put_append]
          exact ⟨h1, h2, h3, hK'⟩
      · exact h.elim
    · exact h.elim
  · -- buildSlice
    rename_i t n parts
    split at h
    · rename_i el hu
      split at h
      · rename_i m z ps hsz hz hps
        obtain ⟨h1, h2, h3, h4, h⟩ := h
        split at h
        · rename_i l hl
          obtain ⟨h5, h⟩ := h
          refine ⟨Env.put [] dst (.own l), H, ⟨keys_put (o := ⟨dst, .buildSlice t n parts, ty, pos, after, guard⟩), fun _ => rfl, fun _ => rfl, fun e' H' K' ha hh hK' => ?_⟩, by rw [← put_nil]; exact h⟩
          simp only [kindOf, chg, Bool.false_eq_true, if_false] at hK'
          unfold wpOp
          refine ⟨hd, ?_⟩
          simp only [hu, hsz, hz, rdParts_congr (show Agree (partTmps parts.toList) e e' from ha), hps, hl]
          exact ⟨h1, h2, h3, h4, h5, by rw [put_nil]; exact hK'⟩
        · exact h.elim
      · exact h.elim
    · exact h.elim
  · -- two operands
    rename_i op t x y yt
    split at h
    · rename_i hn
      simp [kindOf, hn] at hk
    · rename_i hn
      split at h
      · rename_i f hf
        refine eff_val (o := ⟨dst, .binOp op t x y yt, ty, pos, after, guard⟩) hf h (.inl (by simp [kindOf, hn])) (by simp) (fun e' H' K' hv hK' => ?_)
        unfold wpOp
        refine ⟨hd, ?_⟩
        simp only at hv
        simp only [hn, if_false, hv, Bool.false_eq_true]
        exact hK'
      · exact h.elim
  · -- conversions
    rename_i s d x
    have hcg : ∀ e', Agree (opTmps x) e e' → bytesConv C e' s d x = bytesConv C e s d x := fun e' ha => by unfold bytesConv; rw [rd_congr ha]
    split at h
    · rename_i t ht
      refine ⟨Env.put [] dst (.sc (.sl (bytesPV t))), H, ⟨keys_put (o := ⟨dst, .convert s d x, ty, pos, after, guard⟩), fun _ => rfl, fun _ => rfl, fun e' H' K' ha hh hK' => ?_⟩, by rw [← put_nil]; exact h⟩
      simp only [kindOf, chg, Bool.false_eq_true, if_false] at hK'
      unfold wpOp
      refine ⟨hd, ?_⟩
      simp only [hcg e' ha, ht]
      rw [put_nil]; exact hK'
    · rename_i ht
      split at h
      · rename_i f hf
        have hff : ∀ e' H', Agree (opTmps x) e e' → valOp C e' H' (.convert s d x) = some f := fun e' H' ha => by
          rw [← hf]; simp only [valOp]; rw [rd_congr ha]
        refine ⟨Env.put [] dst f, H, ⟨keys_put (o := ⟨dst, .convert s d x, ty, pos, after, guard⟩), fun _ => rfl, fun _ => rfl, fun e' H' K' ha hh hK' => ?_⟩, by rw [← put_nil]; exact h⟩
        simp only [kindOf, chg, Bool.false_eq_true, if_false] at hK'
        unfold wpOp
        refine ⟨hd, ?_⟩
        simp only [hcg e' ha, ht, hff e' H' ha]
        rw [put_nil]; exact hK'
      · exact h.elim
  · -- calls
    rename_i c
    obtain ⟨callee, args, ts⟩ := c
    simp only at h
    split at h
    · rename_i x
      split at h
      · rename_i f first cap l hx hl
        obtain ⟨r, H', hc, hK⟩ := h
        obtain ⟨⟨c1, rfl, c2⟩, c3⟩ := hc
        refine ⟨Env.put [] dst r.home, H', ⟨keys_put (o := ⟨dst, _, ty, pos, after, guard⟩), fun _ => rfl, fun _ => rfl, fun e' H'' K' ha hh hK' => ?_⟩, by rw [← put_nil]; exact hK⟩
        have hax : Agree (opTmps x) e e' := fun s hs => ha s (by simp only [readsOp, List.mem_append]; exact .inl hs)
        have hay : Agree (listTmps args.toList) e e' := fun s hs => ha s (by simp only [readsOp, List.mem_append]; exact .inr hs)
        simp only [kindOf, chg, Bool.false_eq_true, if_false] at hK'
        unfold wpOp
        refine ⟨hd, ?_⟩
        simp only [rd_congr hax, rdAll_congr hay, hx, hl]
        exact ⟨r, H'', ⟨⟨c1, rfl, c2⟩, c3⟩, by show K' _ _; rw [put_nil]; exact hK'⟩
      · exact h.elim
    · rename_i b
      split at h
      · rename_i hb
        obtain rfl : b = .append := by cases b <;> simp_all [isAppend]
        split at h
        · rename_i x y t u tr hargs hts
          split at h
          · rename_i el ud hel hud
            split at h
            · rename_i m z bs f e₁ g hsz hz hbs hg hy
              split at h
              · rename_i l r hf hr
                have hbx : ¬ boxed mv dst = true := fun hb => by simp [kindOf, hb] at hk
                rw [if_neg hbx] at h
                obtain ⟨h1, h2, h3, h4, h5, h6, h7, h⟩ := h
                obtain ⟨δ, rfl, _, hδ⟩ := give_congr (e' := e) (fun _ _ => rfl) hg
                rw [put_append] at h
                refine ⟨δ.put dst (.own (l ++ r)), H, ⟨keys_put' (o := ⟨dst, _, ty, pos, after, guard⟩) fun p hp => ?_, fun _ => rfl, fun _ => rfl, fun e' H' K' ha hh hK' => ?_⟩, h⟩
                · simp only [writesOp, List.mem_append, hargs]; exact .inr (hδ p hp)
                · have hax : Agree (opTmps x) e e' := fun s hs => ha s (by simp only [readsOp, hargs, listTmps, List.mem_append]; exact .inl hs)
                  have hay : Agree (opTmps y) e e' := fun s hs => ha s (by simp only [readsOp, hargs, listTmps, List.mem_append]; exact .inr (.inl hs))
                  obtain ⟨δ', hδ', hg', _⟩ := give_congr (e' := e') hax hg
                  obtain rfl : δ = δ' := List.append_cancel_right hδ'
                  simp only [kindOf, chg, Bool.false_eq_true, if_false, hbx] at hK'
                  unfold wpOp
                  refine ⟨hd, ?_⟩
                  simp only [isAppend, if_true, hargs, hts, hel, hud, hsz, hz, hbs, hg', rd_congr hay, hy, hf, hr, put_append]
                  rw [if_neg hbx]
                  exact ⟨h1, h2, h3, h4, h5, h6, h7, hK'⟩
              · exact h.elim
            · exact h.elim
          · exact h.elim
        · exact h.elim
      · rename_i hb
        split at h
        · rename_i hb2
          obtain rfl : b = .clear := by cases b <;> simp_all [isClear]
          simp [kindOf] at hk
        rename_i hb2
        split at h
        · rename_i f hf
          have hkq : kindOf mv ⟨dst, .call { callee := .builtin b, args := args, argTypes := ts }, ty, pos, after, guard⟩ = .quiet := by
            cases b <;> simp_all [kindOf, isAppend]
          refine eff_val (o := ⟨dst, .call { callee := .builtin b, args := args, argTypes := ts }, ty, pos, after, guard⟩) hf h (.inl hkq) (by simp) (fun e' H' K' hv hK' => ?_)
          unfold wpOp
          refine ⟨hd, ?_⟩
          simp only at hv
          simp only [hb, hb2, if_false, hv, Bool.false_eq_true]
          exact hK'
        · exact h.elim
    · exact h.elim
  · rename_i n1 n2 n3 n4 n5 n6 n7 n8 n8b n8c n9
    clear h hd
    have go : ∀ {op : Op}, (kindOf mv ⟨dst, op, ty, pos, after, guard⟩ = .quiet) → (∀ t x, op ≠ .load t x) → (∀ (e' : Env) (H' : Heap) (K' : Env → Heap → Prop), wpOp C nt mv (CallD C ρ) ⟨dst, op, ty, pos, after, guard⟩ e' H' K' = (dstOk nt dst ∧ match valOp C e' H' op with | some f => K' (e'.put dst f) H' | none => False)) →
        wpOp C nt mv (CallD C ρ) ⟨dst, op, ty, pos, after, guard⟩ e H K → ∃ δ H₁, Eff C ρ nt mv ⟨dst, op, ty, pos, after, guard⟩ e H δ H₁ ∧ K (δ ++ e) H₁ := fun {op} hq hl hw h0 => by
      rw [hw] at h0
      obtain ⟨hd, h⟩ := h0
      split at h
      · rename_i f hf
        refine eff_val (o := ⟨dst, op, ty, pos, after, guard⟩) hf h (.inl hq) (fun _ => hl) (fun e' H' K' hv hK' => ?_)
        rw [hw]
        refine ⟨hd, ?_⟩
        simp only at hv
        rw [hv]
        exact hK'
      · exact h.elim
    cases op with
    | assign x => exact absurd rfl (n1 x)
    | move x => exact absurd rfl (n2 x)
    | extract x i => exact absurd rfl (n3 x i)
    | load t x => exact absurd rfl (n4 t x)
    | alloc t => exact absurd rfl (n5 t)
    | box t x => exact absurd rfl (n6 t x)
    | store t x y => exact absurd rfl (n7 t x y)
    | buildSlice t n ps => exact absurd rfl (n8 t n ps)
    | call c => exact absurd rfl (n9 c)
    | fieldAddr a b c => exact go rfl (by simp) (fun _ _ _ => rfl) h0
    | field a b c => exact go rfl (by simp) (fun _ _ _ => rfl) h0
    | indexAddr a b c => exact go rfl (by simp) (fun _ _ _ => rfl) h0
    | index a b c => exact go rfl (by simp) (fun _ _ _ => rfl) h0
    | binOp a b c d f => exact absurd rfl (n8b a b c d f)
    | pick a b c => exact go rfl (by simp) (fun _ _ _ => rfl) h0
    | unOp a b c => exact go rfl (by simp) (fun _ _ _ => rfl) h0
    | convert a b c => exact absurd rfl (n8c a b c)
    | slice a b c d f => exact go rfl (by simp) (fun _ _ _ => rfl) h0
    | build a b => exact go rfl (by simp) (fun _ _ _ => rfl) h0
    | makeFunc a b c => exact go rfl (by simp) (fun _ _ _ => rfl) h0
    | nilCheck a => exact go rfl (by simp) (fun _ _ _ => rfl) h0
    | _ => exact absurd rfl hk
end
end Go.Proofs.YtlnnnfogbakimaaDoor.Ev
end
