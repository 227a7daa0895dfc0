/- Of what the law MdocJoins needs: part 3. -/
import Derived.Lib.ConvBytes
import Derived.Test.YtkbknlcdinkokaaDoorBM2B1
set_option linter.unusedSimpArgs false
set_option linter.unusedVariables false
section
namespace Go.Proofs.YtkbknlcdinkokaaDoor.Ev
open Go
section
variable {C : Ctx} {nt : Nat} {mv : List Nat} {e : Env} {H : Heap} {a : Act} {W : Wd} {K : Env → Heap → Prop} {Q : Exit → Act → World → Prop}
theorem asRow_weak {W W₁ : Wd} {keep : Root → Nat → Prop} (h2 : Evo W W₁ keep) {rg : Option Root} {ig : Nat} {g : FV} {v : Value} {r : List PV} (hu : FRep W rg ig g v) (hr : g.asRow = some r) :
    FRep W₁ none 0 (.sc (.sl r)) v ∨ ∃ s, g = .sc (.str s) ∧ v = .string s := by
  cases hu with
  | @sc _ _ p v hp hrep =>
    cases p with
    | str s => right; cases hrep; exact ⟨s, rfl, rfl⟩
    | sl l' => simp [FV.asRow] at hr; subst hr; left; exact .sc rfl (hrep.mono h2.cell h2.lim)
    | _ => simp [FV.asRow] at hr
  | own p q => simp [FV.asRow] at hr; subst hr; left; exact .sc rfl (p.mono h2.cell h2.lim)
  | emp => simp [FV.asRow] at hr; subst hr; left; exact .sc rfl .nil
  | _ => simp [FV.asRow] at hr
theorem flat_get {s : Nat} (hs : 0 < s) : ∀ {r : List PV} {k : Nat} {q : PV}, Sized s r → (r.flatMap PV.leaves)[k]? = some q → ∃ p, r[k / s]? = some p ∧ p.leaves[k % s]? = some q
  | [], k, q, _, h => by simp at h
  | p :: r, k, q, hz, h => by
    have hp : p.leaves.length = s := hz p (by simp)
    rw [List.flatMap_cons] at h
    by_cases hk : k < s
    · rw [List.getElem?_append_left (by omega)] at h
      exact ⟨p, by rw [Nat.div_eq_of_lt hk]; rfl, by rw [Nat.mod_eq_of_lt hk]; exact h⟩
    · rw [List.getElem?_append_right (by omega), hp] at h
      obtain ⟨p', h1, h2⟩ := flat_get hs (fun x hx => hz x (by simp [hx])) h
      have e1 : k / s = (k - s) / s + 1 := by
        rw [← Nat.add_div_right _ hs]; congr 1; omega
      have e2 : k % s = (k - s) % s := by
        rw [← Nat.add_mod_right (k - s)]; congr 1; omega
      exact ⟨p', by rw [e1]; exact h1, by rw [e2]; exact h2⟩
theorem flat_len {s : Nat} : ∀ {r : List PV}, Sized s r → (r.flatMap PV.leaves).length = r.length * s
  | [], _ => by simp
  | p :: r, hz => by
    rw [List.flatMap_cons, List.length_append, hz p (by simp), flat_len (fun x hx => hz x (by simp [hx])), List.length_cons, Nat.add_mul]; omega
theorem grow_box {P : Program} (hC : C.P = P) {W : Wd} {root : Root} (hH : HInv C H W) {r : List PV} {v u : Value} {tyId t ut el : TypeId} {ud : TypeDesc} {ts : Array TypeId} {m bs : Nat} {z : Value} {rg : Option Root} {ig : Nat} {g : FV}
    (hv : FRep W (some root) 0 (.own []) v) (hu : FRep W rg ig g u) (hg : g.asRow = some r) (hr0 : r ≠ []) (ht : ts[0]? = some t) (ht' : ts[1]? = some ut) (hud : P.underlying ut = some ud) (hni : ∀ k, ud ≠ .int k)
    (hel : P.underlying t = some (.slice el)) (hsz : szOf P el = some (m + 1)) (hz : zeroOf P el = some z) (hzs : z.cells.size = m + 1) (hbs : bytesOf P el = some bs) (hb0 : 0 < bs) (hb1 : bs ≤ 256)
    (hr : Sized (m + 1) r) (hle : r.length ≤ lenMax) :
    ∃ W' x, (Builtin.append_ ts tyId #[v, u]).run P W.w = .ok x W'.w ∧ FRep W' (some root) 0 (.bs H.length 0 r.length) x ∧ HInv C (H ++ [(r.flatMap PV.leaves).map .sc]) W' ∧ Evo W W' (fun _ _ => True) := by
  subst hC
  obtain ⟨ns, hns1, hns2, hns3, _⟩ := row_sound (P := C.P) hu hg hr
  have hi : ∃ i, C.P.info? el = some i ∧ i.bytes = bs := by
    unfold bytesOf at hbs
    exact Option.map_eq_some_iff.1 hbs
  obtain ⟨inf, hinf, hinfb⟩ := hi
  have hDv := hv.mono (Evo.drew W (fun _ _ => True)) (by simp)
  have hDu := hu.mono (Evo.drew W (fun _ _ => True)) (by simp)
  cases hv with
  | @own _ _ _ A len cap hrep hsp =>
    have hlen := hrep.length
    simp only [List.length_nil] at hlen
    subst hlen
    have hcap : cap = 0 := by
      rcases hsp with h | ⟨e₀, _, _, _, _, h0, _⟩
      · exact h
      · simp at h0
    subst hcap
    have hrl : 0 < r.length := List.length_pos_iff.2 hr0
    have e0 : (#[Value.slice A 0 0, u] : Array Value)[0]? = some (.slice A 0 0) := rfl
    have e1 : (#[Value.slice A 0 0, u] : Array Value)[1]? = some u := rfl
    unfold Builtin.append_
    simp only [ht, e0, e1, ht', Sem.run_bind, run_underlying' hel, run_underlying' hud, Result.andThen_ok, run_sizeOf' hsz, Sem.run_pure, Bool.false_eq_true, if_false, hns1, Nat.zero_add]
    rw [if_neg (by omega)]
    obtain ⟨ns', _, hns2', hns3', _⟩ := row_sound (P := C.P) hDu hg hr
    obtain ⟨os', _, hos2', hos3', _⟩ := row_sound (P := C.P) (m := m) hDv (show (FV.own []).asRow = some [] from rfl) (fun _ h => by simp at h)
    have hos0 : os' = #[] := by
      have := hos3'.size
      simpa using this
    subst hos0
    have hos2' : Sem.run C.P (Builtin.firstCells (m + 1) 0 (.slice A 0 0)) W.drew.w = .ok #[] W.drew.w := hos2'
    have hcapb := nextcap_le (n := r.length) (c := 0) (by omega)
    have hlim : r.length ≤ 137438953472 := hle
    have hnr : ¬ (Builtin.nextslicecap (r.length) 0 * bs > 2 ^ 48) := by
      have : Builtin.nextslicecap (r.length) 0 * bs ≤ (2 * (r.length) + 256) * 256 := Nat.mul_le_mul hcapb hb1
      omega
    have hforced : (Question.appendCap (r.length) 0 el).forced = false := rfl
    have hch : (choose (.appendCap (r.length) 0 el)).run C.P W.w = .ok ((Question.appendCap (r.length) 0 el).cut (W.w.tape W.w.drawn (.appendCap (r.length) 0 el))) W.drew.w := by
      simp [hforced, Wd.drew]
    generalize hN : (Question.appendCap (r.length) 0 el).cut (W.w.tape W.w.drawn (.appendCap (r.length) 0 el)) = N at hch
    have hNge : r.length ≤ N := by rw [← hN]; simp [Question.cut]
    simp only [Bool.not_false, if_true, Sem.run_bind, run_typeInfo' hinf, Result.andThen_ok, hinfb, false_or]
    rw [if_neg (by omega)]
    simp only [Sem.run_bind, run_typeInfo' hinf, Result.andThen_ok, hinfb]
    rw [if_neg hnr]
    simp only [Sem.run_bind, hch, Result.andThen_ok, run_typeInfo' hinf, run_askRoom, hos2', hns2', run_zeroValue' hz, newRow, run_newObj, Sem.run_pure, World.alloc_eq]
    generalize hR : Builtin.zeroCells z.cells (N - (r.length)) = rest
    have hHd := hH.drew
    have hfl := flat_len hr
    obtain ⟨W', hw, hH', hE, hβ, ho⟩ := hHd.newBox (#[] ++ ns' ++ rest) el ((r.flatMap PV.leaves).map .sc) (by rw [List.length_map, hfl, Array.size_append, Array.size_append, hns3'.size]; omega) (fun k f v hf hv => by
      rw [List.getElem?_map] at hf
      obtain ⟨q, hq, rfl⟩ := Option.map_eq_some_iff.1 hf
      obtain ⟨p, h1, h2⟩ := flat_get (Nat.succ_pos m) hr hq
      obtain ⟨c, h3, h4, h5⟩ := hns3'.cell _ _ _ _ h1 h2
      have hk : k / (m + 1) * (m + 1) + k % (m + 1) = k := by rw [Nat.mul_comm]; exact Nat.div_add_mod k (m + 1)
      rw [hk] at h3
      have hlt : k < ns'.size := (Array.getElem?_eq_some_iff.1 h3).1
      rw [Array.empty_append, Array.getElem?_append_left hlt, h3] at hv
      obtain rfl := Option.some.inj hv
      exact ⟨h4, .sc h4 h5⟩)
    have hEE : Evo W W' (fun _ _ => True) := ((Evo.drew W (fun _ _ => True)).trans hE).weaken (by simp)
    refine ⟨W', _, by rw [hw], ?_, hH', hEE⟩
    have hb : FRep W' (some root) 0 (.bs H.length 0 r.length) (.slice (some ⟨W'.β H.length, 0, none⟩) r.length N) := .bs (by rw [hβ]; exact ho) (by omega)
    rw [hβ] at hb
    simpa using hb
theorem wp_append_box (hi : Inv C nt e H a W) {o : Oper} (hd : dstOk nt o.dst) {x y : Operand} {args : Array Operand} {ts : Array TypeId} (ho : o.op = .call { callee := .builtin .append, args, argTypes := ts })
    (hargs : args.toList = [x, y]) {t u el : TypeId} {tr : List TypeId} (hts : ts.toList = t :: u :: tr) {ud : TypeDesc} (hel : C.P.underlying t = some (.slice el)) (hud : C.P.underlying u = some ud) {m bs : Nat} {z : Value} {f g : FV} {e' : Env} {r : List PV}
    (hsz : szOf C.P el = some (m + 1)) (hz : zeroOf C.P el = some z) (hbs : bytesOf C.P el = some bs) (hg : give C e x = some (f, e')) (hy : rd C e y = some g) (hf : f.home = .own []) (hr : g.asRow = some r) (hr0 : r ≠ [])
    (hni : ∀ k, ud ≠ .int k) (hzs : z.cells.size = m + 1) (hb0 : 0 < bs) (hb1 : bs ≤ 256) (hrs : Sized (m + 1) r) (hle : r.length ≤ lenMax) (hK : K (e'.put o.dst (.bs H.length 0 r.length)) (H ++ [(r.flatMap PV.leaves).map .sc])) :
    o.wp C.P a W.w (After C nt W K) Q := by
  have hdr : ∃ d : Root, (∀ i, d ≠ .box i) ∧ (∀ i j, d ≠ .leaf i j) ∧ (∀ t, o.dst = some t → d = .tmp t) ∧ ∀ t, d = .tmp t → o.dst = some t := by
    cases hod : o.dst with
    | none => exact ⟨.res, by simp, by simp, by simp, by simp⟩
    | some t => exact ⟨.tmp t, by simp, by simp, by simp, by simp⟩
  obtain ⟨d, hd1, hd2, hd3, hd4⟩ := hdr
  obtain ⟨W₁, h1, h1l, h1b, h2, h3, h4, h5⟩ := give_sound hi hg (r := d) hd1
  have h3' := h3.home
  rw [hf] at h3'
  obtain ⟨_, _, hu⟩ := rd_sound hi hy
  have hgs := asRow_weak h2 hu hr
  have hgo : ∃ (W' : Wd) (v : Value), (Builtin.append_ ts o.type #[a.eval x, a.eval y]).run C.P W₁.w = .ok v W'.w ∧ FRep W' (some d) 0 (.bs H.length 0 r.length) v ∧ HInv C (H ++ [(r.flatMap PV.leaves).map .sc]) W' ∧ Evo W₁ W' (fun _ _ => True) := by
    have ht0 : ts[0]? = some t := by rw [← Array.getElem?_toList, hts]; rfl
    have ht1 : ts[1]? = some u := by rw [← Array.getElem?_toList, hts]; rfl
    rcases hgs with hgs | ⟨s, rfl, hs⟩
    · exact grow_box rfl (h5 H hi.heap) h3' hgs rfl hr0 ht0 ht1 hud hni hel hsz hz hzs hbs hb0 hb1 hrs hle
    · exact grow_box rfl (h5 H hi.heap) h3' (rg := none) (ig := 0) (g := .sc (.str s)) (by rw [hs]; exact .mkStr) hr hr0 ht0 ht1 hud hni hel hsz hz hzs hbs hb0 hb1 hrs hle
  obtain ⟨W', v, g1, g2, g3, g4⟩ := hgo
  refine wp_of (s := Builtin.append_ ts o.type #[a.eval x, a.eval y]) (W' := W') (v := v) ?_ (by rw [← h1]; exact g1) ⟨g3, fun s => ?_, by rw [put_size]; exact hi.size, by rw [put_defers]; exact hi.defers⟩ (((h2.weaken (k' := fun _ _ => False) (by simp)).trans (g4.weaken (k' := fun _ _ => False) (by simp))).weaken (by simp)) hK
  · obtain ⟨dst, op, ty, pos, after, guard⟩ := o
    simp only at ho
    subst ho
    have : args = #[x, y] := by rw [← Array.toList_inj]; simpa using hargs
    subst this
    simp only [execOp, resolve, invoke, builtin, pure_bind, List.map_toArray, List.map_cons, List.map_nil]
  · rw [tmps_put hd hi.size, get_put]
    split
    · rename_i hdt
      rw [hd3 s hdt] at g2
      exact g2
    · rename_i hdt
      have hds : d ≠ .tmp s := fun h => hdt (hd4 s h)
      exact (h4 s hds).mono g4 (by simp)
theorem wp_append (hi : Inv C nt e H a W) {o : Oper} (hd : dstOk nt o.dst) {x y : Operand} {args : Array Operand} {ts : Array TypeId} (ho : o.op = .call { callee := .builtin .append, args, argTypes := ts })
    (hargs : args.toList = [x, y]) {t u el : TypeId} {tr : List TypeId} (hts : ts.toList = t :: u :: tr) {ud : TypeDesc} (hel : C.P.underlying t = some (.slice el)) (hud : C.P.underlying u = some ud) {m bs : Nat} {z : Value} {f g : FV} {e' : Env} {l r : List PV}
    (hsz : szOf C.P el = some (m + 1)) (hz : zeroOf C.P el = some z) (hbs : bytesOf C.P el = some bs) (hg : give C e x = some (f, e')) (hy : rd C e y = some g) (hf : f.home = .own l) (hr : g.asRow = some r)
    (hni : ∀ k, ud ≠ .int k) (hzs : z.cells.size = m + 1) (hb0 : 0 < bs) (hb1 : bs ≤ 256) (hl : Sized (m + 1) l) (hrs : Sized (m + 1) r) (hle : l.length + r.length ≤ lenMax) (hK : K (e'.put o.dst (.own (l ++ r))) H) :
    o.wp C.P a W.w (After C nt W K) Q := by
  have hdr : ∃ d : Root, (∀ i, d ≠ .box i) ∧ (∀ i j, d ≠ .leaf i j) ∧ (∀ t, o.dst = some t → d = .tmp t) ∧ ∀ t, d = .tmp t → o.dst = some t := by
    cases hod : o.dst with
    | none => exact ⟨.res, by simp, by simp, by simp, by simp⟩
    | some t => exact ⟨.tmp t, by simp, by simp, by simp, by simp⟩
  obtain ⟨d, hd1, hd2, hd3, hd4⟩ := hdr
  obtain ⟨W₁, h1, h1l, h1b, h2, h3, h4, h5⟩ := give_sound hi hg (r := d) hd1
  have h3' := h3.home
  rw [hf] at h3'
  obtain ⟨_, _, hu⟩ := rd_sound hi hy
  -- what is appended, seen behind the transfer
  have hgs := asRow_weak h2 hu hr
  have hgo : ∃ (W' : Wd) (v : Value), (Builtin.append_ ts o.type #[a.eval x, a.eval y]).run C.P W₁.w = .ok v W'.w ∧ FRep W' (some d) 0 (.own (l ++ r)) v ∧ HInv C H W' ∧ Evo W₁ W' (fun q _ => q ≠ d) := by
    have ht0 : ts[0]? = some t := by rw [← Array.getElem?_toList, hts]; rfl
    have ht1 : ts[1]? = some u := by rw [← Array.getElem?_toList, hts]; rfl
    rcases hgs with hgs | ⟨s, rfl, hs⟩
    · exact grow_sound hd1 hd2 (h5 H hi.heap) h3' hgs rfl ht0 ht1 hud hni hel hsz hz hzs hbs hb0 hb1 hl hrs hle
    · exact grow_sound hd1 hd2 (h5 H hi.heap) h3' (rg := none) (ig := 0) (g := .sc (.str s)) (by rw [hs]; exact .mkStr) hr ht0 ht1 hud hni hel hsz hz hzs hbs hb0 hb1 hl hrs hle
  obtain ⟨W', v, g1, g2, g3, g4⟩ := hgo
  refine wp_of (s := Builtin.append_ ts o.type #[a.eval x, a.eval y]) (W' := W') (v := v) ?_ (by rw [← h1]; exact g1) ⟨g3, fun s => ?_, by rw [put_size]; exact hi.size, by rw [put_defers]; exact hi.defers⟩ (((h2.weaken (k' := fun _ _ => False) (by simp)).trans (g4.weaken (k' := fun _ _ => False) (by simp))).weaken (by simp)) hK
  · obtain ⟨dst, op, ty, pos, after, guard⟩ := o
    simp only at ho
    subst ho
    have : args = #[x, y] := by rw [← Array.toList_inj]; simpa using hargs
    subst this
    simp only [execOp, resolve, invoke, builtin, pure_bind, List.map_toArray, List.map_cons, List.map_nil]
  · rw [tmps_put hd hi.size, get_put]
    split
    · rename_i hdt
      rw [hd3 s hdt] at g2
      exact g2
    · rename_i hdt
      have hds : d ≠ .tmp s := fun h => hdt (hd4 s h)
      exact (h4 s hds).mono g4 (fun q j hq => by cases hq; exact fun h => hds h.symm)
theorem wp_conv (hi : Inv C nt e H a W) {o : Oper} (hd : dstOk nt o.dst) {s d : TypeId} {x : Operand} (ho : o.op = .convert s d x) {t : ByteArray} (hc : bytesConv C e s d x = some t) (hK : K (e.put o.dst (.sc (.sl (bytesPV t)))) H) :
    o.wp C.P a W.w (After C nt W K) Q := by
  unfold bytesConv at hc
  split at hc
  · rename_i u el t' hs hdt hx
    split at hc
    · rename_i he
      simp at hc; subst hc
      obtain ⟨_, _, hr⟩ := rd_sound hi hx
      have hrun := Go.Lib.run_convert_string_bytes (P := C.P) W.w s d el t' hs hdt he
      let W' : Wd := { W with w := Go.Lib.bytesWorld W.w el t', lim := fun b => if b = W.w.heap.size then t'.size else W.lim b }
      have hold := fun b (hb : b < W.w.heap.size) => Go.Lib.bytesWorld_at_old W.w el t' b hb
      have hE : Evo W W' (fun _ _ => True) := by
        refine Evo.of rfl rfl rfl (by show W.w.heap.size ≤ (Go.Lib.bytesWorld W.w el t').heap.size; rw [Go.Lib.bytesWorld_size]; omega) (fun b off h => ?_) (fun b => ?_) (fun b c T fz h => ?_) (fun b r i h _ => ⟨h, ?_⟩) (fun b i h h' => ⟨h', h⟩) (fun _ => ⟨Nat.le_refl _, fun _ h => ⟨rfl, h⟩⟩) (fun b hb h => ?_)
        · exact Go.Lib.bytesWorld_old W.w el t' _ (lt_of_lim hi.heap.toFresh h)
        · simp only [W']
          split
          · subst_vars; rw [hi.heap.toFresh.lim _ (Nat.le_refl _)]; exact Nat.zero_le _
          · exact Nat.le_refl _
        · have hb : b < W.w.heap.size := by
            rcases Nat.lt_or_ge b W.w.heap.size with h' | h'
            · exact h'
            · simp [Array.getElem?_eq_none h'] at h
          exact ⟨c, by simp only [W']; rw [hold b hb]; exact h, rfl⟩
        · have := lt_of_o hi.heap.toFresh h
          simp only [W']; rw [if_neg (by omega)]
        · exact ⟨by simp only [W']; exact hold b hb, by simp only [W']; rw [if_neg (by omega)], h⟩
      have hH : HInv C H W' := by
        refine ⟨fun b fs hfs => ?_, fun g ls hls j q' hq' => ?_, fun b hb => ?_, hi.heap.boxes, hi.heap.gen0, hi.heap.kept.evo hE⟩
        · obtain ⟨h1, h2, c, T, fz, h3, h4, h5, h6⟩ := hi.heap.box b fs hfs
          have hlt := lt_of_o hi.heap.toFresh h1.1
          exact ⟨h1, by simp only [W']; rw [if_neg (by omega)]; exact h2, c, T, fz, by simp only [W']; rw [hold _ hlt]; exact h3, h4, h5, fun i f v hf hv => ⟨(h6 i f v hf hv).1, (h6 i f v hf hv).2.mono hE (by simp)⟩⟩
        · obtain ⟨h1, h2, v, h3, h4⟩ := hi.heap.laid g ls hls j q' hq'
          exact ⟨h1, Nat.lt_of_lt_of_le h2 (hE.lim g), v, by rw [hE.cell _ _ h2]; exact h3, h4.mono hE.cell hE.lim⟩
        · have hsz : (Go.Lib.bytesWorld W.w el t').heap.size = W.w.heap.size + 1 := Go.Lib.bytesWorld_size W.w el t'
          have hb' : W.w.heap.size + 1 ≤ b := by rw [← hsz]; exact hb
          obtain ⟨q1, q2⟩ := hi.heap.fresh b (by omega)
          exact ⟨by simp only [W']; rw [if_neg (by omega)]; exact q1, q2⟩
      have hlen : (bytesPV t').length = t'.size := by simp [bytesPV]
      have hcap : t'.size ≤ grownCap W.w t'.size 0 el := grownCap_ge W.w t'.size 0 el
      have hat : ∀ (i : Nat) (p : PV), (bytesPV t')[i]? = some p → i < t'.size ∧ p = .int .u8 (t'.data.toList.getD i 0).toNat := fun i p hp => by
        have hlt : i < t'.size := by rw [← hlen]; exact (List.getElem?_eq_some_iff.1 hp).1
        refine ⟨hlt, ?_⟩
        have hlt' : i < t'.data.toList.length := by simpa using hlt
        simp only [bytesPV, List.getElem?_map, List.getElem?_eq_getElem hlt', Option.map_some, Option.some.injEq] at hp
        rw [← hp]
        simp [List.getD, List.getElem?_eq_getElem hlt']
      have hrep : Rep W'.w W'.lim (.sl (bytesPV t')) (.slice (some ⟨W.w.heap.size, 0, none⟩) t'.size (grownCap W.w t'.size 0 el)) := by
        refine .sl (fun i _ => .int .u8 (t'.data.toList.getD i 0).toNat) (sz := 1) hlen.symm rfl (by decide) (fun i p hp => ?_) (fun i j p q hp hq => ?_) (fun i j p q hp hq => ?_) (fun i j p q hp hq => ?_) (fun i j p q hp hq => ?_) hcap
        all_goals obtain ⟨h1, rfl⟩ := hat i _ hp
        · rfl
        all_goals
          have hj : j = 0 := by
            have := (List.getElem?_eq_some_iff.1 hq).1
            simp [PV.leaves] at this; exact this
          subst hj
          obtain rfl := Option.some.inj (show some (PV.int .u8 ((t'.data.toList.getD i 0).toNat : Nat)) = some q from hq)
        · simp only [W', if_true]; omega
        · simp only [W', Nat.mul_one, Nat.add_zero, Nat.zero_add]; exact Go.Lib.bytesWorld_cell W.w el t' i h1
        · rfl
        · exact .int
      refine wp_of (s := convert s d (a.eval x)) (W' := W') (v := .slice (some ⟨W.w.heap.size, 0, none⟩) t'.size (grownCap W.w t'.size 0 el)) ?_ (by rw [hr.str]; exact hrun) ⟨hH, fun k => ?_, by rw [put_size]; exact hi.size, by rw [put_defers]; exact hi.defers⟩ (hE.weaken (by simp)) hK
      · obtain ⟨dst, op, ty, pos, after, guard⟩ := o; simp only at ho; subst ho; rfl
      · rw [tmps_put hd hi.size, get_put]
        split
        · exact .sc rfl hrep
        · exact (hi.env k).mono hE (by simp)
    · simp at hc
  · simp at hc
theorem wp_clear (hi : Inv C nt e H a W) {o : Oper} (hd : dstOk nt o.dst) {x : Operand} {args : Array Operand} {ts : Array TypeId} (ho : o.op = .call { callee := .builtin .clear, args, argTypes := ts }) (hargs : args.toList = [x])
    {t el : TypeId} {tr : List TypeId} (hts : ts.toList = t :: tr) (hel : C.P.underlying t = some (.slice el)) {m b off n : Nat} {z : Value} (hz : zeroOf C.P el = some z) (hzl : (FV.ofValues z.cells.toList).isSome = true) (hzs : z.cells.size = m + 1)
    (hx : rd C e x = some (.bs b off n)) (hle : off + n * (m + 1) ≤ (H.getD b []).length) (hK : K (e.put o.dst .undef) (H.set b ((H.getD b []).take off))) : o.wp C.P a W.w (After C nt W K) Q := by
  obtain ⟨_, _, hrx⟩ := rd_sound hi hx
  generalize hv : a.eval x = v at hrx
  cases hrx with
  | @bs _ _ _ _ _ cap hbo hcap =>
    have hlt := hi.heap.boxes _ _ _ hbo
    rw [heap_get hlt] at hle hK
    obtain ⟨kk, kb, k2, c, T, fz, k3, k4, k5, k6⟩ := hi.heap.box0 (List.getElem?_eq_getElem hlt) hbo
    have k1 := hbo
    obtain ⟨p0, p1, p2⟩ := kind_leaf (fs := H[b].take off) (fun i g hg => by
      have hio : i < off := by
        rcases Nat.lt_or_ge i off with h' | h'
        · exact h'
        · rw [List.getElem?_take_eq_none h'] at hg; simp at hg
      rw [List.getElem?_take_of_lt hio] at hg
      have hlt' := (List.getElem?_eq_some_iff.1 hg).1
      exact (k6 i g c[i] hg (by simp [show i < c.size by omega])).1)
    obtain ⟨zl, hzl⟩ := Option.isSome_iff_exists.1 hzl
    obtain ⟨z1, z2⟩ := ofValues_rep (W := W) hzl
    have hone : ∀ v ∈ (Builtin.zeroCells z.cells n).toList, v.oneCell' = true := fun v hv => by
      obtain ⟨j, hj⟩ := List.getElem?_of_mem hv
      have hjs : j < (Builtin.zeroCells z.cells n).size := by
        rcases Nat.lt_or_ge j (Builtin.zeroCells z.cells n).size with h' | h'
        · exact h'
        · rw [List.getElem?_eq_none (by simpa using h')] at hj; simp at hj
      rw [Array.getElem?_toList, Array.getElem?_eq_getElem hjs] at hj
      have hmod : j % z.cells.size < z.cells.size := Nat.mod_lt _ (by omega)
      have hval : v = z.cells[j % z.cells.size] := by
        have := Option.some.inj hj
        rw [← this]
        simp [Builtin.zeroCells, hmod]
      have hl : j % z.cells.size < zl.length := by rw [z1]; simpa using hmod
      obtain ⟨q1, q2⟩ := z2 (j % z.cells.size) zl[j % z.cells.size] v (List.getElem?_eq_getElem hl) (by rw [Array.getElem?_toList, Array.getElem?_eq_getElem hmod, hval])
      exact (q2.leafValue q1).1
    have hzn : (Builtin.zeroCells z.cells n).toList.length = n * (m + 1) := by rw [Array.length_toList, run_zeroCells hzs]
    obtain ⟨w', c', r1, r2, r3, r4, r5, r6, r7, r8, r9⟩ := run_storeCells_at' (P := C.P) (A := ⟨W.β b, off, none⟩) rfl (Builtin.zeroCells z.cells n).toList 0 W.w c T fz k3 (by simp only [hzn]; omega) k5 hone
    have hE : Evo W { W with w := w' } (fun _ _ => True) := by
      refine Evo.of r7 r8 r9 (by simp only [r6]; exact Nat.le_refl _) (fun b' o' ho' => ?_) (fun _ => Nat.le_refl _) (fun b' c₀ T₀ fz₀ hb' => ?_) (fun _ _ _ h _ => ⟨h, rfl⟩) (fun _ _ h h' => ⟨h', h⟩) (fun _ => ⟨Nat.le_refl _, fun _ h => ⟨rfl, h⟩⟩) (fun b' _ hb' => ?_)
      · have : b' ≠ W.β b := fun h => by rw [h, k2] at ho'; omega
        simp only [World.cell?, r5 b' this]
      · by_cases hbb : b' = W.β b
        · subst hbb
          rw [k3] at hb'
          simp only [Option.some.injEq, Obj.cells.injEq] at hb'
          obtain ⟨rfl, rfl, rfl⟩ := hb'
          exact ⟨c', r2, r3⟩
        · exact ⟨c₀, by simp only; rw [r5 b' hbb]; exact hb', rfl⟩
      · have : b' ≠ W.β b := fun h => by rw [h, k1] at hb'; simp at hb'
        exact ⟨by simp only; rw [r5 b' this], rfl, hb'⟩
    have hH : HInv C (H.set b (H[b].take off)) { W with w := w' } := by
      refine ⟨fun b' gs hgs => ?_, fun g ls hls j q' hq' => ?_, fun b' hb' => ?_, fun b' i k hb' => ?_, fun b' hb' => hi.heap.gen0 b' (by simpa using hb'), hi.heap.kept.evo hE⟩
      · by_cases hbb : b' = b
        · subst hbb
          rw [List.getElem?_set_self hlt] at hgs
          simp only [Option.some.injEq] at hgs
          subst hgs
          refine ⟨⟨by rw [p0]; exact k1, p2 _ _⟩, k2, c', T, fz, r2, by rw [p1, r3, List.length_take]; omega, by rw [r3]; exact k5, fun i g v hg hv => ?_⟩
          rw [p1] at hg
          have hio : i < off := by
            rcases Nat.lt_or_ge i off with h' | h'
            · exact h'
            · rw [List.getElem?_take_eq_none h'] at hg; simp at hg
          rw [List.getElem?_take_of_lt hio] at hg
          rw [r4, if_neg (by simp only; omega)] at hv
          exact ⟨(k6 i g v hg hv).1, (k6 i g v hg hv).2.mono hE (by simp)⟩
        · rw [List.getElem?_set_ne (fun h => hbb h.symm)] at hgs
          obtain ⟨m1, m2, c₂, T₂, fz₂, m3, m4, m5, m6⟩ := hi.heap.box b' gs hgs
          have hne : W.β b' ≠ W.β b := fun h => by
            have q := m1.1
            rw [h, k1] at q
            simp at q
            exact hbb q.1.symm
          exact ⟨m1, m2, c₂, T₂, fz₂, by simp only; rw [r5 _ hne]; exact m3, m4, m5, fun i g v hg hv => ⟨(m6 i g v hg hv).1, (m6 i g v hg hv).2.mono hE (by simp)⟩⟩
      · obtain ⟨m1, m2, v, m3, m4⟩ := hi.heap.laid g ls hls j q' hq'
        exact ⟨m1, m2, v, by rw [hE.cell _ _ m2]; exact m3, m4.mono hE.cell hE.lim⟩
      · simp only [r6] at hb'
        exact hi.heap.fresh b' hb'
      · rw [List.length_set]
        exact hi.heap.boxes b' i k hb'
    have ht0 : ts[0]? = some t := by rw [← Array.getElem?_toList, hts]; rfl
    have hrun : (Builtin.clear_ ts o.type #[.slice (some ⟨W.β b, off, none⟩) n cap]).run C.P W.w = .ok (.tuple #[]) w' := by
      have e0 : (#[Value.slice (some ⟨W.β b, off, none⟩) n cap] : Array Value)[0]? = some (.slice (some ⟨W.β b, off, none⟩) n cap) := rfl
      unfold Builtin.clear_
      cases n with
      | zero =>
        have : w' = W.w := by
          have h0 : (Builtin.zeroCells z.cells 0).toList = [] := List.eq_nil_of_length_eq_zero (by rw [hzn]; omega)
          rw [h0] at r1
          simp [storeCells] at r1
          exact r1.symm
        subst this
        simp only [ht0, e0, Sem.run_bind, run_underlying' hel, Result.andThen_ok, Sem.run_pure]
      | succ n =>
        simp only [ht0, e0, Sem.run_bind, run_underlying' hel, Result.andThen_ok, run_zeroValue' hz, r1, Sem.run_pure]
    refine wp_of (s := Builtin.clear_ ts o.type #[a.eval x]) (W' := { W with w := w' }) (v := .tuple #[]) ?_ (by rw [hv]; exact hrun) ⟨hH, fun k => ?_, by rw [put_size]; exact hi.size, by rw [put_defers]; exact hi.defers⟩ (hE.weaken (by simp)) hK
    · obtain ⟨dst, op, ty, pos, after, guard⟩ := o
      simp only at ho
      subst ho
      have : args = #[x] := by rw [← Array.toList_inj]; simpa using hargs
      subst this
      simp only [execOp, resolve, invoke, builtin, pure_bind, List.map_toArray, List.map_cons, List.map_nil]
    · rw [tmps_put hd hi.size, get_put]
      split
      · exact .undef
      · exact (hi.env k).mono hE (by simp)
theorem wp_clear_nil (hi : Inv C nt e H a W) {o : Oper} (hd : dstOk nt o.dst) {x : Operand} {args : Array Operand} {ts : Array TypeId} (ho : o.op = .call { callee := .builtin .clear, args, argTypes := ts }) (hargs : args.toList = [x])
    {t el : TypeId} {tr : List TypeId} (hts : ts.toList = t :: tr) (hel : C.P.underlying t = some (.slice el)) (hx : rd C e x = some (.sc (.sl []))) (hK : K (e.put o.dst .undef) H) : o.wp C.P a W.w (After C nt W K) Q := by
  obtain ⟨_, _, hrx⟩ := rd_sound hi hx
  obtain ⟨A, len, cap, hv, hr⟩ := hrx.list (show (FV.sc (.sl [])).asList = some [] from rfl)
  rw [hv] at hr
  obtain rfl : len = 0 := by simpa using hr.length
  have ht0 : ts[0]? = some t := by rw [← Array.getElem?_toList, hts]; rfl
  have hrun : (Builtin.clear_ ts o.type #[.slice A 0 cap]).run C.P W.w = .ok (.tuple #[]) W.w := by
    have e0 : (#[Value.slice A 0 cap] : Array Value)[0]? = some (.slice A 0 cap) := rfl
    unfold Builtin.clear_
    cases A <;> simp only [ht0, e0, Sem.run_bind, run_underlying' hel, Result.andThen_ok, Sem.run_pure]
  refine wp_of (s := Builtin.clear_ ts o.type #[a.eval x]) (W' := W) (v := .tuple #[]) ?_ (by rw [hv]; exact hrun) ⟨hi.heap, fun k => ?_, by rw [put_size]; exact hi.size, by rw [put_defers]; exact hi.defers⟩ (Evo.refl _ _) hK
  · obtain ⟨dst, op, ty, pos, after, guard⟩ := o
    simp only at ho
    subst ho
    have : args = #[x] := by rw [← Array.toList_inj]; simpa using hargs
    subst this
    simp only [execOp, resolve, invoke, builtin, pure_bind, List.map_toArray, List.map_cons, List.map_nil]
  · rw [tmps_put hd hi.size, get_put]
    split
    · exact .undef
    · exact hi.env k
end
end Go.Proofs.YtkbknlcdinkokaaDoor.Ev
end
section
namespace Go.Proofs.YtkbknlcdinkokaaDoor.Ev
open Go
section
variable {C : Ctx} {nt : Nat} {mv : List Nat} {e : Env} {H : Heap} {a : Act} {W : Wd} {K : Env → Heap → Prop} {Q : Exit → Act → World → Prop}
theorem grow_row {P : Program} (hC : C.P = P) {W : Wd} {root : Root} (hH : HInv C H W) {r : List PV} {v u : Value} {tyId t ut el : TypeId} {ud : TypeDesc} {ts : Array TypeId} {m bs : Nat} {z : Value} {rg : Option Root} {ig : Nat} {g : FV}
    (hv : FRep W (some root) 0 (.own []) v) (hu : FRep W rg ig g u) (hg : g.asRow = some r) (hr0 : r ≠ []) (ht : ts[0]? = some t) (ht' : ts[1]? = some ut) (hud : P.underlying ut = some ud) (hni : ∀ k, ud ≠ .int k)
    (hel : P.underlying t = some (.slice el)) (hsz : szOf P el = some (m + 1)) (hz : zeroOf P el = some z) (hzs : z.cells.size = m + 1) (hbs : bytesOf P el = some bs) (hb0 : 0 < bs) (hb1 : bs ≤ 256)
    (hr : Sized (m + 1) r) (hle : r.length ≤ lenMax) :
    ∃ W' x, (Builtin.append_ ts tyId #[v, u]).run P W.w = .ok x W'.w ∧ FRep W' (some root) 0 (.gr H.length 0 (m + 1) r.length) x ∧ HInv C (H ++ [[.row 0 ((r.flatMap PV.leaves).map .sc)]]) W' ∧ Evo W W' (fun _ _ => True) := by
  subst hC
  obtain ⟨ns, hns1, hns2, hns3, _⟩ := row_sound (P := C.P) hu hg hr
  have hi : ∃ i, C.P.info? el = some i ∧ i.bytes = bs := by
    unfold bytesOf at hbs
    exact Option.map_eq_some_iff.1 hbs
  obtain ⟨inf, hinf, hinfb⟩ := hi
  have hDv := hv.mono (Evo.drew W (fun _ _ => True)) (by simp)
  have hDu := hu.mono (Evo.drew W (fun _ _ => True)) (by simp)
  cases hv with
  | @own _ _ _ A len cap hrep hsp =>
    have hlen := hrep.length
    simp only [List.length_nil] at hlen
    subst hlen
    have hcap : cap = 0 := by
      rcases hsp with h | ⟨e₀, _, _, _, _, h0, _⟩
      · exact h
      · simp at h0
    subst hcap
    have hrl : 0 < r.length := List.length_pos_iff.2 hr0
    have e0 : (#[Value.slice A 0 0, u] : Array Value)[0]? = some (.slice A 0 0) := rfl
    have e1 : (#[Value.slice A 0 0, u] : Array Value)[1]? = some u := rfl
    unfold Builtin.append_
    simp only [ht, e0, e1, ht', Sem.run_bind, run_underlying' hel, run_underlying' hud, Result.andThen_ok, run_sizeOf' hsz, Sem.run_pure, Bool.false_eq_true, if_false, hns1, Nat.zero_add]
    rw [if_neg (by omega)]
    obtain ⟨ns', _, hns2', hns3', _⟩ := row_sound (P := C.P) hDu hg hr
    obtain ⟨os', _, hos2', hos3', _⟩ := row_sound (P := C.P) (m := m) hDv (show (FV.own []).asRow = some [] from rfl) (fun _ h => by simp at h)
    have hos0 : os' = #[] := by
      have := hos3'.size
      simpa using this
    subst hos0
    have hos2' : Sem.run C.P (Builtin.firstCells (m + 1) 0 (.slice A 0 0)) W.drew.w = .ok #[] W.drew.w := hos2'
    have hcapb := nextcap_le (n := r.length) (c := 0) (by omega)
    have hlim : r.length ≤ 137438953472 := hle
    have hnr : ¬ (Builtin.nextslicecap (r.length) 0 * bs > 2 ^ 48) := by
      have : Builtin.nextslicecap (r.length) 0 * bs ≤ (2 * (r.length) + 256) * 256 := Nat.mul_le_mul hcapb hb1
      omega
    have hforced : (Question.appendCap (r.length) 0 el).forced = false := rfl
    have hch : (choose (.appendCap (r.length) 0 el)).run C.P W.w = .ok ((Question.appendCap (r.length) 0 el).cut (W.w.tape W.w.drawn (.appendCap (r.length) 0 el))) W.drew.w := by
      simp [hforced, Wd.drew]
    generalize hN : (Question.appendCap (r.length) 0 el).cut (W.w.tape W.w.drawn (.appendCap (r.length) 0 el)) = N at hch
    have hNge : r.length ≤ N := by rw [← hN]; simp [Question.cut]
    simp only [Bool.not_false, if_true, Sem.run_bind, run_typeInfo' hinf, Result.andThen_ok, hinfb, false_or]
    rw [if_neg (by omega)]
    simp only [Sem.run_bind, run_typeInfo' hinf, Result.andThen_ok, hinfb]
    rw [if_neg hnr]
    simp only [Sem.run_bind, hch, Result.andThen_ok, run_typeInfo' hinf, run_askRoom, hos2', hns2', run_zeroValue' hz, newRow, run_newObj, Sem.run_pure, World.alloc_eq]
    generalize hR : Builtin.zeroCells z.cells (N - (r.length)) = rest
    have hHd := hH.drew
    have hfl := flat_len hr
    obtain ⟨W', hw, hH', hE, hβ, ho, hgn⟩ := hHd.newRow (#[] ++ ns' ++ rest) el ((r.flatMap PV.leaves).map .sc) (by rw [List.length_map, hfl, Array.size_append, Array.size_append, hns3'.size]; omega) (fun k f v hf hv => by
      rw [List.getElem?_map] at hf
      obtain ⟨q, hq, rfl⟩ := Option.map_eq_some_iff.1 hf
      obtain ⟨p, h1, h2⟩ := flat_get (Nat.succ_pos m) hr hq
      obtain ⟨c, h3, h4, h5⟩ := hns3'.cell _ _ _ _ h1 h2
      have hk : k / (m + 1) * (m + 1) + k % (m + 1) = k := by rw [Nat.mul_comm]; exact Nat.div_add_mod k (m + 1)
      rw [hk] at h3
      have hlt : k < ns'.size := (Array.getElem?_eq_some_iff.1 h3).1
      rw [Array.empty_append, Array.getElem?_append_left hlt, h3] at hv
      obtain rfl := Option.some.inj hv
      exact ⟨h4, .sc h4 h5⟩)
    have hEE : Evo W W' (fun _ _ => True) := ((Evo.drew W (fun _ _ => True)).trans hE).weaken (by simp)
    refine ⟨W', _, by rw [hw], ?_, hH', hEE⟩
    have hb : FRep W' (some root) 0 (.gr H.length 0 (m + 1) r.length) (.slice (some ⟨W'.β H.length, 0, none⟩) r.length N) := .gr (Nat.zero_le _) (by omega) fun _ => ⟨rfl, by rw [hβ]; exact ho, _, _, _, by rw [hβ, hw]; exact heap_alloc_new, by
      rw [Array.size_append, Array.size_append, hns3'.size, ← hR, run_zeroCells hzs]
      simp only [List.size_toArray, List.length_nil, Nat.zero_add]
      rw [← Nat.add_mul]
      exact Nat.le_of_eq (by congr 1; omega)⟩
    rw [hβ] at hb
    simpa using hb
theorem wp_append_row (hi : Inv C nt e H a W) {o : Oper} (hd : dstOk nt o.dst) {x y : Operand} {args : Array Operand} {ts : Array TypeId} (ho : o.op = .call { callee := .builtin .append, args, argTypes := ts })
    (hargs : args.toList = [x, y]) {t u el : TypeId} {tr : List TypeId} (hts : ts.toList = t :: u :: tr) {ud : TypeDesc} (hel : C.P.underlying t = some (.slice el)) (hud : C.P.underlying u = some ud) {m bs : Nat} {z : Value} {f g : FV} {e' : Env} {r : List PV}
    (hsz : szOf C.P el = some (m + 1)) (hz : zeroOf C.P el = some z) (hbs : bytesOf C.P el = some bs) (hg : give C e x = some (f, e')) (hy : rd C e y = some g) (hf : f.home = .own []) (hr : g.asRow = some r) (hr0 : r ≠ [])
    (hni : ∀ k, ud ≠ .int k) (hzs : z.cells.size = m + 1) (hb0 : 0 < bs) (hb1 : bs ≤ 256) (hrs : Sized (m + 1) r) (hle : r.length ≤ lenMax) (hK : K (e'.put o.dst (.gr H.length 0 (m + 1) r.length)) (H ++ [[.row 0 ((r.flatMap PV.leaves).map .sc)]])) :
    o.wp C.P a W.w (After C nt W K) Q := by
  have hdr : ∃ d : Root, (∀ i, d ≠ .box i) ∧ (∀ i j, d ≠ .leaf i j) ∧ (∀ t, o.dst = some t → d = .tmp t) ∧ ∀ t, d = .tmp t → o.dst = some t := by
    cases hod : o.dst with
    | none => exact ⟨.res, by simp, by simp, by simp, by simp⟩
    | some t => exact ⟨.tmp t, by simp, by simp, by simp, by simp⟩
  obtain ⟨d, hd1, hd2, hd3, hd4⟩ := hdr
  obtain ⟨W₁, h1, h1l, h1b, h2, h3, h4, h5⟩ := give_sound hi hg (r := d) hd1
  have h3' := h3.home
  rw [hf] at h3'
  obtain ⟨_, _, hu⟩ := rd_sound hi hy
  have hgs := asRow_weak h2 hu hr
  have hgo : ∃ (W' : Wd) (v : Value), (Builtin.append_ ts o.type #[a.eval x, a.eval y]).run C.P W₁.w = .ok v W'.w ∧ FRep W' (some d) 0 (.gr H.length 0 (m + 1) r.length) v ∧ HInv C (H ++ [[.row 0 ((r.flatMap PV.leaves).map .sc)]]) W' ∧ Evo W₁ W' (fun _ _ => True) := by
    have ht0 : ts[0]? = some t := by rw [← Array.getElem?_toList, hts]; rfl
    have ht1 : ts[1]? = some u := by rw [← Array.getElem?_toList, hts]; rfl
    rcases hgs with hgs | ⟨s, rfl, hs⟩
    · exact grow_row rfl (h5 H hi.heap) h3' hgs rfl hr0 ht0 ht1 hud hni hel hsz hz hzs hbs hb0 hb1 hrs hle
    · exact grow_row rfl (h5 H hi.heap) h3' (rg := none) (ig := 0) (g := .sc (.str s)) (by rw [hs]; exact .mkStr) hr hr0 ht0 ht1 hud hni hel hsz hz hzs hbs hb0 hb1 hrs hle
  obtain ⟨W', v, g1, g2, g3, g4⟩ := hgo
  refine wp_of (s := Builtin.append_ ts o.type #[a.eval x, a.eval y]) (W' := W') (v := v) ?_ (by rw [← h1]; exact g1) ⟨g3, fun s => ?_, by rw [put_size]; exact hi.size, by rw [put_defers]; exact hi.defers⟩ (((h2.weaken (k' := fun _ _ => False) (by simp)).trans (g4.weaken (k' := fun _ _ => False) (by simp))).weaken (by simp)) hK
  · obtain ⟨dst, op, ty, pos, after, guard⟩ := o
    simp only at ho
    subst ho
    have : args = #[x, y] := by rw [← Array.toList_inj]; simpa using hargs
    subst this
    simp only [execOp, resolve, invoke, builtin, pure_bind, List.map_toArray, List.map_cons, List.map_nil]
  · rw [tmps_put hd hi.size, get_put]
    split
    · rename_i hdt
      rw [hd3 s hdt] at g2
      exact g2
    · rename_i hdt
      have hds : d ≠ .tmp s := fun h => hdt (hd4 s h)
      exact (h4 s hds).mono g4 (by simp)
def SrcAt (P : Program) (W : Wd) (w : World) (s b off : Nat) (c : List FV) (k : Nat) (u : Value) : Prop :=
  ∃ ns : Array Value, (Builtin.firstCells s k u).run P w = .ok ns w ∧ ns.size = c.length ∧ ∀ (j : Nat) (f : FV) (x : Value), c[j]? = some f → ns[j]? = some x → f.isLeaf = true ∧ FRep W (some (.leaf b (off + j))) 0 f x
def Src (P : Program) (W : Wd) (s b off : Nat) (c : List FV) (k : Nat) (u : Value) : Prop :=
  (Builtin.lenOf u).run P W.w = .ok k W.w ∧ c.length = k * s ∧ SrcAt P W W.w s b off c k u ∧ SrcAt P W W.w.drew s b off c k u
def Wd.regen (W : Wd) (b g : Nat) : Wd := { W with gen := fun x => if x = b then g else W.gen x }
theorem grow_in {P : Program} (hC : C.P = P) {W : Wd} (hH : HInv C H W) {b g n k m bs : Nat} {l c : List FV} {v u : Value} {tyId t ut el : TypeId} {ud : TypeDesc} {ts : Array TypeId} {z : Value} {rg : Option Root} {ig : Nat}
    (hb : rowOf H b = some (g, l)) (hv : FRep W rg ig (.gr b g (m + 1) n) v) (hnl : n * (m + 1) ≤ l.length) (hs : Src P W (m + 1) b (n * (m + 1)) c k u) (ht : ts[0]? = some t) (ht' : ts[1]? = some ut) (hud : P.underlying ut = some ud) (hni : ∀ k, ud ≠ .int k)
    (hel : P.underlying t = some (.slice el)) (hsz : szOf P el = some (m + 1)) (hz : zeroOf P el = some z) (hzs : z.cells.size = m + 1) (hbs : bytesOf P el = some bs) (hb0 : 0 < bs) (hb1 : bs ≤ 256) (hle : n + k ≤ lenMax) :
    ∃ W' x, (Builtin.append_ ts tyId #[v, u]).run P W.w = .ok x W'.w ∧ FRep W' none 0 (.gr b (g + 1) (m + 1) (n + k)) x ∧ HInv C (H.set b [.row (g + 1) (l.take (n * (m + 1)) ++ c)]) W' ∧ Evo W W' (fun q _ => ∀ i, q ≠ .box i) := by
  subst hC
  obtain ⟨hlt, hfs, hgen, hbo, hlim, ca, T, fz, hc, hlc, hfz, hcells⟩ := hH.row hb
  obtain ⟨hs1, hs5, ⟨ns, hs2, hs4, hs6⟩, ⟨ns₂, hs3, ht4, ht6⟩⟩ := hs
  have hi : ∃ i, C.P.info? el = some i ∧ i.bytes = bs := by
    unfold bytesOf at hbs
    exact Option.map_eq_some_iff.1 hbs
  obtain ⟨inf, hinf, hinfb⟩ := hi
  cases hv with
  | @gr _ _ _ _ _ _ cap A hg hcap hal =>
    obtain ⟨hA, _, c₂, T₂, fz₂, hc₂, hcs⟩ := hal hgen
    subst hA
    rw [hc] at hc₂
    simp only [Option.some.injEq, Obj.cells.injEq] at hc₂
    obtain ⟨rfl, rfl, rfl⟩ := hc₂
    have hone : ∀ v ∈ ns.toList, v.oneCell' = true := fun v hv => by
      obtain ⟨j, hj⟩ := List.getElem?_of_mem hv
      rw [Array.getElem?_toList] at hj
      have hjs := (Array.getElem?_eq_some_iff.1 hj).1
      have hjc := List.getElem?_eq_getElem (l := c) (i := j) (by omega)
      obtain ⟨q1, q2⟩ := hs6 j _ v hjc hj
      exact (q2.leafValue q1).1
    have e0 : (#[Value.slice (some ⟨W.β b, 0, none⟩) n cap, u] : Array Value)[0]? = some (.slice (some ⟨W.β b, 0, none⟩) n cap) := rfl
    have e1 : (#[Value.slice (some ⟨W.β b, 0, none⟩) n cap, u] : Array Value)[1]? = some u := rfl
    have hkn : ns.toList.length = k * (m + 1) := by rw [Array.length_toList, hs4, hs5]
    have htl : (l.take (n * (m + 1))).length = n * (m + 1) := by rw [List.length_take]; omega
    have hget : ∀ {i : Nat} {f : FV}, (l.take (n * (m + 1)) ++ c)[i]? = some f → (i < n * (m + 1) ∧ l[i]? = some f) ∨ (n * (m + 1) ≤ i ∧ c[i - n * (m + 1)]? = some f) := fun {i f} h => by
      by_cases hi : i < n * (m + 1)
      · rw [List.getElem?_append_left (by omega), List.getElem?_take_of_lt hi] at h
        exact .inl ⟨hi, h⟩
      · rw [List.getElem?_append_right (by omega), htl] at h
        exact .inr ⟨by omega, h⟩
    unfold Builtin.append_
    simp only [ht, e0, e1, ht', Sem.run_bind, run_underlying' hel, run_underlying' hud, Result.andThen_ok, run_sizeOf' hsz, Sem.run_pure, Bool.false_eq_true, if_false, hs1]
    by_cases hneed : n + k ≤ cap
    · rw [if_pos hneed]
      simp only [Bool.not_false, if_true, Sem.run_bind, hs2, Result.andThen_ok]
      have hmul : (n + k) * (m + 1) ≤ cap * (m + 1) := Nat.mul_le_mul_right _ hneed
      rw [Nat.add_mul] at hmul
      obtain ⟨w', c', r1, r2, r3, r4, r5, r6, r7, r8, r9⟩ := run_storeCells_at' (P := C.P) (A := (⟨W.β b, 0, none⟩ : Addr).add (n * (m + 1))) (by rw [Addr.add_none rfl]) ns.toList 0 W.w ca T fz (by rw [Addr.add_none rfl]; exact hc) (by rw [Addr.add_none rfl, hkn]; simp only; omega) hfz hone
      simp only [Addr.add_none (A := ⟨W.β b, 0, none⟩) rfl, hkn, Nat.add_zero, Nat.zero_add] at r2 r4 r5
      have hE : Evo W (Wd.regen { W with w := w' } b (g + 1)) (fun q _ => ∀ i, q ≠ .box i) := by
        refine Evo.of r7 r8 r9 (by show W.w.heap.size ≤ w'.heap.size; rw [r6]; exact Nat.le_refl _) (fun b' o' ho' => ?_) (fun _ => Nat.le_refl _) (fun b' c₀ T₀ fz₀ hb' => ?_) (fun _ _ _ h _ => ⟨h, rfl⟩) (fun _ _ h h' => ⟨h', h⟩) (fun i => ?_) (fun b' _ hb' => ?_)
        · have : b' ≠ W.β b := fun h => by rw [h, hlim] at ho'; omega
          simp only [Wd.regen, World.cell?, r5 b' this]
        · by_cases hbb : b' = W.β b
          · subst hbb
            rw [hc] at hb'
            simp only [Option.some.injEq, Obj.cells.injEq] at hb'
            obtain ⟨rfl, rfl, rfl⟩ := hb'
            exact ⟨c', r2, r3⟩
          · exact ⟨c₀, by simp only [Wd.regen]; rw [r5 b' hbb]; exact hb', rfl⟩
        · simp only [Wd.regen]
          split
          · subst_vars
            exact ⟨Nat.le_succ _, fun h => by omega⟩
          · exact ⟨Nat.le_refl _, fun _ h => ⟨trivial, h⟩⟩
        · have : b' ≠ W.β b := fun h => by rw [h, hbo] at hb'; simp at hb'
          exact ⟨by simp only [Wd.regen]; rw [r5 b' this], rfl, hb'⟩
      refine ⟨Wd.regen { W with w := w' } b (g + 1), .slice (some ⟨W.β b, 0, none⟩) (n + k) cap, ?_, ?_, ?_, hE⟩
      · simp only [Sem.run_bind, r1, Result.andThen_ok, Sem.run_pure]
        rfl
      · refine .gr (by simp [Wd.regen]) hneed fun _ => ⟨rfl, hbo, c', T, fz, r2, by rw [r3]; exact hcs⟩
      · refine ⟨fun b' gs hgs => ?_, fun g ls hls j q' hq' => ?_, fun b' hb' => ?_, fun b' i k hb' => ?_, fun b' hb' => ?_, hH.kept.evo hE⟩
        · by_cases hbb : b' = b
          · subst hbb
            rw [List.getElem?_set_self hlt] at hgs
            simp only [Option.some.injEq] at hgs
            subst hgs
            refine ⟨⟨hbo, by simp [GenOk, Wd.regen]⟩, hlim, c', T, fz, r2, ?_, by rw [r3]; exact hfz, fun i f x hf hx => ?_⟩
            · simp only [body, List.length_append, htl, hs5, r3]
              omega
            · rw [r4] at hx
              rcases hget hf with ⟨q1, q2⟩ | ⟨q1, q2⟩
              · rw [if_neg (by omega)] at hx
                exact ⟨(hcells i f x q2 hx).1, (hcells i f x q2 hx).2.mono hE (fun q j hq => by cases hq; simp)⟩
              · have := (List.getElem?_eq_some_iff.1 q2).1
                rw [if_pos (by omega), Array.getElem?_toList] at hx
                obtain ⟨q3, q4⟩ := hs6 _ f x q2 hx
                rw [show n * (m + 1) + (i - n * (m + 1)) = i by omega] at q4
                exact ⟨q3, q4.mono hE (fun q j hq => by cases hq; simp)⟩
          · rw [List.getElem?_set_ne (fun h => hbb h.symm)] at hgs
            obtain ⟨m1, m2, c₂, T₂, fz₂, m3, m4, m5, m6⟩ := hH.box b' gs hgs
            have hne : W.β b' ≠ W.β b := fun h => by
              have q := m1.1
              rw [h, hbo] at q
              simp at q
              exact hbb q.1.symm
            refine ⟨(m1.mono hE.toEvo0 (by simp [Wd.regen, hbb])).1, m2, c₂, T₂, fz₂, by simp only [Wd.regen]; rw [r5 _ hne]; exact m3, m4, m5, fun i f x hf hx => ⟨(m6 i f x hf hx).1, (m6 i f x hf hx).2.mono hE (fun q j hq => by cases hq; simp)⟩⟩
        · obtain ⟨m1, m2, x, m3, m4⟩ := hH.laid g ls hls j q' hq'
          exact ⟨m1, m2, x, by rw [hE.cell _ _ m2]; exact m3, m4.mono hE.cell hE.lim⟩
        · simp only [Wd.regen, r6] at hb'
          exact hH.fresh b' hb'
        · rw [List.length_set]
          exact hH.boxes b' i k hb'
        · rw [List.length_set] at hb'
          simp only [Wd.regen]
          rw [if_neg (by omega)]
          exact hH.gen0 b' hb'
    · rw [if_neg hneed]
      have hcapb := nextcap_le (n := n + k) (c := cap) (by omega)
      have hlim' : n + k ≤ 137438953472 := hle
      have hnr : ¬ (Builtin.nextslicecap (n + k) cap * bs > 2 ^ 48) := by
        have : Builtin.nextslicecap (n + k) cap * bs ≤ (2 * (n + k) + 256) * 256 := Nat.mul_le_mul hcapb hb1
        omega
      have hforced : (Question.appendCap (n + k) cap el).forced = false := rfl
      have hch : (choose (.appendCap (n + k) cap el)).run C.P W.w = .ok ((Question.appendCap (n + k) cap el).cut (W.w.tape W.w.drawn (.appendCap (n + k) cap el))) W.w.drew := by
        simp [hforced]
      generalize hN : (Question.appendCap (n + k) cap el).cut (W.w.tape W.w.drawn (.appendCap (n + k) cap el)) = N at hch
      have hNge : n + k ≤ N := by rw [← hN]; simp [Question.cut]
      have hos : (Builtin.firstCells (m + 1) n (.slice (some ⟨W.β b, 0, none⟩) n cap)).run C.P W.w.drew = .ok ((List.range (n * (m + 1))).map fun j => ca[j]?.getD default).toArray W.w.drew := by
        have hcd : W.w.drew.heap[W.β b]? = some (.cells ca T fz) := hc
        exact run_loadCells' (P := C.P) (w := W.w.drew) (A := ⟨W.β b, 0, none⟩) (fun j => ca[j]?.getD default) (fun j hj => by
          rw [Addr.add_none rfl]
          simp only [Nat.zero_add]
          rw [cell_of_heap hcd]
          simp [show j < ca.size by omega])
      simp only [Bool.not_false, if_true, Sem.run_bind, run_typeInfo' hinf, Result.andThen_ok, hinfb, false_or]
      rw [if_neg (by omega)]
      simp only [Sem.run_bind, run_typeInfo' hinf, Result.andThen_ok, hinfb]
      rw [if_neg hnr]
      simp only [Sem.run_bind, hch, Result.andThen_ok, run_typeInfo' hinf, run_askRoom, hos, hs3, run_zeroValue' hz, newRow, run_newObj, Sem.run_pure, World.alloc_eq]
      generalize hR : Builtin.zeroCells z.cells (N - (n + k)) = rest
      have hRs : rest.size = (N - (n + k)) * (m + 1) := by rw [← hR]; exact run_zeroCells hzs
      generalize hO : ((List.range (n * (m + 1))).map fun j => ca[j]?.getD default).toArray = os
      have hOs : os.size = n * (m + 1) := by rw [← hO]; simp
      have hOg : ∀ i, i < n * (m + 1) → os[i]? = ca[i]? := fun i hi => by
        rw [← hO]
        simp [hi, show i < ca.size by omega]
      have hdsz : W.w.drew.heap.size = W.w.heap.size := rfl
      have hkk : (N - (n + k)) * (m + 1) = N * (m + 1) - (n * (m + 1) + k * (m + 1)) := by rw [Nat.sub_mul, Nat.add_mul]
      have hNm : (n + k) * (m + 1) ≤ N * (m + 1) := Nat.mul_le_mul_right _ hNge
      rw [Nat.add_mul] at hNm
      have hcs' : (os ++ ns₂ ++ rest).size = N * (m + 1) := by
        simp only [Array.size_append, hOs, ht4, hs5, hRs, hkk]
        omega
      let W' : Wd := { w := W.w.drew.alloc (.cells (os ++ ns₂ ++ rest) el), lim := W.lim, β := fun x => if x = b then W.w.heap.size else W.β x, o := fun x => if x = W.w.heap.size then some (.box b, 1) else if x = W.β b then none else W.o x, gen := fun x => if x = b then g + 1 else W.gen x }
      have hnew : W'.w.heap[W.w.heap.size]? = some (.cells (os ++ ns₂ ++ rest) el (0, 0)) := heap_alloc_new (w := W.w.drew)
      have hold : ∀ x, x < W.w.heap.size → W'.w.heap[x]? = W.w.heap[x]? := fun x hx => heap_alloc_lt (w := W.w.drew) hx
      have hF := hH.toFresh
      have hE : Evo W W' (fun q _ => ∀ i, q ≠ .box i) := by
        refine Evo.of rfl rfl rfl (by simp [W', hdsz]) (fun b' o' ho' => ?_) (fun _ => Nat.le_refl _) (fun b' c₀ T₀ fz₀ hb' => ⟨c₀, ?_, rfl⟩) (fun b' r i h hr => ?_) (fun b' i h h' => ?_) (fun i => ?_) (fun b' hb' h => ?_)
        · exact cell_alloc (w := W.w.drew) (lt_of_lim hF ho')
        · rw [hold b' (Array.getElem?_eq_some_iff.1 hb').1]; exact hb'
        · have h1 := lt_of_o hF h
          have h2 : b' ≠ W.β b := fun hh => by rw [hh, hbo] at h; simp at h; exact hr _ h.1.symm
          exact ⟨by simp only [W']; rw [if_neg (by omega), if_neg h2]; exact h, rfl⟩
        · have h1 := lt_of_o hF h
          have h2 : b' ≠ W.β b := fun hh => by rw [hh, hbo] at h; simp at h
          have h3 : i ≠ b := fun hh => by rw [hh] at h'; exact h2 h'.symm
          exact ⟨by simp only [W']; rw [if_neg h3]; exact h', by simp only [W']; rw [if_neg (by omega), if_neg h2]; exact h⟩
        · by_cases hib : i = b
          · subst hib
            refine ⟨by simp only [W', if_true]; omega, fun h => ?_⟩
            simp only [W', if_true] at h
            omega
          · refine ⟨by simp only [W']; rw [if_neg hib]; exact Nat.le_refl _, fun _ ho => ?_⟩
            have h1 := lt_of_o hF ho
            have h2 : W.β i ≠ W.β b := fun hh => by rw [hh, hbo] at ho; simp at ho; exact hib ho.symm
            exact ⟨by simp only [W']; rw [if_neg hib], by simp only [W']; rw [if_neg (by omega), if_neg h2]; exact ho⟩
        · have h2 : b' ≠ W.β b := fun hh => by rw [hh, hbo] at h; simp at h
          exact ⟨hold b' hb', rfl, by simp only [W']; rw [if_neg (by omega), if_neg h2]; exact h⟩
      have hWb : W'.β b = W.w.heap.size := by simp [W']
      have hWo : W'.o W.w.heap.size = some (.box b, 1) := by simp [W']
      have hWg : W'.gen b = g + 1 := by simp [W']
      refine ⟨W', .slice (some ⟨W.w.heap.size, 0, none⟩) (n + k) N, rfl, ?_, ?_, hE⟩
      · exact .gr (Nat.le_of_eq hWg.symm) hNge fun _ => ⟨by rw [hWb], by rw [hWb]; exact hWo, _, _, _, by rw [hWb]; exact hnew, Nat.le_of_eq hcs'.symm⟩
      · refine ⟨fun b' gs hgs => ?_, fun g ls hls j q' hq' => ?_, fun b' hb' => ?_, fun b' i k hb' => ?_, fun b' hb' => ?_, hH.kept.evo hE⟩
        · by_cases hbb : b' = b
          · subst hbb
            rw [List.getElem?_set_self hlt] at hgs
            simp only [Option.some.injEq] at hgs
            subst hgs
            refine ⟨⟨by rw [hWb]; exact hWo, hWg⟩, by rw [hWb]; exact (hH.fresh _ (Nat.le_refl _)).1, os ++ ns₂ ++ rest, el, (0, 0), by rw [hWb]; exact hnew, ?_, fun _ _ => by simp, fun i f x hf hx => ?_⟩
            · simp only [body, List.length_append, htl, hs5, hcs']
              omega
            · rcases hget hf with ⟨q1, q2⟩ | ⟨q1, q2⟩
              · rw [Array.append_assoc, Array.getElem?_append_left (by omega), hOg i q1] at hx
                exact ⟨(hcells i f x q2 hx).1, (hcells i f x q2 hx).2.mono hE (fun q j hq => by cases hq; simp)⟩
              · have := (List.getElem?_eq_some_iff.1 q2).1
                rw [Array.append_assoc, Array.getElem?_append_right (by omega), hOs, Array.getElem?_append_left (by omega)] at hx
                obtain ⟨q3, q4⟩ := ht6 _ f x q2 hx
                rw [show n * (m + 1) + (i - n * (m + 1)) = i by omega] at q4
                exact ⟨q3, q4.mono hE (fun q j hq => by cases hq; simp)⟩
          · rw [List.getElem?_set_ne (fun h => hbb h.symm)] at hgs
            obtain ⟨m1, m2, c₂, T₂, fz₂, m3, m4, m5, m6⟩ := hH.box b' gs hgs
            obtain ⟨p1, p2⟩ := m1.mono hE.toEvo0 (by simp [W', hbb])
            refine ⟨p1, by rw [p2]; exact m2, c₂, T₂, fz₂, by rw [p2, hold _ (Array.getElem?_eq_some_iff.1 m3).1]; exact m3, m4, m5, fun i f x hf hx => ⟨(m6 i f x hf hx).1, (m6 i f x hf hx).2.mono hE (fun q j hq => by cases hq; simp)⟩⟩
        · obtain ⟨m1, m2, x, m3, m4⟩ := hH.laid g ls hls j q' hq'
          exact ⟨m1, m2, x, by rw [hE.cell _ _ m2]; exact m3, m4.mono hE.cell hE.lim⟩
        · have hb'' : W.w.heap.size + 1 ≤ b' := by simpa [W', hdsz] using hb'
          obtain ⟨m1, m2⟩ := hH.fresh b' (by omega)
          refine ⟨m1, ?_⟩
          simp only [W']
          rw [if_neg (by omega)]
          split
          · rfl
          · exact m2
        · rw [List.length_set]
          simp only [W'] at hb'
          split at hb'
          · simp at hb'; omega
          · split at hb'
            · simp at hb'
            · exact hH.boxes b' i k hb'
        · rw [List.length_set] at hb'
          simp only [W']
          rw [if_neg (by omega)]
          exact hH.gen0 b' hb'
theorem src_plain {P : Program} {W : Wd} {m b off : Nat} {rg : Option Root} {ig : Nat} {y : FV} {u : Value} {r : List PV} (hu : FRep W rg ig y u) (hr : y.asRow = some r) (hrs : Sized (m + 1) r) :
    Src P W (m + 1) b off ((r.flatMap PV.leaves).map .sc) r.length u := by
  obtain ⟨ns, h1, h2, h3, _⟩ := row_sound (P := P) hu hr hrs
  obtain ⟨ns', _, h2', h3', _⟩ := row_sound (P := P) (hu.mono (Evo.drew W (fun _ _ => True)) (by simp)) hr hrs
  have hfl := flat_len hrs
  have hcell : ∀ {w : Array Value}, RowCells W (m + 1) r w → ∀ (j : Nat) (f : FV) (x : Value), ((r.flatMap PV.leaves).map .sc)[j]? = some f → w[j]? = some x → f.isLeaf = true ∧ FRep W (some (.leaf b (off + j))) 0 f x := fun {w} hw j f x hf hx => by
    rw [List.getElem?_map, Option.map_eq_some_iff] at hf
    obtain ⟨q, hq, rfl⟩ := hf
    obtain ⟨p, q1, q2⟩ := flat_get (Nat.succ_pos m) hrs hq
    obtain ⟨y, q3, q4, q5⟩ := hw.cell _ _ _ _ q1 q2
    have hk : j / (m + 1) * (m + 1) + j % (m + 1) = j := by rw [Nat.mul_comm]; exact Nat.div_add_mod j (m + 1)
    rw [hk, hx] at q3
    simp only [Option.some.injEq] at q3
    subst q3
    exact ⟨q4, .sc q4 q5⟩
  have h3'' : RowCells W (m + 1) r ns' := ⟨h3'.size, fun i j p q hp hq => let ⟨c, q1, q2, q3⟩ := h3'.cell i j p q hp hq; ⟨c, q1, q2, Rep.mono (w := W.drew.w) (w' := W.w) (lim := W.drew.lim) (lim' := W.lim) (fun _ _ _ => rfl) (fun _ => Nat.le_refl _) q3⟩, h3'.sized⟩
  exact ⟨h1, by rw [List.length_map, hfl], ⟨ns, h2, by rw [List.length_map, hfl, h3.size], hcell h3⟩, ⟨ns', h2', by rw [List.length_map, hfl, h3'.size], hcell h3''⟩⟩
theorem wp_append_in (hi : Inv C nt e H a W) {o : Oper} (hd : dstOk nt o.dst) {x y : Operand} {args : Array Operand} {ts : Array TypeId} (ho : o.op = .call { callee := .builtin .append, args, argTypes := ts })
    (hargs : args.toList = [x, y]) {t u el : TypeId} {tr : List TypeId} (hts : ts.toList = t :: u :: tr) {ud : TypeDesc} (hel : C.P.underlying t = some (.slice el)) (hud : C.P.underlying u = some ud) {m bs b gb n : Nat} {z : Value} {f g : FV} {e' : Env} {l : List FV} {r : List PV}
    (hsz : szOf C.P el = some (m + 1)) (hz : zeroOf C.P el = some z) (hbs : bytesOf C.P el = some bs) (hg : give C e x = some (f, e')) (hy : rd C e y = some g) (hf : f.home = .gr b gb (m + 1) n) (hr : g.asRow = some r) (hb : rowOf H b = some (gb, l)) (hnl : n * (m + 1) ≤ l.length)
    (hni : ∀ k, ud ≠ .int k) (hzs : z.cells.size = m + 1) (hb0 : 0 < bs) (hb1 : bs ≤ 256) (hrs : Sized (m + 1) r) (hle : n + r.length ≤ lenMax) (hK : K (e'.put o.dst (.gr b (gb + 1) (m + 1) (n + r.length))) (H.set b [.row (gb + 1) (l.take (n * (m + 1)) ++ (r.flatMap PV.leaves).map .sc)])) :
    o.wp C.P a W.w (After C nt W K) Q := by
  have hdr : ∃ d : Root, (∀ i, d ≠ .box i) ∧ (∀ i j, d ≠ .leaf i j) ∧ (∀ t, o.dst = some t → d = .tmp t) ∧ ∀ t, d = .tmp t → o.dst = some t := by
    cases hod : o.dst with
    | none => exact ⟨.res, by simp, by simp, by simp, by simp⟩
    | some t => exact ⟨.tmp t, by simp, by simp, by simp, by simp⟩
  obtain ⟨d, hd1, hd2, hd3, hd4⟩ := hdr
  obtain ⟨W₁, h1, h1l, h1b, h2, h3, h4, h5⟩ := give_sound hi hg (r := d) hd1
  have h3' := h3.home
  rw [hf] at h3'
  obtain ⟨_, _, hu⟩ := rd_sound hi hy
  have hgs := asRow_weak h2 hu hr
  have ht0 : ts[0]? = some t := by rw [← Array.getElem?_toList, hts]; rfl
  have ht1 : ts[1]? = some u := by rw [← Array.getElem?_toList, hts]; rfl
  have hsrc : Src C.P W₁ (m + 1) b (n * (m + 1)) ((r.flatMap PV.leaves).map .sc) r.length (a.eval y) := by
    rcases hgs with hgs | ⟨s, rfl, hs⟩
    · exact src_plain hgs rfl hrs
    · exact src_plain (rg := none) (ig := 0) (y := .sc (.str s)) (by rw [hs]; exact .mkStr) hr hrs
  obtain ⟨W', v, g1, g2, g3, g4⟩ := grow_in (tyId := o.type) rfl (h5 H hi.heap) hb h3' hnl hsrc ht0 ht1 hud hni hel hsz hz hzs hbs hb0 hb1 hle
  refine wp_of (s := Builtin.append_ ts o.type #[a.eval x, a.eval y]) (W' := W') (v := v) ?_ (by rw [← h1]; exact g1) ⟨g3, fun s => ?_, by rw [put_size]; exact hi.size, by rw [put_defers]; exact hi.defers⟩ (((h2.weaken (k' := fun _ _ => False) (by simp)).trans (g4.weaken (k' := fun _ _ => False) (by simp))).weaken (by simp)) hK
  · obtain ⟨dst, op, ty, pos, after, guard⟩ := o
    simp only at ho
    subst ho
    have : args = #[x, y] := by rw [← Array.toList_inj]; simpa using hargs
    subst this
    simp only [execOp, resolve, invoke, builtin, pure_bind, List.map_toArray, List.map_cons, List.map_nil]
  · rw [tmps_put hd hi.size, get_put]
    split
    · exact g2.weaken rfl
    · rename_i hdt
      have hds : d ≠ .tmp s := fun h => hdt (hd4 s h)
      exact (h4 s hds).mono g4 (fun q j hq => by cases hq; simp)
end
end Go.Proofs.YtkbknlcdinkokaaDoor.Ev
end
section
namespace Go.Proofs.YtkbknlcdinkokaaDoor.Ev
open Go
theorem FRep.shift {A B : Wd} {r r' : Root} {i i' : Nat} (hc : ∀ b off, off < A.lim b → B.w.cell? ⟨b, off, none⟩ = A.w.cell? ⟨b, off, none⟩) (hl : ∀ b, A.lim b ≤ B.lim b)
    (hs : ∀ (b : Nat) (c : Array Value) (T : TypeId) (fz : Nat × Nat), A.w.heap[b]? = some (Obj.cells c T fz) → ∃ c' : Array Value, B.w.heap[b]? = some (Obj.cells c' T fz) ∧ c'.size = c.size)
    (hh : ∀ b, A.o b = some (r, i) → B.o b = some (r', i') ∧ B.lim b = A.lim b) (hb : ∀ b i, A.o b = some (.box i, 0) → A.β i = b → B.β i = b ∧ B.o b = some (.box i, 0))
    (hw : ∀ i, A.gen i ≤ B.gen i ∧ (B.gen i = A.gen i → A.o (A.β i) = some (.box i, 1) → B.β i = A.β i ∧ B.o (A.β i) = some (.box i, 1)))
    {f : FV} {v : Value} (h : FRep A (some r) i f v) (ht : f.isTup = false) : FRep B (some r') i' f v := by
  have hE : Evo0 A B (fun _ _ => False) := { cell := hc, lim := hl, shape := hs, hold := fun _ _ _ _ h => h.elim, beta := hb, row := hw }
  cases h with
  | undef => exact .undef
  | sc a b => exact .sc a (b.mono hc hl)
  | @own _ _ l a len cap hp b =>
    refine .own (hp.mono hc hl) ?_
    rcases b with b | ⟨e, x, c, T, fz, h0, h1, h2, h3, h4, h5, h6, h7, h8⟩
    · exact .inl b
    · obtain ⟨c', hc', hsz⟩ := hs _ _ _ _ h5
      obtain ⟨ho, hlm⟩ := hh _ h4
      exact .inr ⟨e, x, c', T, fz, h0, h1, h2, by simp, ho, hc', hsz ▸ h6, hsz ▸ h7, hlm ▸ h8⟩
  | emp => exact .emp
  | agg a b => exact .agg a fun j f v hf hv => (b j f v hf hv).mono0 hE (by simp)
  | @ptr _ _ b off hbo =>
    obtain ⟨h1, h2⟩ := hb _ _ hbo rfl
    rw [← h1]
    exact .ptr (by rw [h1]; exact h2)
  | @bs _ _ b off n cap hbo hn =>
    obtain ⟨h1, h2⟩ := hb _ _ hbo rfl
    rw [← h1]
    exact .bs (by rw [h1]; exact h2) hn
  | gr a n c => exact ((FRep.gr (r := none) (i := 0) a n c).mono0 hE (by simp)).weaken rfl
  | gp a c => exact ((FRep.gp (r := none) (i := 0) a c).mono0 hE (by simp)).weaken rfl
  | nilp => exact .nilp
  | ea c h1 h2 h3 h4 h5 => exact .ea c h1 (fun j p hp => Nat.lt_of_lt_of_le (h2 j p hp) (hl _)) (fun j p hp => by rw [hc _ _ (h2 j p hp)]; exact h3 j p hp) h4 (fun j p hp => (h5 j p hp).mono hc hl)
  | tup => simp [FV.isTup] at ht
  | oagg => simp [FV.isTup] at ht
  | fn a b c d => exact .fn a b (fun j f v hf hv => (c j f v hf hv).mono0 hE (by simp)) (fun j f v hf hv => (d j f v hf hv).mono0 hE (by simp))
def Wd.moveL (W : Wd) (b₂ b off : Nat) : Wd := { W with o := fun x => match W.o x with
  | some (.leaf i j, k) => if i = b₂ then some (.leaf b (off + j), k) else some (.leaf i j, k)
  | q => q }
section
variable {W : Wd} {b₂ b off : Nat}
theorem moveL_leaf {x j k : Nat} (h : W.o x = some (.leaf b₂ j, k)) : (W.moveL b₂ b off).o x = some (.leaf b (off + j), k) := by simp [Wd.moveL, h]
theorem moveL_else {x k : Nat} {q : Root} (h : W.o x = some (q, k)) (hq : ∀ j, q ≠ .leaf b₂ j) : (W.moveL b₂ b off).o x = some (q, k) := by
  simp only [Wd.moveL, h]
  cases q with
  | leaf i j =>
    simp only
    rw [if_neg (fun hi => hq j (by rw [hi]))]
  | _ => rfl
theorem moveL_none {x : Nat} (h : W.o x = none) : (W.moveL b₂ b off).o x = none := by simp [Wd.moveL, h]
theorem moveL_box {x i k : Nat} (h : (W.moveL b₂ b off).o x = some (.box i, k)) : W.o x = some (.box i, k) := by
  simp only [Wd.moveL] at h
  split at h
  · split at h <;> simp at h
  · exact h
theorem Evo.moveL (W : Wd) (b₂ b off : Nat) : Evo W (W.moveL b₂ b off) (fun q _ => ∀ j, q ≠ .leaf b₂ j) :=
  Evo.of rfl rfl rfl (Nat.le_refl _) (fun _ _ _ => rfl) (fun _ => Nat.le_refl _) (fun _ c _ _ h => ⟨c, h, rfl⟩) (fun _ _ _ h hk => ⟨moveL_else h hk, rfl⟩) (fun _ _ h h' => ⟨h', moveL_else h (by simp)⟩) (fun _ => ⟨Nat.le_refl _, fun _ h => ⟨rfl, moveL_else h (by simp)⟩⟩) (fun _ _ h => ⟨rfl, rfl, moveL_none h⟩)
theorem HInv.moveL {C : Ctx} {H : Heap} (h : HInv C H W) {g : Nat} {c : List FV} (hr : rowOf H b₂ = some (g, c)) (b off : Nat) : HInv C (H.set b₂ [.row g []]) (W.moveL b₂ b off) := by
  have hE := Evo.moveL W b₂ b off
  obtain ⟨hlt, hfs, hgen, hbo, hlim, ca, T, fz, hc, hlc, hfz, hcells⟩ := h.row hr
  refine ⟨fun x gs hgs => ?_, fun g ls hls j q' hq' => ?_, fun x hx => ⟨(h.fresh x hx).1, moveL_none (h.fresh x hx).2⟩, fun x i k hx => ?_, fun x hx => h.gen0 x (by simpa using hx), h.kept.evo hE⟩
  · by_cases hxb : x = b₂
    · subst hxb
      rw [List.getElem?_set_self hlt] at hgs
      simp only [Option.some.injEq] at hgs
      subst hgs
      exact ⟨⟨moveL_else hbo (by simp), hgen⟩, hlim, ca, T, fz, hc, Nat.zero_le _, hfz, fun i f v hf => by simp [body] at hf⟩
    · rw [List.getElem?_set_ne (fun h => hxb h.symm)] at hgs
      obtain ⟨m1, m2, c₂, T₂, fz₂, m3, m4, m5, m6⟩ := h.box x gs hgs
      exact ⟨(m1.mono hE.toEvo0 rfl).1, m2, c₂, T₂, fz₂, m3, m4, m5, fun i f v hf hv => ⟨(m6 i f v hf hv).1, (m6 i f v hf hv).2.mono hE (fun q j hq => by cases hq; simp; omega)⟩⟩
  · exact h.laid g ls hls j q' hq'
  · rw [List.length_set]
    exact h.boxes x i k (moveL_box hx)
theorem leaf_notTup {f : FV} (h : f.isLeaf = true) : f.isTup = false := by cases f <;> simp_all [FV.isLeaf, FV.isTup]
theorem src_moved {P : Program} {C : Ctx} {H : Heap} (h : HInv C H W) {g n m : Nat} {c : List FV} (hr : rowOf H b₂ = some (g, c)) (b off : Nat) {rg : Option Root} {ig : Nat} {u : Value} (hu : FRep W rg ig (.gr b₂ g (m + 1) n) u) (hl : c.length = n * (m + 1)) :
    Src P (W.moveL b₂ b off) (m + 1) b off c n u := by
  have hE := Evo.moveL W b₂ b off
  obtain ⟨hlt, hfs, hgen, hbo, hlim, ca, T, fz, hc, hlc, hfz, hcells⟩ := h.row hr
  cases hu with
  | @gr _ _ _ _ _ _ cap A hg hcap hal =>
    obtain ⟨hA, _, _⟩ := hal hgen
    subst hA
    have key : ∀ w : World, w.heap[W.β b₂]? = some (.cells ca T fz) → SrcAt P (W.moveL b₂ b off) w (m + 1) b off c n (.slice (some ⟨W.β b₂, 0, none⟩) n cap) := fun w hw => by
      refine ⟨((List.range (n * (m + 1))).map fun j => ca[j]?.getD default).toArray, ?_, by simp [hl], fun j f x hf hx => ?_⟩
      · exact run_loadCells' (P := P) (w := w) (A := ⟨W.β b₂, 0, none⟩) (fun j => ca[j]?.getD default) (fun j hj => by
          rw [Addr.add_none rfl]
          simp only [Nat.zero_add]
          rw [cell_of_heap hw]
          simp [show j < ca.size by omega])
      · have hj := (List.getElem?_eq_some_iff.1 hf).1
        have hjc : j < ca.size := by omega
        have hx' : x = ca[j] := by
          simp only [List.getElem?_toArray, List.getElem?_map, List.getElem?_range (show j < n * (m + 1) by omega), Option.map_some, Option.some.injEq] at hx
          rw [← hx]
          simp [hjc]
        subst hx'
        obtain ⟨q1, q2⟩ := hcells j f ca[j] hf (by simp [hjc])
        exact ⟨q1, q2.shift (r' := .leaf b (off + j)) (i' := 0) hE.cell hE.lim hE.shape (fun y hy => ⟨moveL_leaf hy, rfl⟩) hE.beta hE.row (leaf_notTup q1)⟩
    exact ⟨rfl, hl, key _ hc, key _ hc⟩
end
section
variable {C : Ctx} {nt : Nat} {mv : List Nat} {e : Env} {H : Heap} {a : Act} {W : Wd} {K : Env → Heap → Prop} {Q : Exit → Act → World → Prop}
theorem grow_rowS {P : Program} (hC : C.P = P) {W : Wd} {root : Root} (hH : HInv C H W) {c : List FV} {k : Nat} {v u : Value} {tyId t ut el : TypeId} {ud : TypeDesc} {ts : Array TypeId} {m bs : Nat} {z : Value}
    (hv : FRep W (some root) 0 (.own []) v) (hs : Src P W (m + 1) H.length 0 c k u) (hk0 : 0 < k) (ht : ts[0]? = some t) (ht' : ts[1]? = some ut) (hud : P.underlying ut = some ud) (hni : ∀ k, ud ≠ .int k)
    (hel : P.underlying t = some (.slice el)) (hsz : szOf P el = some (m + 1)) (hz : zeroOf P el = some z) (hzs : z.cells.size = m + 1) (hbs : bytesOf P el = some bs) (hb0 : 0 < bs) (hb1 : bs ≤ 256) (hle : k ≤ lenMax) :
    ∃ W' x, (Builtin.append_ ts tyId #[v, u]).run P W.w = .ok x W'.w ∧ FRep W' (some root) 0 (.gr H.length 0 (m + 1) k) x ∧ HInv C (H ++ [[.row 0 c]]) W' ∧ Evo W W' (fun _ _ => True) := by
  subst hC
  obtain ⟨hns1, hcl, _, ⟨ns', hns2', hns3', hns4'⟩⟩ := hs
  have hi : ∃ i, C.P.info? el = some i ∧ i.bytes = bs := by
    unfold bytesOf at hbs
    exact Option.map_eq_some_iff.1 hbs
  obtain ⟨inf, hinf, hinfb⟩ := hi
  have hDv := hv.mono (Evo.drew W (fun _ _ => True)) (by simp)
  cases hv with
  | @own _ _ _ A len cap hrep hsp =>
    have hlen := hrep.length
    simp only [List.length_nil] at hlen
    subst hlen
    have hcap : cap = 0 := by
      rcases hsp with h | ⟨e₀, _, _, _, _, h0, _⟩
      · exact h
      · simp at h0
    subst hcap
    have e0 : (#[Value.slice A 0 0, u] : Array Value)[0]? = some (.slice A 0 0) := rfl
    have e1 : (#[Value.slice A 0 0, u] : Array Value)[1]? = some u := rfl
    unfold Builtin.append_
    simp only [ht, e0, e1, ht', Sem.run_bind, run_underlying' hel, run_underlying' hud, Result.andThen_ok, run_sizeOf' hsz, Sem.run_pure, Bool.false_eq_true, if_false, hns1, Nat.zero_add]
    rw [if_neg (by omega)]
    obtain ⟨os', _, hos2', hos3', _⟩ := row_sound (P := C.P) (m := m) hDv (show (FV.own []).asRow = some [] from rfl) (fun _ h => by simp at h)
    have hos0 : os' = #[] := by
      have := hos3'.size
      simpa using this
    subst hos0
    have hos2' : Sem.run C.P (Builtin.firstCells (m + 1) 0 (.slice A 0 0)) W.drew.w = .ok #[] W.drew.w := hos2'
    have hcapb := nextcap_le (n := k) (c := 0) (by omega)
    have hlim : k ≤ 137438953472 := hle
    have hnr : ¬ (Builtin.nextslicecap k 0 * bs > 2 ^ 48) := by
      have : Builtin.nextslicecap k 0 * bs ≤ (2 * k + 256) * 256 := Nat.mul_le_mul hcapb hb1
      omega
    have hforced : (Question.appendCap k 0 el).forced = false := rfl
    have hch : (choose (.appendCap k 0 el)).run C.P W.w = .ok ((Question.appendCap k 0 el).cut (W.w.tape W.w.drawn (.appendCap k 0 el))) W.drew.w := by
      simp [hforced, Wd.drew]
    generalize hN : (Question.appendCap k 0 el).cut (W.w.tape W.w.drawn (.appendCap k 0 el)) = N at hch
    have hNge : k ≤ N := by rw [← hN]; simp [Question.cut]
    have hns2'' : Sem.run C.P (Builtin.firstCells (m + 1) k u) W.drew.w = .ok ns' W.drew.w := hns2'
    simp only [Bool.not_false, if_true, Sem.run_bind, run_typeInfo' hinf, Result.andThen_ok, hinfb, false_or]
    rw [if_neg (by omega)]
    simp only [Sem.run_bind, run_typeInfo' hinf, Result.andThen_ok, hinfb]
    rw [if_neg hnr]
    simp only [Sem.run_bind, hch, Result.andThen_ok, run_typeInfo' hinf, run_askRoom, hos2', hns2'', run_zeroValue' hz, newRow, run_newObj, Sem.run_pure, World.alloc_eq]
    generalize hR : Builtin.zeroCells z.cells (N - k) = rest
    have hHd := hH.drew
    obtain ⟨W', hw, hH', hE, hβ, ho, hgn⟩ := hHd.newRow (#[] ++ ns' ++ rest) el c (by rw [Array.size_append, Array.size_append, hns3']; omega) (fun j f v hf hv => by
      have hj := (List.getElem?_eq_some_iff.1 hf).1
      rw [Array.empty_append, Array.getElem?_append_left (by omega)] at hv
      obtain ⟨q1, q2⟩ := hns4' j f v hf hv
      rw [Nat.zero_add] at q2
      exact ⟨q1, q2.mono (Evo.drew W (fun _ _ => True)) (by simp)⟩)
    have hEE : Evo W W' (fun _ _ => True) := ((Evo.drew W (fun _ _ => True)).trans hE).weaken (by simp)
    refine ⟨W', _, by rw [hw], ?_, hH', hEE⟩
    have hb : FRep W' (some root) 0 (.gr H.length 0 (m + 1) k) (.slice (some ⟨W'.β H.length, 0, none⟩) k N) := .gr (Nat.zero_le _) (by omega) fun _ => ⟨rfl, by rw [hβ]; exact ho, _, _, _, by rw [hβ, hw]; exact heap_alloc_new, by
      rw [Array.size_append, Array.size_append, hns3', hcl, ← hR, run_zeroCells hzs]
      simp only [List.size_toArray, List.length_nil, Nat.zero_add]
      rw [← Nat.add_mul]
      exact Nat.le_of_eq (by congr 1; omega)⟩
    rw [hβ] at hb
    simpa using hb
theorem wp_append_move (hi : Inv C nt e H a W) {o : Oper} (hd : dstOk nt o.dst) {x y : Operand} {args : Array Operand} {ts : Array TypeId} (ho : o.op = .call { callee := .builtin .append, args, argTypes := ts })
    (hargs : args.toList = [x, y]) {t u el : TypeId} {tr : List TypeId} (hts : ts.toList = t :: u :: tr) {ud : TypeDesc} (hel : C.P.underlying t = some (.slice el)) (hud : C.P.underlying u = some ud) {m bs : Nat} {z : Value} {f g : FV} {e' : Env}
    (hsz : szOf C.P el = some (m + 1)) (hz : zeroOf C.P el = some z) (hbs : bytesOf C.P el = some bs) (hg : give C e x = some (f, e')) (hy : rd C e y = some g)
    (hni : ∀ k, ud ≠ .int k) (hzs : z.cells.size = m + 1) (hb0 : 0 < bs) (hb1 : bs ≤ 256) (hm : MoveQ mv o.dst m e' f.home g H K) :
    o.wp C.P a W.w (After C nt W K) Q := by
  have hdr : ∃ d : Root, (∀ i, d ≠ .box i) ∧ (∀ i j, d ≠ .leaf i j) ∧ (∀ t, o.dst = some t → d = .tmp t) ∧ ∀ t, d = .tmp t → o.dst = some t := by
    cases hod : o.dst with
    | none => exact ⟨.res, by simp, by simp, by simp, by simp⟩
    | some t => exact ⟨.tmp t, by simp, by simp, by simp, by simp⟩
  obtain ⟨d, hd1, hd2, hd3, hd4⟩ := hdr
  obtain ⟨W₁, h1, h1l, h1b, h2, h3, h4, h5⟩ := give_sound hi hg (r := d) hd1
  have h3' := h3.home
  obtain ⟨_, _, hu⟩ := rd_sound hi hy
  have ht0 : ts[0]? = some t := by rw [← Array.getElem?_toList, hts]; rfl
  have ht1 : ts[1]? = some u := by rw [← Array.getElem?_toList, hts]; rfl
  have hH1 := h5 H hi.heap
  have fin : ∀ {W₂ W' : Wd} {v : Value} {r : FV} {H' : Heap}, W₂.w = W₁.w → Evo W₁ W₂ (fun _ _ => False) → (∀ s, d ≠ .tmp s → FRep W₂ (some (.tmp s)) 0 (e'.get s) (a.tmps.getD s undef)) → (Builtin.append_ ts o.type #[a.eval x, a.eval y]).run C.P W₂.w = .ok v W'.w → FRep W' (some d) 0 r v → HInv C H' W' → Evo W₂ W' (fun q _ => ∀ i, q ≠ .box i) → K (e'.put o.dst r) H' → o.wp C.P a W.w (After C nt W K) Q := by
    intro W₂ W' v r H' e1 e2 e3 e4 e5 e6 e7 e8
    refine wp_of (s := Builtin.append_ ts o.type #[a.eval x, a.eval y]) (W' := W') (v := v) ?_ (by rw [← h1, ← e1]; exact e4) ⟨e6, fun s => ?_, by rw [put_size]; exact hi.size, by rw [put_defers]; exact hi.defers⟩ ((((h2.weaken (k' := fun _ _ => False) (by simp)).trans e2).trans (e7.weaken (k' := fun _ _ => False) (by simp))).weaken (by simp)) e8
    · obtain ⟨dst, op, ty, pos, after, guard⟩ := o
      simp only at ho
      subst ho
      have : args = #[x, y] := by rw [← Array.toList_inj]; simpa using hargs
      subst this
      simp only [execOp, resolve, invoke, builtin, pure_bind, List.map_toArray, List.map_cons, List.map_nil]
    · rw [tmps_put hd hi.size, get_put]
      split
      · rename_i hdt
        rw [hd3 s hdt] at e5
        exact e5
      · rename_i hdt
        have hds : d ≠ .tmp s := fun h => hdt (hd4 s h)
        exact (e3 s hds).mono e7 (fun q j hq => by cases hq; simp)
  unfold MoveQ at hm
  split at hm
  rotate_left
  · exact hm.elim
  rename_i b₂ g₂ z₂ n₂
  split at hm
  rotate_left
  · exact hm.elim
  rename_i g₂' c hb2
  obtain ⟨rfl, rfl, hcl, hn0, hrw, hm⟩ := hm
  have hu1 := (hu.demote (r' := none) (i' := 0)).mono h2 (by simp)
  split at hm
  · rename_i l hf
    obtain ⟨rfl, hle, hK⟩ := hm
    have hH2 := hH1.moveL hb2 H.length 0
    have hE := Evo.moveL W₁ b₂ H.length 0
    have hs := src_moved (P := C.P) hH1 hb2 H.length 0 hu1 hcl
    rw [hf] at h3'
    have hlen : (H.set b₂ [.row g₂' []]).length = H.length := by simp
    have hs : Src C.P (W₁.moveL b₂ H.length 0) (m + 1) (H.set b₂ [.row g₂' []]).length 0 c n₂ (a.eval y) := by rw [hlen]; exact hs
    obtain ⟨W', v, g1, g2, g3, g4⟩ := grow_rowS (tyId := o.type) rfl hH2 (h3'.mono hE (fun q j hq => by cases hq; exact fun i => hd2 _ _)) hs hn0 ht0 ht1 hud hni hel hsz hz hzs hbs hb0 hb1 hle
    rw [hlen] at g2
    exact fin (W₂ := W₁.moveL b₂ H.length 0) rfl (hE.weaken (by simp)) (fun s hs => (h4 s hs).mono hE (fun q j hq => by cases hq; simp)) g1 g2 g3 (g4.weaken (by simp)) hK
  · rename_i b gb zb n hf
    split at hm
    rotate_left
    · exact hm.elim
    rename_i g' l hb
    obtain ⟨rfl, rfl, hne, hnl, hle, hK⟩ := hm
    have hH2 := hH1.moveL hb2 b (n * (m + 1))
    have hE := Evo.moveL W₁ b₂ b (n * (m + 1))
    have hs := src_moved (P := C.P) hH1 hb2 b (n * (m + 1)) hu1 hcl
    rw [hf] at h3'
    have hb' : rowOf (H.set b₂ [.row g₂' []]) b = some (g', l) := by
      unfold rowOf at hb ⊢
      rw [List.getD_eq_getElem?_getD, List.getElem?_set_ne (fun h => hne h.symm), ← List.getD_eq_getElem?_getD]
      exact hb
    obtain ⟨W', v, g1, g2, g3, g4⟩ := grow_in (tyId := o.type) rfl hH2 hb' (h3'.mono hE (fun q j hq => by cases hq; exact fun i => hd2 _ _)) hnl hs ht0 ht1 hud hni hel hsz hz hzs hbs hb0 hb1 hle
    exact fin (W₂ := W₁.moveL b₂ b (n * (m + 1))) rfl (hE.weaken (by simp)) (fun s hs => (h4 s hs).mono hE (fun q j hq => by cases hq; simp)) g1 (g2.weaken rfl) g3 g4 hK
  · exact hm.elim
def Wd.putL (W : Wd) (t b : Nat) : Wd := { W with o := fun x => match W.o x with
  | some (.tmp s, k) => if s = t then some (.leaf b k, 0) else some (.tmp s, k)
  | q => q }
theorem putL_tmp {t b x k : Nat} (h : W.o x = some (.tmp t, k)) : (W.putL t b).o x = some (.leaf b k, 0) := by simp [Wd.putL, h]
theorem putL_else {t b x k : Nat} {q : Root} (h : W.o x = some (q, k)) (hq : q ≠ .tmp t) : (W.putL t b).o x = some (q, k) := by
  simp only [Wd.putL, h]
  cases q with
  | tmp s =>
    simp only
    rw [if_neg (fun hi => hq (by rw [hi]))]
  | _ => rfl
theorem putL_none {t b x : Nat} (h : W.o x = none) : (W.putL t b).o x = none := by simp [Wd.putL, h]
theorem putL_box {t b x i k : Nat} (h : (W.putL t b).o x = some (.box i, k)) : W.o x = some (.box i, k) := by
  simp only [Wd.putL] at h
  split at h
  · split at h <;> simp at h
  · exact h
theorem Evo.putL (W : Wd) (t b : Nat) : Evo W (W.putL t b) (fun q _ => q ≠ .tmp t) :=
  Evo.of rfl rfl rfl (Nat.le_refl _) (fun _ _ _ => rfl) (fun _ => Nat.le_refl _) (fun _ c _ _ h => ⟨c, h, rfl⟩) (fun _ _ _ h hk => ⟨putL_else h hk, rfl⟩) (fun _ _ h h' => ⟨h', putL_else h (by simp)⟩) (fun _ => ⟨Nat.le_refl _, fun _ h => ⟨rfl, putL_else h (by simp)⟩⟩) (fun _ _ h => ⟨rfl, rfl, putL_none h⟩)
theorem give_cells (hi : Inv C nt e H a W) {x : Operand} {f : FV} {e' : Env} {l : List FV} (hg : give C e x = some (f, e')) (hl : rowCells f = some l) (hleaf : l.all FV.isLeaf = true) (b : Nat) :
    ∃ W', W'.w = W.w ∧ Evo W W' (fun q _ => ∀ t, q ≠ .tmp t) ∧ (a.eval x).cells.size = l.length ∧ (∀ (j : Nat) (g : FV) (u : Value), (l.map FV.home)[j]? = some g → (a.eval x).cells[j]? = some u → g.isLeaf = true ∧ FRep W' (some (.leaf b j)) 0 g u) ∧
      (∀ t, FRep W' (some (.tmp t)) 0 (e'.get t) (a.tmps.getD t undef)) ∧ (∀ H', HInv C H' W → HInv C H' W') := by
  by_cases ho : ∃ m, f = .oagg m
  · obtain ⟨m, rfl⟩ := ho
    simp only [rowCells, Option.some.injEq] at hl
    subst hl
    cases x with
    | tmp t =>
      simp only [give, Option.some.injEq, Prod.mk.injEq] at hg
      obtain ⟨hget, rfl⟩ := hg
      have hE := Evo.putL W t b
      have hr := hi.env t
      rw [hget] at hr
      have hev : a.eval (.tmp t) = a.tmps.getD t undef := rfl
      rw [hev]
      generalize hv : a.tmps.getD t undef = v at hr
      cases hr with
      | @oagg _ _ _ cs h1 h2 =>
        refine ⟨W.putL t b, rfl, hE.weaken (fun q i hq => hq t), h1, fun j g u hj hu => ?_, fun s => ?_, fun H' hH => ?_⟩
        · rw [List.getElem?_map, Option.map_eq_some_iff] at hj
          obtain ⟨g', hg', rfl⟩ := hj
          have q1 := List.all_eq_true.1 hleaf g' (List.mem_of_getElem? hg')
          refine ⟨FV.home_leaf q1, ((h2 j g' u hg' hu).shift (r' := .leaf b j) (i' := 0) hE.cell hE.lim hE.shape (fun y hy => ⟨putL_tmp (by rw [Nat.zero_add] at hy; exact hy), rfl⟩) hE.beta hE.row (leaf_notTup q1)).home⟩
        · simp only [Env.get]
          split
          · rename_i hts; subst hts
            rw [hv, hget]
            exact (((FRep.oagg (r := some (.tmp t)) (i := 0) h1 h2).demote (r' := none) (i' := 0)).mono hE (by simp)).weaken rfl
          · rename_i hts
            exact (hi.env s).mono hE (fun q j hq => by cases hq; simp; omega)
        · exact hH.evo hE.toEvo0 (by simp) rfl rfl rfl (fun y hy => putL_none (hH.fresh y hy).2) (fun y i k hy => hH.boxes y i k (putL_box hy)) (fun y hy => putL_none hy)
    | const v =>
      simp only [give, Option.map_eq_some_iff] at hg
      obtain ⟨g, hg, hh⟩ := hg
      simp only [Prod.mk.injEq] at hh
      obtain ⟨rfl, rfl⟩ := hh
      simp only [rd] at hg
      unfold FV.ofValue at hg
      split at hg <;> simp at hg
    | func v =>
      simp [give, rd] at hg
    | global v =>
      simp only [give, Option.map_eq_some_iff] at hg
      obtain ⟨g, hg, hh⟩ := hg
      simp only [Prod.mk.injEq] at hh
      obtain ⟨rfl, rfl⟩ := hh
      simp [rd] at hg
  · have hl' : f.cells = some l := by
      unfold rowCells at hl
      split at hl
      · exact absurd ⟨_, rfl⟩ ho
      · exact hl
    obtain ⟨W₁, h1, h1l, h1b, h2, h3, h4, h5⟩ := give_sound hi hg (r := .leaf b 0) (by simp)
    obtain ⟨h6, h7⟩ := given_cells h3 hl' (fun m hm => by subst hm; simp [FV.cells] at hl'; subst hl'; exact hleaf)
    exact ⟨W₁, h1, h2, h6, fun j g u hj hu => by simpa using h7 j g u hj hu, fun s => h4 s (by simp), h5⟩
theorem step_buildRow (hi : Inv C nt e H a W) {dst : Option Tmp} (hd : dstOk nt dst) {t el : TypeId} {m : Nat} {parts : Array (Nat × Operand)} {x : Operand} {z : Value} {f : FV} {e' : Env} {l : List FV}
    (hu : C.P.underlying t = some (.slice el)) (hsz : szOf C.P el = some (m + 1)) (hz : zeroOf C.P el = some z) (hzs : z.cells.size = m + 1) (hps : parts.toList = [(0, x)]) (hle : m + 1 ≤ 16777216) (hg : give C e x = some (f, e')) (hl : rowCells f = some l) (hleaf : l.all FV.isLeaf = true) (hln : l.length = m + 1) :
    ∃ W' v, (Instr.buildSlice t 1 (parts.map fun (i, x) => (i, a.eval x))).run C.P W.w = .ok v W'.w ∧ Inv C nt (e'.put dst (.gr H.length 0 (m + 1) 1)) (H ++ [[.row 0 (l.map FV.home)]]) (a.put dst v) W' ∧ Evo W W' (fun _ _ => False) := by
  obtain ⟨W₁, h1, h2, h6, h7, h4, h5⟩ := give_cells hi hg hl hleaf H.length
  have hH := h5 H hi.heap
  obtain ⟨W', hw, hH', hE, hβ, ho, hgn⟩ := hH.newRow (a.eval x).cells el (l.map FV.home) (Nat.le_of_eq (by simpa using h6.symm)) h7
  have hcs : (a.eval x).cells.size = m + 1 := by rw [h6, hln]
  refine ⟨W', .slice (some ⟨W.w.heap.size, 0, none⟩) 1 1, ?_, ⟨hH', fun s => ?_, by rw [put_size]; exact hi.size, by rw [put_defers]; exact hi.defers⟩, ((h2.weaken (k' := fun _ _ => False) (by simp)).trans (hE.weaken (k' := fun _ _ => False) (by simp))).weaken (by simp)⟩
  · have hpa : (parts.map fun (i, x) => (i, a.eval x)) = #[(0, a.eval x)] := by
      rw [← Array.toList_inj, Array.toList_map, hps]; rfl
    rw [hpa]
    unfold Instr.buildSlice
    simp only [Sem.run_bind, run_underlying' hu, Result.andThen_ok, run_sizeOf' hsz]
    rw [if_neg (by omega)]
    have h0 : ¬ (1 * (m + 1) = 0) := by omega
    simp only [h0, if_false]
    simp only [Sem.run_bind, run_zeroValue' hz, Sem.run_pure, Result.andThen_ok]
    have hfill : ∀ cs : Array Value, cs.size = m + 1 → Instr.fill (fun i => some (i * (m + 1), m + 1)) cs [(0, a.eval x)] = some (a.eval x).cells := fun cs hs => by
      unfold Instr.fill
      simp only [Nat.zero_mul, Nat.zero_add, hcs, hs, ne_eq, not_true_eq_false, decide_false, gt_iff_lt, Nat.lt_irrefl, Bool.or_self, Bool.false_eq_true, if_false]
      unfold Instr.fill
      congr 1
      rw [← Array.toList_inj]
      have := foldl_fill 0 (a.eval x).cells.toList 0 cs (by simp; omega)
      simp only [Nat.zero_add, List.take_zero, List.nil_append, Array.length_toList, hcs] at this
      rw [← Array.foldl_toList, Array.toList_zipIdx]
      rw [this, List.drop_of_length_le (by simp; omega), List.append_nil]
    rw [hfill _ (by simp)]
    simp only [Sem.run_bind, newRow, run_newObj, Result.andThen_ok, Sem.run_pure, hw, h1]
    rfl
  · rw [tmps_put hd hi.size, get_put]
    split
    · have := FRep.gr (W := W') (r := some (.tmp s)) (i := 0) (b := H.length) (g := 0) (z := m + 1) (n := 1) (cap := 1) (A := ⟨W'.β H.length, 0, none⟩) (Nat.zero_le _) (Nat.le_refl _) fun _ => ⟨rfl, by rw [hβ]; exact ho, _, _, _, by rw [hβ, hw]; exact heap_alloc_new, by rw [hcs]; omega⟩
      rw [hβ, h1] at this; exact this
    · exact (h4 s).mono hE (by simp)
def Wd.takeL (W : Wd) (b off n d : Nat) : Wd := { W with o := fun x => match W.o x with
  | some (.leaf i j, k) => if i = b ∧ off ≤ j ∧ j < off + n ∧ k = 0 then some (.tmp d, j - off) else some (.leaf i j, k)
  | q => q }
theorem takeL_leaf {b off n d x j : Nat} (h : W.o x = some (.leaf b (off + j), 0)) (hj : j < n) : (W.takeL b off n d).o x = some (.tmp d, j) := by
  simp only [Wd.takeL, h]
  rw [if_pos ⟨trivial, by omega, by omega, trivial⟩]
  simp
theorem takeL_else {b off n d x k : Nat} {q : Root} (h : W.o x = some (q, k)) (hq : ∀ j, off ≤ j → j < off + n → q ≠ .leaf b j) : (W.takeL b off n d).o x = some (q, k) := by
  simp only [Wd.takeL, h]
  cases q with
  | leaf i j =>
    simp only
    rw [if_neg (fun hi => hq j hi.2.1 hi.2.2.1 (by rw [hi.1]))]
  | _ => rfl
theorem takeL_none {b off n d x : Nat} (h : W.o x = none) : (W.takeL b off n d).o x = none := by simp [Wd.takeL, h]
theorem takeL_box {b off n d x i k : Nat} (h : (W.takeL b off n d).o x = some (.box i, k)) : W.o x = some (.box i, k) := by
  simp only [Wd.takeL] at h
  split at h
  · split at h <;> simp at h
  · exact h
theorem Evo.takeL (W : Wd) (b off n d : Nat) : Evo W (W.takeL b off n d) (fun q _ => ∀ j, off ≤ j → j < off + n → q ≠ .leaf b j) :=
  Evo.of rfl rfl rfl (Nat.le_refl _) (fun _ _ _ => rfl) (fun _ => Nat.le_refl _) (fun _ c _ _ h => ⟨c, h, rfl⟩) (fun _ _ _ h hk => ⟨takeL_else h hk, rfl⟩) (fun _ _ h h' => ⟨h', takeL_else h (by simp)⟩) (fun _ => ⟨Nat.le_refl _, fun _ h => ⟨rfl, takeL_else h (by simp)⟩⟩) (fun _ _ h => ⟨rfl, rfl, takeL_none h⟩)
theorem splice_demote_get {fs : List FV} {off n : Nat} (h : off + n ≤ fs.length) (i : Nat) : (splice fs off (((fs.drop off).take n).map demote))[i]? = if off ≤ i ∧ i < off + n then (fs[i]?).map demote else fs[i]? := by
  have hml : ((fs.drop off).take n).length = n := by simp; omega
  rw [splice_get (by simp; omega), List.length_map, hml]
  split
  · rename_i hi
    rw [List.getElem?_map, List.getElem?_take_of_lt (by omega), List.getElem?_drop, show off + (i - off) = i by omega]
  · rfl
theorem step_loadmvAgg (hi : Inv C nt e H a W) {d : Nat} (hd : d < nt) {t : TypeId} {x : Operand} {b off n : Nat}
    (hx : rd C e x = some (.ptr b off)) (ha : aggOf C.P t = some true) (hn : szOf C.P t = some n) (hle : off + n ≤ (H.getD b []).length) :
    ∃ W' v, W'.w = W.w ∧ (Instr.loadAt t (a.eval x)).run C.P W.w = .ok v W.w ∧ Inv C nt (e.put (some d) (.oagg (((H.getD b []).drop off).take n))) (H.set b (splice (H.getD b []) off ((((H.getD b []).drop off).take n).map demote))) (a.put (some d) v) W' ∧ Evo W W' (fun _ _ => False) := by
  obtain ⟨_, _, hrx⟩ := rd_sound hi hx
  have hbo := box_alive hrx
  have hxv := box_get hrx
  have hlt := hi.heap.boxes _ _ _ hbo
  rw [heap_get hlt] at hle ⊢
  obtain ⟨k0, k1, k2, c, T, fz, k3, k4, k5, k6⟩ := hi.heap.box0 (List.getElem?_eq_getElem hlt) hbo
  have hE := Evo.takeL W b off n d
  have hml : ((H[b].drop off).take n).length = n := by simp; omega
  have hmg : ∀ j, j < n → ((H[b].drop off).take n)[j]? = H[b][off + j]? := fun j hj => by rw [List.getElem?_take_of_lt hj, List.getElem?_drop]
  have hin : ∀ (i : Nat) (g : FV), H[b][i]? = some g → g.isLeaf = true := fun i g hg => by
    have hlt' := (List.getElem?_eq_some_iff.1 hg).1
    exact (k6 i g c[i] hg (by simp [show i < c.size by omega])).1
  have hsl : off + (((H[b].drop off).take n).map demote).length ≤ H[b].length := by simp; omega
  have hsg : ∀ i, (splice H[b] off (((H[b].drop off).take n).map demote))[i]? = if off ≤ i ∧ i < off + n then (H[b][i]?).map demote else H[b][i]? := fun i => splice_demote_get hle i
  have hlf : ∀ (i : Nat) (g : FV), (splice H[b] off (((H[b].drop off).take n).map demote))[i]? = some g → g.isLeaf = true := fun i g hg => by
    rw [hsg] at hg
    split at hg
    · rw [Option.map_eq_some_iff] at hg
      obtain ⟨g', hg', rfl⟩ := hg
      exact demote_leaf (hin _ _ hg')
    · exact hin _ _ hg
  obtain ⟨q0, q1, q2⟩ := kind_leaf hlf
  have hcell : ∀ j, j < n → W.w.cell? ⟨W.β b, off + j, none⟩ = some (c[off + j]?.getD default) := fun j hj => by
    rw [cell_of_heap k3]
    simp [show off + j < c.size by omega]
  refine ⟨W.takeL b off n d, .agg ((List.range n).map fun j => c[off + j]?.getD default).toArray, rfl, ?_, ⟨⟨?_, ?_, ?_, ?_, fun b' hb' => hi.heap.gen0 b' (by simpa using hb'), hi.heap.kept.evo hE⟩, fun s => ?_, by rw [put_size]; exact hi.size, by rw [put_defers]; exact hi.defers⟩, hE.weaken (by simp)⟩
  · rw [hxv]
    have := run_loadCells' (P := C.P) (w := W.w) (A := ⟨W.β b, off, none⟩) (fun j => c[off + j]?.getD default) (n := n) (fun j hj => by
      rw [Addr.add_none rfl]; exact hcell j hj)
    simp [Instr.loadAt, Instr.sureAddr, loadVar, run_isAgg' ha, run_sizeOf' hn, this]
  · intro b' gs hgs
    by_cases hbb : b' = b
    · subst hbb
      rw [List.getElem?_set_self hlt] at hgs
      simp only [Option.some.injEq] at hgs
      subst hgs
      refine ⟨⟨by rw [q0]; exact takeL_else hbo (by simp), q2 _ _⟩, k2, c, T, fz, k3, by rw [q1, splice_length hsl]; exact k4, k5, fun i g v hg hv => ?_⟩
      rw [q1, hsg] at hg
      split at hg
      · rw [Option.map_eq_some_iff] at hg
        obtain ⟨g', hg', rfl⟩ := hg
        obtain ⟨m1, m2⟩ := k6 i g' v hg' hv
        exact ⟨demote_leaf m1, ((m2.demote (r' := none) (i' := 0)).mono hE (by simp)).weaken rfl⟩
      · rename_i hio
        obtain ⟨m1, m2⟩ := k6 i g v hg hv
        exact ⟨m1, m2.mono hE (fun q j hq => by cases hq; intro j h1 h2 h3; cases h3; exact hio ⟨h1, h2⟩)⟩
    · rw [List.getElem?_set_ne (fun h => hbb h.symm)] at hgs
      obtain ⟨m1, m2, c₂, T₂, fz₂, m3, m4, m5, m6⟩ := hi.heap.box b' gs hgs
      exact ⟨(m1.mono hE.toEvo0 rfl).1, m2, c₂, T₂, fz₂, m3, m4, m5, fun i g v hg hv => ⟨(m6 i g v hg hv).1, (m6 i g v hg hv).2.mono hE (fun q j hq => by cases hq; intro j h1 h2 h3; cases h3; exact hbb rfl)⟩⟩
  · intro g ls hls j q' hq'
    exact hi.heap.laid g ls hls j q' hq'
  · intro b' hb'
    obtain ⟨m1, m2⟩ := hi.heap.fresh b' hb'
    exact ⟨m1, takeL_none m2⟩
  · intro b' i k hb'
    rw [List.length_set]
    exact hi.heap.boxes b' i k (takeL_box hb')
  · rw [tmps_put (dst := some d) hd hi.size, get_put]
    split
    · rename_i hdt; simp only [Option.some.injEq] at hdt; subst hdt
      refine .oagg (by simp; omega) fun j f v hf hv => ?_
      have hj : j < n := by have := (List.getElem?_eq_some_iff.1 hf).1; omega
      rw [hmg j hj] at hf
      have hv' : v = c[off + j]'(by have := (List.getElem?_eq_some_iff.1 hf).1; omega) := by
        simp only [List.getElem?_toArray, List.getElem?_map, List.getElem?_range hj, Option.map_some, Option.some.injEq] at hv
        rw [← hv]
        have : off + j < c.size := by omega
        simp [this]
      subst hv'
      obtain ⟨m1, m2⟩ := k6 (off + j) f _ hf (Array.getElem?_eq_getElem _)
      exact m2.shift (r' := .tmp d) (i' := 0 + j) hE.cell hE.lim hE.shape (fun y hy => ⟨by rw [Nat.zero_add]; exact takeL_leaf hy hj, rfl⟩) hE.beta hE.row (leaf_notTup m1)
    · exact (hi.env s).mono hE (fun q j hq => by cases hq; simp)
end
end Go.Proofs.YtkbknlcdinkokaaDoor.Ev
end
section
namespace Go.Proofs.YtkbknlcdinkokaaDoor.Ev
open Go
section
variable {C : Ctx} {nt : Nat} {mv : List Nat} {e : Env} {H : Heap} {a : Act} {W : Wd} {K : Env → Heap → Prop} {Q : Exit → Act → World → Prop}
set_option maxHeartbeats 4000000 in
theorem wpOp_sound (hi : Inv C nt e H a W) {o : Oper} (h : wpOp C nt mv (Call C) o e H K) : o.wp C.P a W.w (After C nt W K) Q := by
  have hval : ∀ {op : Op}, o.op = op → dstOk nt o.dst → ∀ {f : FV}, valOp C e H op = some f → K (e.put o.dst f) H → o.wp C.P a W.w (After C nt W K) Q := fun ho hd f hf hK =>
    wp_val hi hd (valOp_sound hi (by rw [ho]; exact hf)) hK
  unfold wpOp at h
  obtain ⟨hd, h⟩ := h
  split at h
  · -- assign
    rename_i x ho
    split at h
    · rename_i f e' hg
      exact wp_give hi hd (x := x) (by obtain ⟨dst, op, ty, pos, after, guard⟩ := o; simp only at ho; subst ho; rfl) hg h
    · exact h.elim
  · -- move
    rename_i x ho
    split at h
    · split at h
      · rename_i f e' hg
        exact wp_give hi hd (x := x) (by obtain ⟨dst, op, ty, pos, after, guard⟩ := o; simp only at ho; subst ho; rfl) hg h
      · exact h.elim
    · split at h
      · rename_i f hf
        exact hval ho hd hf h
      · exact h.elim
  · -- extract
    rename_i x i ho
    split at h
    · rename_i hmv
      split at h
      · rename_i t l hx
        split at h
        · rename_i f hf
          cases hod : o.dst with
          | none => rw [hod] at hmv; simp [mvOf] at hmv
          | some d =>
            rw [hod] at hd h
            have hget : e.get t = .tup l := by simpa [rd] using hx
            obtain ⟨W', v, h1, h2, h3, h4⟩ := step_extractmv hi hd hget hf
            rw [← hod] at h3 h
            refine wp_of (s := Instr.extract (a.eval (.tmp t)) i) (W' := W') (v := v) ?_ (by rw [h2, h1]) h3 h4 h
            obtain ⟨dst, op, ty, pos, after, guard⟩ := o; simp only at ho; subst ho; rfl
        · exact h.elim
      · exact h.elim
    · split at h
      · rename_i f hf
        exact hval ho hd hf h
      · exact h.elim
  · -- load
    rename_i t x ho
    split at h
    · rename_i hmv
      split at h
      · rename_i b off hx ha
        split at h
        · rename_i f hf
          cases hod : o.dst with
          | none => rw [hod] at hmv; simp [mvOf] at hmv
          | some d =>
            rw [hod] at hd h
            obtain ⟨W', v, h1, h2, h3, h4⟩ := step_loadmv hi hd hx ha hf
            rw [← hod] at h3 h
            refine wp_of (s := Instr.loadAt t (a.eval x)) (W' := W') (v := v) ?_ (by rw [h2, h1]) h3 h4 h
            obtain ⟨dst, op, ty, pos, after, guard⟩ := o; simp only at ho; subst ho; rfl
        · exact h.elim
      · rename_i b off hx ha
        split at h
        · rename_i n hn
          obtain ⟨hle, h⟩ := h
          cases hod : o.dst with
          | none => rw [hod] at hmv; simp [mvOf] at hmv
          | some d =>
            rw [hod] at hd h
            obtain ⟨W', v, h1, h2, h3, h4⟩ := step_loadmvAgg hi hd hx ha hn hle
            rw [← hod] at h3 h
            refine wp_of (s := Instr.loadAt t (a.eval x)) (W' := W') (v := v) ?_ (by rw [h2, h1]) h3 h4 h
            obtain ⟨dst, op, ty, pos, after, guard⟩ := o; simp only at ho; subst ho; rfl
        · exact h.elim
      · rename_i b g off hx ha
        split at h
        · rename_i g' l hb
          obtain ⟨hgg, h⟩ := h
          subst hgg
          split at h
          · rename_i f hf
            cases hod : o.dst with
            | none => rw [hod] at hmv; simp [mvOf] at hmv
            | some d =>
              rw [hod] at hd h
              obtain ⟨W', v, h1, h2, h3, h4⟩ := step_loadmvRow hi hd hx hb ha hf
              rw [← hod] at h3 h
              refine wp_of (s := Instr.loadAt t (a.eval x)) (W' := W') (v := v) ?_ (by rw [h2, h1]) h3 h4 h
              obtain ⟨dst, op, ty, pos, after, guard⟩ := o; simp only at ho; subst ho; rfl
          · exact h.elim
        · exact h.elim
      · exact h.elim
    · split at h
      · rename_i f hf
        exact hval ho hd hf h
      · exact h.elim
  · -- alloc
    rename_i t ho
    split at h
    · rename_i z hz
      split at h
      · rename_i l hl
        obtain ⟨W', v, h1, h2, h3⟩ := step_alloc hi hd hz hl
        refine wp_of (s := Instr.alloc t true (.tuple #[])) (W' := W') (v := v) ?_ h1 h2 h3 h
        obtain ⟨dst, op, ty, pos, after, guard⟩ := o; simp only at ho; subst ho; rfl
      · exact h.elim
    · exact h.elim
  · -- box
    rename_i t x ho
    split at h
    · rename_i f e' hg
      split at h
      · rename_i l hl
        obtain ⟨hlf, h⟩ := h
        obtain ⟨W', v, h1, h2, h3⟩ := step_box (t := t) hi hd hg hl (fun m hm => by subst hm; simp [FV.cells] at hl; subst hl; exact hlf)
        refine wp_of (s := Instr.box t (a.eval x)) (W' := W') (v := v) ?_ h1 h2 h3 h
        obtain ⟨dst, op, ty, pos, after, guard⟩ := o; simp only at ho; subst ho; rfl
      · exact h.elim
    · exact h.elim
  · -- store
    rename_i t x y ho
    split at h
    · rename_i b off f e' n hx hg hn
      split at h
      · rename_i l hl
        obtain ⟨hlf, hln, hle, h⟩ := h
        obtain ⟨W', h1, h2, h3⟩ := step_store hi hd hx hg hn hl hlf hln hle
        refine wp_skip' (w' := W'.w) ?_ ⟨_, _, W', rfl, h, h2, h3⟩
        obtain ⟨dst, op, ty, pos, after, guard⟩ := o; simp only at ho; subst ho
        simp [execOp, h1]
      · exact h.elim
    · rename_i b g off f e' n hx hg hn
      split at h
      · rename_i l g' c hl hb
        obtain ⟨hgg, hlf, hln, hle, h⟩ := h
        subst hgg
        obtain ⟨W', h1, h2, h3⟩ := step_storeRow hi hd hx hb hg hn hl hlf hln hle
        refine wp_skip' (w' := W'.w) ?_ ⟨_, _, W', rfl, h, h2, h3⟩
        obtain ⟨dst, op, ty, pos, after, guard⟩ := o; simp only at ho; subst ho
        simp [execOp, h1]
      · exact h.elim
    · exact h.elim
  · -- buildSlice
    rename_i t n parts ho
    split at h
    · split at h
      · rename_i el x hu hps
        split at h
        · rename_i m z f e' hsz hz hg
          split at h
          · rename_i l hl
            obtain ⟨rfl, hle, hzs, hleaf, hln, h⟩ := h
            obtain ⟨W', v, h1, h2, h3⟩ := step_buildRow hi hd hu hsz hz hzs hps hle hg hl hleaf hln
            refine wp_of (s := Instr.buildSlice t 1 (parts.map fun (i, x) => (i, a.eval x))) (W' := W') (v := v) ?_ h1 h2 h3 h
            obtain ⟨dst, op, ty, pos, after, guard⟩ := o; simp only at ho; subst ho; rfl
          · exact h.elim
        · exact h.elim
      · exact h.elim
    split at h
    · rename_i el hu
      split at h
      · rename_i m z ps hsz hz hps
        obtain ⟨hn, hidx, hle, hzs, h⟩ := h
        split at h
        · rename_i l hl
          obtain ⟨hs, h⟩ := h
          obtain ⟨W', v, h1, h2, h3⟩ := step_buildSlice hi hd hu hsz hz hps hn hidx hle hl hs
          refine wp_of (s := Instr.buildSlice t n (parts.map fun (i, x) => (i, a.eval x))) (W' := W') (v := v) ?_ h1 h2 h3 h
          obtain ⟨dst, op, ty, pos, after, guard⟩ := o; simp only at ho; subst ho; rfl
        · exact h.elim
      · exact h.elim
    · exact h.elim
  · -- a row against nil
    rename_i op t x y yt ho
    split at h
    rotate_left
    · split at h
      · rename_i f hf
        exact hval ho hd hf h
      · exact h.elim
    rename_i hny
    obtain ⟨rfl⟩ : y = .const (.slice none 0 0) := by
      unfold nilRow at hny
      split at hny
      · simp only [Bool.and_eq_true, beq_iff_eq] at hny; rw [hny.1, hny.2]
      · simp at hny
    have key : ∀ {sg : Bool} {el : TypeId} {f : FV} {l : List PV}, (op = .eql ∧ sg = false ∨ op = .neq ∧ sg = true) → C.P.underlying t = some (.slice el) → rd C e x = some f → f.asList = some l →
        (l ≠ [] → K (e.put o.dst (.sc (.bool sg))) H) → (l = [] → ∀ b, K (e.put o.dst (.sc (.bool b))) H) → o.wp C.P a W.w (After C nt W K) Q := by
      intro sg el f l hop hu hx hl h1 h2
      obtain ⟨_, _, hr⟩ := rd_sound hi hx
      obtain ⟨A, len, cap, hv, hrep⟩ := hr.list hl
      have hrun : ∃ b, (do eqGuard op t x (.const (.slice none 0 0)) (a.eval x) (.slice none 0 0); binOp op t (a.eval x) (.slice none 0 0) : Sem Value).run C.P W.w = .ok (.bool b) W.w ∧ (l ≠ [] → b = sg) := by
        rw [hv]
        simp only [Sem.run_bind, run_eqGuard_plain (v := .slice A len cap) rfl (by simp), Result.andThen_ok]
        have heq : (Op.equal t (.slice A len cap) (.slice none 0 0)).run C.P W.w = .ok A.isNone W.w := by
          show (Op.equalIn (9999 + 1) t _ _).run C.P W.w = _
          cases A <;> (unfold Op.equalIn; simp only [Sem.run_bind, run_underlying' hu, Result.andThen_ok]; rfl)
        have hne : l ≠ [] → A.isNone = false := fun hl' => by
          rw [hv] at hrep
          cases hrep with
          | nil => exact absurd rfl hl'
          | sl => rfl
        rcases hop with ⟨rfl, rfl⟩ | ⟨rfl, rfl⟩
        · exact ⟨A.isNone, by simp [binOp, heq], hne⟩
        · exact ⟨!A.isNone, by simp [binOp, heq], fun h => by rw [hne h]; rfl⟩
      obtain ⟨b, hb, hbl⟩ := hrun
      refine wp_of (s := do eqGuard op t x (.const (.slice none 0 0)) (a.eval x) (.slice none 0 0); binOp op t (a.eval x) (.slice none 0 0)) (W' := W) (v := .bool b) ?_ hb (hi.val hd .mkBool) (Evo.refl _ _) ?_
      · obtain ⟨dst, op', ty, pos, after, guard⟩ := o; simp only at ho; subst ho; simp only [execOp, Act.eval]
      · by_cases hl' : l = []
        · exact h2 hl' b
        · rw [hbl hl']; exact h1 hl'
    have keyB : ∀ {sg : Bool} {el : TypeId} {b off n : Nat}, (op = .eql ∧ sg = false ∨ op = .neq ∧ sg = true) → C.P.underlying t = some (.slice el) → rd C e x = some (.bs b off n) →
        K (e.put o.dst (.sc (.bool sg))) H → o.wp C.P a W.w (After C nt W K) Q := by
      intro sg el b off n hop hu hx h1
      obtain ⟨_, _, hr⟩ := rd_sound hi hx
      generalize hv : a.eval x = v at hr
      cases hr with
      | @bs _ _ _ _ _ cap hbo hcap =>
        have hrun : (do eqGuard op t x (.const (.slice none 0 0)) (a.eval x) (.slice none 0 0); binOp op t (a.eval x) (.slice none 0 0) : Sem Value).run C.P W.w = .ok (.bool sg) W.w := by
          rw [hv]
          simp only [Sem.run_bind, run_eqGuard_plain (v := .slice (some ⟨W.β b, off, none⟩) n cap) rfl (by simp), Result.andThen_ok]
          have heq : (Op.equal t (.slice (some ⟨W.β b, off, none⟩) n cap) (.slice none 0 0)).run C.P W.w = .ok false W.w := by
            show (Op.equalIn (9999 + 1) t _ _).run C.P W.w = _
            unfold Op.equalIn; simp only [Sem.run_bind, run_underlying' hu, Result.andThen_ok]; rfl
          rcases hop with ⟨rfl, rfl⟩ | ⟨rfl, rfl⟩ <;> simp [binOp, heq]
        refine wp_of (s := do eqGuard op t x (.const (.slice none 0 0)) (a.eval x) (.slice none 0 0); binOp op t (a.eval x) (.slice none 0 0)) (W' := W) (v := .bool sg) ?_ hrun (hi.val hd .mkBool) (Evo.refl _ _) h1
        obtain ⟨dst, op', ty, pos, after, guard⟩ := o; simp only at ho; subst ho; simp only [execOp, Act.eval]
    have keyG : ∀ {sg : Bool} {el : TypeId} {b gb zb n : Nat}, (op = .eql ∧ sg = false ∨ op = .neq ∧ sg = true) → C.P.underlying t = some (.slice el) → rd C e x = some (.gr b gb zb n) →
        K (e.put o.dst (.sc (.bool sg))) H → o.wp C.P a W.w (After C nt W K) Q := by
      intro sg el b gb zb n hop hu hx h1
      obtain ⟨_, _, hr⟩ := rd_sound hi hx
      generalize hv : a.eval x = v at hr
      cases hr with
      | @gr _ _ _ _ _ _ cap A hg hcap hal =>
        have hrun : (do eqGuard op t x (.const (.slice none 0 0)) (a.eval x) (.slice none 0 0); binOp op t (a.eval x) (.slice none 0 0) : Sem Value).run C.P W.w = .ok (.bool sg) W.w := by
          rw [hv]
          simp only [Sem.run_bind, run_eqGuard_plain (v := .slice (some A) n cap) rfl (by simp), Result.andThen_ok]
          have heq : (Op.equal t (.slice (some A) n cap) (.slice none 0 0)).run C.P W.w = .ok false W.w := by
            show (Op.equalIn (9999 + 1) t _ _).run C.P W.w = _
            unfold Op.equalIn; simp only [Sem.run_bind, run_underlying' hu, Result.andThen_ok]; rfl
          rcases hop with ⟨rfl, rfl⟩ | ⟨rfl, rfl⟩ <;> simp [binOp, heq]
        refine wp_of (s := do eqGuard op t x (.const (.slice none 0 0)) (a.eval x) (.slice none 0 0); binOp op t (a.eval x) (.slice none 0 0)) (W' := W) (v := .bool sg) ?_ hrun (hi.val hd .mkBool) (Evo.refl _ _) h1
        obtain ⟨dst, op', ty, pos, after, guard⟩ := o; simp only at ho; subst ho; simp only [execOp, Act.eval]
    split at h
    · rename_i el b off n hu hx
      exact keyB (.inl ⟨rfl, rfl⟩) hu hx h
    · rename_i el b off n hu hx
      exact keyB (.inr ⟨rfl, rfl⟩) hu hx h
    · rename_i el b gb zb n hu hx
      exact keyG (.inl ⟨rfl, rfl⟩) hu hx h
    · rename_i el b gb zb n hu hx
      exact keyG (.inr ⟨rfl, rfl⟩) hu hx h
    · rename_i el f _ _ hu hx
      split at h
      · rename_i l hl
        exact key (.inl ⟨rfl, rfl⟩) hu hx hl h.1 h.2
      · exact h.elim
    · rename_i el f _ _ hu hx
      split at h
      · rename_i l hl
        exact key (.inr ⟨rfl, rfl⟩) hu hx hl h.1 h.2
      · exact h.elim
    · exact h.elim
  · -- conversions
    rename_i s d x ho
    split at h
    · rename_i t ht
      exact wp_conv hi hd ho ht h
    · split at h
      · rename_i f hf
        exact hval ho hd hf h
      · exact h.elim
  · -- calls
    rename_i c ho
    obtain ⟨callee, args, ts⟩ := c
    simp only at h
    split at h
    · rename_i x
      split at h
      · rename_i f first cap l hx hl
        obtain ⟨r, H', hc, hK⟩ := h
        exact wp_call hi hd ho hx hl hc hK
      · exact h.elim
    · rename_i b
      split at h
      · rename_i hb
        obtain rfl : b = .append := by cases b <;> simp_all [isAppend]
        split at h
        · rename_i x y t u tr hargs hts
          split at h
          · rename_i el ud hel hud
            split at h
            · rename_i m z bs f e' g hsz hz hbs hg hy
              split at h
              · rename_i b gb zb n r hf hr
                obtain ⟨_, h⟩ := h
                split at h
                · rename_i g' l hb
                  obtain ⟨hgg, hzb, hnl, hni, hzs, hb0, hb1, hrs, hle, hK⟩ := h
                  subst hgg; subst hzb
                  exact wp_append_in hi hd ho hargs hts hel hud hsz hz hbs hg hy hf hr hb hnl hni hzs hb0 hb1 hrs hle hK
                · exact h.elim
              · rename_i l r hf hr
                split at h
                · obtain ⟨rfl, hr0, hni, hzs, hb0, hb1, hrs, hle, hK⟩ := h
                  exact wp_append_row hi hd ho hargs hts hel hud hsz hz hbs hg hy hf hr hr0 hni hzs hb0 hb1 hrs hle hK
                split at h
                · obtain ⟨rfl, hr0, hni, hzs, hb0, hb1, hrs, hle, hK⟩ := h
                  exact wp_append_box hi hd ho hargs hts hel hud hsz hz hbs hg hy hf hr hr0 hni hzs hb0 hb1 hrs hle hK
                obtain ⟨hni, hzs, hb0, hb1, hl, hrs, hle, hK⟩ := h
                exact wp_append hi hd ho hargs hts hel hud hsz hz hbs hg hy hf hr hni hzs hb0 hb1 hl hrs hle hK
              · obtain ⟨hni, hzs, hb0, hb1, hK⟩ := h
                exact wp_append_move hi hd ho hargs hts hel hud hsz hz hbs hg hy hni hzs hb0 hb1 hK
              · exact h.elim
            · exact h.elim
          · exact h.elim
        · exact h.elim
      · split at h
        · rename_i hb
          obtain rfl : b = .clear := by cases b <;> simp_all [isClear]
          split at h
          · rename_i x t tr hargs hts
            split at h
            · rename_i el b off n hel hx
              split at h
              · rename_i m z hsz hz
                obtain ⟨h1, h2, h3, hK⟩ := h
                exact wp_clear hi hd ho hargs hts hel hz h1 h2 hx h3 hK
              · exact h.elim
            · rename_i el hel hx
              exact wp_clear_nil hi hd ho hargs hts hel hx h
            · exact h.elim
          · exact h.elim
        · split at h
          · rename_i f hf
            exact hval ho hd hf h
          · exact h.elim
    · exact h.elim
  · rename_i op _ _ _ _ _ _ _ _ _ _
    split at h
    · rename_i f hf
      exact hval rfl hd hf h
    · exact h.elim
theorem wanted_sound (hi : Inv C nt e H a W) {ops : Array Oper} {o : Oper} {b : Bool} (h : wanted nt ops e o = some b) : Region.wanted o (yielded ops a.tmps) = b := by
  unfold wanted at h
  unfold Region.wanted
  split at h
  · rename_i hg
    simp only [Option.some.injEq] at h
    rw [hg]; simp [← h]
  · rename_i j want hg
    rw [hg]
    simp only
    split at h
    · rename_i d hd
      split at h
      · rename_i hlt0
        split at h
        · rename_i b' hb
          simp only [Option.some.injEq] at h
          have hv := (hi.env d)
          rw [hb] at hv
          have hv' := hv.bool
          have hlt : d < a.tmps.size := Nat.lt_of_lt_of_le hlt0 hi.size
          have : a.tmps[d]? = some (.bool b') := by
            simp only [Array.getD_eq_getD_getElem?, Array.getElem?_eq_getElem hlt, Option.getD_some] at hv'
            rw [Array.getElem?_eq_getElem hlt, hv']
          unfold yielded
          rw [hd]
          simp only [Option.bind_some, this]
          rw [← h]
          cases b' <;> cases want <;> rfl
        · rename_i hb
          simp only [Option.some.injEq] at h
          have hv := (hi.env d)
          rw [hb] at hv
          have hlt : d < a.tmps.size := Nat.lt_of_lt_of_le hlt0 hi.size
          have hv' : ∀ b', a.tmps[d]? ≠ some (.bool b') := fun b' hb' => by
            simp only [Array.getD_eq_getD_getElem?, hb', Option.getD_some] at hv
            cases hv
          rw [← h]
          unfold yielded
          rw [hd]
          simp only [Option.bind_some]
          first
            | rfl
            | (rw [Array.getElem?_eq_getElem hlt] at hv' ⊢
               cases hx : a.tmps[d] <;> first | rfl | (exact absurd (by rw [hx]) (hv' _)))
        · simp at h
      · simp at h
    · simp at h
end
end Go.Proofs.YtkbknlcdinkokaaDoor.Ev
end
section
namespace Go.Proofs.YtkbknlcdinkokaaDoor.Ev
open Go
section
variable {C : Ctx} {nt : Nat} {mv : List Nat}
theorem Inv.undef {e : Env} {H : Heap} {a : Act} {W : Wd} (hi : Inv C nt e H a W) (dst : Option Tmp) : Inv C nt (e.put dst (.tup [])) H (a.put dst Go.undef) W where
  heap := hi.heap
  env t := by
    rw [get_put]
    split
    · rename_i h
      have : (a.put dst Go.undef).tmps.getD t Go.undef = Go.undef := by
        subst h
        simp only [Act.put, Array.getD_eq_getD_getElem?]
        by_cases ht : t < a.tmps.size
        · rw [Array.getElem?_setIfInBounds_self_of_lt ht]; rfl
        · rw [Array.getElem?_eq_none (by simpa using ht)]; rfl
      rw [this]
      exact .tup rfl (fun j f v hf => by simp at hf)
    · rename_i h
      have : (a.put dst Go.undef).tmps.getD t Go.undef = a.tmps.getD t Go.undef := by
        cases dst with
        | none => rfl
        | some d =>
          have : d ≠ t := fun hh => h (by rw [hh])
          simp [Act.put, Array.getElem?_setIfInBounds_ne this]
      rw [this]; exact hi.env t
  size := by rw [put_size]; exact hi.size
  defers := by rw [put_defers]; exact hi.defers
theorem Evo.trans0 {A B D : Wd} (h : Evo A B (fun _ _ => False)) (h' : Evo B D (fun _ _ => False)) : Evo A D (fun _ _ => False) := (h.trans h').weaken (by simp)
theorem wpOps_sound {ops : Array Oper} {K : Env → Heap → Prop} {Q : Exit → Act → World → Prop} {W₀ : Wd} (hQ : ∀ e H a W, K e H → Inv C nt e H a W → Evo W₀ W (fun _ _ => False) → Q .normal a W.w) :
    ∀ (l : List Oper) (e : Env) (H : Heap) (a : Act) (W : Wd), Inv C nt e H a W → Evo W₀ W (fun _ _ => False) → wpOps C nt mv (Call C) ops l e H K → wpList C.P ops Q l a W.w
  | [], e, H, a, W, hi, hE, h => hQ e H a W h hi hE
  | o :: l, e, H, a, W, hi, hE, h => by
    unfold wpOps at h
    unfold wpList
    split at h
    · rename_i hw
      rw [if_pos (wanted_sound hi hw)]
      left
      have := wpOp_sound (Q := Q) hi h
      refine Oper.wp_mono (fun a' w' hA => ?_) this
      obtain ⟨e', H', W', rfl, hK, hi', hE'⟩ := hA
      exact wpOps_sound hQ l e' H' a' W' hi' (hE.trans0 hE') hK
    · rename_i hw
      rw [if_neg (by rw [wanted_sound hi hw]; simp)]
      exact wpOps_sound hQ l _ H _ W (hi.undef o.dst) hE h
    · exact h.elim
end
def CallP (C : Ctx) (f : FuncId) (args : List FV) (H : Heap) (r : FV) (H' : Heap) : Prop :=
  callable C.P f = true ∧ H' = H ∧ args.all FV.noPtr = true ∧ r.noPtr = true ∧ PCon C f args r
def CallD (C : Ctx) (ρ : FuncId → List FV → FV → Prop) (f : FuncId) (args : List FV) (H : Heap) (r : FV) (H' : Heap) : Prop := CallP C f args H r H' ∧ ρ f args r
theorem CallP.call {C : Ctx} {f : FuncId} {args : List FV} {H : Heap} {r : FV} {H' : Heap} (h : CallP C f args H r H') : Call C f args H r H' := ⟨h.1, .inl h.2⟩
end Go.Proofs.YtkbknlcdinkokaaDoor.Ev
end
section
namespace Go.Proofs.YtkbknlcdinkokaaDoor.Ev
open Go
def opTmps : Operand → List Nat
  | .tmp t => [t]
  | _ => []
def optTmps : Option Operand → List Nat
  | some x => opTmps x
  | none => []
def listTmps : List Operand → List Nat
  | [] => []
  | x :: l => opTmps x ++ listTmps l
def partTmps : List (Nat × Operand) → List Nat
  | [] => []
  | x :: l => opTmps x.2 ++ partTmps l
inductive Kind where
  | quiet | load | take | store | grow | other
  deriving DecidableEq
def kindOf (mv : List Nat) (o : Oper) : Kind :=
  match o.op with
  | .assign _ | .move _ => .quiet
  | .buildSlice .. => if rowed mv o.dst = true then .grow else .quiet
  | .extract .. => if mvOf mv o.dst then .other else .quiet
  | .load .. => if mvOf mv o.dst then .take else .load
  | .store .. => .store
  | .alloc _ => .grow
  | .box .. => .grow
  | .binOp _ _ _ y _ => if nilRow y = true then .other else .quiet
  | .pick .. | .fieldAddr .. | .field .. | .indexAddr .. | .index .. | .lookup .. | .unOp .. | .convert .. | .slice .. | .build .. | .makeFunc .. | .nilCheck .. => .quiet
  | .call { callee := .value _, .. } => .quiet
  | .call { callee := .builtin .append, .. } => if boxed mv o.dst = true then .other else if rowed mv o.dst = true then .store else .quiet
  | .call { callee := .builtin .len, .. } => .quiet
  | .call { callee := .builtin .min, .. } => .quiet
  | .call { callee := .builtin .max, .. } => .quiet
  | _ => .other
def readsOp : Op → List Nat
  | .assign x | .move x | .extract x _ | .box _ x | .load _ x | .fieldAddr _ x _ | .field _ x _ | .unOp _ _ x | .convert _ _ x | .nilCheck x => opTmps x
  | .store _ x y | .indexAddr _ x y | .index _ x y | .lookup _ x y _ | .binOp _ _ x y _ => opTmps x ++ opTmps y
  | .pick c x y => opTmps c ++ opTmps x ++ opTmps y
  | .slice _ x lo hi _ => opTmps x ++ optTmps lo ++ optTmps hi
  | .build _ ps | .buildSlice _ _ ps => partTmps ps.toList
  | .makeFunc _ a b => listTmps a.toList ++ listTmps b.toList
  | .call { callee := .value x, args, .. } => opTmps x ++ listTmps args.toList
  | .call { args, .. } => listTmps args.toList
  | _ => []
def writesOp (mv : List Nat) (o : Oper) : List Nat :=
  o.dst.toList ++ match o.op with
  | .assign x => opTmps x
  | .move x => if mvOf mv o.dst = true then opTmps x else []
  | .store _ _ y => opTmps y
  | .box _ x => opTmps x
  | .buildSlice _ _ ps => if rowed mv o.dst = true then partTmps ps.toList else []
  | .call { callee := .builtin .append, args, .. } => match args.toList with
    | x :: _ => opTmps x
    | [] => []
  | _ => []
def Agree (ts : List Nat) (e e' : Env) : Prop := ∀ t ∈ ts, e'.get t = e.get t
section
variable {C : Ctx} {ρ : FuncId → List FV → FV → Prop} {e e' : Env} {H : Heap}
theorem rd_congr {x : Operand} (h : Agree (opTmps x) e e') : rd C e' x = rd C e x := by
  cases x <;> simp only [rd]
  rw [h _ (by simp [opTmps])]
theorem Agree.left {a b : List Nat} (h : Agree (a ++ b) e e') : Agree a e e' := fun t ht => h t (List.mem_append_left _ ht)
theorem Agree.right {a b : List Nat} (h : Agree (a ++ b) e e') : Agree b e e' := fun t ht => h t (List.mem_append_right _ ht)
theorem rdAll_congr : ∀ {xs : List Operand}, Agree (listTmps xs) e e' → rdAll C e' xs = rdAll C e xs
  | [], _ => rfl
  | x :: xs, h => by
    simp only [rdAll]
    rw [rd_congr h.left, rdAll_congr h.right]
theorem rdParts_congr : ∀ {xs : List (Nat × Operand)}, Agree (partTmps xs) e e' → rdParts C e' xs = rdParts C e xs
  | [], _ => rfl
  | (i, x) :: xs, h => by
    simp only [rdParts]
    rw [rd_congr h.left, rdParts_congr h.right]
theorem rdo_congr {x : Option Operand} (h : Agree (optTmps x) e e') : rdo C e' x = rdo C e x := by
  cases x with
  | none => rfl
  | some x => simp only [rdo]; rw [rd_congr h]
theorem valOp_congr {op : Op} (h : Agree (readsOp op) e e') : valOp C e' H op = valOp C e H op := by
  unfold valOp
  split
  all_goals first
    | (simp only [readsOp] at h; rw [rd_congr h]; done)
    | (simp only [readsOp] at h; rw [rd_congr h.left, rd_congr h.right]; done)
    | (simp only [readsOp] at h; rw [rd_congr h.left.left, rd_congr h.left.right, rd_congr h.right]; done)
    | (simp only [readsOp] at h; rw [rd_congr h.left.left, rdo_congr h.left.right, rdo_congr h.right]; done)
    | (simp only [readsOp] at h; rw [rdAll_congr h.left, rdAll_congr h.right]; done)
    | (simp only [readsOp] at h; unfold buildOf; rw [rdParts_congr h]; done)
    | skip
  all_goals first
    | rfl
    | (split
       · split
         · rename_i x t hx ht
           have : rd C e' x = rd C e x := rd_congr fun s hs => h s (by simp only [readsOp, hx, listTmps]; simp [hs])
           rw [this]
         · rfl
       · simp only [readsOp] at h; rw [rdAll_congr h]
       · simp only [readsOp] at h; rw [rdAll_congr h]
       · rfl)
theorem valOp_heap {op : Op} {H' : Heap} (h : ∀ t x, op ≠ .load t x) : valOp C e H' op = valOp C e H op := by
  unfold valOp
  split <;> first | rfl | (rename_i t x; exact absurd rfl (h t x))
theorem give_congr {x : Operand} {f : FV} {e₁ : Env} (h : Agree (opTmps x) e e') (hg : give C e x = some (f, e₁)) :
    ∃ δ : Env, e₁ = δ ++ e ∧ give C e' x = some (f, δ ++ e') ∧ ∀ p ∈ δ, p.1 ∈ opTmps x := by
  cases x with
  | tmp t =>
    simp only [give, Option.some.injEq, Prod.mk.injEq] at hg
    obtain ⟨rfl, rfl⟩ := hg
    exact ⟨[(t, demote (e.get t))], rfl, by simp [give, h t (by simp [opTmps])], by simp [opTmps]⟩
  | _ =>
    simp only [give, Option.map_eq_some_iff] at hg
    obtain ⟨g, hg, hh⟩ := hg
    simp only [Prod.mk.injEq] at hh
    obtain ⟨rfl, rfl⟩ := hh
    exact ⟨[], rfl, by simp only [give]; rw [rd_congr (fun t ht => by simp [opTmps] at ht), hg]; rfl, by simp⟩
theorem put_append (δ e : Env) (d : Option Nat) (f : FV) : (δ ++ e).put d f = (δ.put d f) ++ e := by cases d <;> rfl
theorem put_nil (e : Env) (d : Option Nat) (f : FV) : e.put d f = (Env.put [] d f) ++ e := by cases d <;> rfl
def dem1 : List FV → List FV
  | [.row g l] => [.row g (l.map demote1)]
  | fs => fs.map demote1
def dem (H : Heap) : Heap := H.map dem1
theorem demote1_twice (f : FV) : demote1 (demote1 f) = demote1 f := by cases f <;> rfl
theorem dem1_row (g : Nat) (l : List FV) : dem1 [.row g l] = [.row g (l.map demote1)] := rfl
theorem dem1_plain {fs : List FV} (h : rowK fs = 0) : dem1 fs = fs.map demote1 := by
  match fs with
  | [] => rfl
  | f :: _ :: _ => cases f <;> rfl
  | [f] => cases f <;> first | rfl | simp [rowK] at h
theorem rowK_long {fs : List FV} (h : 2 ≤ fs.length) : rowK fs = 0 := by
  rcases kind_cases fs with ⟨h1, _, _⟩ | ⟨g, l, rfl⟩
  · exact h1
  · simp at h
theorem dem1_map (fs : List FV) : (dem1 fs).map demote1 = fs.map demote1 := by
  rcases kind_cases fs with ⟨h, _, _⟩ | ⟨g, l, rfl⟩
  · rw [dem1_plain h, List.map_map]
    exact List.map_congr_left fun f _ => demote1_twice f
  · rfl
theorem dem_getD (H : Heap) (b : Nat) : (dem H).getD b [] = dem1 (H.getD b []) := by
  simp only [dem, List.getD, List.getElem?_map]
  cases H[b]? <;> simp [dem1]
theorem dem_row {H H' : Heap} {b : Nat} (h : dem1 (H'.getD b []) = dem1 (H.getD b [])) {g : Nat} {l : List FV} (hr : rowOf H b = some (g, l)) : ∃ l', rowOf H' b = some (g, l') ∧ l'.map demote1 = l.map demote1 := by
  unfold rowOf at hr ⊢
  split at hr
  · rename_i g₁ l₁ he
    simp only [Option.some.injEq, Prod.mk.injEq] at hr
    obtain ⟨rfl, rfl⟩ := hr
    rw [he, dem1_row] at h
    rcases kind_cases (H'.getD b []) with ⟨h1, _, _⟩ | ⟨g₂, l₂, h1⟩
    · rw [dem1_plain h1] at h
      exfalso
      have h0 := congrArg (·[0]?) h
      simp only [List.getElem?_map, List.getElem?_cons_zero, Option.map_eq_some_iff] at h0
      obtain ⟨f, _, hf⟩ := h0
      cases f <;> simp [demote1] at hf
    · rw [h1, dem1_row] at h
      simp only [List.cons.injEq, FV.row.injEq, and_true] at h
      rw [h1]
      exact ⟨l₂, by rw [h.1], h.2⟩
  · simp at hr
def chg : Kind → Bool
  | .store | .take | .grow => true
  | _ => false
def stay : Kind → Bool
  | .store | .grow => false
  | _ => true
def Compat : Kind → Heap → Heap → Prop
  | .quiet, _, _ => True
  | .load, H', H => ∃ X, dem H' = dem H ++ X
  | _, H', H => H' = H
theorem Compat.refl (k : Kind) (H : Heap) : Compat k H H := by
  cases k <;> first | exact trivial | exact rfl | exact ⟨[], (List.append_nil _).symm⟩
theorem demote1_demote (f : FV) : demote1 (demote f) = demote1 f := by cases f <;> rfl
theorem dem_set {H : Heap} {b : Nat} {fs : List FV} (h : dem1 fs = dem1 (H.getD b [])) : dem (H.set b fs) = dem H := by
  simp only [dem, List.map_set]
  rw [h]
  by_cases hb : b < H.length
  · have hg : H.getD b [] = H[b] := by simp [List.getD, hb]
    rw [hg]
    have : dem1 H[b] = (H.map dem1)[b]'(by simpa using hb) := by simp
    rw [this, List.set_getElem_self]
  · rw [List.set_eq_of_length_le (by simp; omega)]
theorem set_demote {l : List FV} {off : Nat} {f : FV} (h : l[off]? = some f) : (l.set off (demote f)).map demote1 = l.map demote1 := by
  have ho := (List.getElem?_eq_some_iff.1 h).1
  have hf := (List.getElem?_eq_some_iff.1 h).2
  rw [List.map_set, demote1_demote, ← hf]
  have : demote1 l[off] = (l.map demote1)[off]'(by simpa using ho) := by simp
  rw [this, List.set_getElem_self]
theorem dem_take {H : Heap} {b off : Nat} {f : FV} (h : (H.getD b [])[off]? = some f) : dem (H.set b ((H.getD b []).set off (demote f))) = dem H := by
  refine dem_set ?_
  rcases kind_cases (H.getD b []) with ⟨hr, _, _⟩ | ⟨g, l, hr⟩
  rotate_left
  · rw [hr] at h ⊢
    cases off with
    | zero =>
      simp only [List.getElem?_cons_zero, Option.some.injEq] at h
      subst h
      rfl
    | succ k => simp at h
  have h2 : rowK ((H.getD b []).set off (demote f)) = 0 := by
    generalize H.getD b [] = fs at h hr
    match fs, h with
    | [x], h =>
      cases off with
      | zero =>
        simp only [List.getElem?_cons_zero, Option.some.injEq] at h
        subst h
        cases x <;> first | rfl | simp [rowK] at hr
      | succ k => simp at h
    | x :: y :: l, h => exact rowK_long (by simp)
  rw [dem1_plain hr, dem1_plain h2, set_demote h]
theorem dem_takeAgg {H : Heap} {b off n : Nat} (hle : off + n ≤ (H.getD b []).length) : dem (H.set b (splice (H.getD b []) off ((((H.getD b []).drop off).take n).map demote))) = dem H := by
  refine dem_set ?_
  generalize H.getD b [] = fs at hle
  have hg := splice_demote_get hle
  generalize splice fs off (((fs.drop off).take n).map demote) = gs at hg
  have hmap : gs.map demote1 = fs.map demote1 := by
    refine List.ext_getElem? fun i => ?_
    rw [List.getElem?_map, hg, List.getElem?_map]
    split
    · cases fs[i]? <;> simp [demote1_demote]
    · rfl
  have h0 : ∀ g l, gs[0]? = some (.row g l) → fs[0]? = some (.row g l) := fun g l h => by
    rw [hg] at h
    split at h
    · rw [Option.map_eq_some_iff] at h
      obtain ⟨x, hx, hd⟩ := h
      rw [hx]
      cases x <;> simp_all [demote]
    · exact h
  have hlen : gs.length = fs.length := by have := congrArg List.length hmap; simpa using this
  rcases kind_cases fs with ⟨hr, _, _⟩ | ⟨g, l, rfl⟩
  · rcases kind_cases gs with ⟨hr', _, _⟩ | ⟨g, l, rfl⟩
    · rw [dem1_plain hr, dem1_plain hr', hmap]
    · exfalso
      have h1 := h0 g l rfl
      have h2 : fs.length = 1 := by rw [← hlen]; rfl
      obtain ⟨x, rfl⟩ := List.length_eq_one_iff.1 h2
      rw [List.getElem?_cons_zero, Option.some.injEq] at h1
      rw [h1] at hr
      simp [rowK] at hr
  · have h2 : gs.length = 1 := by rw [hlen]; rfl
    obtain ⟨x, rfl⟩ := List.length_eq_one_iff.1 h2
    have hx := hg 0
    rw [List.getElem?_cons_zero, List.getElem?_cons_zero] at hx
    have : x = .row g l := by
      split at hx
      · simpa [demote] using hx
      · simpa using hx
    rw [this]
theorem dem_takeRow {H : Heap} {b g off : Nat} {l : List FV} {f : FV} (hb : rowOf H b = some (g, l)) (h : l[off]? = some f) : dem (H.set b [.row g (l.set off (demote f))]) = dem H := by
  refine dem_set ?_
  have : H.getD b [] = [.row g l] := by
    unfold rowOf at hb
    split at hb
    · rename_i he
      simp only [Option.some.injEq, Prod.mk.injEq] at hb
      rw [he, hb.1, hb.2]
    · simp at hb
  rw [this, dem1_row, dem1_row, set_demote h]
theorem partOf_ext {P : Program} {t : TypeId} {l m : List FV} {off : Nat} {f : FV} (h : partOf P t l off = some f) (hm : ∀ j, j < l.length → m[j]? = l[j]?) (hl : l.length ≤ m.length) : partOf P t m off = some f := by
  unfold partOf at h ⊢
  cases ha : aggOf P t with
  | none => rw [ha] at h; simp at h
  | some b =>
    rw [ha] at h
    cases b with
    | true =>
      cases hn : szOf P t with
      | none => rw [hn] at h; simp at h
      | some n =>
        rw [hn] at h
        simp only at h ⊢
        split at h
        · rename_i hle
          rw [if_pos (by omega), ← h]
          congr 2
          refine List.ext_getElem? fun j => ?_
          by_cases hj : j < n
          · rw [List.getElem?_take_of_lt hj, List.getElem?_take_of_lt hj, List.getElem?_drop, List.getElem?_drop, hm _ (by omega)]
          · rw [List.getElem?_eq_none (by simp; omega), List.getElem?_eq_none (by simp; omega)]
        · simp at h
    | false =>
      simp only at h ⊢
      have hlt : off < l.length := by
        rcases Nat.lt_or_ge off l.length with h' | h'
        · exact h'
        · rw [List.getElem?_eq_none h'] at h; simp at h
      rw [hm _ hlt]; exact h
theorem dem_ext1 {H H' X : Heap} (h : dem H' = dem H ++ X) (b : Nat) : dem1 (H'.getD b []) = dem1 (H.getD b []) ∨ H.getD b [] = [] := by
  by_cases hb : b < (dem H).length
  · left
    rw [← dem_getD, ← dem_getD, h]
    simp [List.getD, List.getElem?_append_left hb]
  · right
    have : H.length ≤ b := by simpa [dem] using Nat.le_of_not_lt hb
    simp [List.getD, List.getElem?_eq_none this]
theorem dem_ext {H H' X : Heap} (h : dem H' = dem H ++ X) (b : Nat) : (∀ j, j < ((H.getD b []).map demote1).length → ((H'.getD b []).map demote1)[j]? = ((H.getD b []).map demote1)[j]?) ∧ ((H.getD b []).map demote1).length ≤ ((H'.getD b []).map demote1).length := by
  rcases dem_ext1 h b with h | h
  · rw [← dem1_map (H'.getD b []), h, dem1_map]
    exact ⟨fun _ _ => rfl, Nat.le_refl _⟩
  · rw [h]
    exact ⟨fun j hj => by simp at hj, by simp⟩
theorem valOp_dem {t : TypeId} {x : Operand} {H' : Heap} {f : FV} (h : ∃ X, Ev.dem H' = Ev.dem H ++ X) (hv : valOp C e H (.load t x) = some f) : valOp C e H' (.load t x) = some f := by
  obtain ⟨X, h⟩ := h
  simp only [valOp] at hv ⊢
  cases hr : rd C e x with
  | none => rw [hr] at hv; simp at hv
  | some f0 =>
    rw [hr] at hv
    cases f0 with
    | ptr b off =>
      obtain ⟨h1, h2⟩ := dem_ext h b
      exact partOf_ext hv h1 h2
    | gp b g off =>
      simp only at hv ⊢
      cases hb : rowOf H b with
      | none => rw [hb] at hv; simp at hv
      | some p =>
        obtain ⟨g', l⟩ := p
        rw [hb] at hv
        have hd : dem1 (H'.getD b []) = dem1 (H.getD b []) := by
          rcases dem_ext1 h b with h | h
          · exact h
          · unfold rowOf at hb; rw [h] at hb; simp at hb
        obtain ⟨l', q1, q2⟩ := dem_row hd hb
        rw [q1]
        simp only at hv ⊢
        rw [q2]; exact hv
    | ea l => exact hv
    | _ => simp at hv
structure Eff (C : Ctx) (ρ : FuncId → List FV → FV → Prop) (nt : Nat) (mv : List Nat) (o : Oper) (e : Env) (H : Heap) (δ : Env) (H₁ : Heap) : Prop where
  keys : ∀ p ∈ δ, p.1 ∈ writesOp mv o
  heap : chg (kindOf mv o) = false → H₁ = H
  dem : stay (kindOf mv o) = true → dem H₁ = dem H
  ext : kindOf mv o ≠ .store → ∃ X, Ev.dem H₁ = Ev.dem H ++ X
  again : ∀ (e' : Env) (H' : Heap) (K : Env → Heap → Prop), Agree (readsOp o.op) e e' → Compat (kindOf mv o) H' H →
    K (δ ++ e') (if chg (kindOf mv o) = true then H₁ else H') → wpOp C nt mv (CallD C ρ) o e' H' K
theorem dst_mem {mv : List Nat} {o : Oper} {t : Nat} (h : o.dst = some t) : t ∈ writesOp mv o := by
  unfold writesOp; rw [h]; simp
theorem keys_put {mv : List Nat} {o : Oper} {f : FV} : ∀ p ∈ (Env.put [] o.dst f), p.1 ∈ writesOp mv o := by
  intro p hp
  cases hd : o.dst with
  | none => rw [hd] at hp; simp [Env.put] at hp
  | some d => rw [hd] at hp; simp [Env.put] at hp; subst hp; exact dst_mem hd
theorem keys_put' {mv : List Nat} {o : Oper} {f : FV} {δ : Env} (h : ∀ p ∈ δ, p.1 ∈ writesOp mv o) : ∀ p ∈ (δ.put o.dst f), p.1 ∈ writesOp mv o := by
  intro p hp
  cases hd : o.dst with
  | none => rw [hd] at hp; exact h p hp
  | some d =>
    rw [hd] at hp
    simp only [Env.put, List.mem_cons] at hp
    rcases hp with rfl | hp
    · exact dst_mem hd
    · exact h p hp
end
end Go.Proofs.YtkbknlcdinkokaaDoor.Ev
end
section
namespace Go.Proofs.YtkbknlcdinkokaaDoor.Ev
open Go
section
variable {C : Ctx} {ρ : FuncId → List FV → FV → Prop} {nt : Nat} {mv : List Nat} {e : Env} {H : Heap} {K : Env → Heap → Prop}
theorem eff_val {o : Oper} {f : FV} (hv : valOp C e H o.op = some f) (hK : K (e.put o.dst f) H) (hkk : kindOf mv o = .quiet ∨ kindOf mv o = .load ∧ ∃ t x, o.op = .load t x) (hkl : kindOf mv o = .quiet → ∀ t x, o.op ≠ .load t x)
    (hgo : ∀ (e' : Env) (H' : Heap) (K' : Env → Heap → Prop), valOp C e' H' o.op = some f → K' (e'.put o.dst f) H' → wpOp C nt mv (CallD C ρ) o e' H' K') : ∃ δ H₁, Eff C ρ nt mv o e H δ H₁ ∧ K (δ ++ e) H₁ := by
  refine ⟨Env.put [] o.dst f, H, ⟨keys_put, fun _ => rfl, fun _ => rfl, fun _ => ⟨[], (List.append_nil _).symm⟩, fun e' H' K' ha hh hK' => ?_⟩, by rw [← put_nil]; exact hK⟩
  refine hgo e' H' K' ?_ ?_
  · rw [valOp_congr ha]
    rcases hkk with hq | ⟨hl, t, x, hop⟩
    · rw [← hv]; exact valOp_heap (hkl hq)
    · rw [hl] at hh
      rw [hop] at hv ⊢
      exact valOp_dem hh hv
  · rw [put_nil]
    rcases hkk with hq | ⟨hl, _⟩
    · simpa [hq, chg] using hK'
    · simpa [hl, chg] using hK'
set_option maxHeartbeats 4000000 in
theorem eff_of {o : Oper} (hk : kindOf mv o ≠ .other) (h : wpOp C nt mv (CallD C ρ) o e H K) : ∃ δ H₁, Eff C ρ nt mv o e H δ H₁ ∧ K (δ ++ e) H₁ := by
  obtain ⟨dst, op, ty, pos, after, guard⟩ := o
  have h0 := h
  unfold wpOp at h
  obtain ⟨hd, h⟩ := h
  simp only at hd h
  split at h
  · -- assign
    rename_i x
    split at h
    · rename_i f e₁ hg
      obtain ⟨δ, rfl, _, hδ⟩ := give_congr (e' := e) (fun _ _ => rfl) hg
      rw [put_append] at h
      refine ⟨δ.put dst f.home, H, ⟨keys_put' (o := ⟨dst, .assign x, ty, pos, after, guard⟩) fun p hp => ?_, fun _ => rfl, fun _ => rfl, fun _ => ⟨[], (List.append_nil _).symm⟩, fun e' H' K' ha hh hK' => ?_⟩, h⟩
      · simp only [writesOp, List.mem_append]; exact .inr (hδ p hp)
      · obtain ⟨δ', hδ', hg', _⟩ := give_congr (e' := e') (by simpa [readsOp] using ha) hg
        obtain rfl : δ = δ' := List.append_cancel_right hδ'
        simp only [kindOf, chg, Bool.false_eq_true, if_false] at hK'
        unfold wpOp
        refine ⟨hd, ?_⟩
        simp only [hg', put_append]
        exact hK'
    · exact h.elim
  · -- move
    rename_i x
    split at h
    · rename_i hmv
      split at h
      · rename_i f e₁ hg
        obtain ⟨δ, rfl, _, hδ⟩ := give_congr (e' := e) (fun _ _ => rfl) hg
        rw [put_append] at h
        refine ⟨δ.put dst f.home, H, ⟨keys_put' (o := ⟨dst, .move x, ty, pos, after, guard⟩) fun p hp => ?_, fun _ => rfl, fun _ => rfl, fun _ => ⟨[], (List.append_nil _).symm⟩, fun e' H' K' ha hh hK' => ?_⟩, h⟩
        · simp only [writesOp, hmv, if_true, List.mem_append]; exact .inr (hδ p hp)
        · obtain ⟨δ', hδ', hg', _⟩ := give_congr (e' := e') (by simpa [readsOp] using ha) hg
          obtain rfl : δ = δ' := List.append_cancel_right hδ'
          simp only [kindOf, chg, Bool.false_eq_true, if_false] at hK'
          unfold wpOp
          refine ⟨hd, ?_⟩
          simp only [hmv, if_true, hg', put_append]
          exact hK'
      · exact h.elim
    · rename_i hmv
      split at h
      · rename_i f hf
        refine eff_val (o := ⟨dst, .move x, ty, pos, after, guard⟩) hf h (.inl rfl) (by simp) (fun e' H' K' hv hK' => ?_)
        unfold wpOp
        refine ⟨hd, ?_⟩
        simp only at hv
        simp only [hmv, if_false, hv, Bool.false_eq_true]
        exact hK'
      · exact h.elim
  · -- extract
    rename_i x i
    split at h
    · rename_i hmv
      simp [kindOf, hmv] at hk
    · rename_i hmv
      split at h
      · rename_i f hf
        refine eff_val (o := ⟨dst, .extract x i, ty, pos, after, guard⟩) hf h (.inl (by simp [kindOf, hmv])) (by simp) (fun e' H' K' hv hK' => ?_)
        unfold wpOp
        refine ⟨hd, ?_⟩
        simp only at hv
        simp only [hmv, if_false, hv, Bool.false_eq_true]
        exact hK'
      · exact h.elim
  · -- load
    rename_i t x
    split at h
    · rename_i hmv
      split at h
      · rename_i b off hx hag
        split at h
        · rename_i f hf
          have hkk : kindOf mv ⟨dst, .load t x, ty, pos, after, guard⟩ = .take := by simp [kindOf, hmv]
          refine ⟨Env.put [] dst f, _, ⟨keys_put (o := ⟨dst, .load t x, ty, pos, after, guard⟩), fun hh => by rw [hkk] at hh; simp [chg] at hh, fun _ => dem_take hf, fun _ => ⟨[], by rw [List.append_nil]; exact dem_take hf⟩, fun e' H' K' ha hh hK' => ?_⟩, by rw [← put_nil]; exact h⟩
          rw [hkk] at hh hK'
          obtain rfl : H' = H := hh
          unfold wpOp
          refine ⟨hd, ?_⟩
          simp only [hmv, if_true, rd_congr (show Agree (opTmps x) e e' from ha), hx, hag, hf]
          rw [put_nil]
          simpa [chg] using hK'
        · exact h.elim
      · rename_i b off hx hag
        split at h
        · rename_i n hn
          obtain ⟨hle, h⟩ := h
          have hkk : kindOf mv ⟨dst, .load t x, ty, pos, after, guard⟩ = .take := by simp [kindOf, hmv]
          refine ⟨Env.put [] dst _, _, ⟨keys_put (o := ⟨dst, .load t x, ty, pos, after, guard⟩), fun hh => by rw [hkk] at hh; simp [chg] at hh, fun _ => dem_takeAgg hle, fun _ => ⟨[], by rw [List.append_nil]; exact dem_takeAgg hle⟩, fun e' H' K' ha hh hK' => ?_⟩, by rw [← put_nil]; exact h⟩
          rw [hkk] at hh hK'
          obtain rfl : H' = H := hh
          unfold wpOp
          refine ⟨hd, ?_⟩
          simp only [hmv, if_true, rd_congr (show Agree (opTmps x) e e' from ha), hx, hag, hn]
          refine ⟨hle, ?_⟩
          rw [put_nil]
          simpa [chg] using hK'
        · exact h.elim
      · rename_i b g off hx hag
        split at h
        · rename_i g' l hb
          obtain ⟨hgg, h⟩ := h
          subst hgg
          split at h
          · rename_i f hf
            have hkk : kindOf mv ⟨dst, .load t x, ty, pos, after, guard⟩ = .take := by simp [kindOf, hmv]
            refine ⟨Env.put [] dst f, _, ⟨keys_put (o := ⟨dst, .load t x, ty, pos, after, guard⟩), fun hh => by rw [hkk] at hh; simp [chg] at hh, fun _ => dem_takeRow hb hf, fun _ => ⟨[], by rw [List.append_nil]; exact dem_takeRow hb hf⟩, fun e' H' K' ha hh hK' => ?_⟩, by rw [← put_nil]; exact h⟩
            rw [hkk] at hh hK'
            obtain rfl : H' = H := hh
            unfold wpOp
            refine ⟨hd, ?_⟩
            simp only [hmv, if_true, rd_congr (show Agree (opTmps x) e e' from ha), hx, hag, hb, hf, true_and]
            rw [put_nil]
            simpa [chg] using hK'
          · exact h.elim
        · exact h.elim
      · exact h.elim
    · rename_i hmv
      split at h
      · rename_i f hf
        refine eff_val (o := ⟨dst, .load t x, ty, pos, after, guard⟩) hf h (.inr ⟨by simp [kindOf, hmv], t, x, rfl⟩) (by simp [kindOf, hmv]) (fun e' H' K' hv hK' => ?_)
        unfold wpOp
        refine ⟨hd, ?_⟩
        simp only at hv
        simp only [hmv, if_false, hv, Bool.false_eq_true]
        exact hK'
      · exact h.elim
  · -- alloc
    rename_i t
    split at h
    · rename_i z hz
      split at h
      · rename_i l hl
        refine ⟨Env.put [] dst (.ptr H.length 0), H ++ [l.map FV.home], ⟨keys_put (o := ⟨dst, .alloc t, ty, pos, after, guard⟩), fun hh => by simp [kindOf, chg] at hh, fun hh => by simp [kindOf, stay] at hh, fun _ => ⟨_, by simp [dem]; rfl⟩, fun e' H' K' ha hh hK' => ?_⟩, by rw [← put_nil]; exact h⟩
        obtain rfl : H' = H := hh
        simp only [kindOf, chg, if_true] at hK'
        unfold wpOp
        refine ⟨hd, ?_⟩
        simp only [hz, hl]
        rw [put_nil]; exact hK'
      · exact h.elim
    · exact h.elim
  · -- box
    rename_i t x
    split at h
    · rename_i f e₁ hg
      split at h
      · rename_i l hl
        obtain ⟨h1, h⟩ := h
        obtain ⟨δ, rfl, _, hδ⟩ := give_congr (e' := e) (fun _ _ => rfl) hg
        rw [put_append] at h
        refine ⟨δ.put dst (.ptr H.length 0), H ++ [l.map FV.home], ⟨keys_put' (o := ⟨dst, .box t x, ty, pos, after, guard⟩) fun p hp => ?_, fun hh => by simp [kindOf, chg] at hh, fun hh => by simp [kindOf, stay] at hh, fun _ => ⟨_, by simp [dem]; rfl⟩, fun e' H' K' ha hh hK' => ?_⟩, h⟩
        · simp only [writesOp, List.mem_append]; exact .inr (hδ p hp)
        · obtain ⟨δ', hδ', hg', _⟩ := give_congr (e' := e') (by simpa [readsOp] using ha) hg
          obtain rfl : δ = δ' := List.append_cancel_right hδ'
          obtain rfl : H' = H := hh
          simp only [kindOf, chg, if_true] at hK'
          unfold wpOp
          refine ⟨hd, ?_⟩
          simp only [hg', hl, put_append]
          exact ⟨h1, hK'⟩
      · exact h.elim
    · exact h.elim
  · -- store
    rename_i t x y
    split at h
    · rename_i b off f e₁ n hx hg hn
      split at h
      · rename_i l hl
        obtain ⟨h1, h2, h3, h⟩ := h
        obtain ⟨δ, rfl, _, hδ⟩ := give_congr (e' := e) (fun _ _ => rfl) hg
        rw [put_append] at h
        refine ⟨δ.put dst .undef, _, ⟨keys_put' (o := ⟨dst, .store t x y, ty, pos, after, guard⟩) fun p hp => ?_, fun hh => by simp [kindOf, chg] at hh, fun hh => by simp [kindOf, stay] at hh, fun hh => absurd rfl hh, fun e' H' K' ha hh hK' => ?_⟩, h⟩
        · simp only [writesOp, List.mem_append]; exact .inr (hδ p hp)
        · have hax : Agree (opTmps x) e e' := fun s hs => ha s (by simp only [readsOp, List.mem_append]; exact .inl hs)
          have hay : Agree (opTmps y) e e' := fun s hs => ha s (by simp only [readsOp, List.mem_append]; exact .inr hs)
          obtain ⟨δ', hδ', hg', _⟩ := give_congr (e' := e') hay hg
          obtain rfl : δ = δ' := List.append_cancel_right hδ'
          obtain rfl : H' = H := hh
          simp only [kindOf, if_true] at hK'
          unfold wpOp
          refine ⟨hd, ?_⟩
          simp only [rd_congr hax, hx, hg', hn, hl, put_append]
          exact ⟨h1, h2, h3, hK'⟩
      · exact h.elim
    · rename_i b gb off f e₁ n hx hg hn
      split at h
      · rename_i l g' c hl hb
        obtain ⟨hgg, h1, h2, h3, h⟩ := h
        subst hgg
        obtain ⟨δ, rfl, _, hδ⟩ := give_congr (e' := e) (fun _ _ => rfl) hg
        rw [put_append] at h
        refine ⟨δ.put dst .undef, _, ⟨keys_put' (o := ⟨dst, .store t x y, ty, pos, after, guard⟩) fun p hp => ?_, fun hh => by simp [kindOf, chg] at hh, fun hh => by simp [kindOf, stay] at hh, fun hh => absurd rfl hh, fun e' H' K' ha hh hK' => ?_⟩, h⟩
        · simp only [writesOp, List.mem_append]; exact .inr (hδ p hp)
        · have hax : Agree (opTmps x) e e' := fun s hs => ha s (by simp only [readsOp, List.mem_append]; exact .inl hs)
          have hay : Agree (opTmps y) e e' := fun s hs => ha s (by simp only [readsOp, List.mem_append]; exact .inr hs)
          obtain ⟨δ', hδ', hg', _⟩ := give_congr (e' := e') hay hg
          obtain rfl : δ = δ' := List.append_cancel_right hδ'
          obtain rfl : H' = H := hh
          simp only [kindOf, if_true] at hK'
          unfold wpOp
          refine ⟨hd, ?_⟩
          simp only [rd_congr hax, hx, hg', hn, hl, hb, put_append]
          exact ⟨trivial, h1, h2, h3, hK'⟩
      · exact h.elim
    · exact h.elim
  · -- buildSlice
    rename_i t n parts
    split at h
    · rename_i hrw
      have hkk : kindOf mv ⟨dst, .buildSlice t n parts, ty, pos, after, guard⟩ = .grow := by simp [kindOf, hrw]
      split at h
      · rename_i el x hu hps
        split at h
        · rename_i m z f e₁ hsz hz hg
          split at h
          · rename_i l hl
            obtain ⟨h1, h2, h3, h4, h5, h⟩ := h
            obtain ⟨δ, rfl, _, hδ⟩ := give_congr (e' := e) (fun _ _ => rfl) hg
            rw [put_append] at h
            refine ⟨δ.put dst (.gr H.length 0 (m + 1) 1), H ++ [[.row 0 (l.map FV.home)]], ⟨keys_put' (o := ⟨dst, .buildSlice t n parts, ty, pos, after, guard⟩) fun p hp => ?_, fun hh => by rw [hkk] at hh; simp [chg] at hh, fun hh => by rw [hkk] at hh; simp [stay] at hh, fun _ => ⟨_, by simp [dem]; rfl⟩, fun e' H' K' ha hh hK' => ?_⟩, h⟩
            · simp only [writesOp, hrw, if_true, hps, partTmps, List.append_nil, List.mem_append]; exact .inr (hδ p hp)
            · obtain ⟨δ', hδ', hg', _⟩ := give_congr (e' := e') (show Agree (opTmps x) e e' from fun s hs => ha s (by simp [readsOp, hps, partTmps, hs])) hg
              obtain rfl : δ = δ' := List.append_cancel_right hδ'
              rw [hkk] at hh hK'
              obtain rfl : H' = H := hh
              simp only [chg, if_true] at hK'
              unfold wpOp
              refine ⟨hd, ?_⟩
              simp only [hrw, if_true, hu, hps, hsz, hz, hg', hl, put_append]
              exact ⟨h1, h2, h3, h4, h5, hK'⟩
          · exact h.elim
        · exact h.elim
      · exact h.elim
    rename_i hrw
    split at h
    · rename_i el hu
      split at h
      · rename_i m z ps hsz hz hps
        obtain ⟨h1, h2, h3, h4, h⟩ := h
        split at h
        · rename_i l hl
          obtain ⟨h5, h⟩ := h
          refine ⟨Env.put [] dst (.own l), H, ⟨keys_put (o := ⟨dst, .buildSlice t n parts, ty, pos, after, guard⟩), fun _ => rfl, fun _ => rfl, fun _ => ⟨[], (List.append_nil _).symm⟩, fun e' H' K' ha hh hK' => ?_⟩, by rw [← put_nil]; exact h⟩
          simp only [kindOf, hrw, chg, Bool.false_eq_true, if_false] at hK'
          unfold wpOp
          refine ⟨hd, ?_⟩
          simp only [hrw, Bool.false_eq_true, if_false, hu, hsz, hz, rdParts_congr (show Agree (partTmps parts.toList) e e' from ha), hps, hl]
          exact ⟨h1, h2, h3, h4, h5, by rw [put_nil]; exact hK'⟩
        · exact h.elim
      · exact h.elim
    · exact h.elim
  · -- two operands
    rename_i op t x y yt
    split at h
    · rename_i hn
      simp [kindOf, hn] at hk
    · rename_i hn
      split at h
      · rename_i f hf
        refine eff_val (o := ⟨dst, .binOp op t x y yt, ty, pos, after, guard⟩) hf h (.inl (by simp [kindOf, hn])) (by simp) (fun e' H' K' hv hK' => ?_)
        unfold wpOp
        refine ⟨hd, ?_⟩
        simp only at hv
        simp only [hn, if_false, hv, Bool.false_eq_true]
        exact hK'
      · exact h.elim
  · -- conversions
    rename_i s d x
    have hcg : ∀ e', Agree (opTmps x) e e' → bytesConv C e' s d x = bytesConv C e s d x := fun e' ha => by unfold bytesConv; rw [rd_congr ha]
    split at h
    · rename_i t ht
      refine ⟨Env.put [] dst (.sc (.sl (bytesPV t))), H, ⟨keys_put (o := ⟨dst, .convert s d x, ty, pos, after, guard⟩), fun _ => rfl, fun _ => rfl, fun _ => ⟨[], (List.append_nil _).symm⟩, fun e' H' K' ha hh hK' => ?_⟩, by rw [← put_nil]; exact h⟩
      simp only [kindOf, chg, Bool.false_eq_true, if_false] at hK'
      unfold wpOp
      refine ⟨hd, ?_⟩
      simp only [hcg e' ha, ht]
      rw [put_nil]; exact hK'
    · rename_i ht
      split at h
      · rename_i f hf
        have hff : ∀ e' H', Agree (opTmps x) e e' → valOp C e' H' (.convert s d x) = some f := fun e' H' ha => by
          rw [← hf]; simp only [valOp]; rw [rd_congr ha]
        refine ⟨Env.put [] dst f, H, ⟨keys_put (o := ⟨dst, .convert s d x, ty, pos, after, guard⟩), fun _ => rfl, fun _ => rfl, fun _ => ⟨[], (List.append_nil _).symm⟩, fun e' H' K' ha hh hK' => ?_⟩, by rw [← put_nil]; exact h⟩
        simp only [kindOf, chg, Bool.false_eq_true, if_false] at hK'
        unfold wpOp
        refine ⟨hd, ?_⟩
        simp only [hcg e' ha, ht, hff e' H' ha]
        rw [put_nil]; exact hK'
      · exact h.elim
  · -- calls
    rename_i c
    obtain ⟨callee, args, ts⟩ := c
    simp only at h
    split at h
    · rename_i x
      split at h
      · rename_i f first cap l hx hl
        obtain ⟨r, H', hc, hK⟩ := h
        obtain ⟨⟨c1, rfl, c2⟩, c3⟩ := hc
        refine ⟨Env.put [] dst r.home, H', ⟨keys_put (o := ⟨dst, _, ty, pos, after, guard⟩), fun _ => rfl, fun _ => rfl, fun _ => ⟨[], (List.append_nil _).symm⟩, fun e' H'' K' ha hh hK' => ?_⟩, by rw [← put_nil]; exact hK⟩
        have hax : Agree (opTmps x) e e' := fun s hs => ha s (by simp only [readsOp, List.mem_append]; exact .inl hs)
        have hay : Agree (listTmps args.toList) e e' := fun s hs => ha s (by simp only [readsOp, List.mem_append]; exact .inr hs)
        simp only [kindOf, chg, Bool.false_eq_true, if_false] at hK'
        unfold wpOp
        refine ⟨hd, ?_⟩
        simp only [rd_congr hax, rdAll_congr hay, hx, hl]
        exact ⟨r, H'', ⟨⟨c1, rfl, c2⟩, c3⟩, by show K' _ _; rw [put_nil]; exact hK'⟩
      · exact h.elim
    · rename_i b
      split at h
      · rename_i hb
        obtain rfl : b = .append := by cases b <;> simp_all [isAppend]
        split at h
        · rename_i x y t u tr hargs hts
          split at h
          · rename_i el ud hel hud
            split at h
            · rename_i m z bs f e₁ g hsz hz hbs hg hy
              split at h
              · rename_i b gb zb n r hf hr
                obtain ⟨hrw, h⟩ := h
                split at h
                · rename_i g' l hb
                  obtain ⟨h1, h2, h3, h4, h5, h6, h7, h8, h9, h⟩ := h
                  have hbx : ¬ boxed mv dst = true := fun hb => by simp [kindOf, hb] at hk
                  obtain ⟨δ, rfl, _, hδ⟩ := give_congr (e' := e) (fun _ _ => rfl) hg
                  rw [put_append] at h
                  have hkk : kindOf mv ⟨dst, .call { callee := .builtin .append, args := args, argTypes := ts }, ty, pos, after, guard⟩ = .store := by simp [kindOf, hbx, hrw]
                  refine ⟨δ.put dst (.gr b (gb + 1) (m + 1) (n + r.length)), _, ⟨keys_put' (o := ⟨dst, _, ty, pos, after, guard⟩) fun p hp => ?_, fun hh => by rw [hkk] at hh; simp [chg] at hh, fun hh => by rw [hkk] at hh; simp [stay] at hh, fun hh => absurd hkk hh, fun e' H' K' ha hh hK' => ?_⟩, h⟩
                  · simp only [writesOp, List.mem_append, hargs]; exact .inr (hδ p hp)
                  · have hax : Agree (opTmps x) e e' := fun s hs => ha s (by simp only [readsOp, hargs, listTmps, List.mem_append]; exact .inl hs)
                    have hay : Agree (opTmps y) e e' := fun s hs => ha s (by simp only [readsOp, hargs, listTmps, List.mem_append]; exact .inr (.inl hs))
                    obtain ⟨δ', hδ', hg', _⟩ := give_congr (e' := e') hax hg
                    obtain rfl : δ = δ' := List.append_cancel_right hδ'
                    rw [hkk] at hh hK'
                    obtain rfl : H' = H := hh
                    simp only [chg, if_true] at hK'
                    unfold wpOp
                    refine ⟨hd, ?_⟩
                    simp only [isAppend, if_true, hargs, hts, hel, hud, hsz, hz, hbs, hg', rd_congr hay, hy, hf, hr, hrw, hb, put_append, true_and]
                    exact ⟨h1, h2, h3, h4, h5, h6, h7, h8, h9, hK'⟩
                · exact h.elim
              · rename_i l r hf hr
                have hbx : ¬ boxed mv dst = true := fun hb => by simp [kindOf, hb] at hk
                split at h
                · rename_i hrw
                  obtain ⟨h1, h2, h3, h4, h5, h6, h7, h8, h⟩ := h
                  obtain ⟨δ, rfl, _, hδ⟩ := give_congr (e' := e) (fun _ _ => rfl) hg
                  rw [put_append] at h
                  have hkk : kindOf mv ⟨dst, .call { callee := .builtin .append, args := args, argTypes := ts }, ty, pos, after, guard⟩ = .store := by simp [kindOf, hbx, hrw]
                  refine ⟨δ.put dst (.gr H.length 0 (m + 1) r.length), _, ⟨keys_put' (o := ⟨dst, _, ty, pos, after, guard⟩) fun p hp => ?_, fun hh => by rw [hkk] at hh; simp [chg] at hh, fun hh => by rw [hkk] at hh; simp [stay] at hh, fun hh => absurd hkk hh, fun e' H' K' ha hh hK' => ?_⟩, h⟩
                  · simp only [writesOp, List.mem_append, hargs]; exact .inr (hδ p hp)
                  · have hax : Agree (opTmps x) e e' := fun s hs => ha s (by simp only [readsOp, hargs, listTmps, List.mem_append]; exact .inl hs)
                    have hay : Agree (opTmps y) e e' := fun s hs => ha s (by simp only [readsOp, hargs, listTmps, List.mem_append]; exact .inr (.inl hs))
                    obtain ⟨δ', hδ', hg', _⟩ := give_congr (e' := e') hax hg
                    obtain rfl : δ = δ' := List.append_cancel_right hδ'
                    rw [hkk] at hh hK'
                    obtain rfl : H' = H := hh
                    simp only [chg, if_true] at hK'
                    unfold wpOp
                    refine ⟨hd, ?_⟩
                    simp only [isAppend, if_true, hargs, hts, hel, hud, hsz, hz, hbs, hg', rd_congr hay, hy, hf, hr, hrw, put_append]
                    exact ⟨h1, h2, h3, h4, h5, h6, h7, h8, hK'⟩
                rename_i hrw
                obtain ⟨h1, h2, h3, h4, h5, h6, h7, h⟩ := h
                obtain ⟨δ, rfl, _, hδ⟩ := give_congr (e' := e) (fun _ _ => rfl) hg
                rw [put_append] at h
                refine ⟨δ.put dst (.own (l ++ r)), H, ⟨keys_put' (o := ⟨dst, _, ty, pos, after, guard⟩) fun p hp => ?_, fun _ => rfl, fun _ => rfl, fun _ => ⟨[], (List.append_nil _).symm⟩, fun e' H' K' ha hh hK' => ?_⟩, h⟩
                · simp only [writesOp, List.mem_append, hargs]; exact .inr (hδ p hp)
                · have hax : Agree (opTmps x) e e' := fun s hs => ha s (by simp only [readsOp, hargs, listTmps, List.mem_append]; exact .inl hs)
                  have hay : Agree (opTmps y) e e' := fun s hs => ha s (by simp only [readsOp, hargs, listTmps, List.mem_append]; exact .inr (.inl hs))
                  obtain ⟨δ', hδ', hg', _⟩ := give_congr (e' := e') hax hg
                  obtain rfl : δ = δ' := List.append_cancel_right hδ'
                  simp only [kindOf, chg, Bool.false_eq_true, if_false, hbx, hrw] at hK'
                  unfold wpOp
                  refine ⟨hd, ?_⟩
                  simp only [isAppend, if_true, hargs, hts, hel, hud, hsz, hz, hbs, hg', rd_congr hay, hy, hf, hr, put_append]
                  rw [if_neg hrw, if_neg hbx]
                  exact ⟨h1, h2, h3, h4, h5, h6, h7, hK'⟩
              · rename_i fh hr
                obtain ⟨h1, h2, h3, h4, h⟩ := h
                have hbx : ¬ boxed mv dst = true := fun hb => by simp [kindOf, hb] at hk
                obtain ⟨δ, rfl, _, hδ⟩ := give_congr (e' := e) (fun _ _ => rfl) hg
                have hag : ∀ (e' : Env), Agree (readsOp (.call { callee := .builtin .append, args := args, argTypes := ts })) e e' → give C e' x = some (f, δ ++ e') ∧ rd C e' y = some g := fun e' ha => by
                  have hax : Agree (opTmps x) e e' := fun s hs => ha s (by simp only [readsOp, hargs, listTmps, List.mem_append]; exact .inl hs)
                  have hay : Agree (opTmps y) e e' := fun s hs => ha s (by simp only [readsOp, hargs, listTmps, List.mem_append]; exact .inr (.inl hs))
                  obtain ⟨δ', hδ', hg', _⟩ := give_congr (e' := e') hax hg
                  obtain rfl : δ = δ' := List.append_cancel_right hδ'
                  exact ⟨hg', by rw [rd_congr hay, hy]⟩
                unfold MoveQ at h
                split at h
                rotate_left
                · exact h.elim
                rename_i b₂ g₂ z₂ n₂
                split at h
                rotate_left
                · exact h.elim
                rename_i g₂' c hb2
                obtain ⟨p1, p2, p3, p4, hrw, h⟩ := h
                have hkk : kindOf mv ⟨dst, .call { callee := .builtin .append, args := args, argTypes := ts }, ty, pos, after, guard⟩ = .store := by simp [kindOf, hbx, hrw]
                split at h
                · rename_i l hfl
                  obtain ⟨p5, p6, h⟩ := h
                  rw [put_append] at h
                  refine ⟨δ.put dst _, _, ⟨keys_put' (o := ⟨dst, _, ty, pos, after, guard⟩) fun p hp => ?_, fun hh => by rw [hkk] at hh; simp [chg] at hh, fun hh => by rw [hkk] at hh; simp [stay] at hh, fun hh => absurd hkk hh, fun e' H' K' ha hh hK' => ?_⟩, h⟩
                  · simp only [writesOp, List.mem_append, hargs]; exact .inr (hδ p hp)
                  · obtain ⟨hg', hy'⟩ := hag e' ha
                    rw [hkk] at hh hK'
                    obtain rfl : H' = H := hh
                    simp only [chg, if_true] at hK'
                    unfold wpOp
                    refine ⟨hd, ?_⟩
                    simp only [isAppend, if_true, hargs, hts, hel, hud, hsz, hz, hbs, hg', hy', hfl, hr]
                    refine ⟨h1, h2, h3, h4, ?_⟩
                    unfold MoveQ
                    simp only [hb2, put_append]
                    exact ⟨p1, p2, p3, p4, hrw, p5, p6, hK'⟩
                · rename_i b gb zb n hfl
                  split at h
                  · rename_i g' l hb
                    obtain ⟨p5, p6, p7, p8, p9, h⟩ := h
                    rw [put_append] at h
                    refine ⟨δ.put dst _, _, ⟨keys_put' (o := ⟨dst, _, ty, pos, after, guard⟩) fun p hp => ?_, fun hh => by rw [hkk] at hh; simp [chg] at hh, fun hh => by rw [hkk] at hh; simp [stay] at hh, fun hh => absurd hkk hh, fun e' H' K' ha hh hK' => ?_⟩, h⟩
                    · simp only [writesOp, List.mem_append, hargs]; exact .inr (hδ p hp)
                    · obtain ⟨hg', hy'⟩ := hag e' ha
                      rw [hkk] at hh hK'
                      obtain rfl : H' = H := hh
                      simp only [chg, if_true] at hK'
                      unfold wpOp
                      refine ⟨hd, ?_⟩
                      simp only [isAppend, if_true, hargs, hts, hel, hud, hsz, hz, hbs, hg', hy', hfl, hr]
                      refine ⟨h1, h2, h3, h4, ?_⟩
                      unfold MoveQ
                      simp only [hb2, hb, put_append]
                      exact ⟨p1, p2, p3, p4, hrw, p5, p6, p7, p8, p9, hK'⟩
                  · exact h.elim
                · exact h.elim
              · exact h.elim
            · exact h.elim
          · exact h.elim
        · exact h.elim
      · rename_i hb
        split at h
        · rename_i hb2
          obtain rfl : b = .clear := by cases b <;> simp_all [isClear]
          simp [kindOf] at hk
        rename_i hb2
        split at h
        · rename_i f hf
          have hkq : kindOf mv ⟨dst, .call { callee := .builtin b, args := args, argTypes := ts }, ty, pos, after, guard⟩ = .quiet := by
            cases b <;> simp_all [kindOf, isAppend]
          refine eff_val (o := ⟨dst, .call { callee := .builtin b, args := args, argTypes := ts }, ty, pos, after, guard⟩) hf h (.inl hkq) (by simp) (fun e' H' K' hv hK' => ?_)
          unfold wpOp
          refine ⟨hd, ?_⟩
          simp only at hv
          simp only [hb, hb2, if_false, hv, Bool.false_eq_true]
          exact hK'
        · exact h.elim
    · exact h.elim
  · rename_i n1 n2 n3 n4 n5 n6 n7 n8 n8b n8c n9
    clear h hd
    have go : ∀ {op : Op}, (kindOf mv ⟨dst, op, ty, pos, after, guard⟩ = .quiet) → (∀ t x, op ≠ .load t x) → (∀ (e' : Env) (H' : Heap) (K' : Env → Heap → Prop), wpOp C nt mv (CallD C ρ) ⟨dst, op, ty, pos, after, guard⟩ e' H' K' = (dstOk nt dst ∧ match valOp C e' H' op with | some f => K' (e'.put dst f) H' | none => False)) →
        wpOp C nt mv (CallD C ρ) ⟨dst, op, ty, pos, after, guard⟩ e H K → ∃ δ H₁, Eff C ρ nt mv ⟨dst, op, ty, pos, after, guard⟩ e H δ H₁ ∧ K (δ ++ e) H₁ := fun {op} hq hl hw h0 => by
      rw [hw] at h0
      obtain ⟨hd, h⟩ := h0
      split at h
      · rename_i f hf
        refine eff_val (o := ⟨dst, op, ty, pos, after, guard⟩) hf h (.inl hq) (fun _ => hl) (fun e' H' K' hv hK' => ?_)
        rw [hw]
        refine ⟨hd, ?_⟩
        simp only at hv
        rw [hv]
        exact hK'
      · exact h.elim
    cases op with
    | assign x => exact absurd rfl (n1 x)
    | move x => exact absurd rfl (n2 x)
    | extract x i => exact absurd rfl (n3 x i)
    | load t x => exact absurd rfl (n4 t x)
    | alloc t => exact absurd rfl (n5 t)
    | box t x => exact absurd rfl (n6 t x)
    | store t x y => exact absurd rfl (n7 t x y)
    | buildSlice t n ps => exact absurd rfl (n8 t n ps)
    | call c => exact absurd rfl (n9 c)
    | fieldAddr a b c => exact go rfl (by simp) (fun _ _ _ => rfl) h0
    | field a b c => exact go rfl (by simp) (fun _ _ _ => rfl) h0
    | indexAddr a b c => exact go rfl (by simp) (fun _ _ _ => rfl) h0
    | index a b c => exact go rfl (by simp) (fun _ _ _ => rfl) h0
    | lookup a b c d => exact go rfl (by simp) (fun _ _ _ => rfl) h0
    | binOp a b c d f => exact absurd rfl (n8b a b c d f)
    | pick a b c => exact go rfl (by simp) (fun _ _ _ => rfl) h0
    | unOp a b c => exact go rfl (by simp) (fun _ _ _ => rfl) h0
    | convert a b c => exact absurd rfl (n8c a b c)
    | slice a b c d f => exact go rfl (by simp) (fun _ _ _ => rfl) h0
    | build a b => exact go rfl (by simp) (fun _ _ _ => rfl) h0
    | makeFunc a b c => exact go rfl (by simp) (fun _ _ _ => rfl) h0
    | nilCheck a => exact go rfl (by simp) (fun _ _ _ => rfl) h0
    | _ => exact absurd rfl hk
end
end Go.Proofs.YtkbknlcdinkokaaDoor.Ev
end
