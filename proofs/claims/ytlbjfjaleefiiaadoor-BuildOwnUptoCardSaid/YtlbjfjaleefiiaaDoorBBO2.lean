/- Of what the law BuildOwn needs: part 2. -/
import Derived.Lib.ConvBytes
import Derived.Test.YtlbjfjaleefiiaaDoorBBO1
set_option linter.unusedSimpArgs false
set_option linter.unusedVariables false
section
namespace Go.Proofs.YtlbjfjaleefiiaaDoor.Ev
open Go
section
variable {C : Ctx} {nt : Nat} {mv : List Nat} {e : Env} {H : Heap} {a : Act} {W : Wd} {K : Env → Heap → Prop} {Q : Exit → Act → World → Prop}
theorem asRow_weak {W W₁ : Wd} {keep : Root → Nat → Prop} (h2 : Evo W W₁ keep) {rg : Option Root} {ig : Nat} {g : FV} {v : Value} {r : List PV} (hu : FRep W rg ig g v) (hr : g.asRow = some r) :
    FRep W₁ none 0 (.sc (.sl r)) v ∨ ∃ s, g = .sc (.str s) ∧ v = .string s := by
  cases hu with
  | @sc _ _ p v hp hrep =>
    cases p with
    | str s => right; cases hrep; exact ⟨s, rfl, rfl⟩
    | sl l' => simp [FV.asRow] at hr; subst hr; left; exact .sc rfl (hrep.mono h2.cell h2.lim)
    | _ => simp [FV.asRow] at hr
  | own p q => simp [FV.asRow] at hr; subst hr; left; exact .sc rfl (p.mono h2.cell h2.lim)
  | emp => simp [FV.asRow] at hr; subst hr; left; exact .sc rfl .nil
  | _ => simp [FV.asRow] at hr
theorem flat_get {s : Nat} (hs : 0 < s) : ∀ {r : List PV} {k : Nat} {q : PV}, Sized s r → (r.flatMap PV.leaves)[k]? = some q → ∃ p, r[k / s]? = some p ∧ p.leaves[k % s]? = some q
  | [], k, q, _, h => by simp at h
  | p :: r, k, q, hz, h => by
    have hp : p.leaves.length = s := hz p (by simp)
    rw [List.flatMap_cons] at h
    by_cases hk : k < s
    · rw [List.getElem?_append_left (by omega)] at h
      exact ⟨p, by rw [Nat.div_eq_of_lt hk]; rfl, by rw [Nat.mod_eq_of_lt hk]; exact h⟩
    · rw [List.getElem?_append_right (by omega), hp] at h
      obtain ⟨p', h1, h2⟩ := flat_get hs (fun x hx => hz x (by simp [hx])) h
      have e1 : k / s = (k - s) / s + 1 := by
        rw [← Nat.add_div_right _ hs]; congr 1; omega
      have e2 : k % s = (k - s) % s := by
        rw [← Nat.add_mod_right (k - s)]; congr 1; omega
      exact ⟨p', by rw [e1]; exact h1, by rw [e2]; exact h2⟩
theorem flat_len {s : Nat} : ∀ {r : List PV}, Sized s r → (r.flatMap PV.leaves).length = r.length * s
  | [], _ => by simp
  | p :: r, hz => by
    rw [List.flatMap_cons, List.length_append, hz p (by simp), flat_len (fun x hx => hz x (by simp [hx])), List.length_cons, Nat.add_mul]; omega
theorem grow_box {P : Program} (hC : C.P = P) {W : Wd} {root : Root} (hH : HInv C H W) {r : List PV} {v u : Value} {tyId t ut el : TypeId} {ud : TypeDesc} {ts : Array TypeId} {m bs : Nat} {z : Value} {rg : Option Root} {ig : Nat} {g : FV}
    (hv : FRep W (some root) 0 (.own []) v) (hu : FRep W rg ig g u) (hg : g.asRow = some r) (hr0 : r ≠ []) (ht : ts[0]? = some t) (ht' : ts[1]? = some ut) (hud : P.underlying ut = some ud) (hni : ∀ k, ud ≠ .int k)
    (hel : P.underlying t = some (.slice el)) (hsz : szOf P el = some (m + 1)) (hz : zeroOf P el = some z) (hzs : z.cells.size = m + 1) (hbs : bytesOf P el = some bs) (hb0 : 0 < bs) (hb1 : bs ≤ 256)
    (hr : Sized (m + 1) r) (hle : r.length ≤ lenMax) :
    ∃ W' x, (Builtin.append_ ts tyId #[v, u]).run P W.w = .ok x W'.w ∧ FRep W' (some root) 0 (.bs H.length 0 r.length) x ∧ HInv C (H ++ [(r.flatMap PV.leaves).map .sc]) W' ∧ Evo W W' (fun _ _ => True) := by
  subst hC
  obtain ⟨ns, hns1, hns2, hns3, _⟩ := row_sound (P := C.P) hu hg hr
  have hi : ∃ i, C.P.info? el = some i ∧ i.bytes = bs := by
    unfold bytesOf at hbs
    exact Option.map_eq_some_iff.1 hbs
  obtain ⟨inf, hinf, hinfb⟩ := hi
  have hDv := hv.mono (Evo.drew W (fun _ _ => True)) (by simp)
  have hDu := hu.mono (Evo.drew W (fun _ _ => True)) (by simp)
  cases hv with
  | @own _ _ _ A len cap hrep hsp =>
    have hlen := hrep.length
    simp only [List.length_nil] at hlen
    subst hlen
    have hcap : cap = 0 := by
      rcases hsp with h | ⟨e₀, _, _, _, _, h0, _⟩
      · exact h
      · simp at h0
    subst hcap
    have hrl : 0 < r.length := List.length_pos_iff.2 hr0
    have e0 : (#[Value.slice A 0 0, u] : Array Value)[0]? = some (.slice A 0 0) := rfl
    have e1 : (#[Value.slice A 0 0, u] : Array Value)[1]? = some u := rfl
    unfold Builtin.append_
    simp only [ht, e0, e1, ht', Sem.run_bind, run_underlying' hel, run_underlying' hud, Result.andThen_ok, run_sizeOf' hsz, Sem.run_pure, Bool.false_eq_true, if_false, hns1, Nat.zero_add]
    rw [if_neg (by omega)]
    obtain ⟨ns', _, hns2', hns3', _⟩ := row_sound (P := C.P) hDu hg hr
    obtain ⟨os', _, hos2', hos3', _⟩ := row_sound (P := C.P) (m := m) hDv (show (FV.own []).asRow = some [] from rfl) (fun _ h => by simp at h)
    have hos0 : os' = #[] := by
      have := hos3'.size
      simpa using this
    subst hos0
    have hos2' : Sem.run C.P (Builtin.firstCells (m + 1) 0 (.slice A 0 0)) W.drew.w = .ok #[] W.drew.w := hos2'
    have hcapb := nextcap_le (n := r.length) (c := 0) (by omega)
    have hlim : r.length ≤ 137438953472 := hle
    have hnr : ¬ (Builtin.nextslicecap (r.length) 0 * bs > 2 ^ 48) := by
      have : Builtin.nextslicecap (r.length) 0 * bs ≤ (2 * (r.length) + 256) * 256 := Nat.mul_le_mul hcapb hb1
      omega
    have hforced : (Question.appendCap (r.length) 0 el).forced = false := rfl
    have hch : (choose (.appendCap (r.length) 0 el)).run C.P W.w = .ok ((Question.appendCap (r.length) 0 el).cut (W.w.tape W.w.drawn (.appendCap (r.length) 0 el))) W.drew.w := by
      simp [hforced, Wd.drew]
    generalize hN : (Question.appendCap (r.length) 0 el).cut (W.w.tape W.w.drawn (.appendCap (r.length) 0 el)) = N at hch
    have hNge : r.length ≤ N := by rw [← hN]; simp [Question.cut]
    simp only [Bool.not_false, if_true, Sem.run_bind, run_typeInfo' hinf, Result.andThen_ok, hinfb, false_or]
    rw [if_neg (by omega)]
    simp only [Sem.run_bind, run_typeInfo' hinf, Result.andThen_ok, hinfb]
    rw [if_neg hnr]
    simp only [Sem.run_bind, hch, Result.andThen_ok, run_typeInfo' hinf, run_askRoom, hos2', hns2', run_zeroValue' hz, newRow, run_newObj, Sem.run_pure, World.alloc_eq]
    generalize hR : Builtin.zeroCells z.cells (N - (r.length)) = rest
    have hHd := hH.drew
    have hfl := flat_len hr
    obtain ⟨W', hw, hH', hE, hβ, ho⟩ := hHd.newBox (#[] ++ ns' ++ rest) el ((r.flatMap PV.leaves).map .sc) (by rw [List.length_map, hfl, Array.size_append, Array.size_append, hns3'.size]; omega) (fun k f v hf hv => by
      rw [List.getElem?_map] at hf
      obtain ⟨q, hq, rfl⟩ := Option.map_eq_some_iff.1 hf
      obtain ⟨p, h1, h2⟩ := flat_get (Nat.succ_pos m) hr hq
      obtain ⟨c, h3, h4, h5⟩ := hns3'.cell _ _ _ _ h1 h2
      have hk : k / (m + 1) * (m + 1) + k % (m + 1) = k := by rw [Nat.mul_comm]; exact Nat.div_add_mod k (m + 1)
      rw [hk] at h3
      have hlt : k < ns'.size := (Array.getElem?_eq_some_iff.1 h3).1
      rw [Array.empty_append, Array.getElem?_append_left hlt, h3] at hv
      obtain rfl := Option.some.inj hv
      exact ⟨h4, .sc h4 h5⟩)
    have hEE : Evo W W' (fun _ _ => True) := ((Evo.drew W (fun _ _ => True)).trans hE).weaken (by simp)
    refine ⟨W', _, by rw [hw], ?_, hH', hEE⟩
    have hb : FRep W' (some root) 0 (.bs H.length 0 r.length) (.slice (some ⟨W'.β H.length, 0, none⟩) r.length N) := .bs (by rw [hβ]; exact ho) (by omega)
    rw [hβ] at hb
    simpa using hb
theorem wp_append_box (hi : Inv C nt e H a W) {o : Oper} (hd : dstOk nt o.dst) {x y : Operand} {args : Array Operand} {ts : Array TypeId} (ho : o.op = .call { callee := .builtin .append, args, argTypes := ts })
    (hargs : args.toList = [x, y]) {t u el : TypeId} {tr : List TypeId} (hts : ts.toList = t :: u :: tr) {ud : TypeDesc} (hel : C.P.underlying t = some (.slice el)) (hud : C.P.underlying u = some ud) {m bs : Nat} {z : Value} {f g : FV} {e' : Env} {r : List PV}
    (hsz : szOf C.P el = some (m + 1)) (hz : zeroOf C.P el = some z) (hbs : bytesOf C.P el = some bs) (hg : give C e x = some (f, e')) (hy : rd C e y = some g) (hf : f.home = .own []) (hr : g.asRow = some r) (hr0 : r ≠ [])
    (hni : ∀ k, ud ≠ .int k) (hzs : z.cells.size = m + 1) (hb0 : 0 < bs) (hb1 : bs ≤ 256) (hrs : Sized (m + 1) r) (hle : r.length ≤ lenMax) (hK : K (e'.put o.dst (.bs H.length 0 r.length)) (H ++ [(r.flatMap PV.leaves).map .sc])) :
    o.wp C.P a W.w (After C nt W K) Q := by
  have hdr : ∃ d : Root, (∀ i, d ≠ .box i) ∧ (∀ i j, d ≠ .leaf i j) ∧ (∀ t, o.dst = some t → d = .tmp t) ∧ ∀ t, d = .tmp t → o.dst = some t := by
    cases hod : o.dst with
    | none => exact ⟨.res, by simp, by simp, by simp, by simp⟩
    | some t => exact ⟨.tmp t, by simp, by simp, by simp, by simp⟩
  obtain ⟨d, hd1, hd2, hd3, hd4⟩ := hdr
  obtain ⟨W₁, h1, h1l, h1b, h2, h3, h4, h5⟩ := give_sound hi hg (r := d) hd1
  have h3' := h3.home
  rw [hf] at h3'
  obtain ⟨_, _, hu⟩ := rd_sound hi hy
  have hgs := asRow_weak h2 hu hr
  have hgo : ∃ (W' : Wd) (v : Value), (Builtin.append_ ts o.type #[a.eval x, a.eval y]).run C.P W₁.w = .ok v W'.w ∧ FRep W' (some d) 0 (.bs H.length 0 r.length) v ∧ HInv C (H ++ [(r.flatMap PV.leaves).map .sc]) W' ∧ Evo W₁ W' (fun _ _ => True) := by
    have ht0 : ts[0]? = some t := by rw [← Array.getElem?_toList, hts]; rfl
    have ht1 : ts[1]? = some u := by rw [← Array.getElem?_toList, hts]; rfl
    rcases hgs with hgs | ⟨s, rfl, hs⟩
    · exact grow_box rfl (h5 H hi.heap) h3' hgs rfl hr0 ht0 ht1 hud hni hel hsz hz hzs hbs hb0 hb1 hrs hle
    · exact grow_box rfl (h5 H hi.heap) h3' (rg := none) (ig := 0) (g := .sc (.str s)) (by rw [hs]; exact .mkStr) hr hr0 ht0 ht1 hud hni hel hsz hz hzs hbs hb0 hb1 hrs hle
  obtain ⟨W', v, g1, g2, g3, g4⟩ := hgo
  refine wp_of (s := Builtin.append_ ts o.type #[a.eval x, a.eval y]) (W' := W') (v := v) ?_ (by rw [← h1]; exact g1) ⟨g3, fun s => ?_, by rw [put_size]; exact hi.size, by rw [put_defers]; exact hi.defers⟩ (((h2.weaken (k' := fun _ _ => False) (by simp)).trans (g4.weaken (k' := fun _ _ => False) (by simp))).weaken (by simp)) hK
  · obtain ⟨dst, op, ty, pos, after, guard⟩ := o
    simp only at ho
    subst ho
    have : args = #[x, y] := by rw [← Array.toList_inj]; simpa using hargs
    subst this
    simp only [execOp, resolve, invoke, builtin, pure_bind, List.map_toArray, List.map_cons, List.map_nil]
  · rw [tmps_put hd hi.size, get_put]
    split
    · rename_i hdt
      rw [hd3 s hdt] at g2
      exact g2
    · rename_i hdt
      have hds : d ≠ .tmp s := fun h => hdt (hd4 s h)
      exact (h4 s hds).mono g4 (by simp)
theorem wp_append (hi : Inv C nt e H a W) {o : Oper} (hd : dstOk nt o.dst) {x y : Operand} {args : Array Operand} {ts : Array TypeId} (ho : o.op = .call { callee := .builtin .append, args, argTypes := ts })
    (hargs : args.toList = [x, y]) {t u el : TypeId} {tr : List TypeId} (hts : ts.toList = t :: u :: tr) {ud : TypeDesc} (hel : C.P.underlying t = some (.slice el)) (hud : C.P.underlying u = some ud) {m bs : Nat} {z : Value} {f g : FV} {e' : Env} {l r : List PV}
    (hsz : szOf C.P el = some (m + 1)) (hz : zeroOf C.P el = some z) (hbs : bytesOf C.P el = some bs) (hg : give C e x = some (f, e')) (hy : rd C e y = some g) (hf : f.home = .own l) (hr : g.asRow = some r)
    (hni : ∀ k, ud ≠ .int k) (hzs : z.cells.size = m + 1) (hb0 : 0 < bs) (hb1 : bs ≤ 256) (hl : Sized (m + 1) l) (hrs : Sized (m + 1) r) (hle : l.length + r.length ≤ lenMax) (hK : K (e'.put o.dst (.own (l ++ r))) H) :
    o.wp C.P a W.w (After C nt W K) Q := by
  have hdr : ∃ d : Root, (∀ i, d ≠ .box i) ∧ (∀ i j, d ≠ .leaf i j) ∧ (∀ t, o.dst = some t → d = .tmp t) ∧ ∀ t, d = .tmp t → o.dst = some t := by
    cases hod : o.dst with
    | none => exact ⟨.res, by simp, by simp, by simp, by simp⟩
    | some t => exact ⟨.tmp t, by simp, by simp, by simp, by simp⟩
  obtain ⟨d, hd1, hd2, hd3, hd4⟩ := hdr
  obtain ⟨W₁, h1, h1l, h1b, h2, h3, h4, h5⟩ := give_sound hi hg (r := d) hd1
  have h3' := h3.home
  rw [hf] at h3'
  obtain ⟨_, _, hu⟩ := rd_sound hi hy
  -- what is appended, seen behind the transfer
  have hgs := asRow_weak h2 hu hr
  have hgo : ∃ (W' : Wd) (v : Value), (Builtin.append_ ts o.type #[a.eval x, a.eval y]).run C.P W₁.w = .ok v W'.w ∧ FRep W' (some d) 0 (.own (l ++ r)) v ∧ HInv C H W' ∧ Evo W₁ W' (fun q _ => q ≠ d) := by
    have ht0 : ts[0]? = some t := by rw [← Array.getElem?_toList, hts]; rfl
    have ht1 : ts[1]? = some u := by rw [← Array.getElem?_toList, hts]; rfl
    rcases hgs with hgs | ⟨s, rfl, hs⟩
    · exact grow_sound hd1 hd2 (h5 H hi.heap) h3' hgs rfl ht0 ht1 hud hni hel hsz hz hzs hbs hb0 hb1 hl hrs hle
    · exact grow_sound hd1 hd2 (h5 H hi.heap) h3' (rg := none) (ig := 0) (g := .sc (.str s)) (by rw [hs]; exact .mkStr) hr ht0 ht1 hud hni hel hsz hz hzs hbs hb0 hb1 hl hrs hle
  obtain ⟨W', v, g1, g2, g3, g4⟩ := hgo
  refine wp_of (s := Builtin.append_ ts o.type #[a.eval x, a.eval y]) (W' := W') (v := v) ?_ (by rw [← h1]; exact g1) ⟨g3, fun s => ?_, by rw [put_size]; exact hi.size, by rw [put_defers]; exact hi.defers⟩ (((h2.weaken (k' := fun _ _ => False) (by simp)).trans (g4.weaken (k' := fun _ _ => False) (by simp))).weaken (by simp)) hK
  · obtain ⟨dst, op, ty, pos, after, guard⟩ := o
    simp only at ho
    subst ho
    have : args = #[x, y] := by rw [← Array.toList_inj]; simpa using hargs
    subst this
    simp only [execOp, resolve, invoke, builtin, pure_bind, List.map_toArray, List.map_cons, List.map_nil]
  · rw [tmps_put hd hi.size, get_put]
    split
    · rename_i hdt
      rw [hd3 s hdt] at g2
      exact g2
    · rename_i hdt
      have hds : d ≠ .tmp s := fun h => hdt (hd4 s h)
      exact (h4 s hds).mono g4 (fun q j hq => by cases hq; exact fun h => hds h.symm)
theorem wp_conv (hi : Inv C nt e H a W) {o : Oper} (hd : dstOk nt o.dst) {s d : TypeId} {x : Operand} (ho : o.op = .convert s d x) {t : ByteArray} (hc : bytesConv C e s d x = some t) (hK : K (e.put o.dst (.sc (.sl (bytesPV t)))) H) :
    o.wp C.P a W.w (After C nt W K) Q := by
  unfold bytesConv at hc
  split at hc
  · rename_i u el t' hs hdt hx
    split at hc
    · rename_i he
      simp at hc; subst hc
      obtain ⟨_, _, hr⟩ := rd_sound hi hx
      have hrun := Go.Lib.run_convert_string_bytes (P := C.P) W.w s d el t' hs hdt he
      let W' : Wd := { W with w := Go.Lib.bytesWorld W.w el t', lim := fun b => if b = W.w.heap.size then t'.size else W.lim b }
      have hold := fun b (hb : b < W.w.heap.size) => Go.Lib.bytesWorld_at_old W.w el t' b hb
      have hE : Evo W W' (fun _ _ => True) := by
        refine Evo.of rfl rfl rfl (by show W.w.heap.size ≤ (Go.Lib.bytesWorld W.w el t').heap.size; rw [Go.Lib.bytesWorld_size]; omega) (fun b off h => ?_) (fun b => ?_) (fun b c T fz h => ?_) (fun b r i h _ => ⟨h, ?_⟩) (fun b i h h' => ⟨h', h⟩) (fun _ => ⟨Nat.le_refl _, fun _ h => ⟨rfl, h⟩⟩) (fun b hb h => ?_)
        · exact Go.Lib.bytesWorld_old W.w el t' _ (lt_of_lim hi.heap.toFresh h)
        · simp only [W']
          split
          · subst_vars; rw [hi.heap.toFresh.lim _ (Nat.le_refl _)]; exact Nat.zero_le _
          · exact Nat.le_refl _
        · have hb : b < W.w.heap.size := by
            rcases Nat.lt_or_ge b W.w.heap.size with h' | h'
            · exact h'
            · simp [Array.getElem?_eq_none h'] at h
          exact ⟨c, by simp only [W']; rw [hold b hb]; exact h, rfl⟩
        · have := lt_of_o hi.heap.toFresh h
          simp only [W']; rw [if_neg (by omega)]
        · exact ⟨by simp only [W']; exact hold b hb, by simp only [W']; rw [if_neg (by omega)], h⟩
      have hH : HInv C H W' := by
        refine ⟨fun b fs hfs => ?_, fun g ls hls j q' hq' => ?_, fun b hb => ?_, hi.heap.boxes, hi.heap.gen0, hi.heap.kept.evo hE⟩
        · obtain ⟨h1, h2, c, T, fz, h3, h4, h5, h6⟩ := hi.heap.box b fs hfs
          have hlt := lt_of_o hi.heap.toFresh h1.1
          exact ⟨h1, by simp only [W']; rw [if_neg (by omega)]; exact h2, c, T, fz, by simp only [W']; rw [hold _ hlt]; exact h3, h4, h5, fun i f v hf hv => ⟨(h6 i f v hf hv).1, (h6 i f v hf hv).2.mono hE (by simp)⟩⟩
        · obtain ⟨h1, h2, v, h3, h4⟩ := hi.heap.laid g ls hls j q' hq'
          exact ⟨h1, Nat.lt_of_lt_of_le h2 (hE.lim g), v, by rw [hE.cell _ _ h2]; exact h3, h4.mono hE.cell hE.lim⟩
        · have hsz : (Go.Lib.bytesWorld W.w el t').heap.size = W.w.heap.size + 1 := Go.Lib.bytesWorld_size W.w el t'
          have hb' : W.w.heap.size + 1 ≤ b := by rw [← hsz]; exact hb
          obtain ⟨q1, q2⟩ := hi.heap.fresh b (by omega)
          exact ⟨by simp only [W']; rw [if_neg (by omega)]; exact q1, q2⟩
      have hlen : (bytesPV t').length = t'.size := by simp [bytesPV]
      have hcap : t'.size ≤ grownCap W.w t'.size 0 el := grownCap_ge W.w t'.size 0 el
      have hat : ∀ (i : Nat) (p : PV), (bytesPV t')[i]? = some p → i < t'.size ∧ p = .int .u8 (t'.data.toList.getD i 0).toNat := fun i p hp => by
        have hlt : i < t'.size := by rw [← hlen]; exact (List.getElem?_eq_some_iff.1 hp).1
        refine ⟨hlt, ?_⟩
        have hlt' : i < t'.data.toList.length := by simpa using hlt
        simp only [bytesPV, List.getElem?_map, List.getElem?_eq_getElem hlt', Option.map_some, Option.some.injEq] at hp
        rw [← hp]
        simp [List.getD, List.getElem?_eq_getElem hlt']
      have hrep : Rep W'.w W'.lim (.sl (bytesPV t')) (.slice (some ⟨W.w.heap.size, 0, none⟩) t'.size (grownCap W.w t'.size 0 el)) := by
        refine .sl (fun i _ => .int .u8 (t'.data.toList.getD i 0).toNat) (sz := 1) hlen.symm rfl (by decide) (fun i p hp => ?_) (fun i j p q hp hq => ?_) (fun i j p q hp hq => ?_) (fun i j p q hp hq => ?_) (fun i j p q hp hq => ?_) hcap
        all_goals obtain ⟨h1, rfl⟩ := hat i _ hp
        · rfl
        all_goals
          have hj : j = 0 := by
            have := (List.getElem?_eq_some_iff.1 hq).1
            simp [PV.leaves] at this; exact this
          subst hj
          obtain rfl := Option.some.inj (show some (PV.int .u8 ((t'.data.toList.getD i 0).toNat : Nat)) = some q from hq)
        · simp only [W', if_true]; omega
        · simp only [W', Nat.mul_one, Nat.add_zero, Nat.zero_add]; exact Go.Lib.bytesWorld_cell W.w el t' i h1
        · rfl
        · exact .int
      refine wp_of (s := convert s d (a.eval x)) (W' := W') (v := .slice (some ⟨W.w.heap.size, 0, none⟩) t'.size (grownCap W.w t'.size 0 el)) ?_ (by rw [hr.str]; exact hrun) ⟨hH, fun k => ?_, by rw [put_size]; exact hi.size, by rw [put_defers]; exact hi.defers⟩ (hE.weaken (by simp)) hK
      · obtain ⟨dst, op, ty, pos, after, guard⟩ := o; simp only at ho; subst ho; rfl
      · rw [tmps_put hd hi.size, get_put]
        split
        · exact .sc rfl hrep
        · exact (hi.env k).mono hE (by simp)
    · simp at hc
  · simp at hc
theorem wp_clear (hi : Inv C nt e H a W) {o : Oper} (hd : dstOk nt o.dst) {x : Operand} {args : Array Operand} {ts : Array TypeId} (ho : o.op = .call { callee := .builtin .clear, args, argTypes := ts }) (hargs : args.toList = [x])
    {t el : TypeId} {tr : List TypeId} (hts : ts.toList = t :: tr) (hel : C.P.underlying t = some (.slice el)) {m b off n : Nat} {z : Value} (hz : zeroOf C.P el = some z) (hzl : (FV.ofValues z.cells.toList).isSome = true) (hzs : z.cells.size = m + 1)
    (hx : rd C e x = some (.bs b off n)) (hle : off + n * (m + 1) ≤ (H.getD b []).length) (hK : K (e.put o.dst .undef) (H.set b ((H.getD b []).take off))) : o.wp C.P a W.w (After C nt W K) Q := by
  obtain ⟨_, _, hrx⟩ := rd_sound hi hx
  generalize hv : a.eval x = v at hrx
  cases hrx with
  | @bs _ _ _ _ _ cap hbo hcap =>
    have hlt := hi.heap.boxes _ _ _ hbo
    rw [heap_get hlt] at hle hK
    obtain ⟨kk, kb, k2, c, T, fz, k3, k4, k5, k6⟩ := hi.heap.box0 (List.getElem?_eq_getElem hlt) hbo
    have k1 := hbo
    obtain ⟨p0, p1, p2⟩ := kind_leaf (fs := H[b].take off) (fun i g hg => by
      have hio : i < off := by
        rcases Nat.lt_or_ge i off with h' | h'
        · exact h'
        · rw [List.getElem?_take_eq_none h'] at hg; simp at hg
      rw [List.getElem?_take_of_lt hio] at hg
      have hlt' := (List.getElem?_eq_some_iff.1 hg).1
      exact (k6 i g c[i] hg (by simp [show i < c.size by omega])).1)
    obtain ⟨zl, hzl⟩ := Option.isSome_iff_exists.1 hzl
    obtain ⟨z1, z2⟩ := ofValues_rep (W := W) hzl
    have hone : ∀ v ∈ (Builtin.zeroCells z.cells n).toList, v.oneCell' = true := fun v hv => by
      obtain ⟨j, hj⟩ := List.getElem?_of_mem hv
      have hjs : j < (Builtin.zeroCells z.cells n).size := by
        rcases Nat.lt_or_ge j (Builtin.zeroCells z.cells n).size with h' | h'
        · exact h'
        · rw [List.getElem?_eq_none (by simpa using h')] at hj; simp at hj
      rw [Array.getElem?_toList, Array.getElem?_eq_getElem hjs] at hj
      have hmod : j % z.cells.size < z.cells.size := Nat.mod_lt _ (by omega)
      have hval : v = z.cells[j % z.cells.size] := by
        have := Option.some.inj hj
        rw [← this]
        simp [Builtin.zeroCells, hmod]
      have hl : j % z.cells.size < zl.length := by rw [z1]; simpa using hmod
      obtain ⟨q1, q2⟩ := z2 (j % z.cells.size) zl[j % z.cells.size] v (List.getElem?_eq_getElem hl) (by rw [Array.getElem?_toList, Array.getElem?_eq_getElem hmod, hval])
      exact (q2.leafValue q1).1
    have hzn : (Builtin.zeroCells z.cells n).toList.length = n * (m + 1) := by rw [Array.length_toList, run_zeroCells hzs]
    obtain ⟨w', c', r1, r2, r3, r4, r5, r6, r7, r8, r9⟩ := run_storeCells_at' (P := C.P) (A := ⟨W.β b, off, none⟩) rfl (Builtin.zeroCells z.cells n).toList 0 W.w c T fz k3 (by simp only [hzn]; omega) k5 hone
    have hE : Evo W { W with w := w' } (fun _ _ => True) := by
      refine Evo.of r7 r8 r9 (by simp only [r6]; exact Nat.le_refl _) (fun b' o' ho' => ?_) (fun _ => Nat.le_refl _) (fun b' c₀ T₀ fz₀ hb' => ?_) (fun _ _ _ h _ => ⟨h, rfl⟩) (fun _ _ h h' => ⟨h', h⟩) (fun _ => ⟨Nat.le_refl _, fun _ h => ⟨rfl, h⟩⟩) (fun b' _ hb' => ?_)
      · have : b' ≠ W.β b := fun h => by rw [h, k2] at ho'; omega
        simp only [World.cell?, r5 b' this]
      · by_cases hbb : b' = W.β b
        · subst hbb
          rw [k3] at hb'
          simp only [Option.some.injEq, Obj.cells.injEq] at hb'
          obtain ⟨rfl, rfl, rfl⟩ := hb'
          exact ⟨c', r2, r3⟩
        · exact ⟨c₀, by simp only; rw [r5 b' hbb]; exact hb', rfl⟩
      · have : b' ≠ W.β b := fun h => by rw [h, k1] at hb'; simp at hb'
        exact ⟨by simp only; rw [r5 b' this], rfl, hb'⟩
    have hH : HInv C (H.set b (H[b].take off)) { W with w := w' } := by
      refine ⟨fun b' gs hgs => ?_, fun g ls hls j q' hq' => ?_, fun b' hb' => ?_, fun b' i k hb' => ?_, fun b' hb' => hi.heap.gen0 b' (by simpa using hb'), hi.heap.kept.evo hE⟩
      · by_cases hbb : b' = b
        · subst hbb
          rw [List.getElem?_set_self hlt] at hgs
          simp only [Option.some.injEq] at hgs
          subst hgs
          refine ⟨⟨by rw [p0]; exact k1, p2 _ _⟩, k2, c', T, fz, r2, by rw [p1, r3, List.length_take]; omega, by rw [r3]; exact k5, fun i g v hg hv => ?_⟩
          rw [p1] at hg
          have hio : i < off := by
            rcases Nat.lt_or_ge i off with h' | h'
            · exact h'
            · rw [List.getElem?_take_eq_none h'] at hg; simp at hg
          rw [List.getElem?_take_of_lt hio] at hg
          rw [r4, if_neg (by simp only; omega)] at hv
          exact ⟨(k6 i g v hg hv).1, (k6 i g v hg hv).2.mono hE (by simp)⟩
        · rw [List.getElem?_set_ne (fun h => hbb h.symm)] at hgs
          obtain ⟨m1, m2, c₂, T₂, fz₂, m3, m4, m5, m6⟩ := hi.heap.box b' gs hgs
          have hne : W.β b' ≠ W.β b := fun h => by
            have q := m1.1
            rw [h, k1] at q
            simp at q
            exact hbb q.1.symm
          exact ⟨m1, m2, c₂, T₂, fz₂, by simp only; rw [r5 _ hne]; exact m3, m4, m5, fun i g v hg hv => ⟨(m6 i g v hg hv).1, (m6 i g v hg hv).2.mono hE (by simp)⟩⟩
      · obtain ⟨m1, m2, v, m3, m4⟩ := hi.heap.laid g ls hls j q' hq'
        exact ⟨m1, m2, v, by rw [hE.cell _ _ m2]; exact m3, m4.mono hE.cell hE.lim⟩
      · simp only [r6] at hb'
        exact hi.heap.fresh b' hb'
      · rw [List.length_set]
        exact hi.heap.boxes b' i k hb'
    have ht0 : ts[0]? = some t := by rw [← Array.getElem?_toList, hts]; rfl
    have hrun : (Builtin.clear_ ts o.type #[.slice (some ⟨W.β b, off, none⟩) n cap]).run C.P W.w = .ok (.tuple #[]) w' := by
      have e0 : (#[Value.slice (some ⟨W.β b, off, none⟩) n cap] : Array Value)[0]? = some (.slice (some ⟨W.β b, off, none⟩) n cap) := rfl
      unfold Builtin.clear_
      cases n with
      | zero =>
        have : w' = W.w := by
          have h0 : (Builtin.zeroCells z.cells 0).toList = [] := List.eq_nil_of_length_eq_zero (by rw [hzn]; omega)
          rw [h0] at r1
          simp [storeCells] at r1
          exact r1.symm
        subst this
        simp only [ht0, e0, Sem.run_bind, run_underlying' hel, Result.andThen_ok, Sem.run_pure]
      | succ n =>
        simp only [ht0, e0, Sem.run_bind, run_underlying' hel, Result.andThen_ok, run_zeroValue' hz, r1, Sem.run_pure]
    refine wp_of (s := Builtin.clear_ ts o.type #[a.eval x]) (W' := { W with w := w' }) (v := .tuple #[]) ?_ (by rw [hv]; exact hrun) ⟨hH, fun k => ?_, by rw [put_size]; exact hi.size, by rw [put_defers]; exact hi.defers⟩ (hE.weaken (by simp)) hK
    · obtain ⟨dst, op, ty, pos, after, guard⟩ := o
      simp only at ho
      subst ho
      have : args = #[x] := by rw [← Array.toList_inj]; simpa using hargs
      subst this
      simp only [execOp, resolve, invoke, builtin, pure_bind, List.map_toArray, List.map_cons, List.map_nil]
    · rw [tmps_put hd hi.size, get_put]
      split
      · exact .undef
      · exact (hi.env k).mono hE (by simp)
theorem wp_clear_nil (hi : Inv C nt e H a W) {o : Oper} (hd : dstOk nt o.dst) {x : Operand} {args : Array Operand} {ts : Array TypeId} (ho : o.op = .call { callee := .builtin .clear, args, argTypes := ts }) (hargs : args.toList = [x])
    {t el : TypeId} {tr : List TypeId} (hts : ts.toList = t :: tr) (hel : C.P.underlying t = some (.slice el)) (hx : rd C e x = some (.sc (.sl []))) (hK : K (e.put o.dst .undef) H) : o.wp C.P a W.w (After C nt W K) Q := by
  obtain ⟨_, _, hrx⟩ := rd_sound hi hx
  obtain ⟨A, len, cap, hv, hr⟩ := hrx.list (show (FV.sc (.sl [])).asList = some [] from rfl)
  rw [hv] at hr
  obtain rfl : len = 0 := by simpa using hr.length
  have ht0 : ts[0]? = some t := by rw [← Array.getElem?_toList, hts]; rfl
  have hrun : (Builtin.clear_ ts o.type #[.slice A 0 cap]).run C.P W.w = .ok (.tuple #[]) W.w := by
    have e0 : (#[Value.slice A 0 cap] : Array Value)[0]? = some (.slice A 0 cap) := rfl
    unfold Builtin.clear_
    cases A <;> simp only [ht0, e0, Sem.run_bind, run_underlying' hel, Result.andThen_ok, Sem.run_pure]
  refine wp_of (s := Builtin.clear_ ts o.type #[a.eval x]) (W' := W) (v := .tuple #[]) ?_ (by rw [hv]; exact hrun) ⟨hi.heap, fun k => ?_, by rw [put_size]; exact hi.size, by rw [put_defers]; exact hi.defers⟩ (Evo.refl _ _) hK
  · obtain ⟨dst, op, ty, pos, after, guard⟩ := o
    simp only at ho
    subst ho
    have : args = #[x] := by rw [← Array.toList_inj]; simpa using hargs
    subst this
    simp only [execOp, resolve, invoke, builtin, pure_bind, List.map_toArray, List.map_cons, List.map_nil]
  · rw [tmps_put hd hi.size, get_put]
    split
    · exact .undef
    · exact hi.env k
end
end Go.Proofs.YtlbjfjaleefiiaaDoor.Ev
end
section
namespace Go.Proofs.YtlbjfjaleefiiaaDoor.Ev
open Go
section
variable {C : Ctx} {nt : Nat} {mv : List Nat} {e : Env} {H : Heap} {a : Act} {W : Wd} {K : Env → Heap → Prop} {Q : Exit → Act → World → Prop}
theorem grow_row {P : Program} (hC : C.P = P) {W : Wd} {root : Root} (hH : HInv C H W) {r : List PV} {v u : Value} {tyId t ut el : TypeId} {ud : TypeDesc} {ts : Array TypeId} {m bs : Nat} {z : Value} {rg : Option Root} {ig : Nat} {g : FV}
    (hv : FRep W (some root) 0 (.own []) v) (hu : FRep W rg ig g u) (hg : g.asRow = some r) (hr0 : r ≠ []) (ht : ts[0]? = some t) (ht' : ts[1]? = some ut) (hud : P.underlying ut = some ud) (hni : ∀ k, ud ≠ .int k)
    (hel : P.underlying t = some (.slice el)) (hsz : szOf P el = some (m + 1)) (hz : zeroOf P el = some z) (hzs : z.cells.size = m + 1) (hbs : bytesOf P el = some bs) (hb0 : 0 < bs) (hb1 : bs ≤ 256)
    (hr : Sized (m + 1) r) (hle : r.length ≤ lenMax) :
    ∃ W' x, (Builtin.append_ ts tyId #[v, u]).run P W.w = .ok x W'.w ∧ FRep W' (some root) 0 (.gr H.length 0 (m + 1) r.length) x ∧ HInv C (H ++ [[.row 0 ((r.flatMap PV.leaves).map .sc)]]) W' ∧ Evo W W' (fun _ _ => True) := by
  subst hC
  obtain ⟨ns, hns1, hns2, hns3, _⟩ := row_sound (P := C.P) hu hg hr
  have hi : ∃ i, C.P.info? el = some i ∧ i.bytes = bs := by
    unfold bytesOf at hbs
    exact Option.map_eq_some_iff.1 hbs
  obtain ⟨inf, hinf, hinfb⟩ := hi
  have hDv := hv.mono (Evo.drew W (fun _ _ => True)) (by simp)
  have hDu := hu.mono (Evo.drew W (fun _ _ => True)) (by simp)
  cases hv with
  | @own _ _ _ A len cap hrep hsp =>
    have hlen := hrep.length
    simp only [List.length_nil] at hlen
    subst hlen
    have hcap : cap = 0 := by
      rcases hsp with h | ⟨e₀, _, _, _, _, h0, _⟩
      · exact h
      · simp at h0
    subst hcap
    have hrl : 0 < r.length := List.length_pos_iff.2 hr0
    have e0 : (#[Value.slice A 0 0, u] : Array Value)[0]? = some (.slice A 0 0) := rfl
    have e1 : (#[Value.slice A 0 0, u] : Array Value)[1]? = some u := rfl
    unfold Builtin.append_
    simp only [ht, e0, e1, ht', Sem.run_bind, run_underlying' hel, run_underlying' hud, Result.andThen_ok, run_sizeOf' hsz, Sem.run_pure, Bool.false_eq_true, if_false, hns1, Nat.zero_add]
    rw [if_neg (by omega)]
    obtain ⟨ns', _, hns2', hns3', _⟩ := row_sound (P := C.P) hDu hg hr
    obtain ⟨os', _, hos2', hos3', _⟩ := row_sound (P := C.P) (m := m) hDv (show (FV.own []).asRow = some [] from rfl) (fun _ h => by simp at h)
    have hos0 : os' = #[] := by
      have := hos3'.size
      simpa using this
    subst hos0
    have hos2' : Sem.run C.P (Builtin.firstCells (m + 1) 0 (.slice A 0 0)) W.drew.w = .ok #[] W.drew.w := hos2'
    have hcapb := nextcap_le (n := r.length) (c := 0) (by omega)
    have hlim : r.length ≤ 137438953472 := hle
    have hnr : ¬ (Builtin.nextslicecap (r.length) 0 * bs > 2 ^ 48) := by
      have : Builtin.nextslicecap (r.length) 0 * bs ≤ (2 * (r.length) + 256) * 256 := Nat.mul_le_mul hcapb hb1
      omega
    have hforced : (Question.appendCap (r.length) 0 el).forced = false := rfl
    have hch : (choose (.appendCap (r.length) 0 el)).run C.P W.w = .ok ((Question.appendCap (r.length) 0 el).cut (W.w.tape W.w.drawn (.appendCap (r.length) 0 el))) W.drew.w := by
      simp [hforced, Wd.drew]
    generalize hN : (Question.appendCap (r.length) 0 el).cut (W.w.tape W.w.drawn (.appendCap (r.length) 0 el)) = N at hch
    have hNge : r.length ≤ N := by rw [← hN]; simp [Question.cut]
    simp only [Bool.not_false, if_true, Sem.run_bind, run_typeInfo' hinf, Result.andThen_ok, hinfb, false_or]
    rw [if_neg (by omega)]
    simp only [Sem.run_bind, run_typeInfo' hinf, Result.andThen_ok, hinfb]
    rw [if_neg hnr]
    simp only [Sem.run_bind, hch, Result.andThen_ok, run_typeInfo' hinf, run_askRoom, hos2', hns2', run_zeroValue' hz, newRow, run_newObj, Sem.run_pure, World.alloc_eq]
    generalize hR : Builtin.zeroCells z.cells (N - (r.length)) = rest
    have hHd := hH.drew
    have hfl := flat_len hr
    obtain ⟨W', hw, hH', hE, hβ, ho, hgn⟩ := hHd.newRow (#[] ++ ns' ++ rest) el ((r.flatMap PV.leaves).map .sc) (by rw [List.length_map, hfl, Array.size_append, Array.size_append, hns3'.size]; omega) (fun k f v hf hv => by
      rw [List.getElem?_map] at hf
      obtain ⟨q, hq, rfl⟩ := Option.map_eq_some_iff.1 hf
      obtain ⟨p, h1, h2⟩ := flat_get (Nat.succ_pos m) hr hq
      obtain ⟨c, h3, h4, h5⟩ := hns3'.cell _ _ _ _ h1 h2
      have hk : k / (m + 1) * (m + 1) + k % (m + 1) = k := by rw [Nat.mul_comm]; exact Nat.div_add_mod k (m + 1)
      rw [hk] at h3
      have hlt : k < ns'.size := (Array.getElem?_eq_some_iff.1 h3).1
      rw [Array.empty_append, Array.getElem?_append_left hlt, h3] at hv
      obtain rfl := Option.some.inj hv
      exact ⟨h4, .sc h4 h5⟩)
    have hEE : Evo W W' (fun _ _ => True) := ((Evo.drew W (fun _ _ => True)).trans hE).weaken (by simp)
    refine ⟨W', _, by rw [hw], ?_, hH', hEE⟩
    have hb : FRep W' (some root) 0 (.gr H.length 0 (m + 1) r.length) (.slice (some ⟨W'.β H.length, 0, none⟩) r.length N) := .gr (Nat.zero_le _) (by omega) fun _ => ⟨rfl, by rw [hβ]; exact ho, _, _, _, by rw [hβ, hw]; exact heap_alloc_new, by
      rw [Array.size_append, Array.size_append, hns3'.size, ← hR, run_zeroCells hzs]
      simp only [List.size_toArray, List.length_nil, Nat.zero_add]
      rw [← Nat.add_mul]
      exact Nat.le_of_eq (by congr 1; omega)⟩
    rw [hβ] at hb
    simpa using hb
theorem wp_append_row (hi : Inv C nt e H a W) {o : Oper} (hd : dstOk nt o.dst) {x y : Operand} {args : Array Operand} {ts : Array TypeId} (ho : o.op = .call { callee := .builtin .append, args, argTypes := ts })
    (hargs : args.toList = [x, y]) {t u el : TypeId} {tr : List TypeId} (hts : ts.toList = t :: u :: tr) {ud : TypeDesc} (hel : C.P.underlying t = some (.slice el)) (hud : C.P.underlying u = some ud) {m bs : Nat} {z : Value} {f g : FV} {e' : Env} {r : List PV}
    (hsz : szOf C.P el = some (m + 1)) (hz : zeroOf C.P el = some z) (hbs : bytesOf C.P el = some bs) (hg : give C e x = some (f, e')) (hy : rd C e y = some g) (hf : f.home = .own []) (hr : g.asRow = some r) (hr0 : r ≠ [])
    (hni : ∀ k, ud ≠ .int k) (hzs : z.cells.size = m + 1) (hb0 : 0 < bs) (hb1 : bs ≤ 256) (hrs : Sized (m + 1) r) (hle : r.length ≤ lenMax) (hK : K (e'.put o.dst (.gr H.length 0 (m + 1) r.length)) (H ++ [[.row 0 ((r.flatMap PV.leaves).map .sc)]])) :
    o.wp C.P a W.w (After C nt W K) Q := by
  have hdr : ∃ d : Root, (∀ i, d ≠ .box i) ∧ (∀ i j, d ≠ .leaf i j) ∧ (∀ t, o.dst = some t → d = .tmp t) ∧ ∀ t, d = .tmp t → o.dst = some t := by
    cases hod : o.dst with
    | none => exact ⟨.res, by simp, by simp, by simp, by simp⟩
    | some t => exact ⟨.tmp t, by simp, by simp, by simp, by simp⟩
  obtain ⟨d, hd1, hd2, hd3, hd4⟩ := hdr
  obtain ⟨W₁, h1, h1l, h1b, h2, h3, h4, h5⟩ := give_sound hi hg (r := d) hd1
  have h3' := h3.home
  rw [hf] at h3'
  obtain ⟨_, _, hu⟩ := rd_sound hi hy
  have hgs := asRow_weak h2 hu hr
  have hgo : ∃ (W' : Wd) (v : Value), (Builtin.append_ ts o.type #[a.eval x, a.eval y]).run C.P W₁.w = .ok v W'.w ∧ FRep W' (some d) 0 (.gr H.length 0 (m + 1) r.length) v ∧ HInv C (H ++ [[.row 0 ((r.flatMap PV.leaves).map .sc)]]) W' ∧ Evo W₁ W' (fun _ _ => True) := by
    have ht0 : ts[0]? = some t := by rw [← Array.getElem?_toList, hts]; rfl
    have ht1 : ts[1]? = some u := by rw [← Array.getElem?_toList, hts]; rfl
    rcases hgs with hgs | ⟨s, rfl, hs⟩
    · exact grow_row rfl (h5 H hi.heap) h3' hgs rfl hr0 ht0 ht1 hud hni hel hsz hz hzs hbs hb0 hb1 hrs hle
    · exact grow_row rfl (h5 H hi.heap) h3' (rg := none) (ig := 0) (g := .sc (.str s)) (by rw [hs]; exact .mkStr) hr hr0 ht0 ht1 hud hni hel hsz hz hzs hbs hb0 hb1 hrs hle
  obtain ⟨W', v, g1, g2, g3, g4⟩ := hgo
  refine wp_of (s := Builtin.append_ ts o.type #[a.eval x, a.eval y]) (W' := W') (v := v) ?_ (by rw [← h1]; exact g1) ⟨g3, fun s => ?_, by rw [put_size]; exact hi.size, by rw [put_defers]; exact hi.defers⟩ (((h2.weaken (k' := fun _ _ => False) (by simp)).trans (g4.weaken (k' := fun _ _ => False) (by simp))).weaken (by simp)) hK
  · obtain ⟨dst, op, ty, pos, after, guard⟩ := o
    simp only at ho
    subst ho
    have : args = #[x, y] := by rw [← Array.toList_inj]; simpa using hargs
    subst this
    simp only [execOp, resolve, invoke, builtin, pure_bind, List.map_toArray, List.map_cons, List.map_nil]
  · rw [tmps_put hd hi.size, get_put]
    split
    · rename_i hdt
      rw [hd3 s hdt] at g2
      exact g2
    · rename_i hdt
      have hds : d ≠ .tmp s := fun h => hdt (hd4 s h)
      exact (h4 s hds).mono g4 (by simp)
def SrcAt (P : Program) (W : Wd) (w : World) (s b off : Nat) (c : List FV) (k : Nat) (u : Value) : Prop :=
  ∃ ns : Array Value, (Builtin.firstCells s k u).run P w = .ok ns w ∧ ns.size = c.length ∧ ∀ (j : Nat) (f : FV) (x : Value), c[j]? = some f → ns[j]? = some x → f.isLeaf = true ∧ FRep W (some (.leaf b (off + j))) 0 f x
def Src (P : Program) (W : Wd) (s b off : Nat) (c : List FV) (k : Nat) (u : Value) : Prop :=
  (Builtin.lenOf u).run P W.w = .ok k W.w ∧ c.length = k * s ∧ SrcAt P W W.w s b off c k u ∧ SrcAt P W W.w.drew s b off c k u
def Wd.regen (W : Wd) (b g : Nat) : Wd := { W with gen := fun x => if x = b then g else W.gen x }
theorem grow_in {P : Program} (hC : C.P = P) {W : Wd} (hH : HInv C H W) {b g n k m bs : Nat} {l c : List FV} {v u : Value} {tyId t ut el : TypeId} {ud : TypeDesc} {ts : Array TypeId} {z : Value} {rg : Option Root} {ig : Nat}
    (hb : rowOf H b = some (g, l)) (hv : FRep W rg ig (.gr b g (m + 1) n) v) (hnl : n * (m + 1) ≤ l.length) (hs : Src P W (m + 1) b (n * (m + 1)) c k u) (ht : ts[0]? = some t) (ht' : ts[1]? = some ut) (hud : P.underlying ut = some ud) (hni : ∀ k, ud ≠ .int k)
    (hel : P.underlying t = some (.slice el)) (hsz : szOf P el = some (m + 1)) (hz : zeroOf P el = some z) (hzs : z.cells.size = m + 1) (hbs : bytesOf P el = some bs) (hb0 : 0 < bs) (hb1 : bs ≤ 256) (hle : n + k ≤ lenMax) :
    ∃ W' x, (Builtin.append_ ts tyId #[v, u]).run P W.w = .ok x W'.w ∧ FRep W' none 0 (.gr b (g + 1) (m + 1) (n + k)) x ∧ HInv C (H.set b [.row (g + 1) (l.take (n * (m + 1)) ++ c)]) W' ∧ Evo W W' (fun q _ => ∀ i, q ≠ .box i) := by
  subst hC
  obtain ⟨hlt, hfs, hgen, hbo, hlim, ca, T, fz, hc, hlc, hfz, hcells⟩ := hH.row hb
  obtain ⟨hs1, hs5, ⟨ns, hs2, hs4, hs6⟩, ⟨ns₂, hs3, ht4, ht6⟩⟩ := hs
  have hi : ∃ i, C.P.info? el = some i ∧ i.bytes = bs := by
    unfold bytesOf at hbs
    exact Option.map_eq_some_iff.1 hbs
  obtain ⟨inf, hinf, hinfb⟩ := hi
  cases hv with
  | @gr _ _ _ _ _ _ cap A hg hcap hal =>
    obtain ⟨hA, _, c₂, T₂, fz₂, hc₂, hcs⟩ := hal hgen
    subst hA
    rw [hc] at hc₂
    simp only [Option.some.injEq, Obj.cells.injEq] at hc₂
    obtain ⟨rfl, rfl, rfl⟩ := hc₂
    have hone : ∀ v ∈ ns.toList, v.oneCell' = true := fun v hv => by
      obtain ⟨j, hj⟩ := List.getElem?_of_mem hv
      rw [Array.getElem?_toList] at hj
      have hjs := (Array.getElem?_eq_some_iff.1 hj).1
      have hjc := List.getElem?_eq_getElem (l := c) (i := j) (by omega)
      obtain ⟨q1, q2⟩ := hs6 j _ v hjc hj
      exact (q2.leafValue q1).1
    have e0 : (#[Value.slice (some ⟨W.β b, 0, none⟩) n cap, u] : Array Value)[0]? = some (.slice (some ⟨W.β b, 0, none⟩) n cap) := rfl
    have e1 : (#[Value.slice (some ⟨W.β b, 0, none⟩) n cap, u] : Array Value)[1]? = some u := rfl
    have hkn : ns.toList.length = k * (m + 1) := by rw [Array.length_toList, hs4, hs5]
    have htl : (l.take (n * (m + 1))).length = n * (m + 1) := by rw [List.length_take]; omega
    have hget : ∀ {i : Nat} {f : FV}, (l.take (n * (m + 1)) ++ c)[i]? = some f → (i < n * (m + 1) ∧ l[i]? = some f) ∨ (n * (m + 1) ≤ i ∧ c[i - n * (m + 1)]? = some f) := fun {i f} h => by
      by_cases hi : i < n * (m + 1)
      · rw [List.getElem?_append_left (by omega), List.getElem?_take_of_lt hi] at h
        exact .inl ⟨hi, h⟩
      · rw [List.getElem?_append_right (by omega), htl] at h
        exact .inr ⟨by omega, h⟩
    unfold Builtin.append_
    simp only [ht, e0, e1, ht', Sem.run_bind, run_underlying' hel, run_underlying' hud, Result.andThen_ok, run_sizeOf' hsz, Sem.run_pure, Bool.false_eq_true, if_false, hs1]
    by_cases hneed : n + k ≤ cap
    · rw [if_pos hneed]
      simp only [Bool.not_false, if_true, Sem.run_bind, hs2, Result.andThen_ok]
      have hmul : (n + k) * (m + 1) ≤ cap * (m + 1) := Nat.mul_le_mul_right _ hneed
      rw [Nat.add_mul] at hmul
      obtain ⟨w', c', r1, r2, r3, r4, r5, r6, r7, r8, r9⟩ := run_storeCells_at' (P := C.P) (A := (⟨W.β b, 0, none⟩ : Addr).add (n * (m + 1))) (by rw [Addr.add_none rfl]) ns.toList 0 W.w ca T fz (by rw [Addr.add_none rfl]; exact hc) (by rw [Addr.add_none rfl, hkn]; simp only; omega) hfz hone
      simp only [Addr.add_none (A := ⟨W.β b, 0, none⟩) rfl, hkn, Nat.add_zero, Nat.zero_add] at r2 r4 r5
      have hE : Evo W (Wd.regen { W with w := w' } b (g + 1)) (fun q _ => ∀ i, q ≠ .box i) := by
        refine Evo.of r7 r8 r9 (by show W.w.heap.size ≤ w'.heap.size; rw [r6]; exact Nat.le_refl _) (fun b' o' ho' => ?_) (fun _ => Nat.le_refl _) (fun b' c₀ T₀ fz₀ hb' => ?_) (fun _ _ _ h _ => ⟨h, rfl⟩) (fun _ _ h h' => ⟨h', h⟩) (fun i => ?_) (fun b' _ hb' => ?_)
        · have : b' ≠ W.β b := fun h => by rw [h, hlim] at ho'; omega
          simp only [Wd.regen, World.cell?, r5 b' this]
        · by_cases hbb : b' = W.β b
          · subst hbb
            rw [hc] at hb'
            simp only [Option.some.injEq, Obj.cells.injEq] at hb'
            obtain ⟨rfl, rfl, rfl⟩ := hb'
            exact ⟨c', r2, r3⟩
          · exact ⟨c₀, by simp only [Wd.regen]; rw [r5 b' hbb]; exact hb', rfl⟩
        · simp only [Wd.regen]
          split
          · subst_vars
            exact ⟨Nat.le_succ _, fun h => by omega⟩
          · exact ⟨Nat.le_refl _, fun _ h => ⟨trivial, h⟩⟩
        · have : b' ≠ W.β b := fun h => by rw [h, hbo] at hb'; simp at hb'
          exact ⟨by simp only [Wd.regen]; rw [r5 b' this], rfl, hb'⟩
      refine ⟨Wd.regen { W with w := w' } b (g + 1), .slice (some ⟨W.β b, 0, none⟩) (n + k) cap, ?_, ?_, ?_, hE⟩
      · simp only [Sem.run_bind, r1, Result.andThen_ok, Sem.run_pure]
        rfl
      · refine .gr (by simp [Wd.regen]) hneed fun _ => ⟨rfl, hbo, c', T, fz, r2, by rw [r3]; exact hcs⟩
      · refine ⟨fun b' gs hgs => ?_, fun g ls hls j q' hq' => ?_, fun b' hb' => ?_, fun b' i k hb' => ?_, fun b' hb' => ?_, hH.kept.evo hE⟩
        · by_cases hbb : b' = b
          · subst hbb
            rw [List.getElem?_set_self hlt] at hgs
            simp only [Option.some.injEq] at hgs
            subst hgs
            refine ⟨⟨hbo, by simp [GenOk, Wd.regen]⟩, hlim, c', T, fz, r2, ?_, by rw [r3]; exact hfz, fun i f x hf hx => ?_⟩
            · simp only [body, List.length_append, htl, hs5, r3]
              omega
            · rw [r4] at hx
              rcases hget hf with ⟨q1, q2⟩ | ⟨q1, q2⟩
              · rw [if_neg (by omega)] at hx
                exact ⟨(hcells i f x q2 hx).1, (hcells i f x q2 hx).2.mono hE (fun q j hq => by cases hq; simp)⟩
              · have := (List.getElem?_eq_some_iff.1 q2).1
                rw [if_pos (by omega), Array.getElem?_toList] at hx
                obtain ⟨q3, q4⟩ := hs6 _ f x q2 hx
                rw [show n * (m + 1) + (i - n * (m + 1)) = i by omega] at q4
                exact ⟨q3, q4.mono hE (fun q j hq => by cases hq; simp)⟩
          · rw [List.getElem?_set_ne (fun h => hbb h.symm)] at hgs
            obtain ⟨m1, m2, c₂, T₂, fz₂, m3, m4, m5, m6⟩ := hH.box b' gs hgs
            have hne : W.β b' ≠ W.β b := fun h => by
              have q := m1.1
              rw [h, hbo] at q
              simp at q
              exact hbb q.1.symm
            refine ⟨(m1.mono hE.toEvo0 (by simp [Wd.regen, hbb])).1, m2, c₂, T₂, fz₂, by simp only [Wd.regen]; rw [r5 _ hne]; exact m3, m4, m5, fun i f x hf hx => ⟨(m6 i f x hf hx).1, (m6 i f x hf hx).2.mono hE (fun q j hq => by cases hq; simp)⟩⟩
        · obtain ⟨m1, m2, x, m3, m4⟩ := hH.laid g ls hls j q' hq'
          exact ⟨m1, m2, x, by rw [hE.cell _ _ m2]; exact m3, m4.mono hE.cell hE.lim⟩
        · simp only [Wd.regen, r6] at hb'
          exact hH.fresh b' hb'
        · rw [List.length_set]
          exact hH.boxes b' i k hb'
        · rw [List.length_set] at hb'
          simp only [Wd.regen]
          rw [if_neg (by omega)]
          exact hH.gen0 b' hb'
    · rw [if_neg hneed]
      have hcapb := nextcap_le (n := n + k) (c := cap) (by omega)
      have hlim' : n + k ≤ 137438953472 := hle
      have hnr : ¬ (Builtin.nextslicecap (n + k) cap * bs > 2 ^ 48) := by
        have : Builtin.nextslicecap (n + k) cap * bs ≤ (2 * (n + k) + 256) * 256 := Nat.mul_le_mul hcapb hb1
        omega
      have hforced : (Question.appendCap (n + k) cap el).forced = false := rfl
      have hch : (choose (.appendCap (n + k) cap el)).run C.P W.w = .ok ((Question.appendCap (n + k) cap el).cut (W.w.tape W.w.drawn (.appendCap (n + k) cap el))) W.w.drew := by
        simp [hforced]
      generalize hN : (Question.appendCap (n + k) cap el).cut (W.w.tape W.w.drawn (.appendCap (n + k) cap el)) = N at hch
      have hNge : n + k ≤ N := by rw [← hN]; simp [Question.cut]
      have hos : (Builtin.firstCells (m + 1) n (.slice (some ⟨W.β b, 0, none⟩) n cap)).run C.P W.w.drew = .ok ((List.range (n * (m + 1))).map fun j => ca[j]?.getD default).toArray W.w.drew := by
        have hcd : W.w.drew.heap[W.β b]? = some (.cells ca T fz) := hc
        exact run_loadCells' (P := C.P) (w := W.w.drew) (A := ⟨W.β b, 0, none⟩) (fun j => ca[j]?.getD default) (fun j hj => by
          rw [Addr.add_none rfl]
          simp only [Nat.zero_add]
          rw [cell_of_heap hcd]
          simp [show j < ca.size by omega])
      simp only [Bool.not_false, if_true, Sem.run_bind, run_typeInfo' hinf, Result.andThen_ok, hinfb, false_or]
      rw [if_neg (by omega)]
      simp only [Sem.run_bind, run_typeInfo' hinf, Result.andThen_ok, hinfb]
      rw [if_neg hnr]
      simp only [Sem.run_bind, hch, Result.andThen_ok, run_typeInfo' hinf, run_askRoom, hos, hs3, run_zeroValue' hz, newRow, run_newObj, Sem.run_pure, World.alloc_eq]
      generalize hR : Builtin.zeroCells z.cells (N - (n + k)) = rest
      have hRs : rest.size = (N - (n + k)) * (m + 1) := by rw [← hR]; exact run_zeroCells hzs
      generalize hO : ((List.range (n * (m + 1))).map fun j => ca[j]?.getD default).toArray = os
      have hOs : os.size = n * (m + 1) := by rw [← hO]; simp
      have hOg : ∀ i, i < n * (m + 1) → os[i]? = ca[i]? := fun i hi => by
        rw [← hO]
        simp [hi, show i < ca.size by omega]
      have hdsz : W.w.drew.heap.size = W.w.heap.size := rfl
      have hkk : (N - (n + k)) * (m + 1) = N * (m + 1) - (n * (m + 1) + k * (m + 1)) := by rw [Nat.sub_mul, Nat.add_mul]
      have hNm : (n + k) * (m + 1) ≤ N * (m + 1) := Nat.mul_le_mul_right _ hNge
      rw [Nat.add_mul] at hNm
      have hcs' : (os ++ ns₂ ++ rest).size = N * (m + 1) := by
        simp only [Array.size_append, hOs, ht4, hs5, hRs, hkk]
        omega
      let W' : Wd := { w := W.w.drew.alloc (.cells (os ++ ns₂ ++ rest) el), lim := W.lim, β := fun x => if x = b then W.w.heap.size else W.β x, o := fun x => if x = W.w.heap.size then some (.box b, 1) else if x = W.β b then none else W.o x, gen := fun x => if x = b then g + 1 else W.gen x }
      have hnew : W'.w.heap[W.w.heap.size]? = some (.cells (os ++ ns₂ ++ rest) el (0, 0)) := heap_alloc_new (w := W.w.drew)
      have hold : ∀ x, x < W.w.heap.size → W'.w.heap[x]? = W.w.heap[x]? := fun x hx => heap_alloc_lt (w := W.w.drew) hx
      have hF := hH.toFresh
      have hE : Evo W W' (fun q _ => ∀ i, q ≠ .box i) := by
        refine Evo.of rfl rfl rfl (by simp [W', hdsz]) (fun b' o' ho' => ?_) (fun _ => Nat.le_refl _) (fun b' c₀ T₀ fz₀ hb' => ⟨c₀, ?_, rfl⟩) (fun b' r i h hr => ?_) (fun b' i h h' => ?_) (fun i => ?_) (fun b' hb' h => ?_)
        · exact cell_alloc (w := W.w.drew) (lt_of_lim hF ho')
        · rw [hold b' (Array.getElem?_eq_some_iff.1 hb').1]; exact hb'
        · have h1 := lt_of_o hF h
          have h2 : b' ≠ W.β b := fun hh => by rw [hh, hbo] at h; simp at h; exact hr _ h.1.symm
          exact ⟨by simp only [W']; rw [if_neg (by omega), if_neg h2]; exact h, rfl⟩
        · have h1 := lt_of_o hF h
          have h2 : b' ≠ W.β b := fun hh => by rw [hh, hbo] at h; simp at h
          have h3 : i ≠ b := fun hh => by rw [hh] at h'; exact h2 h'.symm
          exact ⟨by simp only [W']; rw [if_neg h3]; exact h', by simp only [W']; rw [if_neg (by omega), if_neg h2]; exact h⟩
        · by_cases hib : i = b
          · subst hib
            refine ⟨by simp only [W', if_true]; omega, fun h => ?_⟩
            simp only [W', if_true] at h
            omega
          · refine ⟨by simp only [W']; rw [if_neg hib]; exact Nat.le_refl _, fun _ ho => ?_⟩
            have h1 := lt_of_o hF ho
            have h2 : W.β i ≠ W.β b := fun hh => by rw [hh, hbo] at ho; simp at ho; exact hib ho.symm
            exact ⟨by simp only [W']; rw [if_neg hib], by simp only [W']; rw [if_neg (by omega), if_neg h2]; exact ho⟩
        · have h2 : b' ≠ W.β b := fun hh => by rw [hh, hbo] at h; simp at h
          exact ⟨hold b' hb', rfl, by simp only [W']; rw [if_neg (by omega), if_neg h2]; exact h⟩
      have hWb : W'.β b = W.w.heap.size := by simp [W']
      have hWo : W'.o W.w.heap.size = some (.box b, 1) := by simp [W']
      have hWg : W'.gen b = g + 1 := by simp [W']
      refine ⟨W', .slice (some ⟨W.w.heap.size, 0, none⟩) (n + k) N, rfl, ?_, ?_, hE⟩
      · exact .gr (Nat.le_of_eq hWg.symm) hNge fun _ => ⟨by rw [hWb], by rw [hWb]; exact hWo, _, _, _, by rw [hWb]; exact hnew, Nat.le_of_eq hcs'.symm⟩
      · refine ⟨fun b' gs hgs => ?_, fun g ls hls j q' hq' => ?_, fun b' hb' => ?_, fun b' i k hb' => ?_, fun b' hb' => ?_, hH.kept.evo hE⟩
        · by_cases hbb : b' = b
          · subst hbb
            rw [List.getElem?_set_self hlt] at hgs
            simp only [Option.some.injEq] at hgs
            subst hgs
            refine ⟨⟨by rw [hWb]; exact hWo, hWg⟩, by rw [hWb]; exact (hH.fresh _ (Nat.le_refl _)).1, os ++ ns₂ ++ rest, el, (0, 0), by rw [hWb]; exact hnew, ?_, fun _ _ => by simp, fun i f x hf hx => ?_⟩
            · simp only [body, List.length_append, htl, hs5, hcs']
              omega
            · rcases hget hf with ⟨q1, q2⟩ | ⟨q1, q2⟩
              · rw [Array.append_assoc, Array.getElem?_append_left (by omega), hOg i q1] at hx
                exact ⟨(hcells i f x q2 hx).1, (hcells i f x q2 hx).2.mono hE (fun q j hq => by cases hq; simp)⟩
              · have := (List.getElem?_eq_some_iff.1 q2).1
                rw [Array.append_assoc, Array.getElem?_append_right (by omega), hOs, Array.getElem?_append_left (by omega)] at hx
                obtain ⟨q3, q4⟩ := ht6 _ f x q2 hx
                rw [show n * (m + 1) + (i - n * (m + 1)) = i by omega] at q4
                exact ⟨q3, q4.mono hE (fun q j hq => by cases hq; simp)⟩
          · rw [List.getElem?_set_ne (fun h => hbb h.symm)] at hgs
            obtain ⟨m1, m2, c₂, T₂, fz₂, m3, m4, m5, m6⟩ := hH.box b' gs hgs
            obtain ⟨p1, p2⟩ := m1.mono hE.toEvo0 (by simp [W', hbb])
            refine ⟨p1, by rw [p2]; exact m2, c₂, T₂, fz₂, by rw [p2, hold _ (Array.getElem?_eq_some_iff.1 m3).1]; exact m3, m4, m5, fun i f x hf hx => ⟨(m6 i f x hf hx).1, (m6 i f x hf hx).2.mono hE (fun q j hq => by cases hq; simp)⟩⟩
        · obtain ⟨m1, m2, x, m3, m4⟩ := hH.laid g ls hls j q' hq'
          exact ⟨m1, m2, x, by rw [hE.cell _ _ m2]; exact m3, m4.mono hE.cell hE.lim⟩
        · have hb'' : W.w.heap.size + 1 ≤ b' := by simpa [W', hdsz] using hb'
          obtain ⟨m1, m2⟩ := hH.fresh b' (by omega)
          refine ⟨m1, ?_⟩
          simp only [W']
          rw [if_neg (by omega)]
          split
          · rfl
          · exact m2
        · rw [List.length_set]
          simp only [W'] at hb'
          split at hb'
          · simp at hb'; omega
          · split at hb'
            · simp at hb'
            · exact hH.boxes b' i k hb'
        · rw [List.length_set] at hb'
          simp only [W']
          rw [if_neg (by omega)]
          exact hH.gen0 b' hb'
theorem src_plain {P : Program} {W : Wd} {m b off : Nat} {rg : Option Root} {ig : Nat} {y : FV} {u : Value} {r : List PV} (hu : FRep W rg ig y u) (hr : y.asRow = some r) (hrs : Sized (m + 1) r) :
    Src P W (m + 1) b off ((r.flatMap PV.leaves).map .sc) r.length u := by
  obtain ⟨ns, h1, h2, h3, _⟩ := row_sound (P := P) hu hr hrs
  obtain ⟨ns', _, h2', h3', _⟩ := row_sound (P := P) (hu.mono (Evo.drew W (fun _ _ => True)) (by simp)) hr hrs
  have hfl := flat_len hrs
  have hcell : ∀ {w : Array Value}, RowCells W (m + 1) r w → ∀ (j : Nat) (f : FV) (x : Value), ((r.flatMap PV.leaves).map .sc)[j]? = some f → w[j]? = some x → f.isLeaf = true ∧ FRep W (some (.leaf b (off + j))) 0 f x := fun {w} hw j f x hf hx => by
    rw [List.getElem?_map, Option.map_eq_some_iff] at hf
    obtain ⟨q, hq, rfl⟩ := hf
    obtain ⟨p, q1, q2⟩ := flat_get (Nat.succ_pos m) hrs hq
    obtain ⟨y, q3, q4, q5⟩ := hw.cell _ _ _ _ q1 q2
    have hk : j / (m + 1) * (m + 1) + j % (m + 1) = j := by rw [Nat.mul_comm]; exact Nat.div_add_mod j (m + 1)
    rw [hk, hx] at q3
    simp only [Option.some.injEq] at q3
    subst q3
    exact ⟨q4, .sc q4 q5⟩
  have h3'' : RowCells W (m + 1) r ns' := ⟨h3'.size, fun i j p q hp hq => let ⟨c, q1, q2, q3⟩ := h3'.cell i j p q hp hq; ⟨c, q1, q2, Rep.mono (w := W.drew.w) (w' := W.w) (lim := W.drew.lim) (lim' := W.lim) (fun _ _ _ => rfl) (fun _ => Nat.le_refl _) q3⟩, h3'.sized⟩
  exact ⟨h1, by rw [List.length_map, hfl], ⟨ns, h2, by rw [List.length_map, hfl, h3.size], hcell h3⟩, ⟨ns', h2', by rw [List.length_map, hfl, h3'.size], hcell h3''⟩⟩
theorem wp_append_in (hi : Inv C nt e H a W) {o : Oper} (hd : dstOk nt o.dst) {x y : Operand} {args : Array Operand} {ts : Array TypeId} (ho : o.op = .call { callee := .builtin .append, args, argTypes := ts })
    (hargs : args.toList = [x, y]) {t u el : TypeId} {tr : List TypeId} (hts : ts.toList = t :: u :: tr) {ud : TypeDesc} (hel : C.P.underlying t = some (.slice el)) (hud : C.P.underlying u = some ud) {m bs b gb n : Nat} {z : Value} {f g : FV} {e' : Env} {l : List FV} {r : List PV}
    (hsz : szOf C.P el = some (m + 1)) (hz : zeroOf C.P el = some z) (hbs : bytesOf C.P el = some bs) (hg : give C e x = some (f, e')) (hy : rd C e y = some g) (hf : f.home = .gr b gb (m + 1) n) (hr : g.asRow = some r) (hb : rowOf H b = some (gb, l)) (hnl : n * (m + 1) ≤ l.length)
    (hni : ∀ k, ud ≠ .int k) (hzs : z.cells.size = m + 1) (hb0 : 0 < bs) (hb1 : bs ≤ 256) (hrs : Sized (m + 1) r) (hle : n + r.length ≤ lenMax) (hK : K (e'.put o.dst (.gr b (gb + 1) (m + 1) (n + r.length))) (H.set b [.row (gb + 1) (l.take (n * (m + 1)) ++ (r.flatMap PV.leaves).map .sc)])) :
    o.wp C.P a W.w (After C nt W K) Q := by
  have hdr : ∃ d : Root, (∀ i, d ≠ .box i) ∧ (∀ i j, d ≠ .leaf i j) ∧ (∀ t, o.dst = some t → d = .tmp t) ∧ ∀ t, d = .tmp t → o.dst = some t := by
    cases hod : o.dst with
    | none => exact ⟨.res, by simp, by simp, by simp, by simp⟩
    | some t => exact ⟨.tmp t, by simp, by simp, by simp, by simp⟩
  obtain ⟨d, hd1, hd2, hd3, hd4⟩ := hdr
  obtain ⟨W₁, h1, h1l, h1b, h2, h3, h4, h5⟩ := give_sound hi hg (r := d) hd1
  have h3' := h3.home
  rw [hf] at h3'
  obtain ⟨_, _, hu⟩ := rd_sound hi hy
  have hgs := asRow_weak h2 hu hr
  have ht0 : ts[0]? = some t := by rw [← Array.getElem?_toList, hts]; rfl
  have ht1 : ts[1]? = some u := by rw [← Array.getElem?_toList, hts]; rfl
  have hsrc : Src C.P W₁ (m + 1) b (n * (m + 1)) ((r.flatMap PV.leaves).map .sc) r.length (a.eval y) := by
    rcases hgs with hgs | ⟨s, rfl, hs⟩
    · exact src_plain hgs rfl hrs
    · exact src_plain (rg := none) (ig := 0) (y := .sc (.str s)) (by rw [hs]; exact .mkStr) hr hrs
  obtain ⟨W', v, g1, g2, g3, g4⟩ := grow_in (tyId := o.type) rfl (h5 H hi.heap) hb h3' hnl hsrc ht0 ht1 hud hni hel hsz hz hzs hbs hb0 hb1 hle
  refine wp_of (s := Builtin.append_ ts o.type #[a.eval x, a.eval y]) (W' := W') (v := v) ?_ (by rw [← h1]; exact g1) ⟨g3, fun s => ?_, by rw [put_size]; exact hi.size, by rw [put_defers]; exact hi.defers⟩ (((h2.weaken (k' := fun _ _ => False) (by simp)).trans (g4.weaken (k' := fun _ _ => False) (by simp))).weaken (by simp)) hK
  · obtain ⟨dst, op, ty, pos, after, guard⟩ := o
    simp only at ho
    subst ho
    have : args = #[x, y] := by rw [← Array.toList_inj]; simpa using hargs
    subst this
    simp only [execOp, resolve, invoke, builtin, pure_bind, List.map_toArray, List.map_cons, List.map_nil]
  · rw [tmps_put hd hi.size, get_put]
    split
    · exact g2.weaken rfl
    · rename_i hdt
      have hds : d ≠ .tmp s := fun h => hdt (hd4 s h)
      exact (h4 s hds).mono g4 (fun q j hq => by cases hq; simp)
end
end Go.Proofs.YtlbjfjaleefiiaaDoor.Ev
end
section
namespace Go.Proofs.YtlbjfjaleefiiaaDoor.Ev
open Go
theorem FRep.shift {A B : Wd} {r r' : Root} {i i' : Nat} (hc : ∀ b off, off < A.lim b → B.w.cell? ⟨b, off, none⟩ = A.w.cell? ⟨b, off, none⟩) (hl : ∀ b, A.lim b ≤ B.lim b)
    (hs : ∀ (b : Nat) (c : Array Value) (T : TypeId) (fz : Nat × Nat), A.w.heap[b]? = some (Obj.cells c T fz) → ∃ c' : Array Value, B.w.heap[b]? = some (Obj.cells c' T fz) ∧ c'.size = c.size)
    (hh : ∀ b, A.o b = some (r, i) → B.o b = some (r', i') ∧ B.lim b = A.lim b) (hb : ∀ b i, A.o b = some (.box i, 0) → A.β i = b → B.β i = b ∧ B.o b = some (.box i, 0))
    (hw : ∀ i, A.gen i ≤ B.gen i ∧ (B.gen i = A.gen i → A.o (A.β i) = some (.box i, 1) → B.β i = A.β i ∧ B.o (A.β i) = some (.box i, 1)))
    {f : FV} {v : Value} (h : FRep A (some r) i f v) (ht : f.isTup = false) : FRep B (some r') i' f v := by
  have hE : Evo0 A B (fun _ _ => False) := { cell := hc, lim := hl, shape := hs, hold := fun _ _ _ _ h => h.elim, beta := hb, row := hw }
  cases h with
  | undef => exact .undef
  | sc a b => exact .sc a (b.mono hc hl)
  | @own _ _ l a len cap hp b =>
    refine .own (hp.mono hc hl) ?_
    rcases b with b | ⟨e, x, c, T, fz, h0, h1, h2, h3, h4, h5, h6, h7, h8⟩
    · exact .inl b
    · obtain ⟨c', hc', hsz⟩ := hs _ _ _ _ h5
      obtain ⟨ho, hlm⟩ := hh _ h4
      exact .inr ⟨e, x, c', T, fz, h0, h1, h2, by simp, ho, hc', hsz ▸ h6, hsz ▸ h7, hlm ▸ h8⟩
  | emp => exact .emp
  | agg a b => exact .agg a fun j f v hf hv => (b j f v hf hv).mono0 hE (by simp)
  | @ptr _ _ b off hbo =>
    obtain ⟨h1, h2⟩ := hb _ _ hbo rfl
    rw [← h1]
    exact .ptr (by rw [h1]; exact h2)
  | @bs _ _ b off n cap hbo hn =>
    obtain ⟨h1, h2⟩ := hb _ _ hbo rfl
    rw [← h1]
    exact .bs (by rw [h1]; exact h2) hn
  | gr a n c => exact ((FRep.gr (r := none) (i := 0) a n c).mono0 hE (by simp)).weaken rfl
  | gp a c => exact ((FRep.gp (r := none) (i := 0) a c).mono0 hE (by simp)).weaken rfl
  | nilp => exact .nilp
  | ea c h1 h2 h3 h4 h5 => exact .ea c h1 (fun j p hp => Nat.lt_of_lt_of_le (h2 j p hp) (hl _)) (fun j p hp => by rw [hc _ _ (h2 j p hp)]; exact h3 j p hp) h4 (fun j p hp => (h5 j p hp).mono hc hl)
  | tup => simp [FV.isTup] at ht
  | oagg => simp [FV.isTup] at ht
  | fn a b c d => exact .fn a b (fun j f v hf hv => (c j f v hf hv).mono0 hE (by simp)) (fun j f v hf hv => (d j f v hf hv).mono0 hE (by simp))
  | ext a b =>
    obtain ⟨h1, h2, h3, h4, h5, h6, c, T, fz, h7, h8, h9⟩ := b
    obtain ⟨c', hc', hsz⟩ := hs _ _ _ _ h7
    obtain ⟨ho, hlm⟩ := hh _ h2
    exact .ext (a.mono hc hl) ⟨by simp, ho, h3, h4, h5, hlm.trans h6, c', T, fz, hc', hsz ▸ h8, hsz ▸ h9⟩
  | exr => exact .exr
  | exq => exact .exq
def Wd.moveL (W : Wd) (b₂ b off : Nat) : Wd := { W with o := fun x => match W.o x with
  | some (.leaf i j, k) => if i = b₂ then some (.leaf b (off + j), k) else some (.leaf i j, k)
  | q => q }
section
variable {W : Wd} {b₂ b off : Nat}
theorem moveL_leaf {x j k : Nat} (h : W.o x = some (.leaf b₂ j, k)) : (W.moveL b₂ b off).o x = some (.leaf b (off + j), k) := by simp [Wd.moveL, h]
theorem moveL_else {x k : Nat} {q : Root} (h : W.o x = some (q, k)) (hq : ∀ j, q ≠ .leaf b₂ j) : (W.moveL b₂ b off).o x = some (q, k) := by
  simp only [Wd.moveL, h]
  cases q with
  | leaf i j =>
    simp only
    rw [if_neg (fun hi => hq j (by rw [hi]))]
  | _ => rfl
theorem moveL_none {x : Nat} (h : W.o x = none) : (W.moveL b₂ b off).o x = none := by simp [Wd.moveL, h]
theorem moveL_box {x i k : Nat} (h : (W.moveL b₂ b off).o x = some (.box i, k)) : W.o x = some (.box i, k) := by
  simp only [Wd.moveL] at h
  split at h
  · split at h <;> simp at h
  · exact h
theorem Evo.moveL (W : Wd) (b₂ b off : Nat) : Evo W (W.moveL b₂ b off) (fun q _ => ∀ j, q ≠ .leaf b₂ j) :=
  Evo.of rfl rfl rfl (Nat.le_refl _) (fun _ _ _ => rfl) (fun _ => Nat.le_refl _) (fun _ c _ _ h => ⟨c, h, rfl⟩) (fun _ _ _ h hk => ⟨moveL_else h hk, rfl⟩) (fun _ _ h h' => ⟨h', moveL_else h (by simp)⟩) (fun _ => ⟨Nat.le_refl _, fun _ h => ⟨rfl, moveL_else h (by simp)⟩⟩) (fun _ _ h => ⟨rfl, rfl, moveL_none h⟩)
theorem HInv.moveL {C : Ctx} {H : Heap} (h : HInv C H W) {g : Nat} {c : List FV} (hr : rowOf H b₂ = some (g, c)) (b off : Nat) : HInv C (H.set b₂ [.row g []]) (W.moveL b₂ b off) := by
  have hE := Evo.moveL W b₂ b off
  obtain ⟨hlt, hfs, hgen, hbo, hlim, ca, T, fz, hc, hlc, hfz, hcells⟩ := h.row hr
  refine ⟨fun x gs hgs => ?_, fun g ls hls j q' hq' => ?_, fun x hx => ⟨(h.fresh x hx).1, moveL_none (h.fresh x hx).2⟩, fun x i k hx => ?_, fun x hx => h.gen0 x (by simpa using hx), h.kept.evo hE⟩
  · by_cases hxb : x = b₂
    · subst hxb
      rw [List.getElem?_set_self hlt] at hgs
      simp only [Option.some.injEq] at hgs
      subst hgs
      exact ⟨⟨moveL_else hbo (by simp), hgen⟩, hlim, ca, T, fz, hc, Nat.zero_le _, hfz, fun i f v hf => by simp [body] at hf⟩
    · rw [List.getElem?_set_ne (fun h => hxb h.symm)] at hgs
      obtain ⟨m1, m2, c₂, T₂, fz₂, m3, m4, m5, m6⟩ := h.box x gs hgs
      exact ⟨(m1.mono hE.toEvo0 rfl).1, m2, c₂, T₂, fz₂, m3, m4, m5, fun i f v hf hv => ⟨(m6 i f v hf hv).1, (m6 i f v hf hv).2.mono hE (fun q j hq => by cases hq; simp; omega)⟩⟩
  · exact h.laid g ls hls j q' hq'
  · rw [List.length_set]
    exact h.boxes x i k (moveL_box hx)
theorem leaf_notTup {f : FV} (h : f.isLeaf = true) : f.isTup = false := by cases f <;> simp_all [FV.isLeaf, FV.isTup]
theorem src_moved {P : Program} {C : Ctx} {H : Heap} (h : HInv C H W) {g n m : Nat} {c : List FV} (hr : rowOf H b₂ = some (g, c)) (b off : Nat) {rg : Option Root} {ig : Nat} {u : Value} (hu : FRep W rg ig (.gr b₂ g (m + 1) n) u) (hl : c.length = n * (m + 1)) :
    Src P (W.moveL b₂ b off) (m + 1) b off c n u := by
  have hE := Evo.moveL W b₂ b off
  obtain ⟨hlt, hfs, hgen, hbo, hlim, ca, T, fz, hc, hlc, hfz, hcells⟩ := h.row hr
  cases hu with
  | @gr _ _ _ _ _ _ cap A hg hcap hal =>
    obtain ⟨hA, _, _⟩ := hal hgen
    subst hA
    have key : ∀ w : World, w.heap[W.β b₂]? = some (.cells ca T fz) → SrcAt P (W.moveL b₂ b off) w (m + 1) b off c n (.slice (some ⟨W.β b₂, 0, none⟩) n cap) := fun w hw => by
      refine ⟨((List.range (n * (m + 1))).map fun j => ca[j]?.getD default).toArray, ?_, by simp [hl], fun j f x hf hx => ?_⟩
      · exact run_loadCells' (P := P) (w := w) (A := ⟨W.β b₂, 0, none⟩) (fun j => ca[j]?.getD default) (fun j hj => by
          rw [Addr.add_none rfl]
          simp only [Nat.zero_add]
          rw [cell_of_heap hw]
          simp [show j < ca.size by omega])
      · have hj := (List.getElem?_eq_some_iff.1 hf).1
        have hjc : j < ca.size := by omega
        have hx' : x = ca[j] := by
          simp only [List.getElem?_toArray, List.getElem?_map, List.getElem?_range (show j < n * (m + 1) by omega), Option.map_some, Option.some.injEq] at hx
          rw [← hx]
          simp [hjc]
        subst hx'
        obtain ⟨q1, q2⟩ := hcells j f ca[j] hf (by simp [hjc])
        exact ⟨q1, q2.shift (r' := .leaf b (off + j)) (i' := 0) hE.cell hE.lim hE.shape (fun y hy => ⟨moveL_leaf hy, rfl⟩) hE.beta hE.row (leaf_notTup q1)⟩
    exact ⟨rfl, hl, key _ hc, key _ hc⟩
theorem scAll_get : ∀ {l : List FV} {ps : List PV}, scAll l = some ps → ps.length = l.length ∧ ∀ (j : Nat) (q : PV), ps[j]? = some q → l[j]? = some (.sc q)
  | [], ps, h => by simp [scAll] at h; subst h; simp
  | f :: l, ps, h => by
    unfold scAll at h
    split at h
    · rename_i p q hp hq
      simp only [Option.some.injEq] at h
      subst h
      obtain ⟨h1, h2⟩ := scAll_get hq
      refine ⟨by simp [h1], fun j x hx => ?_⟩
      cases j with
      | zero =>
        simp only [List.getElem?_cons_zero, Option.some.injEq] at hx
        subst hx
        cases f <;> simp [scPV] at hp
        subst hp; rfl
      | succ j => exact h2 j x (by simpa using hx)
    · simp at h
theorem chunk_get {z : Nat} : ∀ {n : Nat} {c : List FV} {r : List PV}, chunkPV z n c = some r → n * z ≤ c.length → (∀ p, FV.sc p ∈ c → p.isLeaf = true) → r.length = n ∧ ∀ (i : Nat) (p : PV), r[i]? = some p → p.leaves.length = z ∧ ∀ (j : Nat) (q : PV), p.leaves[j]? = some q → c[i * z + j]? = some (.sc q)
  | 0, c, r, h, _, _ => by simp [chunkPV] at h; subst h; simp
  | n + 1, c, r, h, hl, hc => by
    rw [Nat.add_mul] at hl
    have hpl : ∀ {ps : List PV} {r' : List PV} {p : PV}, scAll (c.take z) = some ps → chunkPV z n (c.drop z) = some r' → p.leaves = ps → (p :: r').length = n + 1 ∧ ∀ (i : Nat) (x : PV), (p :: r')[i]? = some x → x.leaves.length = z ∧ ∀ (j : Nat) (q : PV), x.leaves[j]? = some q → c[i * z + j]? = some (.sc q) := by
      intro ps r' p h1 h2 h3
      obtain ⟨k1, k2⟩ := scAll_get h1
      obtain ⟨k3, k4⟩ := chunk_get h2 (by rw [List.length_drop]; omega) (fun p hp => hc p (List.mem_of_mem_drop hp))
      refine ⟨by simp [k3], fun i x hx => ?_⟩
      cases i with
      | zero =>
        simp only [List.getElem?_cons_zero, Option.some.injEq] at hx
        subst hx
        rw [h3]
        refine ⟨by rw [k1, List.length_take]; omega, fun j q hq => ?_⟩
        have hj := (List.getElem?_eq_some_iff.1 hq).1
        rw [k1, List.length_take] at hj
        have := k2 j q hq
        rw [List.getElem?_take_of_lt (by omega)] at this
        simpa using this
      | succ i =>
        obtain ⟨m1, m2⟩ := k4 i x (by simpa using hx)
        refine ⟨m1, fun j q hq => ?_⟩
        have := m2 j q hq
        rw [List.getElem?_drop] at this
        rw [← this]; congr 1; rw [Nat.add_mul]; omega
    unfold chunkPV at h
    split at h
    · rename_i p r' h1 h2
      simp only [Option.some.injEq] at h
      subst h
      obtain ⟨k1, k2⟩ := scAll_get h1
      have hm := k2 0 p rfl
      have hlf := hc p (List.mem_of_mem_take (List.mem_of_getElem? hm))
      exact hpl h1 h2 (by cases p <;> simp_all [PV.isLeaf, PV.leaves])
    · rename_i ps r' h1 h2
      simp only [Option.some.injEq] at h
      subst h
      exact hpl h1 h2 rfl
    · simp at h
theorem src_gr {P : Program} {C : Ctx} {H : Heap} (h : HInv C H W) {g n m : Nat} {c : List FV} {r : List PV} (hr : rowOf H b₂ = some (g, c)) {rg : Option Root} {ig : Nat} {u : Value} (hu : FRep W rg ig (.gr b₂ g (m + 1) n) u) (hl : n * (m + 1) ≤ c.length) (hk : chunkPV (m + 1) n c = some r) :
    Sized (m + 1) r ∧ r.length = n ∧ (∃ ns, (Builtin.lenOf u).run P W.w = .ok r.length W.w ∧ (Builtin.firstCells (m + 1) r.length u).run P W.w = .ok ns W.w ∧ RowCells W (m + 1) r ns) ∧ (∃ ns, (Builtin.firstCells (m + 1) r.length u).run P W.drew.w = .ok ns W.drew.w ∧ RowCells W.drew (m + 1) r ns) := by
  obtain ⟨hlt, hfs, hgen, hbo, hlim, ca, T, fz, hc, hlc, hfz, hcells⟩ := h.row hr
  cases hu with
  | @gr _ _ _ _ _ _ cap A hg hcap hal =>
    obtain ⟨hA, _, _⟩ := hal hgen
    subst hA
    have hsc : ∀ (j : Nat) (q : PV), c[j]? = some (.sc q) → ∃ x, ca[j]? = some x ∧ q.isLeaf = true ∧ Rep W.w W.lim q x := fun j q hj => by
      have hjl := (List.getElem?_eq_some_iff.1 hj).1
      have hjc : j < ca.size := by omega
      obtain ⟨q1, q2⟩ := hcells j _ ca[j] hj (by simp [hjc])
      cases q2 with
      | sc a b => exact ⟨ca[j], by simp [hjc], a, b⟩
    obtain ⟨k1, k2⟩ := chunk_get hk hl (fun p hp => by
      obtain ⟨j, hj⟩ := List.getElem?_of_mem hp
      obtain ⟨x, _, hx, _⟩ := hsc j p hj
      exact hx)
    have hsz : Sized (m + 1) r := fun p hp => by
      obtain ⟨i, hi⟩ := List.getElem?_of_mem hp
      exact (k2 i p hi).1
    have key : ∀ W' : Wd, W'.w.heap[W.β b₂]? = some (.cells ca T fz) → (∀ q x, Rep W.w W.lim q x → Rep W'.w W'.lim q x) → ∃ ns, (Builtin.firstCells (m + 1) r.length (.slice (some ⟨W.β b₂, 0, none⟩) n cap)).run P W'.w = .ok ns W'.w ∧ RowCells W' (m + 1) r ns := fun W' hw hrep => by
      refine ⟨((List.range (n * (m + 1))).map fun j => ca[j]?.getD default).toArray, ?_, ?_, ?_, ?_⟩
      · rw [k1]
        exact run_loadCells' (P := P) (w := W'.w) (A := ⟨W.β b₂, 0, none⟩) (fun j => ca[j]?.getD default) (fun j hj => by
          rw [Addr.add_none rfl]
          simp only [Nat.zero_add]
          rw [cell_of_heap hw]
          simp [show j < ca.size by omega])
      · simp [k1]
      · intro i j p q hp hq
        obtain ⟨m1, m2⟩ := k2 i p hp
        obtain ⟨x, x1, x2, x3⟩ := hsc _ _ (m2 j q hq)
        have hi : i < r.length := (List.getElem?_eq_some_iff.1 hp).1
        have hj : j < p.leaves.length := (List.getElem?_eq_some_iff.1 hq).1
        have hij : i * (m + 1) + j < n * (m + 1) := by
          have : (i + 1) * (m + 1) ≤ n * (m + 1) := Nat.mul_le_mul_right _ (by omega)
          rw [Nat.add_mul] at this
          omega
        refine ⟨x, ?_, x2, hrep _ _ x3⟩
        simp only [List.getElem?_toArray, List.getElem?_map, List.getElem?_range hij, Option.map_some, x1, Option.getD_some]
      · intro i p hp
        exact (k2 i p hp).1
    obtain ⟨ns, n1, n2⟩ := key W hc (fun _ _ h => h)
    obtain ⟨ns', n1', n2'⟩ := key W.drew hc (fun _ _ h => Rep.mono (w := W.w) (w' := W.drew.w) (lim := W.lim) (lim' := W.drew.lim) (fun _ _ _ => rfl) (fun _ => Nat.le_refl _) h)
    exact ⟨hsz, k1, ⟨ns, by rw [k1]; rfl, n1, n2⟩, ⟨ns', n1', n2'⟩⟩
end
section
variable {C : Ctx} {nt : Nat} {mv : List Nat} {e : Env} {H : Heap} {a : Act} {W : Wd} {K : Env → Heap → Prop} {Q : Exit → Act → World → Prop}
theorem grow_rowS {P : Program} (hC : C.P = P) {W : Wd} {root : Root} (hH : HInv C H W) {c : List FV} {k : Nat} {v u : Value} {tyId t ut el : TypeId} {ud : TypeDesc} {ts : Array TypeId} {m bs : Nat} {z : Value}
    (hv : FRep W (some root) 0 (.own []) v) (hs : Src P W (m + 1) H.length 0 c k u) (hk0 : 0 < k) (ht : ts[0]? = some t) (ht' : ts[1]? = some ut) (hud : P.underlying ut = some ud) (hni : ∀ k, ud ≠ .int k)
    (hel : P.underlying t = some (.slice el)) (hsz : szOf P el = some (m + 1)) (hz : zeroOf P el = some z) (hzs : z.cells.size = m + 1) (hbs : bytesOf P el = some bs) (hb0 : 0 < bs) (hb1 : bs ≤ 256) (hle : k ≤ lenMax) :
    ∃ W' x, (Builtin.append_ ts tyId #[v, u]).run P W.w = .ok x W'.w ∧ FRep W' (some root) 0 (.gr H.length 0 (m + 1) k) x ∧ HInv C (H ++ [[.row 0 c]]) W' ∧ Evo W W' (fun _ _ => True) := by
  subst hC
  obtain ⟨hns1, hcl, _, ⟨ns', hns2', hns3', hns4'⟩⟩ := hs
  have hi : ∃ i, C.P.info? el = some i ∧ i.bytes = bs := by
    unfold bytesOf at hbs
    exact Option.map_eq_some_iff.1 hbs
  obtain ⟨inf, hinf, hinfb⟩ := hi
  have hDv := hv.mono (Evo.drew W (fun _ _ => True)) (by simp)
  cases hv with
  | @own _ _ _ A len cap hrep hsp =>
    have hlen := hrep.length
    simp only [List.length_nil] at hlen
    subst hlen
    have hcap : cap = 0 := by
      rcases hsp with h | ⟨e₀, _, _, _, _, h0, _⟩
      · exact h
      · simp at h0
    subst hcap
    have e0 : (#[Value.slice A 0 0, u] : Array Value)[0]? = some (.slice A 0 0) := rfl
    have e1 : (#[Value.slice A 0 0, u] : Array Value)[1]? = some u := rfl
    unfold Builtin.append_
    simp only [ht, e0, e1, ht', Sem.run_bind, run_underlying' hel, run_underlying' hud, Result.andThen_ok, run_sizeOf' hsz, Sem.run_pure, Bool.false_eq_true, if_false, hns1, Nat.zero_add]
    rw [if_neg (by omega)]
    obtain ⟨os', _, hos2', hos3', _⟩ := row_sound (P := C.P) (m := m) hDv (show (FV.own []).asRow = some [] from rfl) (fun _ h => by simp at h)
    have hos0 : os' = #[] := by
      have := hos3'.size
      simpa using this
    subst hos0
    have hos2' : Sem.run C.P (Builtin.firstCells (m + 1) 0 (.slice A 0 0)) W.drew.w = .ok #[] W.drew.w := hos2'
    have hcapb := nextcap_le (n := k) (c := 0) (by omega)
    have hlim : k ≤ 137438953472 := hle
    have hnr : ¬ (Builtin.nextslicecap k 0 * bs > 2 ^ 48) := by
      have : Builtin.nextslicecap k 0 * bs ≤ (2 * k + 256) * 256 := Nat.mul_le_mul hcapb hb1
      omega
    have hforced : (Question.appendCap k 0 el).forced = false := rfl
    have hch : (choose (.appendCap k 0 el)).run C.P W.w = .ok ((Question.appendCap k 0 el).cut (W.w.tape W.w.drawn (.appendCap k 0 el))) W.drew.w := by
      simp [hforced, Wd.drew]
    generalize hN : (Question.appendCap k 0 el).cut (W.w.tape W.w.drawn (.appendCap k 0 el)) = N at hch
    have hNge : k ≤ N := by rw [← hN]; simp [Question.cut]
    have hns2'' : Sem.run C.P (Builtin.firstCells (m + 1) k u) W.drew.w = .ok ns' W.drew.w := hns2'
    simp only [Bool.not_false, if_true, Sem.run_bind, run_typeInfo' hinf, Result.andThen_ok, hinfb, false_or]
    rw [if_neg (by omega)]
    simp only [Sem.run_bind, run_typeInfo' hinf, Result.andThen_ok, hinfb]
    rw [if_neg hnr]
    simp only [Sem.run_bind, hch, Result.andThen_ok, run_typeInfo' hinf, run_askRoom, hos2', hns2'', run_zeroValue' hz, newRow, run_newObj, Sem.run_pure, World.alloc_eq]
    generalize hR : Builtin.zeroCells z.cells (N - k) = rest
    have hHd := hH.drew
    obtain ⟨W', hw, hH', hE, hβ, ho, hgn⟩ := hHd.newRow (#[] ++ ns' ++ rest) el c (by rw [Array.size_append, Array.size_append, hns3']; omega) (fun j f v hf hv => by
      have hj := (List.getElem?_eq_some_iff.1 hf).1
      rw [Array.empty_append, Array.getElem?_append_left (by omega)] at hv
      obtain ⟨q1, q2⟩ := hns4' j f v hf hv
      rw [Nat.zero_add] at q2
      exact ⟨q1, q2.mono (Evo.drew W (fun _ _ => True)) (by simp)⟩)
    have hEE : Evo W W' (fun _ _ => True) := ((Evo.drew W (fun _ _ => True)).trans hE).weaken (by simp)
    refine ⟨W', _, by rw [hw], ?_, hH', hEE⟩
    have hb : FRep W' (some root) 0 (.gr H.length 0 (m + 1) k) (.slice (some ⟨W'.β H.length, 0, none⟩) k N) := .gr (Nat.zero_le _) (by omega) fun _ => ⟨rfl, by rw [hβ]; exact ho, _, _, _, by rw [hβ, hw]; exact heap_alloc_new, by
      rw [Array.size_append, Array.size_append, hns3', hcl, ← hR, run_zeroCells hzs]
      simp only [List.size_toArray, List.length_nil, Nat.zero_add]
      rw [← Nat.add_mul]
      exact Nat.le_of_eq (by congr 1; omega)⟩
    rw [hβ] at hb
    simpa using hb
theorem wp_append_move (hi : Inv C nt e H a W) {o : Oper} (hd : dstOk nt o.dst) {x y : Operand} {args : Array Operand} {ts : Array TypeId} (ho : o.op = .call { callee := .builtin .append, args, argTypes := ts })
    (hargs : args.toList = [x, y]) {t u el : TypeId} {tr : List TypeId} (hts : ts.toList = t :: u :: tr) {ud : TypeDesc} (hel : C.P.underlying t = some (.slice el)) (hud : C.P.underlying u = some ud) {m bs : Nat} {z : Value} {f g : FV} {e' : Env}
    (hsz : szOf C.P el = some (m + 1)) (hz : zeroOf C.P el = some z) (hbs : bytesOf C.P el = some bs) (hg : give C e x = some (f, e')) (hy : rd C e y = some g)
    (hni : ∀ k, ud ≠ .int k) (hzs : z.cells.size = m + 1) (hb0 : 0 < bs) (hb1 : bs ≤ 256) (hm : MoveQ mv o.dst m e' f.home g H K) :
    o.wp C.P a W.w (After C nt W K) Q := by
  have hdr : ∃ d : Root, (∀ i, d ≠ .box i) ∧ (∀ i j, d ≠ .leaf i j) ∧ (∀ t, o.dst = some t → d = .tmp t) ∧ ∀ t, d = .tmp t → o.dst = some t := by
    cases hod : o.dst with
    | none => exact ⟨.res, by simp, by simp, by simp, by simp⟩
    | some t => exact ⟨.tmp t, by simp, by simp, by simp, by simp⟩
  obtain ⟨d, hd1, hd2, hd3, hd4⟩ := hdr
  obtain ⟨W₁, h1, h1l, h1b, h2, h3, h4, h5⟩ := give_sound hi hg (r := d) hd1
  have h3' := h3.home
  obtain ⟨_, _, hu⟩ := rd_sound hi hy
  have ht0 : ts[0]? = some t := by rw [← Array.getElem?_toList, hts]; rfl
  have ht1 : ts[1]? = some u := by rw [← Array.getElem?_toList, hts]; rfl
  have hH1 := h5 H hi.heap
  have fin : ∀ {W₂ W' : Wd} {v : Value} {r : FV} {H' : Heap}, W₂.w = W₁.w → Evo W₁ W₂ (fun _ _ => False) → (∀ s, d ≠ .tmp s → FRep W₂ (some (.tmp s)) 0 (e'.get s) (a.tmps.getD s undef)) → (Builtin.append_ ts o.type #[a.eval x, a.eval y]).run C.P W₂.w = .ok v W'.w → FRep W' (some d) 0 r v → HInv C H' W' → Evo W₂ W' (fun q _ => (∀ i, q ≠ .box i) ∧ q ≠ d) → K (e'.put o.dst r) H' → o.wp C.P a W.w (After C nt W K) Q := by
    intro W₂ W' v r H' e1 e2 e3 e4 e5 e6 e7 e8
    refine wp_of (s := Builtin.append_ ts o.type #[a.eval x, a.eval y]) (W' := W') (v := v) ?_ (by rw [← h1, ← e1]; exact e4) ⟨e6, fun s => ?_, by rw [put_size]; exact hi.size, by rw [put_defers]; exact hi.defers⟩ ((((h2.weaken (k' := fun _ _ => False) (by simp)).trans e2).trans (e7.weaken (k' := fun _ _ => False) (by simp))).weaken (by simp)) e8
    · obtain ⟨dst, op, ty, pos, after, guard⟩ := o
      simp only at ho
      subst ho
      have : args = #[x, y] := by rw [← Array.toList_inj]; simpa using hargs
      subst this
      simp only [execOp, resolve, invoke, builtin, pure_bind, List.map_toArray, List.map_cons, List.map_nil]
    · rw [tmps_put hd hi.size, get_put]
      split
      · rename_i hdt
        rw [hd3 s hdt] at e5
        exact e5
      · rename_i hdt
        have hds : d ≠ .tmp s := fun h => hdt (hd4 s h)
        exact (e3 s hds).mono e7 (fun q j hq => by cases hq; exact ⟨by simp, fun h => hds h.symm⟩)
  unfold MoveQ at hm
  split at hm
  rotate_left
  · exact hm.elim
  rename_i b₂ g₂ z₂ n₂
  split at hm
  rotate_left
  · exact hm.elim
  rename_i g₂' c hb2
  have hu1 := (hu.demote (r' := none) (i' := 0)).mono h2 (by simp)
  split at hm
  · obtain ⟨rfl, rfl, hcl, hrw, hm⟩ := hm
    split at hm
    rotate_left
    · exact hm.elim
    rename_i l hf
    split at hm
    rotate_left
    · exact hm.elim
    rename_i r hch
    obtain ⟨hsl, hle, hK⟩ := hm
    obtain ⟨q1, q2, q3, q4⟩ := src_gr (P := C.P) hH1 hb2 hu1 hcl hch
    rw [hf] at h3'
    obtain ⟨W', v, g1, g2, g3, g4⟩ := grow_from (tyId := o.type) hd1 hd2 hH1 h3' q3 q4 ht0 ht1 hud hni hel hsz hz hzs hbs hb0 hb1 hsl q1 (by rw [q2]; exact hle)
    exact fin (W₂ := W₁) rfl ((Evo.refl W₁ (fun _ _ => True)).weaken (by simp)) h4 g1 g2 g3 (g4.weaken (fun r i h => h.2)) hK
  obtain ⟨rfl, rfl, hcl, hn0, hrw, hm⟩ := hm
  split at hm
  · rename_i l hf
    obtain ⟨rfl, hle, hK⟩ := hm
    have hH2 := hH1.moveL hb2 H.length 0
    have hE := Evo.moveL W₁ b₂ H.length 0
    have hs := src_moved (P := C.P) hH1 hb2 H.length 0 hu1 hcl
    rw [hf] at h3'
    have hlen : (H.set b₂ [.row g₂' []]).length = H.length := by simp
    have hs : Src C.P (W₁.moveL b₂ H.length 0) (m + 1) (H.set b₂ [.row g₂' []]).length 0 c n₂ (a.eval y) := by rw [hlen]; exact hs
    obtain ⟨W', v, g1, g2, g3, g4⟩ := grow_rowS (tyId := o.type) rfl hH2 (h3'.mono hE (fun q j hq => by cases hq; exact fun i => hd2 _ _)) hs hn0 ht0 ht1 hud hni hel hsz hz hzs hbs hb0 hb1 hle
    rw [hlen] at g2
    exact fin (W₂ := W₁.moveL b₂ H.length 0) rfl (hE.weaken (by simp)) (fun s hs => (h4 s hs).mono hE (fun q j hq => by cases hq; simp)) g1 g2 g3 (g4.weaken (by simp)) hK
  · rename_i b gb zb n hf
    split at hm
    rotate_left
    · exact hm.elim
    rename_i g' l hb
    obtain ⟨rfl, rfl, hne, hnl, hle, hK⟩ := hm
    have hH2 := hH1.moveL hb2 b (n * (m + 1))
    have hE := Evo.moveL W₁ b₂ b (n * (m + 1))
    have hs := src_moved (P := C.P) hH1 hb2 b (n * (m + 1)) hu1 hcl
    rw [hf] at h3'
    have hb' : rowOf (H.set b₂ [.row g₂' []]) b = some (g', l) := by
      unfold rowOf at hb ⊢
      rw [List.getD_eq_getElem?_getD, List.getElem?_set_ne (fun h => hne h.symm), ← List.getD_eq_getElem?_getD]
      exact hb
    obtain ⟨W', v, g1, g2, g3, g4⟩ := grow_in (tyId := o.type) rfl hH2 hb' (h3'.mono hE (fun q j hq => by cases hq; exact fun i => hd2 _ _)) hnl hs ht0 ht1 hud hni hel hsz hz hzs hbs hb0 hb1 hle
    exact fin (W₂ := W₁.moveL b₂ b (n * (m + 1))) rfl (hE.weaken (by simp)) (fun s hs => (h4 s hs).mono hE (fun q j hq => by cases hq; simp)) g1 (g2.weaken rfl) g3 (g4.weaken (fun r i h => h.1)) hK
  · exact hm.elim
def Wd.putL (W : Wd) (t b off : Nat) : Wd := { W with o := fun x => match W.o x with
  | some (.tmp s, k) => if s = t then some (.leaf b (off + k), 0) else some (.tmp s, k)
  | q => q }
theorem putL_tmp {t b off x k : Nat} (h : W.o x = some (.tmp t, k)) : (W.putL t b off).o x = some (.leaf b (off + k), 0) := by simp [Wd.putL, h]
theorem putL_else {t b off x k : Nat} {q : Root} (h : W.o x = some (q, k)) (hq : q ≠ .tmp t) : (W.putL t b off).o x = some (q, k) := by
  simp only [Wd.putL, h]
  cases q with
  | tmp s =>
    simp only
    rw [if_neg (fun hi => hq (by rw [hi]))]
  | _ => rfl
theorem putL_none {t b off x : Nat} (h : W.o x = none) : (W.putL t b off).o x = none := by simp [Wd.putL, h]
theorem putL_box {t b off x i k : Nat} (h : (W.putL t b off).o x = some (.box i, k)) : W.o x = some (.box i, k) := by
  simp only [Wd.putL] at h
  split at h
  · split at h <;> simp at h
  · exact h
theorem Evo.putL (W : Wd) (t b off : Nat) : Evo W (W.putL t b off) (fun q _ => q ≠ .tmp t) :=
  Evo.of rfl rfl rfl (Nat.le_refl _) (fun _ _ _ => rfl) (fun _ => Nat.le_refl _) (fun _ c _ _ h => ⟨c, h, rfl⟩) (fun _ _ _ h hk => ⟨putL_else h hk, rfl⟩) (fun _ _ h h' => ⟨h', putL_else h (by simp)⟩) (fun _ => ⟨Nat.le_refl _, fun _ h => ⟨rfl, putL_else h (by simp)⟩⟩) (fun _ _ h => ⟨rfl, rfl, putL_none h⟩)
theorem give_cells (hi : Inv C nt e H a W) {x : Operand} {f : FV} {e' : Env} {l : List FV} (hg : give C e x = some (f, e')) (hl : rowCells f = some l) (hleaf : l.all FV.isLeaf = true) (b off : Nat) :
    ∃ W', W'.w = W.w ∧ W'.β = W.β ∧ Evo W W' (fun q _ => ∀ t, q ≠ .tmp t) ∧ (a.eval x).cells.size = l.length ∧ (∀ (j : Nat) (g : FV) (u : Value), (l.map FV.home)[j]? = some g → (a.eval x).cells[j]? = some u → g.isLeaf = true ∧ FRep W' (some (.leaf b (off + j))) 0 g u) ∧
      (∀ t, FRep W' (some (.tmp t)) 0 (e'.get t) (a.tmps.getD t undef)) ∧ (∀ H', HInv C H' W → HInv C H' W') := by
  by_cases ho : ∃ m, f = .oagg m
  · obtain ⟨m, rfl⟩ := ho
    simp only [rowCells, Option.some.injEq] at hl
    subst hl
    cases x with
    | tmp t =>
      simp only [give, Option.some.injEq, Prod.mk.injEq] at hg
      obtain ⟨hget, rfl⟩ := hg
      have hE := Evo.putL W t b off
      have hr := hi.env t
      rw [hget] at hr
      have hev : a.eval (.tmp t) = a.tmps.getD t undef := rfl
      rw [hev]
      generalize hv : a.tmps.getD t undef = v at hr
      cases hr with
      | @oagg _ _ _ cs h1 h2 =>
        refine ⟨W.putL t b off, rfl, rfl, hE.weaken (fun q i hq => hq t), h1, fun j g u hj hu => ?_, fun s => ?_, fun H' hH => ?_⟩
        · rw [List.getElem?_map, Option.map_eq_some_iff] at hj
          obtain ⟨g', hg', rfl⟩ := hj
          have q1 := List.all_eq_true.1 hleaf g' (List.mem_of_getElem? hg')
          refine ⟨FV.home_leaf q1, ((h2 j g' u hg' hu).shift (r' := .leaf b (off + j)) (i' := 0) hE.cell hE.lim hE.shape (fun y hy => ⟨putL_tmp (by rw [Nat.zero_add] at hy; exact hy), rfl⟩) hE.beta hE.row (leaf_notTup q1)).home⟩
        · simp only [Env.get]
          split
          · rename_i hts; subst hts
            rw [hv, hget]
            exact (((FRep.oagg (r := some (.tmp t)) (i := 0) h1 h2).demote (r' := none) (i' := 0)).mono hE (by simp)).weaken rfl
          · rename_i hts
            exact (hi.env s).mono hE (fun q j hq => by cases hq; simp; omega)
        · exact hH.evo hE.toEvo0 (by simp) rfl rfl rfl (fun y hy => putL_none (hH.fresh y hy).2) (fun y i k hy => hH.boxes y i k (putL_box hy)) (fun y hy => putL_none hy)
    | const v =>
      simp only [give, Option.map_eq_some_iff] at hg
      obtain ⟨g, hg, hh⟩ := hg
      simp only [Prod.mk.injEq] at hh
      obtain ⟨rfl, rfl⟩ := hh
      simp only [rd] at hg
      unfold FV.ofConst at hg
      split at hg
      · simp at hg
      · unfold FV.ofValue at hg
        split at hg <;> simp at hg
    | func v =>
      simp [give, rd] at hg
    | global v =>
      simp only [give, Option.map_eq_some_iff] at hg
      obtain ⟨g, hg, hh⟩ := hg
      simp only [Prod.mk.injEq] at hh
      obtain ⟨rfl, rfl⟩ := hh
      simp [rd] at hg
  · have hl' : f.cells = some l := by
      unfold rowCells at hl
      split at hl
      · exact absurd ⟨_, rfl⟩ ho
      · exact hl
    obtain ⟨W₁, h1, h1l, h1b, h2, h3, h4, h5⟩ := give_sound hi hg (r := .leaf b off) (by simp)
    obtain ⟨h6, h7⟩ := given_cells h3 hl' (fun m hm => by subst hm; simp [FV.cells] at hl'; subst hl'; exact hleaf)
    exact ⟨W₁, h1, h1b, h2, h6, fun j g u hj hu => by simpa using h7 j g u hj hu, fun s => h4 s (by simp), h5⟩
theorem step_buildRow (hi : Inv C nt e H a W) {dst : Option Tmp} (hd : dstOk nt dst) {t el : TypeId} {m : Nat} {parts : Array (Nat × Operand)} {x : Operand} {z : Value} {f : FV} {e' : Env} {l : List FV}
    (hu : C.P.underlying t = some (.slice el)) (hsz : szOf C.P el = some (m + 1)) (hz : zeroOf C.P el = some z) (hzs : z.cells.size = m + 1) (hps : parts.toList = [(0, x)]) (hle : m + 1 ≤ 16777216) (hg : give C e x = some (f, e')) (hl : rowCells f = some l) (hleaf : l.all FV.isLeaf = true) (hln : l.length = m + 1) :
    ∃ W' v, (Instr.buildSlice t 1 (parts.map fun (i, x) => (i, a.eval x))).run C.P W.w = .ok v W'.w ∧ Inv C nt (e'.put dst (.gr H.length 0 (m + 1) 1)) (H ++ [[.row 0 (l.map FV.home)]]) (a.put dst v) W' ∧ Evo W W' (fun _ _ => False) := by
  obtain ⟨W₁, h1, _, h2, h6, h7, h4, h5⟩ := give_cells hi hg hl hleaf H.length 0
  have hH := h5 H hi.heap
  obtain ⟨W', hw, hH', hE, hβ, ho, hgn⟩ := hH.newRow (a.eval x).cells el (l.map FV.home) (Nat.le_of_eq (by simpa using h6.symm)) (fun j f v hf hv => by simpa using h7 j f v hf hv)
  have hcs : (a.eval x).cells.size = m + 1 := by rw [h6, hln]
  refine ⟨W', .slice (some ⟨W.w.heap.size, 0, none⟩) 1 1, ?_, ⟨hH', fun s => ?_, by rw [put_size]; exact hi.size, by rw [put_defers]; exact hi.defers⟩, ((h2.weaken (k' := fun _ _ => False) (by simp)).trans (hE.weaken (k' := fun _ _ => False) (by simp))).weaken (by simp)⟩
  · have hpa : (parts.map fun (i, x) => (i, a.eval x)) = #[(0, a.eval x)] := by
      rw [← Array.toList_inj, Array.toList_map, hps]; rfl
    rw [hpa]
    unfold Instr.buildSlice
    simp only [Sem.run_bind, run_underlying' hu, Result.andThen_ok, run_sizeOf' hsz]
    rw [if_neg (by omega)]
    have h0 : ¬ (1 * (m + 1) = 0) := by omega
    simp only [h0, if_false]
    simp only [Sem.run_bind, run_zeroValue' hz, Sem.run_pure, Result.andThen_ok]
    have hfill : ∀ cs : Array Value, cs.size = m + 1 → Instr.fill (fun i => some (i * (m + 1), m + 1)) cs [(0, a.eval x)] = some (a.eval x).cells := fun cs hs => by
      unfold Instr.fill
      simp only [Nat.zero_mul, Nat.zero_add, hcs, hs, ne_eq, not_true_eq_false, decide_false, gt_iff_lt, Nat.lt_irrefl, Bool.or_self, Bool.false_eq_true, if_false]
      unfold Instr.fill
      congr 1
      rw [← Array.toList_inj]
      have := foldl_fill 0 (a.eval x).cells.toList 0 cs (by simp; omega)
      simp only [Nat.zero_add, List.take_zero, List.nil_append, Array.length_toList, hcs] at this
      rw [← Array.foldl_toList, Array.toList_zipIdx]
      rw [this, List.drop_of_length_le (by simp; omega), List.append_nil]
    rw [hfill _ (by simp)]
    simp only [Sem.run_bind, newRow, run_newObj, Result.andThen_ok, Sem.run_pure, hw, h1]
    rfl
  · rw [tmps_put hd hi.size, get_put]
    split
    · have := FRep.gr (W := W') (r := some (.tmp s)) (i := 0) (b := H.length) (g := 0) (z := m + 1) (n := 1) (cap := 1) (A := ⟨W'.β H.length, 0, none⟩) (Nat.zero_le _) (Nat.le_refl _) fun _ => ⟨rfl, by rw [hβ]; exact ho, _, _, _, by rw [hβ, hw]; exact heap_alloc_new, by rw [hcs]; omega⟩
      rw [hβ, h1] at this; exact this
    · exact (h4 s).mono hE (by simp)
def Wd.takeL (W : Wd) (b off n d : Nat) : Wd := { W with o := fun x => match W.o x with
  | some (.leaf i j, k) => if i = b ∧ off ≤ j ∧ j < off + n ∧ k = 0 then some (.tmp d, j - off) else some (.leaf i j, k)
  | q => q }
theorem takeL_leaf {b off n d x j : Nat} (h : W.o x = some (.leaf b (off + j), 0)) (hj : j < n) : (W.takeL b off n d).o x = some (.tmp d, j) := by
  simp only [Wd.takeL, h]
  rw [if_pos ⟨trivial, by omega, by omega, trivial⟩]
  simp
theorem takeL_else {b off n d x k : Nat} {q : Root} (h : W.o x = some (q, k)) (hq : ∀ j, off ≤ j → j < off + n → q ≠ .leaf b j) : (W.takeL b off n d).o x = some (q, k) := by
  simp only [Wd.takeL, h]
  cases q with
  | leaf i j =>
    simp only
    rw [if_neg (fun hi => hq j hi.2.1 hi.2.2.1 (by rw [hi.1]))]
  | _ => rfl
theorem takeL_none {b off n d x : Nat} (h : W.o x = none) : (W.takeL b off n d).o x = none := by simp [Wd.takeL, h]
theorem takeL_box {b off n d x i k : Nat} (h : (W.takeL b off n d).o x = some (.box i, k)) : W.o x = some (.box i, k) := by
  simp only [Wd.takeL] at h
  split at h
  · split at h <;> simp at h
  · exact h
theorem Evo.takeL (W : Wd) (b off n d : Nat) : Evo W (W.takeL b off n d) (fun q _ => ∀ j, off ≤ j → j < off + n → q ≠ .leaf b j) :=
  Evo.of rfl rfl rfl (Nat.le_refl _) (fun _ _ _ => rfl) (fun _ => Nat.le_refl _) (fun _ c _ _ h => ⟨c, h, rfl⟩) (fun _ _ _ h hk => ⟨takeL_else h hk, rfl⟩) (fun _ _ h h' => ⟨h', takeL_else h (by simp)⟩) (fun _ => ⟨Nat.le_refl _, fun _ h => ⟨rfl, takeL_else h (by simp)⟩⟩) (fun _ _ h => ⟨rfl, rfl, takeL_none h⟩)
theorem splice_demote_get {fs : List FV} {off n : Nat} (h : off + n ≤ fs.length) (i : Nat) : (splice fs off (((fs.drop off).take n).map demote))[i]? = if off ≤ i ∧ i < off + n then (fs[i]?).map demote else fs[i]? := by
  have hml : ((fs.drop off).take n).length = n := by simp; omega
  rw [splice_get (by simp; omega), List.length_map, hml]
  split
  · rename_i hi
    rw [List.getElem?_map, List.getElem?_take_of_lt (by omega), List.getElem?_drop, show off + (i - off) = i by omega]
  · rfl
theorem step_loadmvAgg (hi : Inv C nt e H a W) {d : Nat} (hd : d < nt) {t : TypeId} {x : Operand} {b off n : Nat}
    (hx : rd C e x = some (.ptr b off)) (ha : aggOf C.P t = some true) (hn : szOf C.P t = some n) (hle : off + n ≤ (H.getD b []).length) :
    ∃ W' v, W'.w = W.w ∧ (Instr.loadAt t (a.eval x)).run C.P W.w = .ok v W.w ∧ Inv C nt (e.put (some d) (.oagg (((H.getD b []).drop off).take n))) (H.set b (splice (H.getD b []) off ((((H.getD b []).drop off).take n).map demote))) (a.put (some d) v) W' ∧ Evo W W' (fun _ _ => False) := by
  obtain ⟨_, _, hrx⟩ := rd_sound hi hx
  have hbo := box_alive hrx
  have hxv := box_get hrx
  have hlt := hi.heap.boxes _ _ _ hbo
  rw [heap_get hlt] at hle ⊢
  obtain ⟨k0, k1, k2, c, T, fz, k3, k4, k5, k6⟩ := hi.heap.box0 (List.getElem?_eq_getElem hlt) hbo
  have hE := Evo.takeL W b off n d
  have hml : ((H[b].drop off).take n).length = n := by simp; omega
  have hmg : ∀ j, j < n → ((H[b].drop off).take n)[j]? = H[b][off + j]? := fun j hj => by rw [List.getElem?_take_of_lt hj, List.getElem?_drop]
  have hin : ∀ (i : Nat) (g : FV), H[b][i]? = some g → g.isLeaf = true := fun i g hg => by
    have hlt' := (List.getElem?_eq_some_iff.1 hg).1
    exact (k6 i g c[i] hg (by simp [show i < c.size by omega])).1
  have hsl : off + (((H[b].drop off).take n).map demote).length ≤ H[b].length := by simp; omega
  have hsg : ∀ i, (splice H[b] off (((H[b].drop off).take n).map demote))[i]? = if off ≤ i ∧ i < off + n then (H[b][i]?).map demote else H[b][i]? := fun i => splice_demote_get hle i
  have hlf : ∀ (i : Nat) (g : FV), (splice H[b] off (((H[b].drop off).take n).map demote))[i]? = some g → g.isLeaf = true := fun i g hg => by
    rw [hsg] at hg
    split at hg
    · rw [Option.map_eq_some_iff] at hg
      obtain ⟨g', hg', rfl⟩ := hg
      exact demote_leaf (hin _ _ hg')
    · exact hin _ _ hg
  obtain ⟨q0, q1, q2⟩ := kind_leaf hlf
  have hcell : ∀ j, j < n → W.w.cell? ⟨W.β b, off + j, none⟩ = some (c[off + j]?.getD default) := fun j hj => by
    rw [cell_of_heap k3]
    simp [show off + j < c.size by omega]
  refine ⟨W.takeL b off n d, .agg ((List.range n).map fun j => c[off + j]?.getD default).toArray, rfl, ?_, ⟨⟨?_, ?_, ?_, ?_, fun b' hb' => hi.heap.gen0 b' (by simpa using hb'), hi.heap.kept.evo hE⟩, fun s => ?_, by rw [put_size]; exact hi.size, by rw [put_defers]; exact hi.defers⟩, hE.weaken (by simp)⟩
  · rw [hxv]
    have := run_loadCells' (P := C.P) (w := W.w) (A := ⟨W.β b, off, none⟩) (fun j => c[off + j]?.getD default) (n := n) (fun j hj => by
      rw [Addr.add_none rfl]; exact hcell j hj)
    simp [Instr.loadAt, Instr.sureAddr, loadVar, run_isAgg' ha, run_sizeOf' hn, this]
  · intro b' gs hgs
    by_cases hbb : b' = b
    · subst hbb
      rw [List.getElem?_set_self hlt] at hgs
      simp only [Option.some.injEq] at hgs
      subst hgs
      refine ⟨⟨by rw [q0]; exact takeL_else hbo (by simp), q2 _ _⟩, k2, c, T, fz, k3, by rw [q1, splice_length hsl]; exact k4, k5, fun i g v hg hv => ?_⟩
      rw [q1, hsg] at hg
      split at hg
      · rw [Option.map_eq_some_iff] at hg
        obtain ⟨g', hg', rfl⟩ := hg
        obtain ⟨m1, m2⟩ := k6 i g' v hg' hv
        exact ⟨demote_leaf m1, ((m2.demote (r' := none) (i' := 0)).mono hE (by simp)).weaken rfl⟩
      · rename_i hio
        obtain ⟨m1, m2⟩ := k6 i g v hg hv
        exact ⟨m1, m2.mono hE (fun q j hq => by cases hq; intro j h1 h2 h3; cases h3; exact hio ⟨h1, h2⟩)⟩
    · rw [List.getElem?_set_ne (fun h => hbb h.symm)] at hgs
      obtain ⟨m1, m2, c₂, T₂, fz₂, m3, m4, m5, m6⟩ := hi.heap.box b' gs hgs
      exact ⟨(m1.mono hE.toEvo0 rfl).1, m2, c₂, T₂, fz₂, m3, m4, m5, fun i g v hg hv => ⟨(m6 i g v hg hv).1, (m6 i g v hg hv).2.mono hE (fun q j hq => by cases hq; intro j h1 h2 h3; cases h3; exact hbb rfl)⟩⟩
  · intro g ls hls j q' hq'
    exact hi.heap.laid g ls hls j q' hq'
  · intro b' hb'
    obtain ⟨m1, m2⟩ := hi.heap.fresh b' hb'
    exact ⟨m1, takeL_none m2⟩
  · intro b' i k hb'
    rw [List.length_set]
    exact hi.heap.boxes b' i k (takeL_box hb')
  · rw [tmps_put (dst := some d) hd hi.size, get_put]
    split
    · rename_i hdt; simp only [Option.some.injEq] at hdt; subst hdt
      refine .oagg (by simp; omega) fun j f v hf hv => ?_
      have hj : j < n := by have := (List.getElem?_eq_some_iff.1 hf).1; omega
      rw [hmg j hj] at hf
      have hv' : v = c[off + j]'(by have := (List.getElem?_eq_some_iff.1 hf).1; omega) := by
        simp only [List.getElem?_toArray, List.getElem?_map, List.getElem?_range hj, Option.map_some, Option.some.injEq] at hv
        rw [← hv]
        have : off + j < c.size := by omega
        simp [this]
      subst hv'
      obtain ⟨m1, m2⟩ := k6 (off + j) f _ hf (Array.getElem?_eq_getElem _)
      exact m2.shift (r' := .tmp d) (i' := 0 + j) hE.cell hE.lim hE.shape (fun y hy => ⟨by rw [Nat.zero_add]; exact takeL_leaf hy hj, rfl⟩) hE.beta hE.row (leaf_notTup m1)
    · exact (hi.env s).mono hE (fun q j hq => by cases hq; simp)
end
end Go.Proofs.YtlbjfjaleefiiaaDoor.Ev
end
