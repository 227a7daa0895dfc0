/- Of what the law BuildOwn needs: part 3. -/
import Derived.Lib.AppendZerosOnto
import Derived.Test.YtlbjfjaleefiiaaDoorBBO2
set_option linter.unusedSimpArgs false
set_option linter.unusedVariables false
section
namespace Go.Proofs.YtlbjfjaleefiiaaDoor.Ev
open Go
section
variable {C : Ctx} {nt : Nat} {mv : List Nat} {e : Env} {H : Heap} {a : Act} {W : Wd} {K : Env → Heap → Prop} {Q : Exit → Act → World → Prop}
theorem grow_zeros {P : Program} (hC : C.P = P) {W : Wd} (hH : HInv C H W) {v : Value} {tyId t ut el : TypeId} {kn kq : IntKind} {ts : Array TypeId} {m bs : Nat} {z : Value} {rg : Option Root} {ig : Nat} {k : Int}
    (hv : FRep W rg ig (.own []) v) (ht : ts = #[t, ut]) (hud : P.underlying ut = some (.int kn))
    (hel : P.underlying t = some (.slice el)) (hsz : szOf P el = some (m + 1)) (hz : zeroOf P el = some z) (hzs : z.cells.size = m + 1) (hbs : bytesOf P el = some bs) (hb0 : 0 < bs) (hb1 : bs ≤ 256) (hk0 : 0 < k) (hle : k ≤ (lenMax : Int)) :
    ∃ W' x, (Builtin.append_ ts tyId #[v, .int kq k]).run P W.w = .ok x W'.w ∧ FRep W' none 0 (.gr H.length 0 (m + 1) k.toNat) x ∧ HInv C (H ++ [[.row 0 []]]) W' ∧ Evo W W' (fun _ _ => True) := by
  subst hC ht
  obtain ⟨n, rfl⟩ : ∃ n : Nat, k = n := ⟨k.toNat, by omega⟩
  have hn : n ≤ 137438953472 := by have : (lenMax : Int) = 137438953472 := rfl; omega
  have hi : ∃ i, C.P.info? el = some i ∧ i.bytes = bs := by
    unfold bytesOf at hbs
    exact Option.map_eq_some_iff.1 hbs
  obtain ⟨inf, hinf, hinfb⟩ := hi
  have hsz' : inf.size = m + 1 := by unfold szOf at hsz; rw [hinf] at hsz; simpa using hsz
  have hz' : inf.zero = some z := by unfold zeroOf at hz; rw [hinf] at hz; simpa using hz
  have hrep2 := hv
  cases hv with
  | @own _ _ _ A len cap hrep hsp =>
    have hlen := hrep.length
    simp only [List.length_nil] at hlen
    subst hlen
    have hcap : cap = 0 := by
      rcases hsp with h | ⟨e₀, _, _, _, _, h0, _⟩
      · exact h
      · simp at h0
    subst hcap
    have hcapb := nextcap_le (n := 0 + n) (c := 0) (by omega)
    have hfit : Builtin.nextslicecap (0 + n) 0 * bs ≤ 281474976710656 := by
      have h9 : Builtin.nextslicecap (0 + n) 0 * bs ≤ (2 * (0 + n) + 256) * 256 := Nat.mul_le_mul hcapb hb1
      have h8 : (2 * (0 + n) + 256) * 256 ≤ 281474976710656 := by omega
      exact Nat.le_trans h9 h8
    have hold : (Builtin.firstCells inf.size 0 (.slice A 0 0)).run C.P W.w.drew = .ok ([] : List Value).toArray W.w.drew := by
      obtain ⟨os', _, hos2', hos3', _⟩ := row_sound (P := C.P) (m := m) (hrep2.mono (Evo.drew W (fun _ _ => True)) (by simp)) (show (FV.own []).asRow = some [] from rfl) (fun _ h => by simp at h)
      have hos0 : os' = #[] := by
        have := hos3'.size
        simpa using this
      subst hos0
      rw [hsz']
      exact hos2'
    have hrun := Go.Lib.run_append_grow_zeros (P := C.P) W.w t ut tyId el inf z kq kn hel hud hinf hz' A 0 0 [] hold n (by omega) (by omega) (by omega) (by omega) (by have : n * inf.bytes ≤ 137438953472 * 256 := Nat.mul_le_mul hn (by omega); omega) (by rw [hinfb]; exact hfit)
    generalize hN : grownCap W.w (0 + n) 0 el = N at hrun
    have hNge : n ≤ N := by rw [← hN]; simp [grownCap, Question.cut]
    obtain ⟨W', hw, hH', hE, hβ, ho, hgn⟩ := hH.drew.newRow (([] : List Value).toArray ++ Builtin.zeroCells z.cells n ++ Builtin.zeroCells z.cells (N - (0 + n))) el [] (Nat.zero_le _) (fun k f v hf hv => by simp at hf)
    have hEE : Evo W W' (fun _ _ => True) := ((Evo.drew W (fun _ _ => True)).trans hE).weaken (by simp)
    refine ⟨W', _, by rw [hw]; exact hrun, ?_, hH', hEE⟩
    have hb : FRep W' none 0 (.gr H.length 0 (m + 1) n) (.slice (some ⟨W'.β H.length, 0, none⟩) n N) := .gr (Nat.zero_le _) hNge fun _ => ⟨rfl, by rw [hβ]; exact ho, _, _, _, by rw [hβ, hw]; exact heap_alloc_new, by
      rw [Array.size_append, Array.size_append, run_zeroCells hzs, run_zeroCells hzs]
      simp only [List.size_toArray, List.length_nil, Nat.zero_add]
      rw [← Nat.add_mul]
      exact Nat.le_of_eq (by congr 1; omega)⟩
    rw [hβ, show W.drew.w.heap.size = W.w.heap.size from rfl] at hb
    simpa using hb
theorem wp_append_zeros (hi : Inv C nt e H a W) {o : Oper} (hd : dstOk nt o.dst) {args : Array Operand} {ts : Array TypeId} (ho : o.op = .call { callee := .builtin .append, args, argTypes := ts })
    (h : ZerosQ C e o.dst args.toList ts.toList H K) : o.wp C.P a W.w (After C nt W K) Q := by
  unfold ZerosQ at h
  split at h
  · rename_i x y t u hargs hts
    split at h
    · rename_i el kn hel hud
      split at h
      · rename_i m z bs f kk k hsz hz hbs hx hy
        obtain ⟨hf, hzs, h0, h1, h2, h3, hK⟩ := h
        obtain ⟨_, _, hr⟩ := rd_sound hi hx
        have hr := hr.home
        rw [hf] at hr
        obtain ⟨_, _, hry⟩ := rd_sound hi hy
        have hyv := hry.int
        have ha : args = #[x, y] := by rw [← Array.toList_inj]; simpa using hargs
        have ht : ts = #[t, u] := by rw [← Array.toList_inj]; simpa using hts
        obtain ⟨W', v, g1, g2, g3, g4⟩ := grow_zeros (tyId := o.type) (kq := kk) rfl hi.heap hr ht hud hel hsz hz hzs hbs h2 h3 h0 h1
        refine wp_of (s := Builtin.append_ ts o.type #[a.eval x, a.eval y]) (W' := W') (v := v) ?_ (by rw [hyv]; exact g1) ⟨g3, fun s => ?_, by rw [put_size]; exact hi.size, by rw [put_defers]; exact hi.defers⟩ (g4.weaken (by simp)) hK
        · obtain ⟨dst, op, ty, pos, after, guard⟩ := o
          simp only at ho
          subst ho ha
          simp only [execOp, resolve, invoke, builtin, pure_bind, List.map_toArray, List.map_cons, List.map_nil]
        · rw [tmps_put hd hi.size, get_put]
          split
          · exact g2.weaken rfl
          · exact (hi.env s).mono g4 (by simp)
      · exact h.elim
    · exact h.elim
  · exact h.elim
end
end Go.Proofs.YtlbjfjaleefiiaaDoor.Ev
end
section
namespace Go.Proofs.YtlbjfjaleefiiaaDoor.Ev
open Go
section
variable {C : Ctx} {nt : Nat} {mv : List Nat} {e : Env} {H : Heap} {a : Act} {W : Wd} {K : Env → Heap → Prop} {Q : Exit → Act → World → Prop}
theorem store_anyR (hi : Inv C nt e H a W) {dst : Option Tmp} (hd : dstOk nt dst) {t : TypeId} {x y : Operand} {f : FV} {e' : Env} {l fs gs₀ : List FV} {b off n : Nat}
    (hxv : a.eval x = .pointer (some ⟨W.β b, off, none⟩)) (hfs : H[b]? = some fs) (hg : give C e y = some (f, e')) (hn : szOf C.P t = some n) (hl : rowCells f = some l) (hleaf : l.all FV.isLeaf = true) (hln : l.length = n) (hle : off + n ≤ (body fs).length)
    (hgb : body gs₀ = splice (body fs) off (l.map FV.home)) (hgo : ∀ W, Own W b fs → Own W b gs₀) :
    ∃ W', (Instr.storeAt t (a.eval x) (a.eval y)).run C.P W.w = .ok () W'.w ∧ Inv C nt (e'.put dst .undef) (H.set b gs₀) (a.put dst undef) W' ∧ Evo W W' (fun _ _ => False) := by
  have hlt : b < H.length := (List.getElem?_eq_some_iff.1 hfs).1
  obtain ⟨W₁, h1, h1b, h2, h6, h7, h4, h5⟩ := give_cells hi hg hl hleaf b off
  have hH := h5 H hi.heap
  obtain ⟨k1, k2, c, T, fz, k3, k4, k5, k6⟩ := hH.box b fs hfs
  have hvl : (a.eval y).cells.toList.length = n := by simp [h6, hln]
  have hone : ∀ v ∈ (a.eval y).cells.toList, v.oneCell' = true := fun v hv => by
    obtain ⟨j, hj⟩ := List.getElem?_of_mem hv
    have hjl : j < l.length := by
      rcases Nat.lt_or_ge j l.length with h' | h'
      · exact h'
      · rw [List.getElem?_eq_none (by omega)] at hj; simp at hj
    obtain ⟨q1, q2⟩ := h7 j _ v (by rw [List.getElem?_map, List.getElem?_eq_getElem hjl]; rfl) (by simpa using hj)
    exact (q2.leafValue q1).1
  obtain ⟨w', c', r1, r2, r3, r4, r5, r6, r7, r8, r9⟩ := run_storeCells_at' (P := C.P) (A := ⟨W₁.β b, off, none⟩) rfl (a.eval y).cells.toList 0 W₁.w c T fz k3 (by simp only; omega) k5 hone
  have hE : Evo W₁ { W₁ with w := w' } (fun _ _ => True) := by
    refine Evo.of r7 r8 r9 (by simp only [r6]; exact Nat.le_refl _) (fun b' o' ho' => ?_) (fun _ => Nat.le_refl _) (fun b' c₀ T₀ fz₀ hb' => ?_) (fun _ _ _ h _ => ⟨h, rfl⟩) (fun _ _ h h' => ⟨h', h⟩) (fun _ => ⟨Nat.le_refl _, fun _ h => ⟨rfl, h⟩⟩) (fun b' _ hb' => ?_)
    · have : b' ≠ W₁.β b := fun h => by rw [h, k2] at ho'; omega
      simp only [World.cell?, r5 b' this]
    · by_cases hbb : b' = W₁.β b
      · subst hbb
        rw [k3] at hb'
        simp only [Option.some.injEq, Obj.cells.injEq] at hb'
        obtain ⟨rfl, rfl, rfl⟩ := hb'
        exact ⟨c', r2, r3⟩
      · exact ⟨c₀, by simp only; rw [r5 b' hbb]; exact hb', rfl⟩
    · have : b' ≠ W₁.β b := fun h => by rw [h, k1.1] at hb'; simp at hb'
      exact ⟨by simp only; rw [r5 b' this], rfl, hb'⟩
  refine ⟨{ W₁ with w := w' }, ?_, ⟨⟨?_, ?_, ?_, ?_, fun b' hb' => hH.gen0 b' (by simpa using hb'), hH.kept.evo hE⟩, fun s => ?_, by rw [put_size]; exact hi.size, by rw [put_defers]; exact hi.defers⟩, ((h2.weaken (k' := fun _ _ => False) (by simp)).trans (hE.weaken (k' := fun _ _ => False) (by simp))).weaken (by simp)⟩
  · rw [hxv]
    unfold Instr.storeAt storeVar
    simp only [Instr.sureAddr, Sem.run_bind, Sem.run_pure, Result.andThen_ok, run_sizeOf' hn]
    rw [if_neg (by simp; omega)]
    rw [← h1b]
    rw [← h1]
    exact r1
  · intro b' gs hgs
    by_cases hbb : b' = b
    · subst hbb
      rw [List.getElem?_set_self hlt] at hgs
      simp only [Option.some.injEq] at hgs
      subst hgs
      refine ⟨hgo { W₁ with w := w' } k1, k2, c', T, fz, r2, by rw [hgb, r3, splice_length (by simp; omega)]; exact k4, by rw [r3]; exact k5, fun i g v hg hv => ?_⟩
      rw [hgb, splice_get (by simp; omega)] at hg
      rw [r4] at hv
      simp only [List.length_map, Nat.add_zero] at hg hv
      by_cases hio : off ≤ i ∧ i < off + l.length
      · rw [if_pos hio] at hg
        rw [if_pos (by omega)] at hv
        obtain ⟨q1, q2⟩ := h7 (i - off) g v hg (by simpa using hv)
        rw [show off + (i - off) = i by omega] at q2
        exact ⟨q1, q2.mono hE (by simp)⟩
      · rw [if_neg hio] at hg
        rw [if_neg (by omega)] at hv
        exact ⟨(k6 i g v hg hv).1, (k6 i g v hg hv).2.mono hE (by simp)⟩
    · rw [List.getElem?_set_ne (fun h => hbb h.symm)] at hgs
      obtain ⟨m1, m2, c₂, T₂, fz₂, m3, m4, m5, m6⟩ := hH.box b' gs hgs
      have hne : W₁.β b' ≠ W₁.β b := fun h => by
        have q := m1.1
        rw [h, k1.1] at q
        simp at q
        exact hbb q.1.symm
      exact ⟨m1, m2, c₂, T₂, fz₂, by simp only; rw [r5 _ hne]; exact m3, m4, m5, fun i g v hg hv => ⟨(m6 i g v hg hv).1, (m6 i g v hg hv).2.mono hE (by simp)⟩⟩
  · intro g ls hls j q' hq'
    obtain ⟨m1, m2, v, m3, m4⟩ := hH.laid g ls hls j q' hq'
    exact ⟨m1, m2, v, by rw [hE.cell _ _ m2]; exact m3, m4.mono hE.cell hE.lim⟩
  · intro b' hb'
    simp only [r6] at hb'
    exact hH.fresh b' hb'
  · intro b' i k hb'
    rw [List.length_set]
    exact hH.boxes b' i k hb'
  · rw [tmps_put hd hi.size, get_put]
    split
    · exact .undef
    · exact (h4 s).mono hE (by simp)
theorem step_storeR (hi : Inv C nt e H a W) {dst : Option Tmp} (hd : dstOk nt dst) {t : TypeId} {x y : Operand} {f : FV} {e' : Env} {l : List FV} {b off n : Nat}
    (hx : rd C e x = some (.ptr b off)) (hg : give C e y = some (f, e')) (hn : szOf C.P t = some n) (hl : rowCells f = some l) (hleaf : l.all FV.isLeaf = true) (hln : l.length = n) (hle : off + n ≤ (H.getD b []).length) :
    ∃ W', (Instr.storeAt t (a.eval x) (a.eval y)).run C.P W.w = .ok () W'.w ∧ Inv C nt (e'.put dst .undef) (H.set b (splice (H.getD b []) off (l.map FV.home))) (a.put dst undef) W' ∧ Evo W W' (fun _ _ => False) := by
  obtain ⟨_, _, hrx⟩ := rd_sound hi hx
  have hbo := box_alive hrx
  have hxv := box_get hrx
  have hlt := hi.heap.boxes _ _ _ hbo
  rw [heap_get hlt] at hle ⊢
  obtain ⟨k0, k1, _, c, T, fz, _, k4, _, k6⟩ := hi.heap.box0 (List.getElem?_eq_getElem hlt) hbo
  have hlf : ∀ (i : Nat) (g : FV), (splice H[b] off (l.map FV.home))[i]? = some g → g.isLeaf = true := fun i g hg => by
    rw [splice_get (by simp; omega)] at hg
    split at hg
    · rw [List.getElem?_map, Option.map_eq_some_iff] at hg
      obtain ⟨g', hg', rfl⟩ := hg
      exact FV.home_leaf (List.all_eq_true.1 hleaf g' (List.mem_of_getElem? hg'))
    · have hlt' := (List.getElem?_eq_some_iff.1 hg).1
      exact (k6 i g c[i] hg (by simp [show i < c.size by omega])).1
  obtain ⟨q0, q1, q2⟩ := kind_leaf hlf
  exact store_anyR hi hd hxv (List.getElem?_eq_getElem hlt) hg hn hl hleaf hln (by rw [k1]; exact hle) (by rw [k1, q1]) (fun W ho => ⟨by rw [q0, ← k0]; exact ho.1, q2 _ _⟩)
theorem step_storeRowR (hi : Inv C nt e H a W) {dst : Option Tmp} (hd : dstOk nt dst) {t : TypeId} {x y : Operand} {f : FV} {e' : Env} {l m : List FV} {b g off n : Nat}
    (hx : rd C e x = some (.gp b g off)) (hb : rowOf H b = some (g, m)) (hg : give C e y = some (f, e')) (hn : szOf C.P t = some n) (hl : rowCells f = some l) (hleaf : l.all FV.isLeaf = true) (hln : l.length = n) (hle : off + n ≤ m.length) :
    ∃ W', (Instr.storeAt t (a.eval x) (a.eval y)).run C.P W.w = .ok () W'.w ∧ Inv C nt (e'.put dst .undef) (H.set b [.row g (splice m off (l.map FV.home))]) (a.put dst undef) W' ∧ Evo W W' (fun _ _ => False) := by
  obtain ⟨_, _, hrx⟩ := rd_sound hi hx
  obtain ⟨hxv, _⟩ := gp_get hi.heap hrx hb rfl
  obtain ⟨_, hfs, _⟩ := hi.heap.row hb
  exact store_anyR hi hd hxv hfs hg hn hl hleaf hln hle rfl (fun W ho => ho)
theorem Inv.located {dst : Option Tmp} {y : Operand} {f : FV} {e₀ e' : Env} {H' : Heap} {tm : Act} (hg : give C e₀ y = some (f, e')) (b off : Nat) (h : Inv C nt (e'.put dst .undef) H' tm W) : Inv C nt ((located b off y f e').put dst .undef) H' tm W := by
  refine ⟨h.heap, fun s => ?_, h.size, h.defers⟩
  have hs := h.env s
  rw [get_put] at hs ⊢
  split
  · exact .undef
  · rename_i hds
    rw [if_neg hds] at hs
    unfold Ev.located
    split
    · rename_i t k o z l
      simp only [give, Option.some.injEq, Prod.mk.injEq] at hg
      obtain ⟨hf, rfl⟩ := hg
      simp only [Env.get] at hs ⊢
      split
      · rename_i hts
        rw [if_pos hts, hf] at hs
        have hs' : FRep W (some (.tmp s)) 0 (.exr k o (l.length + 1) .res) (tm.tmps.getD s undef) := hs
        generalize tm.tmps.getD s undef = v at hs'
        cases hs' with
        | exr => exact .exr
      · rename_i hts
        rw [if_neg hts] at hs
        exact hs
    · exact hs
theorem grow_pend {P : Program} {W : Wd} {root : Root} (hroot : ∀ b, root ≠ .box b) (hroot' : ∀ b i, root ≠ .leaf b i) (hH : HInv C H W) {l : List PV} {p : PV} {v u : Value} {tyId t ut el : TypeId} {ud : TypeDesc} {ts : Array TypeId} {m bs : Nat} {z : Value} {g : FV} {rg : Option Root} {ig : Nat}
    (hv : FRep W (some root) 0 (.own l) v) (hu : FRep W rg ig g u) (hg : g.asRow = some [p]) (ht : ts[0]? = some t) (ht' : ts[1]? = some ut) (hud : P.underlying ut = some ud) (hni : ∀ k, ud ≠ .int k)
    (hel : P.underlying t = some (.slice el)) (hsz : szOf P el = some (m + 1)) (hz : zeroOf P el = some z) (hzs : z.cells.size = m + 1) (hbs : bytesOf P el = some bs) (hb0 : 0 < bs) (hb1 : bs ≤ 256)
    (hl : Sized (m + 1) l) (hp : p.leaves.length = m + 1) (hle : l.length + 1 ≤ lenMax) :
    ∃ W' k o x, (Builtin.append_ ts tyId #[v, u]).run P W.w = .ok x W'.w ∧ FRep W' (some root) 0 (.ext k o (m + 1) l) x ∧ HInv C H W' ∧ Evo W W' (fun q _ => q ≠ root) := by
  have hr : Sized (m + 1) [p] := fun q hq => by simp at hq; subst hq; exact hp
  obtain ⟨ns, hns1, hns2, hns3, _⟩ := row_sound (P := P) hu hg hr
  obtain ⟨os, hos1, hos2, hos3, hos4⟩ := row_sound (P := P) hv (show (FV.own l).asRow = some l from rfl) hl
  have hi : ∃ i, P.info? el = some i ∧ i.bytes = bs := by
    unfold bytesOf at hbs
    exact Option.map_eq_some_iff.1 hbs
  obtain ⟨inf, hinf, hinfb⟩ := hi
  have hDv := hv.mono (Evo.drew W (fun _ _ => True)) (by simp)
  have hDu := hu.mono (Evo.drew W (fun _ _ => True)) (by simp)
  simp only [List.length_singleton] at hns1 hns2
  have hns3s := hns3.size
  simp only [List.length_singleton, Nat.one_mul] at hns3s
  cases hv with
  | @own _ _ _ A len cap hrep hsp =>
    have hlen := hrep.length
    have hlc := hrep.head
    subst hlen
    have e0 : (#[Value.slice A l.length cap, u] : Array Value)[0]? = some (.slice A l.length cap) := rfl
    have e1 : (#[Value.slice A l.length cap, u] : Array Value)[1]? = some u := rfl
    unfold Builtin.append_
    simp only [ht, e0, e1, ht', Sem.run_bind, run_underlying' hel, run_underlying' hud, Result.andThen_ok, run_sizeOf' hsz, Sem.run_pure, Bool.false_eq_true, if_false, hns1]
    by_cases hneed : l.length + 1 ≤ cap
    · rw [if_pos hneed]
      simp only [Bool.not_false, if_true, Sem.run_bind, hns2, Result.andThen_ok]
      rcases hsp with hsp | ⟨e₀, x, c, T, fz, h0, rfl, h2, h3, h4, h5, h6, h7, h8⟩
      · omega
      · obtain ⟨xb, xo, xs⟩ := x
        simp only at h2 h4 h5 h7 h8
        subst h2
        have hz0 : e₀.leaves.length = m + 1 := hl _ (List.mem_of_getElem? h0)
        rw [hz0] at h7 h8
        simp only [Option.map_some] at h4
        have hmul : (l.length + 1) * (m + 1) ≤ cap * (m + 1) := Nat.mul_le_mul_right _ hneed
        rw [Nat.add_mul, Nat.one_mul] at hmul
        have hnl : ns.toList.length = m + 1 := by simp [hns3s]
        obtain ⟨w', c', r1, r2, r3, r4, r5, r6, r7, r8, r9⟩ := run_storeCells_at' (P := P) (A := ⟨xb, xo + l.length * (m + 1), none⟩) rfl ns.toList 0 W.w c T fz h5 (by rw [hnl]; simp only; omega) h6 (hns3.one (by omega))
        simp only [hnl, Nat.add_zero] at r2 r4 r5
        have hadd : (⟨xb, xo, none⟩ : Addr).add (l.length * (m + 1)) = ⟨xb, xo + l.length * (m + 1), none⟩ := Addr.add_none rfl _
        have hE : Evo W { W with w := w' } (fun q _ => q ≠ root) := by
          refine Evo.of r7 r8 r9 (by simp only [r6]; exact Nat.le_refl _) (fun b' o' ho' => ?_) (fun b' => Nat.le_refl _) (fun b' c₀ T₀ fz₀ hb' => ?_) (fun b' q i h hq => ⟨h, rfl⟩) (fun b' i h h' => ⟨h', h⟩) (fun _ => ⟨Nat.le_refl _, fun _ h => ⟨rfl, h⟩⟩) (fun b' _ hb' => ?_)
          · by_cases hbb : b' = xb
            · subst hbb
              rw [h8] at ho'
              rw [cell_of_heap r2, cell_of_heap h5, r4, if_neg (by omega)]
            · simp only [World.cell?, r5 b' hbb]
          · by_cases hbb : b' = xb
            · subst hbb
              rw [h5] at hb'
              simp only [Option.some.injEq, Obj.cells.injEq] at hb'
              obtain ⟨rfl, rfl, rfl⟩ := hb'
              exact ⟨c', r2, r3⟩
            · exact ⟨c₀, by simp only; rw [r5 b' hbb]; exact hb', rfl⟩
          · have : b' ≠ xb := fun hh => by rw [hh, h4] at hb'; simp at hb'
            exact ⟨by simp only; rw [r5 b' this], rfl, hb'⟩
        refine ⟨_, xb, xo, .slice (some ⟨xb, xo, none⟩) (l.length + 1) cap, ?_, ?_, ?_, hE⟩
        · simp only [Sem.run_bind, hadd, r1, Result.andThen_ok, Sem.run_pure]
        · exact .ext (hrep.mono hE.cell hE.lim) ⟨by simp, by simpa using h4, hneed, by omega, hl, h8, c', T, fz, r2, by rw [r3]; exact h6, by rw [r3]; exact h7⟩
        · constructor
          · intro b fs hfs
            obtain ⟨m1, m2, c₂, T₂, fz₂, m3, m4, m5, m6⟩ := hH.box b fs hfs
            have hne : W.β b ≠ xb := fun h => by
              have q := m1.1
              rw [h, h4] at q
              simp at q
              exact hroot _ q.1
            refine ⟨m1, m2, c₂, T₂, fz₂, by simp only; rw [r5 _ hne]; exact m3, m4, m5, fun i g v hg hv => ⟨(m6 i g v hg hv).1, (m6 i g v hg hv).2.mono hE (fun q j hq => by cases hq; exact (hroot' _ _).symm)⟩⟩
          · intro g ls hls j q' hq'
            obtain ⟨m1, m2, v, m3, m4⟩ := hH.laid g ls hls j q' hq'
            exact ⟨m1, Nat.lt_of_lt_of_le m2 (hE.lim g), v, by rw [hE.cell _ _ m2]; exact m3, m4.mono hE.cell hE.lim⟩
          · intro b hb
            simp only [r6] at hb
            exact hH.fresh b hb
          · exact hH.boxes
          · exact hH.gen0
          · exact hH.kept.evo hE
    · rw [if_neg hneed]
      obtain ⟨ns', _, hns2', hns3', _⟩ := row_sound (P := P) hDu hg hr
      obtain ⟨os', _, hos2', hos3', _⟩ := row_sound (P := P) hDv (show (FV.own l).asRow = some l from rfl) hl
      simp only [List.length_singleton] at hns2'
      have hns3s' := hns3'.size
      simp only [List.length_singleton, Nat.one_mul] at hns3s'
      have hcapb := nextcap_le (n := l.length + 1) (c := cap) (by omega)
      have hlim : l.length + 1 ≤ 137438953472 := hle
      have hnr : ¬ (Builtin.nextslicecap (l.length + 1) cap * bs > 2 ^ 48) := by
        have : Builtin.nextslicecap (l.length + 1) cap * bs ≤ (2 * (l.length + 1) + 256) * 256 := Nat.mul_le_mul hcapb hb1
        omega
      have hforced : (Question.appendCap (l.length + 1) cap el).forced = false := rfl
      have hch : (choose (.appendCap (l.length + 1) cap el)).run P W.w = .ok ((Question.appendCap (l.length + 1) cap el).cut (W.w.tape W.w.drawn (.appendCap (l.length + 1) cap el))) W.drew.w := by
        simp [hforced, Wd.drew]
      generalize hN : (Question.appendCap (l.length + 1) cap el).cut (W.w.tape W.w.drawn (.appendCap (l.length + 1) cap el)) = N at hch
      have hNge : l.length + 1 ≤ N := by rw [← hN]; simp [Question.cut]
      simp only [Bool.not_false, if_true, Sem.run_bind, run_typeInfo' hinf, Result.andThen_ok, hinfb, false_or]
      rw [if_neg (by omega)]
      simp only [Sem.run_bind, run_typeInfo' hinf, Result.andThen_ok, hinfb]
      rw [if_neg hnr]
      simp only [Sem.run_bind, hch, Result.andThen_ok, run_typeInfo' hinf, run_askRoom, hos2', hns2', run_zeroValue' hz, newRow, run_newObj, Sem.run_pure, World.alloc_eq]
      generalize hR : Builtin.zeroCells z.cells (N - (l.length + 1)) = rest
      have hRs : rest.size = (N - (l.length + 1)) * (m + 1) := by rw [← hR]; exact run_zeroCells hzs
      have hHd := hH.drew
      have hE2 := Evo.more (W := W.drew) hHd.toFresh (.cells (os' ++ ns' ++ rest) el) (some (root, 0)) (l.length * (m + 1)) (β := W.drew.β) (fun _ _ _ _ => rfl)
      have hE : Evo W (W.drew.more (.cells (os' ++ ns' ++ rest) el) (some (root, 0)) (l.length * (m + 1)) W.drew.β) (fun q _ => q ≠ root) := ((Evo.drew W (fun _ _ => True)).trans hE2).weaken (by simp)
      refine ⟨_, W.drew.w.heap.size, 0, _, rfl, ?_, hHd.more _ _ _ (by simp; exact fun i => hroot i), hE⟩
      have hrc := hos3'.mono hE2
      have hcs : (os' ++ ns' ++ rest).size = N * (m + 1) := by
        simp only [Array.size_append, hos3'.size, hns3s', hRs]
        rw [show l.length * (m + 1) + (m + 1) = (l.length + 1) * (m + 1) by rw [Nat.add_mul, Nat.one_mul], ← Nat.add_mul]
        congr 1; omega
      have hheap : (W.drew.more (.cells (os' ++ ns' ++ rest) el) (some (root, 0)) (l.length * (m + 1)) W.drew.β).w.heap[W.drew.w.heap.size]? = some (.cells (os' ++ ns' ++ rest) el (0, 0)) := heap_alloc_new
      have := hrc.rep (by omega) (A := ⟨W.drew.w.heap.size, 0, none⟩) (cap := N) rfl (by simp [Wd.more]) (fun k hk => by
        simp only [Nat.zero_add]
        rw [cell_of_heap hheap, Array.append_assoc, Array.getElem?_append_left hk]) (by omega)
      exact .ext this ⟨by simp, by simp [Wd.more], hNge, by omega, hl, by simp [Wd.more], _, _, _, hheap, fun _ _ => by simp, by rw [hcs]; simp⟩
theorem wp_append_pend (hi : Inv C nt e H a W) {o : Oper} (hd : dstOk nt o.dst) {args : Array Operand} {ts : Array TypeId} (ho : o.op = .call { callee := .builtin .append, args, argTypes := ts })
    (h : PendQ C e o.dst args.toList ts.toList H K) : o.wp C.P a W.w (After C nt W K) Q := by
  unfold PendQ at h
  split at h
  · rename_i x y t u tr hargs hts
    split at h
    · rename_i el ud hel hud
      split at h
      · rename_i m z bs f e' g hsz hz hbs hg hy
        split at h
        · rename_i l p hf hr
          obtain ⟨hni, hzs, hb0, hb1, hl, hp, hle, hK⟩ := h
          have hdr : ∃ d : Root, (∀ i, d ≠ .box i) ∧ (∀ i j, d ≠ .leaf i j) ∧ (∀ t, o.dst = some t → d = .tmp t) ∧ ∀ t, d = .tmp t → o.dst = some t := by
            cases hod : o.dst with
            | none => exact ⟨.res, by simp, by simp, by simp, by simp⟩
            | some t => exact ⟨.tmp t, by simp, by simp, by simp, by simp⟩
          obtain ⟨d, hd1, hd2, hd3, hd4⟩ := hdr
          obtain ⟨W₁, h1, h1l, h1b, h2, h3, h4, h5⟩ := give_sound hi hg (r := d) hd1
          have h3' := h3.home
          rw [hf] at h3'
          obtain ⟨_, _, hu⟩ := rd_sound hi hy
          have hgs := asRow_weak h2 hu hr
          have hgo : ∃ (W' : Wd) (k q : Nat) (v : Value), (Builtin.append_ ts o.type #[a.eval x, a.eval y]).run C.P W₁.w = .ok v W'.w ∧ FRep W' (some d) 0 (.ext k q (m + 1) l) v ∧ HInv C H W' ∧ Evo W₁ W' (fun q _ => q ≠ d) := by
            have ht0 : ts[0]? = some t := by rw [← Array.getElem?_toList, hts]; rfl
            have ht1 : ts[1]? = some u := by rw [← Array.getElem?_toList, hts]; rfl
            rcases hgs with hgs | ⟨s, rfl, hs⟩
            · exact grow_pend hd1 hd2 (h5 H hi.heap) h3' hgs rfl ht0 ht1 hud hni hel hsz hz hzs hbs hb0 hb1 hl hp hle
            · exact grow_pend hd1 hd2 (h5 H hi.heap) h3' (rg := none) (ig := 0) (g := .sc (.str s)) (by rw [hs]; exact .mkStr) hr ht0 ht1 hud hni hel hsz hz hzs hbs hb0 hb1 hl hp hle
          obtain ⟨W', k, q, v, g1, g2, g3, g4⟩ := hgo
          refine wp_of (s := Builtin.append_ ts o.type #[a.eval x, a.eval y]) (W' := W') (v := v) ?_ (by rw [← h1]; exact g1) ⟨g3, fun s => ?_, by rw [put_size]; exact hi.size, by rw [put_defers]; exact hi.defers⟩ (((h2.weaken (k' := fun _ _ => False) (by simp)).trans (g4.weaken (k' := fun _ _ => False) (by simp))).weaken (by simp)) (hK k q)
          · obtain ⟨dst, op, ty, pos, after, guard⟩ := o
            simp only at ho
            subst ho
            have : args = #[x, y] := by rw [← Array.toList_inj]; simpa using hargs
            subst this
            simp only [execOp, resolve, invoke, builtin, pure_bind, List.map_toArray, List.map_cons, List.map_nil]
          · rw [tmps_put hd hi.size, get_put]
            split
            · rename_i hdt
              rw [hd3 s hdt] at g2
              exact g2
            · rename_i hdt
              have hds : d ≠ .tmp s := fun h => hdt (hd4 s h)
              exact (h4 s hds).mono g4 (fun q j hq => by cases hq; exact fun h => hds h.symm)
        · exact h.elim
      · exact h.elim
    · exact h.elim
  · exact h.elim
theorem setBody_body {fs : List FV} {off : Nat} {f : FV} (hf : f.isLeaf = true) (hlt : off < (body fs).length) : body (setBody fs off f) = (body fs).set off f ∧ rowK (setBody fs off f) = rowK fs ∧ ∀ W b, GenOk W b fs → GenOk W b (setBody fs off f) := by
  rcases kind_cases fs with ⟨k1, k2, k3⟩ | ⟨g, c, rfl⟩
  · have hs : setBody fs off f = fs.set off f := by
      unfold setBody
      split
      · simp [rowK] at k1
      · rfl
    rw [hs, k2]
    have hlf : ∃ x, (fs.set off f)[off]? = some x ∧ x.isLeaf = true := ⟨f, by rw [List.getElem?_set_self (by rw [← k2]; exact hlt)], hf⟩
    rcases kind_cases (fs.set off f) with ⟨q1, q2, q3⟩ | ⟨g, c, hq⟩
    · exact ⟨q2, by rw [q1, k1], fun W b _ => q3 W b⟩
    · obtain ⟨x, hx, hxl⟩ := hlf
      rw [hq] at hx
      cases off with
      | zero => simp at hx; subst hx; simp [FV.isLeaf] at hxl
      | succ off => simp at hx
  · exact ⟨rfl, rfl, fun W b h => h⟩
theorem give_rd {C : Ctx} {e e' : Env} {x : Operand} {f : FV} (h : give C e x = some (f, e')) : rd C e x = some f := by
  cases x with
  | tmp t => simp only [give, Option.some.injEq, Prod.mk.injEq] at h; simp [rd, h.1]
  | _ =>
    simp only [give, Option.map_eq_some_iff] at h
    obtain ⟨g, hg, hh⟩ := h
    simp only [Prod.mk.injEq] at hh
    rw [hg, hh.1]
theorem step_storePend (hi : Inv C nt e H a W) {dst : Option Tmp} (hd : dstOk nt dst) {t : TypeId} {x y : Operand} {f : FV} {b off n k q o z : Nat} {rr : Root} {l : List PV} {p : PV}
    (hx : rd C e x = some (.exq k q rr)) (hy : rd C e y = some f) (hn : szOf C.P t = some n) (hp : (demote f).toPV = some p) (hc : (body (H.getD b []))[off]? = some (.ext k o z l)) (hq : q = o + l.length * z) (hnz : n = z) (hpl : p.leaves.length = z) :
    ∃ W', (Instr.storeAt t (a.eval x) (a.eval y)).run C.P W.w = .ok () W'.w ∧ Inv C nt (e.put dst .undef) (H.set b (setBody (H.getD b []) off (.own (l ++ [p])))) (a.put dst undef) W' ∧ Evo W W' (fun _ _ => False) := by
  subst hnz hq
  have hlt : b < H.length := by
    rcases Nat.lt_or_ge b H.length with h' | h'
    · exact h'
    · simp [List.getElem?_eq_none h', body] at hc
  rw [heap_get hlt] at hc ⊢
  have hfs : H[b]? = some H[b] := List.getElem?_eq_getElem hlt
  generalize hfsd : H[b] = fs at hc hfs ⊢
  obtain ⟨k1, k2, c, T, fz, k3, k4, k5, k6⟩ := hi.heap.box b fs hfs
  have hoff : off < (body fs).length := (List.getElem?_eq_some_iff.1 hc).1
  have hcv : c[off]? = some c[off] := by simp [show off < c.size by omega]
  obtain ⟨_, kr⟩ := k6 off _ _ hc hcv
  generalize hv0 : c[off] = v0 at hcv kr
  -- the address
  have hxv : a.eval x = .pointer (some ⟨k, o + l.length * n, none⟩) := by
    obtain ⟨_, _, hr⟩ := rd_sound hi hx
    generalize a.eval x = v at hr
    cases hr with
    | exq => rfl
  -- the value
  obtain ⟨r₀, i₀, hry⟩ : ∃ (r₀ : Option Root) (i₀ : Nat), FRep W r₀ i₀ (demote f) (a.eval y) := ⟨none, 0, demote_rd hi hy⟩
  obtain ⟨cs, hcs, hcl, hcg⟩ := toPV_cells hry hp
  obtain ⟨hvs, hvc⟩ := hry.cells hcs
  have hvc' : ∀ (j : Nat) (q : PV), p.leaves[j]? = some q → ∃ u, (a.eval y).cells[j]? = some u ∧ q.isLeaf = true ∧ Rep W.w W.lim q u := fun j q hq => by
    obtain ⟨g, hg, hgq⟩ := hcg j q hq
    have hj : j < (a.eval y).cells.size := by rw [hvs]; exact (List.getElem?_eq_some_iff.1 hg).1
    obtain ⟨⟨_, _, hr⟩, _⟩ := hvc j g _ hg (Array.getElem?_eq_getElem hj)
    obtain ⟨q1, q2⟩ := leafPV_rep hr hgq
    exact ⟨_, Array.getElem?_eq_getElem hj, q1, q2⟩
  have hns : RowCells W n [p] (a.eval y).cells := ⟨by simp [hvs, hcl, hpl], fun i j p' q hp' hq => by
    cases i with
    | zero => simp at hp'; subst hp'; obtain ⟨u, h1, h2, h3⟩ := hvc' j q hq; exact ⟨u, by simpa using h1, h2, h3⟩
    | succ i => simp at hp', fun i p' hp' => by
    cases i with
    | zero => simp at hp'; subst hp'; exact hpl
    | succ i => simp at hp'⟩
  have hnsz : (a.eval y).cells.size = n := by rw [hvs, hcl, hpl]
  cases kr with
  | @ext _ _ _ _ _ cap _ hrep hpend =>
    obtain ⟨_, p2, p3, p4, p5, p6, c₂, T₂, fz₂, p7, p8, p9⟩ := hpend
    simp only [Option.map_some] at p2
    have hmul : (l.length + 1) * n ≤ cap * n := Nat.mul_le_mul_right _ p3
    rw [Nat.add_mul, Nat.one_mul] at hmul
    have hnl : (a.eval y).cells.toList.length = n := by simp [hnsz]
    obtain ⟨w', c', r1, r2, r3, r4, r5, r6, r7, r8, r9⟩ := run_storeCells_at' (P := C.P) (A := ⟨k, o + l.length * n, none⟩) rfl (a.eval y).cells.toList 0 W.w c₂ T₂ fz₂ p7 (by simp only; omega) p8 (hns.one p4)
    simp only [hnl, Nat.add_zero] at r4
    have hkb : ∀ b', b' < H.length → W.β b' ≠ k := fun b' hb' h => by
      obtain ⟨m1, _⟩ := hi.heap.box b' _ (List.getElem?_eq_getElem hb')
      have q := m1.1
      rw [h, p2] at q
      simp at q
    have hE : Evo W { W with w := w', lim := fun b' => if b' = k then o + (l.length + 1) * n else W.lim b' } (fun q _ => q ≠ .leaf b off) := by
      refine Evo.of r7 r8 r9 (by simp only [r6]; exact Nat.le_refl _) (fun b' o' ho' => ?_) (fun b' => ?_) (fun b' c₀ T₀ fz₀ hb' => ?_) (fun b' q i h hq => ?_) (fun b' i h h' => ⟨h', h⟩) (fun _ => ⟨Nat.le_refl _, fun _ h => ⟨rfl, h⟩⟩) (fun b' _ hb' => ?_)
      · by_cases hbb : b' = k
        · subst hbb
          rw [p6] at ho'
          rw [cell_of_heap r2, cell_of_heap p7, r4, if_neg (by omega)]
        · simp only [World.cell?, r5 b' hbb]
      · simp only
        split
        · subst_vars; rw [p6, Nat.add_mul]; omega
        · exact Nat.le_refl _
      · by_cases hbb : b' = k
        · subst hbb
          rw [p7] at hb'
          simp only [Option.some.injEq, Obj.cells.injEq] at hb'
          obtain ⟨rfl, rfl, rfl⟩ := hb'
          exact ⟨c', r2, r3⟩
        · exact ⟨c₀, by simp only; rw [r5 b' hbb]; exact hb', rfl⟩
      · have : b' ≠ k := fun hh => by rw [hh, p2] at h; simp at h; exact hq h.1.symm
        exact ⟨h, by simp only; rw [if_neg this]⟩
      · have : b' ≠ k := fun hh => by rw [hh, p2] at hb'; simp at hb'
        exact ⟨by simp only; rw [r5 b' this], by simp only; rw [if_neg this], hb'⟩
    -- the row, with it
    obtain ⟨os, _, _, hos3, hos4⟩ := row_sound (P := C.P) (m := n - 1) (FRep.sc (r := none) (i := 0) rfl hrep) (show (FV.sc (.sl l)).asRow = some l from rfl) (fun q hq => by rw [p5 q hq]; omega)
    rw [show n - 1 + 1 = n by omega] at hos3
    have hrc := (hos3.append hns).mono hE
    have hrep' := hrc.rep p4 (A := ⟨k, o, none⟩) (cap := cap) rfl (by simp) (fun j hj => by
      simp only [Array.size_append, hos3.size, hnsz] at hj
      simp only
      rw [cell_of_heap r2, r4]
      by_cases hkl : j < l.length * n
      · rw [if_neg (by omega), Array.getElem?_append_left (by rw [hos3.size]; exact hkl), ← hos4 ⟨k, o, none⟩ _ _ rfl j (by rw [hos3.size]; exact hkl), cell_of_heap p7]
      · rw [if_pos (by omega), Array.getElem?_append_right (by rw [hos3.size]; omega), hos3.size, Array.getElem?_toList]
        congr 1; omega) (by simpa using p3)
    rw [List.length_append, List.length_singleton] at hrep'
    have hown : FRep { W with w := w', lim := fun b' => if b' = k then o + (l.length + 1) * n else W.lim b' } (some (.leaf b off)) 0 (.own (l ++ [p])) (.slice (some ⟨k, o, none⟩) (l.length + 1) cap) := by
      refine .own hrep' (.inr ?_)
      have hne : (l ++ [p]) ≠ [] := by simp
      obtain ⟨e₀, t₀, he⟩ := List.exists_cons_of_ne_nil hne
      have hz0 : e₀.leaves.length = n := by
        have : e₀ ∈ l ++ [p] := by rw [he]; simp
        rcases List.mem_append.1 this with h | h
        · exact p5 _ h
        · simp at h; subst h; exact hpl
      exact ⟨e₀, _, c', T₂, fz₂, by rw [he]; rfl, rfl, rfl, by simp, by simpa using p2, r2, by rw [r3]; exact p8, by rw [r3, hz0]; exact p9, by simp [hz0]⟩
    obtain ⟨s1, s2, s3⟩ := setBody_body (f := .own (l ++ [p])) rfl hoff
    refine ⟨{ W with w := w', lim := fun b' => if b' = k then o + (l.length + 1) * n else W.lim b' }, ?_, ⟨⟨?_, ?_, ?_, ?_, fun b' hb' => hi.heap.gen0 b' (by simpa using hb'), hi.heap.kept.evo hE⟩, fun s => ?_, by rw [put_size]; exact hi.size, by rw [put_defers]; exact hi.defers⟩, hE.weaken (by simp)⟩
    · rw [hxv]
      unfold Instr.storeAt storeVar
      simp only [Instr.sureAddr, Sem.run_bind, Sem.run_pure, Result.andThen_ok, run_sizeOf' hn]
      rw [if_neg (by simp; omega)]
      exact r1
    · intro b' gs hgs
      by_cases hbb : b' = b
      · subst hbb
        rw [List.getElem?_set_self hlt] at hgs
        simp only [Option.some.injEq] at hgs
        subst hgs
        refine ⟨⟨by rw [s2]; exact k1.1, s3 _ _ k1.2⟩, by simp only; rw [if_neg (hkb _ hlt)]; exact k2, c, T, fz, by simp only; rw [r5 _ (hkb _ hlt)]; exact k3, by rw [s1, List.length_set]; exact k4, k5, fun i g v hg hv => ?_⟩
        rw [s1] at hg
        by_cases hio : i = off
        · subst hio
          rw [List.getElem?_set_self hoff] at hg
          simp only [Option.some.injEq] at hg
          subst hg
          rw [hcv] at hv
          simp only [Option.some.injEq] at hv
          subst hv
          exact ⟨rfl, hown⟩
        · rw [List.getElem?_set_ne (fun h => hio h.symm)] at hg
          exact ⟨(k6 i g v hg hv).1, (k6 i g v hg hv).2.mono hE (fun q j hq => by cases hq; simp; omega)⟩
      · rw [List.getElem?_set_ne (fun h => hbb h.symm)] at hgs
        obtain ⟨m1, m2, c₃, T₃, fz₃, m3, m4, m5, m6⟩ := hi.heap.box b' gs hgs
        have hb' : b' < H.length := (List.getElem?_eq_some_iff.1 hgs).1
        exact ⟨m1, by simp only; rw [if_neg (hkb _ hb')]; exact m2, c₃, T₃, fz₃, by simp only; rw [r5 _ (hkb _ hb')]; exact m3, m4, m5, fun i g v hg hv => ⟨(m6 i g v hg hv).1, (m6 i g v hg hv).2.mono hE (fun q j hq => by cases hq; simp; intro h; exact absurd h hbb)⟩⟩
    · intro g ls hls j q' hq'
      obtain ⟨m1, m2, v, m3, m4⟩ := hi.heap.laid g ls hls j q' hq'
      exact ⟨m1, Nat.lt_of_lt_of_le m2 (hE.lim g), v, by rw [hE.cell _ _ m2]; exact m3, m4.mono hE.cell hE.lim⟩
    · intro b' hb'
      simp only [r6] at hb'
      obtain ⟨q1, q2⟩ := hi.heap.fresh b' hb'
      have hne : b' ≠ k := fun h => by rw [h, p2] at q2; simp at q2
      exact ⟨by simp only; rw [if_neg hne]; exact q1, q2⟩
    · intro b' i k' hb'
      rw [List.length_set]
      exact hi.heap.boxes b' i k' hb'
    · rw [tmps_put hd hi.size, get_put]
      split
      · exact .undef
      · exact (hi.env s).mono hE (fun q j hq => by cases hq; simp)
theorem step_storePendT (hi : Inv C nt e H a W) {dst : Option Tmp} (hd : dstOk nt dst) {t : TypeId} {x y : Operand} {f : FV} {s n k q o z : Nat} {rr : Root} {l : List PV} {p : PV}
    (hx : rd C e x = some (.exq k q rr)) (hy : rd C e y = some f) (hn : szOf C.P t = some n) (hp : (demote f).toPV = some p) (hc : e.get s = .ext k o z l) (hq : q = o + l.length * z) (hnz : n = z) (hpl : p.leaves.length = z) :
    ∃ W', (Instr.storeAt t (a.eval x) (a.eval y)).run C.P W.w = .ok () W'.w ∧ Inv C nt (Env.put ((s, .own (l ++ [p])) :: e) dst .undef) H (a.put dst undef) W' ∧ Evo W W' (fun _ _ => False) := by
  subst hnz hq
  have kr := hi.env s
  rw [hc] at kr
  generalize hv0 : a.tmps.getD s undef = v0 at kr
  -- the address
  have hxv : a.eval x = .pointer (some ⟨k, o + l.length * n, none⟩) := by
    obtain ⟨_, _, hr⟩ := rd_sound hi hx
    generalize a.eval x = v at hr
    cases hr with
    | exq => rfl
  -- the value
  obtain ⟨r₀, i₀, hry⟩ : ∃ (r₀ : Option Root) (i₀ : Nat), FRep W r₀ i₀ (demote f) (a.eval y) := ⟨none, 0, demote_rd hi hy⟩
  obtain ⟨cs, hcs, hcl, hcg⟩ := toPV_cells hry hp
  obtain ⟨hvs, hvc⟩ := hry.cells hcs
  have hvc' : ∀ (j : Nat) (q : PV), p.leaves[j]? = some q → ∃ u, (a.eval y).cells[j]? = some u ∧ q.isLeaf = true ∧ Rep W.w W.lim q u := fun j q hq => by
    obtain ⟨g, hg, hgq⟩ := hcg j q hq
    have hj : j < (a.eval y).cells.size := by rw [hvs]; exact (List.getElem?_eq_some_iff.1 hg).1
    obtain ⟨⟨_, _, hr⟩, _⟩ := hvc j g _ hg (Array.getElem?_eq_getElem hj)
    obtain ⟨q1, q2⟩ := leafPV_rep hr hgq
    exact ⟨_, Array.getElem?_eq_getElem hj, q1, q2⟩
  have hns : RowCells W n [p] (a.eval y).cells := ⟨by simp [hvs, hcl, hpl], fun i j p' q hp' hq => by
    cases i with
    | zero => simp at hp'; subst hp'; obtain ⟨u, h1, h2, h3⟩ := hvc' j q hq; exact ⟨u, by simpa using h1, h2, h3⟩
    | succ i => simp at hp', fun i p' hp' => by
    cases i with
    | zero => simp at hp'; subst hp'; exact hpl
    | succ i => simp at hp'⟩
  have hnsz : (a.eval y).cells.size = n := by rw [hvs, hcl, hpl]
  cases kr with
  | @ext _ _ _ _ _ cap _ hrep hpend =>
    obtain ⟨_, p2, p3, p4, p5, p6, c₂, T₂, fz₂, p7, p8, p9⟩ := hpend
    simp only [Option.map_some] at p2
    have hmul : (l.length + 1) * n ≤ cap * n := Nat.mul_le_mul_right _ p3
    rw [Nat.add_mul, Nat.one_mul] at hmul
    have hnl : (a.eval y).cells.toList.length = n := by simp [hnsz]
    obtain ⟨w', c', r1, r2, r3, r4, r5, r6, r7, r8, r9⟩ := run_storeCells_at' (P := C.P) (A := ⟨k, o + l.length * n, none⟩) rfl (a.eval y).cells.toList 0 W.w c₂ T₂ fz₂ p7 (by simp only; omega) p8 (hns.one p4)
    simp only [hnl, Nat.add_zero] at r4
    have hkb : ∀ b', b' < H.length → W.β b' ≠ k := fun b' hb' h => by
      obtain ⟨m1, _⟩ := hi.heap.box b' _ (List.getElem?_eq_getElem hb')
      have q := m1.1
      rw [h, p2] at q
      simp at q
    have hE : Evo W { W with w := w', lim := fun b' => if b' = k then o + (l.length + 1) * n else W.lim b' } (fun q _ => q ≠ .tmp s) := by
      refine Evo.of r7 r8 r9 (by simp only [r6]; exact Nat.le_refl _) (fun b' o' ho' => ?_) (fun b' => ?_) (fun b' c₀ T₀ fz₀ hb' => ?_) (fun b' q i h hq => ?_) (fun b' i h h' => ⟨h', h⟩) (fun _ => ⟨Nat.le_refl _, fun _ h => ⟨rfl, h⟩⟩) (fun b' _ hb' => ?_)
      · by_cases hbb : b' = k
        · subst hbb
          rw [p6] at ho'
          rw [cell_of_heap r2, cell_of_heap p7, r4, if_neg (by omega)]
        · simp only [World.cell?, r5 b' hbb]
      · simp only
        split
        · subst_vars; rw [p6, Nat.add_mul]; omega
        · exact Nat.le_refl _
      · by_cases hbb : b' = k
        · subst hbb
          rw [p7] at hb'
          simp only [Option.some.injEq, Obj.cells.injEq] at hb'
          obtain ⟨rfl, rfl, rfl⟩ := hb'
          exact ⟨c', r2, r3⟩
        · exact ⟨c₀, by simp only; rw [r5 b' hbb]; exact hb', rfl⟩
      · have : b' ≠ k := fun hh => by rw [hh, p2] at h; simp at h; exact hq h.1.symm
        exact ⟨h, by simp only; rw [if_neg this]⟩
      · have : b' ≠ k := fun hh => by rw [hh, p2] at hb'; simp at hb'
        exact ⟨by simp only; rw [r5 b' this], by simp only; rw [if_neg this], hb'⟩
    -- the row, with it
    obtain ⟨os, _, _, hos3, hos4⟩ := row_sound (P := C.P) (m := n - 1) (FRep.sc (r := none) (i := 0) rfl hrep) (show (FV.sc (.sl l)).asRow = some l from rfl) (fun q hq => by rw [p5 q hq]; omega)
    rw [show n - 1 + 1 = n by omega] at hos3
    have hrc := (hos3.append hns).mono hE
    have hrep' := hrc.rep p4 (A := ⟨k, o, none⟩) (cap := cap) rfl (by simp) (fun j hj => by
      simp only [Array.size_append, hos3.size, hnsz] at hj
      simp only
      rw [cell_of_heap r2, r4]
      by_cases hkl : j < l.length * n
      · rw [if_neg (by omega), Array.getElem?_append_left (by rw [hos3.size]; exact hkl), ← hos4 ⟨k, o, none⟩ _ _ rfl j (by rw [hos3.size]; exact hkl), cell_of_heap p7]
      · rw [if_pos (by omega), Array.getElem?_append_right (by rw [hos3.size]; omega), hos3.size, Array.getElem?_toList]
        congr 1; omega) (by simpa using p3)
    rw [List.length_append, List.length_singleton] at hrep'
    have hown : FRep { W with w := w', lim := fun b' => if b' = k then o + (l.length + 1) * n else W.lim b' } (some (.tmp s)) 0 (.own (l ++ [p])) (.slice (some ⟨k, o, none⟩) (l.length + 1) cap) := by
      refine .own hrep' (.inr ?_)
      have hne : (l ++ [p]) ≠ [] := by simp
      obtain ⟨e₀, t₀, he⟩ := List.exists_cons_of_ne_nil hne
      have hz0 : e₀.leaves.length = n := by
        have : e₀ ∈ l ++ [p] := by rw [he]; simp
        rcases List.mem_append.1 this with h | h
        · exact p5 _ h
        · simp at h; subst h; exact hpl
      exact ⟨e₀, _, c', T₂, fz₂, by rw [he]; rfl, rfl, rfl, by simp, by simpa using p2, r2, by rw [r3]; exact p8, by rw [r3, hz0]; exact p9, by simp [hz0]⟩
    refine ⟨{ W with w := w', lim := fun b' => if b' = k then o + (l.length + 1) * n else W.lim b' }, ?_, ⟨⟨?_, ?_, ?_, hi.heap.boxes, hi.heap.gen0, hi.heap.kept.evo hE⟩, fun t' => ?_, by rw [put_size]; exact hi.size, by rw [put_defers]; exact hi.defers⟩, hE.weaken (by simp)⟩
    · rw [hxv]
      unfold Instr.storeAt storeVar
      simp only [Instr.sureAddr, Sem.run_bind, Sem.run_pure, Result.andThen_ok, run_sizeOf' hn]
      rw [if_neg (by simp; omega)]
      exact r1
    · intro b' gs hgs
      obtain ⟨m1, m2, c₃, T₃, fz₃, m3, m4, m5, m6⟩ := hi.heap.box b' gs hgs
      have hb' : b' < H.length := (List.getElem?_eq_some_iff.1 hgs).1
      exact ⟨m1, by simp only; rw [if_neg (hkb _ hb')]; exact m2, c₃, T₃, fz₃, by simp only; rw [r5 _ (hkb _ hb')]; exact m3, m4, m5, fun i g v hg hv => ⟨(m6 i g v hg hv).1, (m6 i g v hg hv).2.mono hE (fun q j hq => by cases hq; simp)⟩⟩
    · intro g ls hls j q' hq'
      obtain ⟨m1, m2, v, m3, m4⟩ := hi.heap.laid g ls hls j q' hq'
      exact ⟨m1, Nat.lt_of_lt_of_le m2 (hE.lim g), v, by rw [hE.cell _ _ m2]; exact m3, m4.mono hE.cell hE.lim⟩
    · intro b' hb'
      simp only [r6] at hb'
      obtain ⟨q1, q2⟩ := hi.heap.fresh b' hb'
      have hne : b' ≠ k := fun h => by rw [h, p2] at q2; simp at q2
      exact ⟨by simp only; rw [if_neg hne]; exact q1, q2⟩
    · rw [tmps_put hd hi.size, get_put]
      split
      · exact .undef
      · simp only [Env.get]
        split
        · rename_i hts
          subst hts
          rw [hv0]
          exact hown
        · rename_i hts
          exact (hi.env t').mono hE (fun q j hq => by cases hq; simp; exact fun h => hts h.symm)
end
end Go.Proofs.YtlbjfjaleefiiaaDoor.Ev
end
section
namespace Go.Proofs.YtlbjfjaleefiiaaDoor.Ev
open Go
section
variable {C : Ctx} {nt : Nat} {mv : List Nat} {e : Env} {H : Heap} {a : Act} {W : Wd} {K : Env → Heap → Prop} {Q : Exit → Act → World → Prop}
set_option maxHeartbeats 4000000 in
theorem wpOp_sound (hi : Inv C nt e H a W) {o : Oper} (h : wpOp C nt mv (fun _ => Call C) o e H K) : o.wp C.P a W.w (After C nt W K) Q := by
  have hval : ∀ {op : Op}, o.op = op → dstOk nt o.dst → ∀ {f : FV}, valOp C e H op = some f → K (e.put o.dst f) H → o.wp C.P a W.w (After C nt W K) Q := fun ho hd f hf hK =>
    wp_val hi hd (valOp_sound hi (by rw [ho]; exact hf)) hK
  unfold wpOp at h
  obtain ⟨hd, h⟩ := h
  split at h
  · -- assign
    rename_i x ho
    split at h
    · rename_i f e' hg
      exact wp_give hi hd (x := x) (by obtain ⟨dst, op, ty, pos, after, guard⟩ := o; simp only at ho; subst ho; rfl) hg h
    · exact h.elim
  · -- move
    rename_i x ho
    split at h
    · split at h
      · rename_i f e' hg
        exact wp_giveE _ hi hd (x := x) (by obtain ⟨dst, op, ty, pos, after, guard⟩ := o; simp only at ho; subst ho; rfl) hg h
      · exact h.elim
    · split at h
      · rename_i f hf
        exact hval ho hd hf h
      · exact h.elim
  · -- extract
    rename_i x i ho
    split at h
    · rename_i hmv
      split at h
      · rename_i t l hx
        split at h
        · rename_i f hf
          cases hod : o.dst with
          | none => rw [hod] at hmv; simp [mvOf] at hmv
          | some d =>
            rw [hod] at hd h
            have hget : e.get t = .tup l := by simpa [rd] using hx
            obtain ⟨W', v, h1, h2, h3, h4⟩ := step_extractmv hi hd hget hf
            rw [← hod] at h3 h
            refine wp_of (s := Instr.extract (a.eval (.tmp t)) i) (W' := W') (v := v) ?_ (by rw [h2, h1]) h3 h4 h
            obtain ⟨dst, op, ty, pos, after, guard⟩ := o; simp only at ho; subst ho; rfl
        · exact h.elim
      · exact h.elim
    · split at h
      · rename_i f hf
        exact hval ho hd hf h
      · exact h.elim
  · -- load
    rename_i t x ho
    split at h
    · rename_i hmv
      split at h
      · rename_i b off hx ha
        split at h
        · rename_i f hf
          cases hod : o.dst with
          | none => rw [hod] at hmv; simp [mvOf] at hmv
          | some d =>
            rw [hod] at hd h
            obtain ⟨W', v, h1, h2, h3, h4⟩ := step_loadmv hi hd hx ha hf
            rw [← hod] at h3 h
            refine wp_of (s := Instr.loadAt t (a.eval x)) (W' := W') (v := v) ?_ (by rw [h2, h1]) h3 h4 h
            obtain ⟨dst, op, ty, pos, after, guard⟩ := o; simp only at ho; subst ho; rfl
        · exact h.elim
      · rename_i b off hx ha
        split at h
        · rename_i n hn
          obtain ⟨hle, h⟩ := h
          cases hod : o.dst with
          | none => rw [hod] at hmv; simp [mvOf] at hmv
          | some d =>
            rw [hod] at hd h
            obtain ⟨W', v, h1, h2, h3, h4⟩ := step_loadmvAgg hi hd hx ha hn hle
            rw [← hod] at h3 h
            refine wp_of (s := Instr.loadAt t (a.eval x)) (W' := W') (v := v) ?_ (by rw [h2, h1]) h3 h4 h
            obtain ⟨dst, op, ty, pos, after, guard⟩ := o; simp only at ho; subst ho; rfl
        · exact h.elim
      · rename_i b g off hx ha
        split at h
        · rename_i g' l hb
          obtain ⟨hgg, h⟩ := h
          subst hgg
          split at h
          · rename_i f hf
            cases hod : o.dst with
            | none => rw [hod] at hmv; simp [mvOf] at hmv
            | some d =>
              rw [hod] at hd h
              obtain ⟨W', v, h1, h2, h3, h4⟩ := step_loadmvRow hi hd hx hb ha hf
              rw [← hod] at h3 h
              refine wp_of (s := Instr.loadAt t (a.eval x)) (W' := W') (v := v) ?_ (by rw [h2, h1]) h3 h4 h
              obtain ⟨dst, op, ty, pos, after, guard⟩ := o; simp only at ho; subst ho; rfl
          · exact h.elim
        · exact h.elim
      · exact h.elim
    · split at h
      · rename_i f hf
        exact hval ho hd hf h
      · exact h.elim
  · -- alloc
    rename_i t ho
    split at h
    · rename_i z hz
      split at h
      · rename_i l hl
        obtain ⟨W', v, h1, h2, h3⟩ := step_alloc hi hd hz hl
        refine wp_of (s := Instr.alloc t true (.tuple #[])) (W' := W') (v := v) ?_ h1 h2 h3 h
        obtain ⟨dst, op, ty, pos, after, guard⟩ := o; simp only at ho; subst ho; rfl
      · exact h.elim
    · exact h.elim
  · -- box
    rename_i t x ho
    split at h
    · rename_i f e' hg
      split at h
      · rename_i l hl
        obtain ⟨hlf, h⟩ := h
        obtain ⟨W', v, h1, h2, h3⟩ := step_box (t := t) hi hd hg hl (fun m hm => by subst hm; simp [FV.cells] at hl; subst hl; exact hlf)
        refine wp_of (s := Instr.box t (a.eval x)) (W' := W') (v := v) ?_ h1 h2 h3 h
        obtain ⟨dst, op, ty, pos, after, guard⟩ := o; simp only at ho; subst ho; rfl
      · exact h.elim
    · exact h.elim
  · -- store
    rename_i t x y ho
    split at h
    · rename_i b off f e' n hx hg hn
      split at h
      · rename_i l hl
        obtain ⟨hlf, hln, hle, h⟩ := h
        obtain ⟨W', h1, h2, h3⟩ := step_storeR hi hd hx hg hn hl hlf hln hle
        refine wp_skip' (w' := W'.w) ?_ ⟨_, _, W', rfl, h, h2.located hg _ _, h3⟩
        obtain ⟨dst, op, ty, pos, after, guard⟩ := o; simp only at ho; subst ho
        simp [execOp, h1]
      · exact h.elim
    · rename_i b g off f e' n hx hg hn
      split at h
      · rename_i l g' c hl hb
        obtain ⟨hgg, hlf, hln, hle, h⟩ := h
        subst hgg
        obtain ⟨W', h1, h2, h3⟩ := step_storeRowR hi hd hx hb hg hn hl hlf hln hle
        refine wp_skip' (w' := W'.w) ?_ ⟨_, _, W', rfl, h, h2.located hg _ _, h3⟩
        obtain ⟨dst, op, ty, pos, after, guard⟩ := o; simp only at ho; subst ho
        simp [execOp, h1]
      · exact h.elim
    · rename_i k q s f _ n hx hg hn
      obtain ⟨_, h⟩ := h
      split at h
      · rename_i p hp
        split at h
        · rename_i b off hs
          split at h
          · rename_i k' o' z l hc
            obtain ⟨rfl, hq, hnz, hpl, h⟩ := h
            obtain ⟨W', h1, h2, h3⟩ := step_storePend hi hd hx (give_rd hg) hn hp hc hq hnz hpl
            refine wp_skip' (w' := W'.w) ?_ ⟨_, _, W', rfl, h, h2, h3⟩
            obtain ⟨dst, op, ty, pos, after, guard⟩ := o; simp only at ho; subst ho
            simp [execOp, h1]
          · exact h.elim
        · rename_i k' o' z l hc
          obtain ⟨rfl, hq, hnz, hpl, h⟩ := h
          obtain ⟨W', h1, h2, h3⟩ := step_storePendT hi hd hx (give_rd hg) hn hp hc hq hnz hpl
          refine wp_skip' (w' := W'.w) ?_ ⟨_, _, W', rfl, h, h2, h3⟩
          obtain ⟨dst, op, ty, pos, after, guard⟩ := o; simp only at ho; subst ho
          simp [execOp, h1]
        · exact h.elim
      · exact h.elim
    · exact h.elim
  · -- buildSlice
    rename_i t n parts ho
    split at h
    · split at h
      · rename_i el x hu hps
        split at h
        · rename_i m z f e' hsz hz hg
          split at h
          · rename_i l hl
            obtain ⟨rfl, hle, hzs, hleaf, hln, h⟩ := h
            obtain ⟨W', v, h1, h2, h3⟩ := step_buildRow hi hd hu hsz hz hzs hps hle hg hl hleaf hln
            refine wp_of (s := Instr.buildSlice t 1 (parts.map fun (i, x) => (i, a.eval x))) (W' := W') (v := v) ?_ h1 h2 h3 h
            obtain ⟨dst, op, ty, pos, after, guard⟩ := o; simp only at ho; subst ho; rfl
          · exact h.elim
        · exact h.elim
      · exact h.elim
    split at h
    · rename_i el hu
      split at h
      · rename_i m z ps hsz hz hps
        obtain ⟨hn, hidx, hle, hzs, h⟩ := h
        split at h
        · rename_i l hl
          obtain ⟨hs, h⟩ := h
          obtain ⟨W', v, h1, h2, h3⟩ := step_buildSlice hi hd hu hsz hz hps hn hidx hle hl hs
          refine wp_of (s := Instr.buildSlice t n (parts.map fun (i, x) => (i, a.eval x))) (W' := W') (v := v) ?_ h1 h2 h3 h
          obtain ⟨dst, op, ty, pos, after, guard⟩ := o; simp only at ho; subst ho; rfl
        · exact h.elim
      · exact h.elim
    · exact h.elim
  · -- a row against nil
    rename_i op t x y yt ho
    split at h
    rotate_left
    · split at h
      · rename_i f hf
        exact hval ho hd hf h
      · exact h.elim
    rename_i hny
    obtain ⟨rfl⟩ : y = .const (.slice none 0 0) := by
      unfold nilRow at hny
      split at hny
      · simp only [Bool.and_eq_true, beq_iff_eq] at hny; rw [hny.1, hny.2]
      · simp at hny
    have key : ∀ {sg : Bool} {el : TypeId} {f : FV} {l : List PV}, (op = .eql ∧ sg = false ∨ op = .neq ∧ sg = true) → C.P.underlying t = some (.slice el) → rd C e x = some f → f.asList = some l →
        (l ≠ [] → K (e.put o.dst (.sc (.bool sg))) H) → (l = [] → ∀ b, K (e.put o.dst (.sc (.bool b))) H) → o.wp C.P a W.w (After C nt W K) Q := by
      intro sg el f l hop hu hx hl h1 h2
      obtain ⟨_, _, hr⟩ := rd_sound hi hx
      obtain ⟨A, len, cap, hv, hrep⟩ := hr.list hl
      have hrun : ∃ b, (do eqGuard op t x (.const (.slice none 0 0)) (a.eval x) (.slice none 0 0); binOp op t (a.eval x) (.slice none 0 0) : Sem Value).run C.P W.w = .ok (.bool b) W.w ∧ (l ≠ [] → b = sg) := by
        rw [hv]
        simp only [Sem.run_bind, run_eqGuard_plain (v := .slice A len cap) rfl (by simp), Result.andThen_ok]
        have heq : (Op.equal t (.slice A len cap) (.slice none 0 0)).run C.P W.w = .ok A.isNone W.w := by
          show (Op.equalIn (9999 + 1) t _ _).run C.P W.w = _
          cases A <;> (unfold Op.equalIn; simp only [Sem.run_bind, run_underlying' hu, Result.andThen_ok]; rfl)
        have hne : l ≠ [] → A.isNone = false := fun hl' => by
          rw [hv] at hrep
          cases hrep with
          | nil => exact absurd rfl hl'
          | sl => rfl
        rcases hop with ⟨rfl, rfl⟩ | ⟨rfl, rfl⟩
        · exact ⟨A.isNone, by simp [binOp, heq], hne⟩
        · exact ⟨!A.isNone, by simp [binOp, heq], fun h => by rw [hne h]; rfl⟩
      obtain ⟨b, hb, hbl⟩ := hrun
      refine wp_of (s := do eqGuard op t x (.const (.slice none 0 0)) (a.eval x) (.slice none 0 0); binOp op t (a.eval x) (.slice none 0 0)) (W' := W) (v := .bool b) ?_ hb (hi.val hd .mkBool) (Evo.refl _ _) ?_
      · obtain ⟨dst, op', ty, pos, after, guard⟩ := o; simp only at ho; subst ho; simp only [execOp, Act.eval]
      · by_cases hl' : l = []
        · exact h2 hl' b
        · rw [hbl hl']; exact h1 hl'
    have keyB : ∀ {sg : Bool} {el : TypeId} {b off n : Nat}, (op = .eql ∧ sg = false ∨ op = .neq ∧ sg = true) → C.P.underlying t = some (.slice el) → rd C e x = some (.bs b off n) →
        K (e.put o.dst (.sc (.bool sg))) H → o.wp C.P a W.w (After C nt W K) Q := by
      intro sg el b off n hop hu hx h1
      obtain ⟨_, _, hr⟩ := rd_sound hi hx
      generalize hv : a.eval x = v at hr
      cases hr with
      | @bs _ _ _ _ _ cap hbo hcap =>
        have hrun : (do eqGuard op t x (.const (.slice none 0 0)) (a.eval x) (.slice none 0 0); binOp op t (a.eval x) (.slice none 0 0) : Sem Value).run C.P W.w = .ok (.bool sg) W.w := by
          rw [hv]
          simp only [Sem.run_bind, run_eqGuard_plain (v := .slice (some ⟨W.β b, off, none⟩) n cap) rfl (by simp), Result.andThen_ok]
          have heq : (Op.equal t (.slice (some ⟨W.β b, off, none⟩) n cap) (.slice none 0 0)).run C.P W.w = .ok false W.w := by
            show (Op.equalIn (9999 + 1) t _ _).run C.P W.w = _
            unfold Op.equalIn; simp only [Sem.run_bind, run_underlying' hu, Result.andThen_ok]; rfl
          rcases hop with ⟨rfl, rfl⟩ | ⟨rfl, rfl⟩ <;> simp [binOp, heq]
        refine wp_of (s := do eqGuard op t x (.const (.slice none 0 0)) (a.eval x) (.slice none 0 0); binOp op t (a.eval x) (.slice none 0 0)) (W' := W) (v := .bool sg) ?_ hrun (hi.val hd .mkBool) (Evo.refl _ _) h1
        obtain ⟨dst, op', ty, pos, after, guard⟩ := o; simp only at ho; subst ho; simp only [execOp, Act.eval]
    have keyG : ∀ {sg : Bool} {el : TypeId} {b gb zb n : Nat}, (op = .eql ∧ sg = false ∨ op = .neq ∧ sg = true) → C.P.underlying t = some (.slice el) → rd C e x = some (.gr b gb zb n) →
        K (e.put o.dst (.sc (.bool sg))) H → o.wp C.P a W.w (After C nt W K) Q := by
      intro sg el b gb zb n hop hu hx h1
      obtain ⟨_, _, hr⟩ := rd_sound hi hx
      generalize hv : a.eval x = v at hr
      cases hr with
      | @gr _ _ _ _ _ _ cap A hg hcap hal =>
        have hrun : (do eqGuard op t x (.const (.slice none 0 0)) (a.eval x) (.slice none 0 0); binOp op t (a.eval x) (.slice none 0 0) : Sem Value).run C.P W.w = .ok (.bool sg) W.w := by
          rw [hv]
          simp only [Sem.run_bind, run_eqGuard_plain (v := .slice (some A) n cap) rfl (by simp), Result.andThen_ok]
          have heq : (Op.equal t (.slice (some A) n cap) (.slice none 0 0)).run C.P W.w = .ok false W.w := by
            show (Op.equalIn (9999 + 1) t _ _).run C.P W.w = _
            unfold Op.equalIn; simp only [Sem.run_bind, run_underlying' hu, Result.andThen_ok]; rfl
          rcases hop with ⟨rfl, rfl⟩ | ⟨rfl, rfl⟩ <;> simp [binOp, heq]
        refine wp_of (s := do eqGuard op t x (.const (.slice none 0 0)) (a.eval x) (.slice none 0 0); binOp op t (a.eval x) (.slice none 0 0)) (W' := W) (v := .bool sg) ?_ hrun (hi.val hd .mkBool) (Evo.refl _ _) h1
        obtain ⟨dst, op', ty, pos, after, guard⟩ := o; simp only at ho; subst ho; simp only [execOp, Act.eval]
    split at h
    · rename_i el b off n hu hx
      exact keyB (.inl ⟨rfl, rfl⟩) hu hx h
    · rename_i el b off n hu hx
      exact keyB (.inr ⟨rfl, rfl⟩) hu hx h
    · rename_i el b gb zb n hu hx
      exact keyG (.inl ⟨rfl, rfl⟩) hu hx h
    · rename_i el b gb zb n hu hx
      exact keyG (.inr ⟨rfl, rfl⟩) hu hx h
    · rename_i el f _ _ hu hx
      split at h
      · rename_i l hl
        exact key (.inl ⟨rfl, rfl⟩) hu hx hl h.1 h.2
      · exact h.elim
    · rename_i el f _ _ hu hx
      split at h
      · rename_i l hl
        exact key (.inr ⟨rfl, rfl⟩) hu hx hl h.1 h.2
      · exact h.elim
    · exact h.elim
  · -- conversions
    rename_i s d x ho
    split at h
    · rename_i t ht
      exact wp_conv hi hd ho ht h
    · split at h
      · rename_i f hf
        exact hval ho hd hf h
      · exact h.elim
  · -- calls
    rename_i c ho
    obtain ⟨callee, args, ts⟩ := c
    simp only at h
    split at h
    · rename_i x
      split at h
      · exact wp_hand hi hd ho h
      split at h
      · rename_i f first cap l hx hl
        obtain ⟨r, H', hc, hK⟩ := h
        exact wp_call hi hd ho hx hl hc hK
      · exact h.elim
    · rename_i b
      split at h
      · rename_i hb
        obtain rfl : b = .append := by cases b <;> simp_all [isAppend]
        exact wp_append_pend hi hd ho h
      split at h
      · rename_i hb
        obtain rfl : b = .append := by cases b <;> simp_all [isAppend]
        exact wp_append_zeros hi hd ho h
      split at h
      · rename_i hb
        obtain rfl : b = .append := by cases b <;> simp_all [isAppend]
        split at h
        · rename_i x y t u tr hargs hts
          split at h
          · rename_i el ud hel hud
            split at h
            · rename_i m z bs f e' g hsz hz hbs hg hy
              split at h
              · rename_i b gb zb n r hf hr
                obtain ⟨_, h⟩ := h
                split at h
                · rename_i g' l hb
                  obtain ⟨hgg, hzb, hnl, hni, hzs, hb0, hb1, hrs, hle, hK⟩ := h
                  subst hgg; subst hzb
                  exact wp_append_in hi hd ho hargs hts hel hud hsz hz hbs hg hy hf hr hb hnl hni hzs hb0 hb1 hrs hle hK
                · exact h.elim
              · rename_i l r hf hr
                split at h
                · obtain ⟨rfl, h⟩ := h
                  split at h
                  · rename_i hre
                    obtain ⟨hni, hzs, hb0, hb1, hK⟩ := h
                    have hr0 : r = [] := by simpa using hre
                    subst hr0
                    exact wp_append hi hd ho hargs hts hel hud hsz hz hbs hg hy hf hr hni hzs hb0 hb1 (fun p hp => by simp at hp) (fun p hp => by simp at hp) (by simp [lenMax]) hK
                  · rename_i hre
                    obtain ⟨hni, hzs, hb0, hb1, hrs, hle, hK⟩ := h
                    exact wp_append_row hi hd ho hargs hts hel hud hsz hz hbs hg hy hf hr (fun h0 => hre (by rw [h0]; rfl)) hni hzs hb0 hb1 hrs hle hK
                split at h
                · obtain ⟨rfl, hr0, hni, hzs, hb0, hb1, hrs, hle, hK⟩ := h
                  exact wp_append_box hi hd ho hargs hts hel hud hsz hz hbs hg hy hf hr hr0 hni hzs hb0 hb1 hrs hle hK
                obtain ⟨hni, hzs, hb0, hb1, hl, hrs, hle, hK⟩ := h
                exact wp_append hi hd ho hargs hts hel hud hsz hz hbs hg hy hf hr hni hzs hb0 hb1 hl hrs hle hK
              · obtain ⟨hni, hzs, hb0, hb1, hK⟩ := h
                exact wp_append_move hi hd ho hargs hts hel hud hsz hz hbs hg hy hni hzs hb0 hb1 hK
              · exact h.elim
            · exact h.elim
          · exact h.elim
        · exact h.elim
      · split at h
        · rename_i hb
          obtain rfl : b = .clear := by cases b <;> simp_all [isClear]
          split at h
          · rename_i x t tr hargs hts
            split at h
            · rename_i el b off n hel hx
              split at h
              · rename_i m z hsz hz
                obtain ⟨h1, h2, h3, hK⟩ := h
                exact wp_clear hi hd ho hargs hts hel hz h1 h2 hx h3 hK
              · exact h.elim
            · rename_i el hel hx
              exact wp_clear_nil hi hd ho hargs hts hel hx h
            · exact h.elim
          · exact h.elim
        · split at h
          · rename_i f hf
            exact hval ho hd hf h
          · exact h.elim
    · exact h.elim
  · rename_i op _ _ _ _ _ _ _ _ _ _
    split at h
    · rename_i f hf
      exact hval rfl hd hf h
    · exact h.elim
theorem wanted_sound (hi : Inv C nt e H a W) {ops : Array Oper} {o : Oper} {b : Bool} (h : wanted nt ops e o = some b) : Region.wanted o (yielded ops a.tmps) = b := by
  unfold wanted at h
  unfold Region.wanted
  split at h
  · rename_i hg
    simp only [Option.some.injEq] at h
    rw [hg]; simp [← h]
  · rename_i j want hg
    rw [hg]
    simp only
    split at h
    · rename_i d hd
      split at h
      · rename_i hlt0
        split at h
        · rename_i b' hb
          simp only [Option.some.injEq] at h
          have hv := (hi.env d)
          rw [hb] at hv
          have hv' := hv.bool
          have hlt : d < a.tmps.size := Nat.lt_of_lt_of_le hlt0 hi.size
          have : a.tmps[d]? = some (.bool b') := by
            simp only [Array.getD_eq_getD_getElem?, Array.getElem?_eq_getElem hlt, Option.getD_some] at hv'
            rw [Array.getElem?_eq_getElem hlt, hv']
          unfold yielded
          rw [hd]
          simp only [Option.bind_some, this]
          rw [← h]
          cases b' <;> cases want <;> rfl
        · rename_i hb
          simp only [Option.some.injEq] at h
          have hv := (hi.env d)
          rw [hb] at hv
          have hlt : d < a.tmps.size := Nat.lt_of_lt_of_le hlt0 hi.size
          have hv' : ∀ b', a.tmps[d]? ≠ some (.bool b') := fun b' hb' => by
            simp only [Array.getD_eq_getD_getElem?, hb', Option.getD_some] at hv
            cases hv
          rw [← h]
          unfold yielded
          rw [hd]
          simp only [Option.bind_some]
          first
            | rfl
            | (rw [Array.getElem?_eq_getElem hlt] at hv' ⊢
               cases hx : a.tmps[d] <;> first | rfl | (exact absurd (by rw [hx]) (hv' _)))
        · simp at h
      · simp at h
    · simp at h
end
end Go.Proofs.YtlbjfjaleefiiaaDoor.Ev
end
section
namespace Go.Proofs.YtlbjfjaleefiiaaDoor.Ev
open Go
section
variable {C : Ctx} {nt : Nat} {mv : List Nat}
theorem Inv.undef {e : Env} {H : Heap} {a : Act} {W : Wd} (hi : Inv C nt e H a W) (dst : Option Tmp) : Inv C nt (e.put dst (.tup [])) H (a.put dst Go.undef) W where
  heap := hi.heap
  env t := by
    rw [get_put]
    split
    · rename_i h
      have : (a.put dst Go.undef).tmps.getD t Go.undef = Go.undef := by
        subst h
        simp only [Act.put, Array.getD_eq_getD_getElem?]
        by_cases ht : t < a.tmps.size
        · rw [Array.getElem?_setIfInBounds_self_of_lt ht]; rfl
        · rw [Array.getElem?_eq_none (by simpa using ht)]; rfl
      rw [this]
      exact .tup rfl (fun j f v hf => by simp at hf)
    · rename_i h
      have : (a.put dst Go.undef).tmps.getD t Go.undef = a.tmps.getD t Go.undef := by
        cases dst with
        | none => rfl
        | some d =>
          have : d ≠ t := fun hh => h (by rw [hh])
          simp [Act.put, Array.getElem?_setIfInBounds_ne this]
      rw [this]; exact hi.env t
  size := by rw [put_size]; exact hi.size
  defers := by rw [put_defers]; exact hi.defers
theorem Evo.trans0 {A B D : Wd} (h : Evo A B (fun _ _ => False)) (h' : Evo B D (fun _ _ => False)) : Evo A D (fun _ _ => False) := (h.trans h').weaken (by simp)
theorem wpOps_sound {ops : Array Oper} {K : Env → Heap → Prop} {Q : Exit → Act → World → Prop} {W₀ : Wd} (hQ : ∀ e H a W, K e H → Inv C nt e H a W → Evo W₀ W (fun _ _ => False) → Q .normal a W.w) :
    ∀ (l : List Oper) (e : Env) (H : Heap) (a : Act) (W : Wd), Inv C nt e H a W → Evo W₀ W (fun _ _ => False) → wpOps C nt mv (fun _ => Call C) ops l e H K → wpList C.P ops Q l a W.w
  | [], e, H, a, W, hi, hE, h => hQ e H a W h hi hE
  | o :: l, e, H, a, W, hi, hE, h => by
    unfold wpOps at h
    unfold wpList
    split at h
    · rename_i hw
      rw [if_pos (wanted_sound hi hw)]
      left
      have := wpOp_sound (Q := Q) hi h
      refine Oper.wp_mono (fun a' w' hA => ?_) this
      obtain ⟨e', H', W', rfl, hK, hi', hE'⟩ := hA
      exact wpOps_sound hQ l e' H' a' W' hi' (hE.trans0 hE') hK
    · rename_i hw
      rw [if_neg (by rw [wanted_sound hi hw]; simp)]
      exact wpOps_sound hQ l _ H _ W (hi.undef o.dst) hE h
    · exact h.elim
end
def CallN (C : Ctx) (f : FuncId) (args : List FV) (H : Heap) (r : FV) (H' : Heap) : Prop :=
  callable C.P f = true ∧ H' = H ∧ args.all FV.noPtr = true ∧ r.noPtr = true ∧ PCon C f args r
def CallP (C : Ctx) (m : Nat) (f : FuncId) (args : List FV) (H : Heap) (r : FV) (H' : Heap) : Prop :=
  if m = 0 then CallN C f args H r H' else if m = 2 then Call C f args H r H' ∧ H' = H else Call C f args H r H'
structure Rho where
  p : FuncId → List FV → FV → Prop
  q : FuncId → List FV → Heap → FV → Heap → Prop
structure Det where
  p : FuncId → List FV → FV
  q : FuncId → List FV → Heap → FV × Heap
def Rho.any : Rho := ⟨fun _ _ _ => True, fun _ _ _ _ _ => True⟩
def det (ρ : Det) : Rho := ⟨fun f a r => r = ρ.p f a, fun f a H r H' => r = (ρ.q f a H).1 ∧ H' = (ρ.q f a H).2⟩
def CallD (C : Ctx) (ρ : Rho) (m : Nat) (f : FuncId) (args : List FV) (H : Heap) (r : FV) (H' : Heap) : Prop :=
  if m = 0 then CallN C f args H r H' ∧ ρ.p f args r else if m = 2 then (Call C f args H r H' ∧ H' = H) ∧ ρ.p f args r else Call C f args H r H' ∧ ρ.q f args H r H'
theorem CallD.call {C : Ctx} {ρ : Rho} {m : Nat} {f : FuncId} {args : List FV} {H : Heap} {r : FV} {H' : Heap} (h : CallD C ρ m f args H r H') : Call C f args H r H' := by
  unfold CallD at h
  split at h
  · exact ⟨h.1.1, .inl h.1.2⟩
  · split at h
    · exact h.1.1
    · exact h.1
theorem CallP.toD {C : Ctx} {m : Nat} {f : FuncId} {args : List FV} {H : Heap} {r : FV} {H' : Heap} (h : CallP C m f args H r H') : CallD C Rho.any m f args H r H' := by
  unfold CallP at h
  unfold CallD
  split at h
  · rename_i h0; rw [if_pos h0]; exact ⟨h, trivial⟩
  · rename_i h0
    rw [if_neg h0]
    split at h
    · rename_i h2; rw [if_pos h2]; exact ⟨h, trivial⟩
    · rename_i h2; rw [if_neg h2]; exact ⟨h, trivial⟩
end Go.Proofs.YtlbjfjaleefiiaaDoor.Ev
end
section
namespace Go.Proofs.YtlbjfjaleefiiaaDoor.Ev
open Go
def opTmps : Operand → List Nat
  | .tmp t => [t]
  | _ => []
def optTmps : Option Operand → List Nat
  | some x => opTmps x
  | none => []
def listTmps : List Operand → List Nat
  | [] => []
  | x :: l => opTmps x ++ listTmps l
def partTmps : List (Nat × Operand) → List Nat
  | [] => []
  | x :: l => opTmps x.2 ++ partTmps l
inductive Kind where
  | quiet | load | take | store | grow | call | read | other
  deriving DecidableEq
def kindOf (mv : List Nat) (o : Oper) : Kind :=
  match o.op with
  | .assign _ | .move _ => .quiet
  | .buildSlice .. => if rowed mv o.dst = true then .grow else .quiet
  | .extract .. => if mvOf mv o.dst then .other else .quiet
  | .load .. => if mvOf mv o.dst then .take else .load
  | .store .. => .store
  | .alloc _ => .grow
  | .box .. => .grow
  | .binOp _ _ _ y _ => if nilRow y = true then .other else .quiet
  | .pick .. | .fieldAddr .. | .field .. | .indexAddr .. | .index .. | .lookup .. | .unOp .. | .convert .. | .slice .. | .build .. | .makeFunc .. | .nilCheck .. => .quiet
  | .call { callee := .value _, .. } => if handed mv o.dst = true then .other else if callMode mv o.dst = 0 then .quiet else if callMode mv o.dst = 2 then .read else .call
  | .call { callee := .builtin .append, .. } => if pended mv o.dst = true then .other else if zeroed mv o.dst = true then .other else if boxed mv o.dst = true then .other else if rowed mv o.dst = true then .store else .quiet
  | .call { callee := .builtin .len, .. } => .quiet
  | .call { callee := .builtin .min, .. } => .quiet
  | .call { callee := .builtin .max, .. } => .quiet
  | _ => .other
def readsOp : Op → List Nat
  | .assign x | .move x | .extract x _ | .box _ x | .load _ x | .fieldAddr _ x _ | .field _ x _ | .unOp _ _ x | .convert _ _ x | .nilCheck x => opTmps x
  | .store _ x y | .indexAddr _ x y | .index _ x y | .lookup _ x y _ | .binOp _ _ x y _ => opTmps x ++ opTmps y
  | .pick c x y => opTmps c ++ opTmps x ++ opTmps y
  | .slice _ x lo hi _ => opTmps x ++ optTmps lo ++ optTmps hi
  | .build _ ps | .buildSlice _ _ ps => partTmps ps.toList
  | .makeFunc _ a b => listTmps a.toList ++ listTmps b.toList
  | .call { callee := .value x, args, .. } => opTmps x ++ listTmps args.toList
  | .call { args, .. } => listTmps args.toList
  | _ => []
def pendR (mv : List Nat) (o : Oper) : List Nat :=
  match o.op with
  | .store _ x _ => pendSlots mv x
  | _ => []
def writesOp (mv : List Nat) (o : Oper) : List Nat :=
  o.dst.toList ++ match o.op with
  | .assign x => opTmps x
  | .move x => if mvOf mv o.dst = true then opTmps x else []
  | .store _ x y => opTmps y ++ pendSlots mv x
  | .box _ x => opTmps x
  | .buildSlice _ _ ps => if rowed mv o.dst = true then partTmps ps.toList else []
  | .call { callee := .builtin .append, args, .. } => match args.toList with
    | x :: _ => opTmps x
    | [] => []
  | _ => []
def Agree (ts : List Nat) (e e' : Env) : Prop := ∀ t ∈ ts, e'.get t = e.get t
section
variable {C : Ctx} {ρ : Rho} {e e' : Env} {H : Heap}
theorem rd_congr {x : Operand} (h : Agree (opTmps x) e e') : rd C e' x = rd C e x := by
  cases x <;> simp only [rd]
  rw [h _ (by simp [opTmps])]
theorem Agree.left {a b : List Nat} (h : Agree (a ++ b) e e') : Agree a e e' := fun t ht => h t (List.mem_append_left _ ht)
theorem Agree.right {a b : List Nat} (h : Agree (a ++ b) e e') : Agree b e e' := fun t ht => h t (List.mem_append_right _ ht)
theorem rdAll_congr : ∀ {xs : List Operand}, Agree (listTmps xs) e e' → rdAll C e' xs = rdAll C e xs
  | [], _ => rfl
  | x :: xs, h => by
    simp only [rdAll]
    rw [rd_congr h.left, rdAll_congr h.right]
theorem rdParts_congr : ∀ {xs : List (Nat × Operand)}, Agree (partTmps xs) e e' → rdParts C e' xs = rdParts C e xs
  | [], _ => rfl
  | (i, x) :: xs, h => by
    simp only [rdParts]
    rw [rd_congr h.left, rdParts_congr h.right]
theorem rdo_congr {x : Option Operand} (h : Agree (optTmps x) e e') : rdo C e' x = rdo C e x := by
  cases x with
  | none => rfl
  | some x => simp only [rdo]; rw [rd_congr h]
theorem valOp_congr {op : Op} (h : Agree (readsOp op) e e') : valOp C e' H op = valOp C e H op := by
  unfold valOp
  split
  all_goals first
    | (simp only [readsOp] at h; rw [rd_congr h]; done)
    | (simp only [readsOp] at h; rw [rd_congr h.left, rd_congr h.right]; done)
    | (simp only [readsOp] at h; rw [rd_congr h.left.left, rd_congr h.left.right, rd_congr h.right]; done)
    | (simp only [readsOp] at h; rw [rd_congr h.left.left, rdo_congr h.left.right, rdo_congr h.right]; done)
    | (simp only [readsOp] at h; rw [rdAll_congr h.left, rdAll_congr h.right]; done)
    | (simp only [readsOp] at h; unfold buildOf; rw [rdParts_congr h]; done)
    | skip
  all_goals first
    | rfl
    | (split
       · split
         · rename_i x t hx ht
           have : rd C e' x = rd C e x := rd_congr fun s hs => h s (by simp only [readsOp, hx, listTmps]; simp [hs])
           rw [this]
         · rfl
       · simp only [readsOp] at h; rw [rdAll_congr h]
       · simp only [readsOp] at h; rw [rdAll_congr h]
       · split
         · rename_i x t hx ht
           have : rd C e' x = rd C e x := rd_congr fun s hs => h s (by simp only [readsOp, hx, listTmps]; simp [hs])
           rw [this]
         · rfl
       · rfl)
theorem valOp_heap {op : Op} {H' : Heap} (h : ∀ t x, op ≠ .load t x) : valOp C e H' op = valOp C e H op := by
  unfold valOp
  split <;> first | rfl | (rename_i t x; exact absurd rfl (h t x))
theorem give_congr {x : Operand} {f : FV} {e₁ : Env} (h : Agree (opTmps x) e e') (hg : give C e x = some (f, e₁)) :
    ∃ δ : Env, e₁ = δ ++ e ∧ give C e' x = some (f, δ ++ e') ∧ ∀ p ∈ δ, p.1 ∈ opTmps x := by
  cases x with
  | tmp t =>
    simp only [give, Option.some.injEq, Prod.mk.injEq] at hg
    obtain ⟨rfl, rfl⟩ := hg
    exact ⟨[(t, demote (e.get t))], rfl, by simp [give, h t (by simp [opTmps])], by simp [opTmps]⟩
  | _ =>
    simp only [give, Option.map_eq_some_iff] at hg
    obtain ⟨g, hg, hh⟩ := hg
    simp only [Prod.mk.injEq] at hh
    obtain ⟨rfl, rfl⟩ := hh
    exact ⟨[], rfl, by simp only [give]; rw [rd_congr (fun t ht => by simp [opTmps] at ht), hg]; rfl, by simp⟩
theorem located_of (b off : Nat) (y : Operand) (f : FV) {δ : Env} (hδ : ∀ p ∈ δ, p.1 ∈ opTmps y) : ∃ δ' : Env, (∀ e : Env, located b off y f (δ ++ e) = δ' ++ e) ∧ ∀ p ∈ δ', p.1 ∈ opTmps y := by
  unfold located
  split
  · rename_i t k o z l
    refine ⟨(t, .exr k o (l.length + 1) (.leaf b off)) :: δ, fun e => rfl, fun p hp => ?_⟩
    rcases List.mem_cons.1 hp with rfl | hp
    · simp [opTmps]
    · exact hδ p hp
  · exact ⟨δ, fun e => rfl, hδ⟩
theorem put_append (δ e : Env) (d : Option Nat) (f : FV) : (δ ++ e).put d f = (δ.put d f) ++ e := by cases d <;> rfl
theorem put_nil (e : Env) (d : Option Nat) (f : FV) : e.put d f = (Env.put [] d f) ++ e := by cases d <;> rfl
def dem1 : List FV → List FV
  | [.row g l] => [.row g (l.map demote1)]
  | fs => fs.map demote1
def dem (H : Heap) : Heap := H.map dem1
theorem demote1_twice (f : FV) : demote1 (demote1 f) = demote1 f := by cases f <;> rfl
theorem dem1_row (g : Nat) (l : List FV) : dem1 [.row g l] = [.row g (l.map demote1)] := rfl
theorem dem1_plain {fs : List FV} (h : rowK fs = 0) : dem1 fs = fs.map demote1 := by
  match fs with
  | [] => rfl
  | f :: _ :: _ => cases f <;> rfl
  | [f] => cases f <;> first | rfl | simp [rowK] at h
theorem rowK_long {fs : List FV} (h : 2 ≤ fs.length) : rowK fs = 0 := by
  rcases kind_cases fs with ⟨h1, _, _⟩ | ⟨g, l, rfl⟩
  · exact h1
  · simp at h
theorem dem1_map (fs : List FV) : (dem1 fs).map demote1 = fs.map demote1 := by
  rcases kind_cases fs with ⟨h, _, _⟩ | ⟨g, l, rfl⟩
  · rw [dem1_plain h, List.map_map]
    exact List.map_congr_left fun f _ => demote1_twice f
  · rfl
theorem dem_getD (H : Heap) (b : Nat) : (dem H).getD b [] = dem1 (H.getD b []) := by
  simp only [dem, List.getD, List.getElem?_map]
  cases H[b]? <;> simp [dem1]
theorem dem_row {H H' : Heap} {b : Nat} (h : dem1 (H'.getD b []) = dem1 (H.getD b [])) {g : Nat} {l : List FV} (hr : rowOf H b = some (g, l)) : ∃ l', rowOf H' b = some (g, l') ∧ l'.map demote1 = l.map demote1 := by
  unfold rowOf at hr ⊢
  split at hr
  · rename_i g₁ l₁ he
    simp only [Option.some.injEq, Prod.mk.injEq] at hr
    obtain ⟨rfl, rfl⟩ := hr
    rw [he, dem1_row] at h
    rcases kind_cases (H'.getD b []) with ⟨h1, _, _⟩ | ⟨g₂, l₂, h1⟩
    · rw [dem1_plain h1] at h
      exfalso
      have h0 := congrArg (·[0]?) h
      simp only [List.getElem?_map, List.getElem?_cons_zero, Option.map_eq_some_iff] at h0
      obtain ⟨f, _, hf⟩ := h0
      cases f <;> simp [demote1] at hf
    · rw [h1, dem1_row] at h
      simp only [List.cons.injEq, FV.row.injEq, and_true] at h
      rw [h1]
      exact ⟨l₂, by rw [h.1], h.2⟩
  · simp at hr
def chg : Kind → Bool
  | .store | .take | .grow | .call => true
  | _ => false
def wr : Kind → Bool
  | .store | .call => true
  | _ => false
def stay : Kind → Bool
  | .store | .grow | .call => false
  | _ => true
def Compat : Kind → Heap → Heap → Prop
  | .quiet, _, _ => True
  | .load, H', H => ∃ X, dem H' = dem H ++ X
  | _, H', H => H' = H
theorem Compat.refl (k : Kind) (H : Heap) : Compat k H H := by
  cases k <;> first | exact trivial | exact rfl | exact ⟨[], (List.append_nil _).symm⟩
theorem demote1_demote (f : FV) : demote1 (demote f) = demote1 f := by cases f <;> rfl
theorem dem_set {H : Heap} {b : Nat} {fs : List FV} (h : dem1 fs = dem1 (H.getD b [])) : dem (H.set b fs) = dem H := by
  simp only [dem, List.map_set]
  rw [h]
  by_cases hb : b < H.length
  · have hg : H.getD b [] = H[b] := by simp [List.getD, hb]
    rw [hg]
    have : dem1 H[b] = (H.map dem1)[b]'(by simpa using hb) := by simp
    rw [this, List.set_getElem_self]
  · rw [List.set_eq_of_length_le (by simp; omega)]
theorem set_demote {l : List FV} {off : Nat} {f : FV} (h : l[off]? = some f) : (l.set off (demote f)).map demote1 = l.map demote1 := by
  have ho := (List.getElem?_eq_some_iff.1 h).1
  have hf := (List.getElem?_eq_some_iff.1 h).2
  rw [List.map_set, demote1_demote, ← hf]
  have : demote1 l[off] = (l.map demote1)[off]'(by simpa using ho) := by simp
  rw [this, List.set_getElem_self]
theorem dem_take {H : Heap} {b off : Nat} {f : FV} (h : (H.getD b [])[off]? = some f) : dem (H.set b ((H.getD b []).set off (demote f))) = dem H := by
  refine dem_set ?_
  rcases kind_cases (H.getD b []) with ⟨hr, _, _⟩ | ⟨g, l, hr⟩
  rotate_left
  · rw [hr] at h ⊢
    cases off with
    | zero =>
      simp only [List.getElem?_cons_zero, Option.some.injEq] at h
      subst h
      rfl
    | succ k => simp at h
  have h2 : rowK ((H.getD b []).set off (demote f)) = 0 := by
    generalize H.getD b [] = fs at h hr
    match fs, h with
    | [x], h =>
      cases off with
      | zero =>
        simp only [List.getElem?_cons_zero, Option.some.injEq] at h
        subst h
        cases x <;> first | rfl | simp [rowK] at hr
      | succ k => simp at h
    | x :: y :: l, h => exact rowK_long (by simp)
  rw [dem1_plain hr, dem1_plain h2, set_demote h]
theorem dem_takeAgg {H : Heap} {b off n : Nat} (hle : off + n ≤ (H.getD b []).length) : dem (H.set b (splice (H.getD b []) off ((((H.getD b []).drop off).take n).map demote))) = dem H := by
  refine dem_set ?_
  generalize H.getD b [] = fs at hle
  have hg := splice_demote_get hle
  generalize splice fs off (((fs.drop off).take n).map demote) = gs at hg
  have hmap : gs.map demote1 = fs.map demote1 := by
    refine List.ext_getElem? fun i => ?_
    rw [List.getElem?_map, hg, List.getElem?_map]
    split
    · cases fs[i]? <;> simp [demote1_demote]
    · rfl
  have h0 : ∀ g l, gs[0]? = some (.row g l) → fs[0]? = some (.row g l) := fun g l h => by
    rw [hg] at h
    split at h
    · rw [Option.map_eq_some_iff] at h
      obtain ⟨x, hx, hd⟩ := h
      rw [hx]
      cases x <;> simp_all [demote]
    · exact h
  have hlen : gs.length = fs.length := by have := congrArg List.length hmap; simpa using this
  rcases kind_cases fs with ⟨hr, _, _⟩ | ⟨g, l, rfl⟩
  · rcases kind_cases gs with ⟨hr', _, _⟩ | ⟨g, l, rfl⟩
    · rw [dem1_plain hr, dem1_plain hr', hmap]
    · exfalso
      have h1 := h0 g l rfl
      have h2 : fs.length = 1 := by rw [← hlen]; rfl
      obtain ⟨x, rfl⟩ := List.length_eq_one_iff.1 h2
      rw [List.getElem?_cons_zero, Option.some.injEq] at h1
      rw [h1] at hr
      simp [rowK] at hr
  · have h2 : gs.length = 1 := by rw [hlen]; rfl
    obtain ⟨x, rfl⟩ := List.length_eq_one_iff.1 h2
    have hx := hg 0
    rw [List.getElem?_cons_zero, List.getElem?_cons_zero] at hx
    have : x = .row g l := by
      split at hx
      · simpa [demote] using hx
      · simpa using hx
    rw [this]
theorem dem_takeRow {H : Heap} {b g off : Nat} {l : List FV} {f : FV} (hb : rowOf H b = some (g, l)) (h : l[off]? = some f) : dem (H.set b [.row g (l.set off (demote f))]) = dem H := by
  refine dem_set ?_
  have : H.getD b [] = [.row g l] := by
    unfold rowOf at hb
    split at hb
    · rename_i he
      simp only [Option.some.injEq, Prod.mk.injEq] at hb
      rw [he, hb.1, hb.2]
    · simp at hb
  rw [this, dem1_row, dem1_row, set_demote h]
theorem partOf_ext {P : Program} {t : TypeId} {l m : List FV} {off : Nat} {f : FV} (h : partOf P t l off = some f) (hm : ∀ j, j < l.length → m[j]? = l[j]?) (hl : l.length ≤ m.length) : partOf P t m off = some f := by
  unfold partOf at h ⊢
  cases ha : aggOf P t with
  | none => rw [ha] at h; simp at h
  | some b =>
    rw [ha] at h
    cases b with
    | true =>
      cases hn : szOf P t with
      | none => rw [hn] at h; simp at h
      | some n =>
        rw [hn] at h
        simp only at h ⊢
        split at h
        · rename_i hle
          rw [if_pos (by omega), ← h]
          congr 2
          refine List.ext_getElem? fun j => ?_
          by_cases hj : j < n
          · rw [List.getElem?_take_of_lt hj, List.getElem?_take_of_lt hj, List.getElem?_drop, List.getElem?_drop, hm _ (by omega)]
          · rw [List.getElem?_eq_none (by simp; omega), List.getElem?_eq_none (by simp; omega)]
        · simp at h
    | false =>
      simp only at h ⊢
      have hlt : off < l.length := by
        rcases Nat.lt_or_ge off l.length with h' | h'
        · exact h'
        · rw [List.getElem?_eq_none h'] at h; simp at h
      rw [hm _ hlt]; exact h
theorem dem_ext1 {H H' X : Heap} (h : dem H' = dem H ++ X) (b : Nat) : dem1 (H'.getD b []) = dem1 (H.getD b []) ∨ H.getD b [] = [] := by
  by_cases hb : b < (dem H).length
  · left
    rw [← dem_getD, ← dem_getD, h]
    simp [List.getD, List.getElem?_append_left hb]
  · right
    have : H.length ≤ b := by simpa [dem] using Nat.le_of_not_lt hb
    simp [List.getD, List.getElem?_eq_none this]
theorem dem_ext {H H' X : Heap} (h : dem H' = dem H ++ X) (b : Nat) : (∀ j, j < ((H.getD b []).map demote1).length → ((H'.getD b []).map demote1)[j]? = ((H.getD b []).map demote1)[j]?) ∧ ((H.getD b []).map demote1).length ≤ ((H'.getD b []).map demote1).length := by
  rcases dem_ext1 h b with h | h
  · rw [← dem1_map (H'.getD b []), h, dem1_map]
    exact ⟨fun _ _ => rfl, Nat.le_refl _⟩
  · rw [h]
    exact ⟨fun j hj => by simp at hj, by simp⟩
theorem valOp_dem {t : TypeId} {x : Operand} {H' : Heap} {f : FV} (h : ∃ X, Ev.dem H' = Ev.dem H ++ X) (hv : valOp C e H (.load t x) = some f) : valOp C e H' (.load t x) = some f := by
  obtain ⟨X, h⟩ := h
  simp only [valOp] at hv ⊢
  cases hr : rd C e x with
  | none => rw [hr] at hv; simp at hv
  | some f0 =>
    rw [hr] at hv
    cases f0 with
    | ptr b off =>
      obtain ⟨h1, h2⟩ := dem_ext h b
      exact partOf_ext hv h1 h2
    | gp b g off =>
      simp only at hv ⊢
      cases hb : rowOf H b with
      | none => rw [hb] at hv; simp at hv
      | some p =>
        obtain ⟨g', l⟩ := p
        rw [hb] at hv
        have hd : dem1 (H'.getD b []) = dem1 (H.getD b []) := by
          rcases dem_ext1 h b with h | h
          · exact h
          · unfold rowOf at hb; rw [h] at hb; simp at hb
        obtain ⟨l', q1, q2⟩ := dem_row hd hb
        rw [q1]
        simp only at hv ⊢
        rw [q2]; exact hv
    | ea l => exact hv
    | _ => simp at hv
structure Eff (C : Ctx) (ρ : Rho) (nt : Nat) (mv : List Nat) (o : Oper) (e : Env) (H : Heap) (δ : Env) (H₁ : Heap) : Prop where
  keys : ∀ p ∈ δ, p.1 ∈ writesOp mv o
  heap : chg (kindOf mv o) = false → H₁ = H
  dem : stay (kindOf mv o) = true → dem H₁ = dem H
  ext : wr (kindOf mv o) = false → ∃ X, Ev.dem H₁ = Ev.dem H ++ X
  again : ∀ (e' : Env) (H' : Heap) (K : Env → Heap → Prop), Agree (readsOp o.op) e e' → Agree (pendR mv o) e e' → Compat (kindOf mv o) H' H →
    K (δ ++ e') (if chg (kindOf mv o) = true then H₁ else H') → wpOp C nt mv (CallD C ρ) o e' H' K
theorem dst_mem {mv : List Nat} {o : Oper} {t : Nat} (h : o.dst = some t) : t ∈ writesOp mv o := by
  unfold writesOp; rw [h]; simp
theorem keys_put {mv : List Nat} {o : Oper} {f : FV} : ∀ p ∈ (Env.put [] o.dst f), p.1 ∈ writesOp mv o := by
  intro p hp
  cases hd : o.dst with
  | none => rw [hd] at hp; simp [Env.put] at hp
  | some d => rw [hd] at hp; simp [Env.put] at hp; subst hp; exact dst_mem hd
theorem keys_put' {mv : List Nat} {o : Oper} {f : FV} {δ : Env} (h : ∀ p ∈ δ, p.1 ∈ writesOp mv o) : ∀ p ∈ (δ.put o.dst f), p.1 ∈ writesOp mv o := by
  intro p hp
  cases hd : o.dst with
  | none => rw [hd] at hp; exact h p hp
  | some d =>
    rw [hd] at hp
    simp only [Env.put, List.mem_cons] at hp
    rcases hp with rfl | hp
    · exact dst_mem hd
    · exact h p hp
end
end Go.Proofs.YtlbjfjaleefiiaaDoor.Ev
end
section
namespace Go.Proofs.YtlbjfjaleefiiaaDoor.Ev
open Go
section
variable {C : Ctx} {ρ : Rho} {nt : Nat} {mv : List Nat} {e : Env} {H : Heap} {K : Env → Heap → Prop}
theorem eff_val {o : Oper} {f : FV} (hv : valOp C e H o.op = some f) (hK : K (e.put o.dst f) H) (hkk : kindOf mv o = .quiet ∨ kindOf mv o = .load ∧ ∃ t x, o.op = .load t x) (hkl : kindOf mv o = .quiet → ∀ t x, o.op ≠ .load t x)
    (hgo : ∀ (e' : Env) (H' : Heap) (K' : Env → Heap → Prop), valOp C e' H' o.op = some f → K' (e'.put o.dst f) H' → wpOp C nt mv (CallD C ρ) o e' H' K') : ∃ δ H₁, Eff C ρ nt mv o e H δ H₁ ∧ K (δ ++ e) H₁ := by
  refine ⟨Env.put [] o.dst f, H, ⟨keys_put, fun _ => rfl, fun _ => rfl, fun _ => ⟨[], (List.append_nil _).symm⟩, fun e' H' K' ha hpr hh hK' => ?_⟩, by rw [← put_nil]; exact hK⟩
  refine hgo e' H' K' ?_ ?_
  · rw [valOp_congr ha]
    rcases hkk with hq | ⟨hl, t, x, hop⟩
    · rw [← hv]; exact valOp_heap (hkl hq)
    · rw [hl] at hh
      rw [hop] at hv ⊢
      exact valOp_dem hh hv
  · rw [put_nil]
    rcases hkk with hq | ⟨hl, _⟩
    · simpa [hq, chg] using hK'
    · simpa [hl, chg] using hK'
set_option maxHeartbeats 4000000 in
theorem eff_of {o : Oper} (hk : kindOf mv o ≠ .other) (h : wpOp C nt mv (CallD C ρ) o e H K) : ∃ δ H₁, Eff C ρ nt mv o e H δ H₁ ∧ K (δ ++ e) H₁ := by
  obtain ⟨dst, op, ty, pos, after, guard⟩ := o
  have h0 := h
  unfold wpOp at h
  obtain ⟨hd, h⟩ := h
  simp only at hd h
  split at h
  · -- assign
    rename_i x
    split at h
    · rename_i f e₁ hg
      obtain ⟨δ, rfl, _, hδ⟩ := give_congr (e' := e) (fun _ _ => rfl) hg
      rw [put_append] at h
      refine ⟨δ.put dst f.home, H, ⟨keys_put' (o := ⟨dst, .assign x, ty, pos, after, guard⟩) fun p hp => ?_, fun _ => rfl, fun _ => rfl, fun _ => ⟨[], (List.append_nil _).symm⟩, fun e' H' K' ha hpr hh hK' => ?_⟩, h⟩
      · simp only [writesOp, List.mem_append]; exact .inr (hδ p hp)
      · obtain ⟨δ', hδ', hg', _⟩ := give_congr (e' := e') (by simpa [readsOp] using ha) hg
        obtain rfl : δ = δ' := List.append_cancel_right hδ'
        simp only [kindOf, chg, Bool.false_eq_true, if_false] at hK'
        unfold wpOp
        refine ⟨hd, ?_⟩
        simp only [hg', put_append]
        exact hK'
    · exact h.elim
  · -- move
    rename_i x
    split at h
    · rename_i hmv
      split at h
      · rename_i f e₁ hg
        obtain ⟨δ, rfl, _, hδ⟩ := give_congr (e' := e) (fun _ _ => rfl) hg
        rw [put_append] at h
        refine ⟨δ.put dst (f.homeE (empd mv dst)), H, ⟨keys_put' (o := ⟨dst, .move x, ty, pos, after, guard⟩) fun p hp => ?_, fun _ => rfl, fun _ => rfl, fun _ => ⟨[], (List.append_nil _).symm⟩, fun e' H' K' ha hpr hh hK' => ?_⟩, h⟩
        · simp only [writesOp, hmv, if_true, List.mem_append]; exact .inr (hδ p hp)
        · obtain ⟨δ', hδ', hg', _⟩ := give_congr (e' := e') (by simpa [readsOp] using ha) hg
          obtain rfl : δ = δ' := List.append_cancel_right hδ'
          simp only [kindOf, chg, Bool.false_eq_true, if_false] at hK'
          unfold wpOp
          refine ⟨hd, ?_⟩
          simp only [hmv, if_true, hg', put_append]
          exact hK'
      · exact h.elim
    · rename_i hmv
      split at h
      · rename_i f hf
        refine eff_val (o := ⟨dst, .move x, ty, pos, after, guard⟩) hf h (.inl rfl) (by simp) (fun e' H' K' hv hK' => ?_)
        unfold wpOp
        refine ⟨hd, ?_⟩
        simp only at hv
        simp only [hmv, if_false, hv, Bool.false_eq_true]
        exact hK'
      · exact h.elim
  · -- extract
    rename_i x i
    split at h
    · rename_i hmv
      simp [kindOf, hmv] at hk
    · rename_i hmv
      split at h
      · rename_i f hf
        refine eff_val (o := ⟨dst, .extract x i, ty, pos, after, guard⟩) hf h (.inl (by simp [kindOf, hmv])) (by simp) (fun e' H' K' hv hK' => ?_)
        unfold wpOp
        refine ⟨hd, ?_⟩
        simp only at hv
        simp only [hmv, if_false, hv, Bool.false_eq_true]
        exact hK'
      · exact h.elim
  · -- load
    rename_i t x
    split at h
    · rename_i hmv
      split at h
      · rename_i b off hx hag
        split at h
        · rename_i f hf
          have hkk : kindOf mv ⟨dst, .load t x, ty, pos, after, guard⟩ = .take := by simp [kindOf, hmv]
          refine ⟨Env.put [] dst f, _, ⟨keys_put (o := ⟨dst, .load t x, ty, pos, after, guard⟩), fun hh => by rw [hkk] at hh; simp [chg] at hh, fun _ => dem_take hf, fun _ => ⟨[], by rw [List.append_nil]; exact dem_take hf⟩, fun e' H' K' ha hpr hh hK' => ?_⟩, by rw [← put_nil]; exact h⟩
          rw [hkk] at hh hK'
          obtain rfl : H' = H := hh
          unfold wpOp
          refine ⟨hd, ?_⟩
          simp only [hmv, if_true, rd_congr (show Agree (opTmps x) e e' from ha), hx, hag, hf]
          rw [put_nil]
          simpa [chg] using hK'
        · exact h.elim
      · rename_i b off hx hag
        split at h
        · rename_i n hn
          obtain ⟨hle, h⟩ := h
          have hkk : kindOf mv ⟨dst, .load t x, ty, pos, after, guard⟩ = .take := by simp [kindOf, hmv]
          refine ⟨Env.put [] dst _, _, ⟨keys_put (o := ⟨dst, .load t x, ty, pos, after, guard⟩), fun hh => by rw [hkk] at hh; simp [chg] at hh, fun _ => dem_takeAgg hle, fun _ => ⟨[], by rw [List.append_nil]; exact dem_takeAgg hle⟩, fun e' H' K' ha hpr hh hK' => ?_⟩, by rw [← put_nil]; exact h⟩
          rw [hkk] at hh hK'
          obtain rfl : H' = H := hh
          unfold wpOp
          refine ⟨hd, ?_⟩
          simp only [hmv, if_true, rd_congr (show Agree (opTmps x) e e' from ha), hx, hag, hn]
          refine ⟨hle, ?_⟩
          rw [put_nil]
          simpa [chg] using hK'
        · exact h.elim
      · rename_i b g off hx hag
        split at h
        · rename_i g' l hb
          obtain ⟨hgg, h⟩ := h
          subst hgg
          split at h
          · rename_i f hf
            have hkk : kindOf mv ⟨dst, .load t x, ty, pos, after, guard⟩ = .take := by simp [kindOf, hmv]
            refine ⟨Env.put [] dst f, _, ⟨keys_put (o := ⟨dst, .load t x, ty, pos, after, guard⟩), fun hh => by rw [hkk] at hh; simp [chg] at hh, fun _ => dem_takeRow hb hf, fun _ => ⟨[], by rw [List.append_nil]; exact dem_takeRow hb hf⟩, fun e' H' K' ha hpr hh hK' => ?_⟩, by rw [← put_nil]; exact h⟩
            rw [hkk] at hh hK'
            obtain rfl : H' = H := hh
            unfold wpOp
            refine ⟨hd, ?_⟩
            simp only [hmv, if_true, rd_congr (show Agree (opTmps x) e e' from ha), hx, hag, hb, hf, true_and]
            rw [put_nil]
            simpa [chg] using hK'
          · exact h.elim
        · exact h.elim
      · exact h.elim
    · rename_i hmv
      split at h
      · rename_i f hf
        refine eff_val (o := ⟨dst, .load t x, ty, pos, after, guard⟩) hf h (.inr ⟨by simp [kindOf, hmv], t, x, rfl⟩) (by simp [kindOf, hmv]) (fun e' H' K' hv hK' => ?_)
        unfold wpOp
        refine ⟨hd, ?_⟩
        simp only at hv
        simp only [hmv, if_false, hv, Bool.false_eq_true]
        exact hK'
      · exact h.elim
  · -- alloc
    rename_i t
    split at h
    · rename_i z hz
      split at h
      · rename_i l hl
        refine ⟨Env.put [] dst (.ptr H.length 0), H ++ [l.map FV.home], ⟨keys_put (o := ⟨dst, .alloc t, ty, pos, after, guard⟩), fun hh => by simp [kindOf, chg] at hh, fun hh => by simp [kindOf, stay] at hh, fun _ => ⟨_, by simp [dem]; rfl⟩, fun e' H' K' ha hpr hh hK' => ?_⟩, by rw [← put_nil]; exact h⟩
        obtain rfl : H' = H := hh
        simp only [kindOf, chg, if_true] at hK'
        unfold wpOp
        refine ⟨hd, ?_⟩
        simp only [hz, hl]
        rw [put_nil]; exact hK'
      · exact h.elim
    · exact h.elim
  · -- box
    rename_i t x
    split at h
    · rename_i f e₁ hg
      split at h
      · rename_i l hl
        obtain ⟨h1, h⟩ := h
        obtain ⟨δ, rfl, _, hδ⟩ := give_congr (e' := e) (fun _ _ => rfl) hg
        rw [put_append] at h
        refine ⟨δ.put dst (.ptr H.length 0), H ++ [l.map FV.home], ⟨keys_put' (o := ⟨dst, .box t x, ty, pos, after, guard⟩) fun p hp => ?_, fun hh => by simp [kindOf, chg] at hh, fun hh => by simp [kindOf, stay] at hh, fun _ => ⟨_, by simp [dem]; rfl⟩, fun e' H' K' ha hpr hh hK' => ?_⟩, h⟩
        · simp only [writesOp, List.mem_append]; exact .inr (hδ p hp)
        · obtain ⟨δ', hδ', hg', _⟩ := give_congr (e' := e') (by simpa [readsOp] using ha) hg
          obtain rfl : δ = δ' := List.append_cancel_right hδ'
          obtain rfl : H' = H := hh
          simp only [kindOf, chg, if_true] at hK'
          unfold wpOp
          refine ⟨hd, ?_⟩
          simp only [hg', hl, put_append]
          exact ⟨h1, hK'⟩
      · exact h.elim
    · exact h.elim
  · -- store
    rename_i t x y
    split at h
    · rename_i b off f e₁ n hx hg hn
      split at h
      · rename_i l hl
        obtain ⟨h1, h2, h3, h⟩ := h
        obtain ⟨δ, rfl, _, hδ⟩ := give_congr (e' := e) (fun _ _ => rfl) hg
        obtain ⟨δ₂, hloc, hδ₂⟩ := located_of b off y f hδ
        rw [hloc, put_append] at h
        refine ⟨δ₂.put dst .undef, _, ⟨keys_put' (o := ⟨dst, .store t x y, ty, pos, after, guard⟩) fun p hp => ?_, fun hh => by simp [kindOf, chg] at hh, fun hh => by simp [kindOf, stay] at hh, fun hh => by simp [kindOf, wr] at hh, fun e' H' K' ha hpr hh hK' => ?_⟩, h⟩
        · simp only [writesOp, List.mem_append]; exact .inr (.inl (hδ₂ p hp))
        · have hax : Agree (opTmps x) e e' := fun s hs => ha s (by simp only [readsOp, List.mem_append]; exact .inl hs)
          have hay : Agree (opTmps y) e e' := fun s hs => ha s (by simp only [readsOp, List.mem_append]; exact .inr hs)
          obtain ⟨δ', hδ', hg', _⟩ := give_congr (e' := e') hay hg
          obtain rfl : δ = δ' := List.append_cancel_right hδ'
          obtain rfl : H' = H := hh
          simp only [kindOf, if_true] at hK'
          unfold wpOp
          refine ⟨hd, ?_⟩
          simp only [rd_congr hax, hx, hg', hn, hl, hloc, put_append]
          exact ⟨h1, h2, h3, hK'⟩
      · exact h.elim
    · rename_i b gb off f e₁ n hx hg hn
      split at h
      · rename_i l g' c hl hb
        obtain ⟨hgg, h1, h2, h3, h⟩ := h
        subst hgg
        obtain ⟨δ, rfl, _, hδ⟩ := give_congr (e' := e) (fun _ _ => rfl) hg
        obtain ⟨δ₂, hloc, hδ₂⟩ := located_of b off y f hδ
        rw [hloc, put_append] at h
        refine ⟨δ₂.put dst .undef, _, ⟨keys_put' (o := ⟨dst, .store t x y, ty, pos, after, guard⟩) fun p hp => ?_, fun hh => by simp [kindOf, chg] at hh, fun hh => by simp [kindOf, stay] at hh, fun hh => by simp [kindOf, wr] at hh, fun e' H' K' ha hpr hh hK' => ?_⟩, h⟩
        · simp only [writesOp, List.mem_append]; exact .inr (.inl (hδ₂ p hp))
        · have hax : Agree (opTmps x) e e' := fun s hs => ha s (by simp only [readsOp, List.mem_append]; exact .inl hs)
          have hay : Agree (opTmps y) e e' := fun s hs => ha s (by simp only [readsOp, List.mem_append]; exact .inr hs)
          obtain ⟨δ', hδ', hg', _⟩ := give_congr (e' := e') hay hg
          obtain rfl : δ = δ' := List.append_cancel_right hδ'
          obtain rfl : H' = H := hh
          simp only [kindOf, if_true] at hK'
          unfold wpOp
          refine ⟨hd, ?_⟩
          simp only [rd_congr hax, hx, hg', hn, hl, hb, hloc, put_append]
          exact ⟨trivial, h1, h2, h3, hK'⟩
      · exact h.elim
    · rename_i k q s f e₁ n hx hg hn
      obtain ⟨hs, h⟩ := h
      split at h
      · rename_i p hp
        split at h
        · rename_i b off hes
          split at h
          · rename_i k' o' z l hc
            obtain ⟨h1, h2, h3, h4, h⟩ := h
            refine ⟨Env.put [] dst .undef, _, ⟨keys_put (o := ⟨dst, .store t x y, ty, pos, after, guard⟩), fun hh => by simp [kindOf, chg] at hh, fun hh => by simp [kindOf, stay] at hh, fun hh => by simp [kindOf, wr] at hh, fun e' H' K' ha hpr hh hK' => ?_⟩, by rw [← put_nil]; exact h⟩
            have hax : Agree (opTmps x) e e' := fun s hs => ha s (by simp only [readsOp, List.mem_append]; exact .inl hs)
            have hay : Agree (opTmps y) e e' := fun s hs => ha s (by simp only [readsOp, List.mem_append]; exact .inr hs)
            obtain ⟨δ, _, hg', _⟩ := give_congr (e' := e') hay hg
            obtain rfl : H' = H := hh
            simp only [kindOf, if_true] at hK'
            unfold wpOp
            refine ⟨hd, ?_⟩
            simp only [rd_congr hax, hx, hg', hn, hp, hpr s hs, hes, hc]
            exact ⟨hs, h1, h2, h3, h4, by rw [put_nil]; exact hK'⟩
          · exact h.elim
        · rename_i k' o' z l hc
          obtain ⟨h1, h2, h3, h4, h⟩ := h
          refine ⟨Env.put [(s, .own (l ++ [p]))] dst .undef, _, ⟨keys_put' (o := ⟨dst, .store t x y, ty, pos, after, guard⟩) fun q hq => ?_, fun hh => by simp [kindOf, chg] at hh, fun hh => by simp [kindOf, stay] at hh, fun hh => by simp [kindOf, wr] at hh, fun e' H' K' ha hpr hh hK' => ?_⟩, by rw [← put_append]; exact h⟩
          · simp only [List.mem_singleton] at hq
            subst hq
            simp only [writesOp, List.mem_append]
            exact .inr (.inr hs)
          · have hax : Agree (opTmps x) e e' := fun s hs => ha s (by simp only [readsOp, List.mem_append]; exact .inl hs)
            have hay : Agree (opTmps y) e e' := fun s hs => ha s (by simp only [readsOp, List.mem_append]; exact .inr hs)
            obtain ⟨δ, _, hg', _⟩ := give_congr (e' := e') hay hg
            obtain rfl : H' = H := hh
            simp only [kindOf, if_true] at hK'
            unfold wpOp
            refine ⟨hd, ?_⟩
            simp only [rd_congr hax, hx, hg', hn, hp, hpr s hs, hc]
            exact ⟨hs, h1, h2, h3, h4, by rw [← put_append] at hK'; exact hK'⟩
        · exact h.elim
      · exact h.elim
    · exact h.elim
  · -- buildSlice
    rename_i t n parts
    split at h
    · rename_i hrw
      have hkk : kindOf mv ⟨dst, .buildSlice t n parts, ty, pos, after, guard⟩ = .grow := by simp [kindOf, hrw]
      split at h
      · rename_i el x hu hps
        split at h
        · rename_i m z f e₁ hsz hz hg
          split at h
          · rename_i l hl
            obtain ⟨h1, h2, h3, h4, h5, h⟩ := h
            obtain ⟨δ, rfl, _, hδ⟩ := give_congr (e' := e) (fun _ _ => rfl) hg
            rw [put_append] at h
            refine ⟨δ.put dst (.gr H.length 0 (m + 1) 1), H ++ [[.row 0 (l.map FV.home)]], ⟨keys_put' (o := ⟨dst, .buildSlice t n parts, ty, pos, after, guard⟩) fun p hp => ?_, fun hh => by rw [hkk] at hh; simp [chg] at hh, fun hh => by rw [hkk] at hh; simp [stay] at hh, fun _ => ⟨_, by simp [dem]; rfl⟩, fun e' H' K' ha hpr hh hK' => ?_⟩, h⟩
            · simp only [writesOp, hrw, if_true, hps, partTmps, List.append_nil, List.mem_append]; exact .inr (hδ p hp)
            · obtain ⟨δ', hδ', hg', _⟩ := give_congr (e' := e') (show Agree (opTmps x) e e' from fun s hs => ha s (by simp [readsOp, hps, partTmps, hs])) hg
              obtain rfl : δ = δ' := List.append_cancel_right hδ'
              rw [hkk] at hh hK'
              obtain rfl : H' = H := hh
              simp only [chg, if_true] at hK'
              unfold wpOp
              refine ⟨hd, ?_⟩
              simp only [hrw, if_true, hu, hps, hsz, hz, hg', hl, put_append]
              exact ⟨h1, h2, h3, h4, h5, hK'⟩
          · exact h.elim
        · exact h.elim
      · exact h.elim
    rename_i hrw
    split at h
    · rename_i el hu
      split at h
      · rename_i m z ps hsz hz hps
        obtain ⟨h1, h2, h3, h4, h⟩ := h
        split at h
        · rename_i l hl
          obtain ⟨h5, h⟩ := h
          refine ⟨Env.put [] dst (.own l), H, ⟨keys_put (o := ⟨dst, .buildSlice t n parts, ty, pos, after, guard⟩), fun _ => rfl, fun _ => rfl, fun _ => ⟨[], (List.append_nil _).symm⟩, fun e' H' K' ha hpr hh hK' => ?_⟩, by rw [← put_nil]; exact h⟩
          simp only [kindOf, hrw, chg, Bool.false_eq_true, if_false] at hK'
          unfold wpOp
          refine ⟨hd, ?_⟩
          simp only [hrw, Bool.false_eq_true, if_false, hu, hsz, hz, rdParts_congr (show Agree (partTmps parts.toList) e e' from ha), hps, hl]
          exact ⟨h1, h2, h3, h4, h5, by rw [put_nil]; exact hK'⟩
        · exact h.elim
      · exact h.elim
    · exact h.elim
  · -- two operands
    rename_i op t x y yt
    split at h
    · rename_i hn
      simp [kindOf, hn] at hk
    · rename_i hn
      split at h
      · rename_i f hf
        refine eff_val (o := ⟨dst, .binOp op t x y yt, ty, pos, after, guard⟩) hf h (.inl (by simp [kindOf, hn])) (by simp) (fun e' H' K' hv hK' => ?_)
        unfold wpOp
        refine ⟨hd, ?_⟩
        simp only at hv
        simp only [hn, if_false, hv, Bool.false_eq_true]
        exact hK'
      · exact h.elim
  · -- conversions
    rename_i s d x
    have hcg : ∀ e', Agree (opTmps x) e e' → bytesConv C e' s d x = bytesConv C e s d x := fun e' ha => by unfold bytesConv; rw [rd_congr ha]
    split at h
    · rename_i t ht
      refine ⟨Env.put [] dst (.sc (.sl (bytesPV t))), H, ⟨keys_put (o := ⟨dst, .convert s d x, ty, pos, after, guard⟩), fun _ => rfl, fun _ => rfl, fun _ => ⟨[], (List.append_nil _).symm⟩, fun e' H' K' ha hpr hh hK' => ?_⟩, by rw [← put_nil]; exact h⟩
      simp only [kindOf, chg, Bool.false_eq_true, if_false] at hK'
      unfold wpOp
      refine ⟨hd, ?_⟩
      simp only [hcg e' ha, ht]
      rw [put_nil]; exact hK'
    · rename_i ht
      split at h
      · rename_i f hf
        have hff : ∀ e' H', Agree (opTmps x) e e' → valOp C e' H' (.convert s d x) = some f := fun e' H' ha => by
          rw [← hf]; simp only [valOp]; rw [rd_congr ha]
        refine ⟨Env.put [] dst f, H, ⟨keys_put (o := ⟨dst, .convert s d x, ty, pos, after, guard⟩), fun _ => rfl, fun _ => rfl, fun _ => ⟨[], (List.append_nil _).symm⟩, fun e' H' K' ha hpr hh hK' => ?_⟩, by rw [← put_nil]; exact h⟩
        simp only [kindOf, chg, Bool.false_eq_true, if_false] at hK'
        unfold wpOp
        refine ⟨hd, ?_⟩
        simp only [hcg e' ha, ht, hff e' H' ha]
        rw [put_nil]; exact hK'
      · exact h.elim
  · -- calls
    rename_i c
    obtain ⟨callee, args, ts⟩ := c
    simp only at h
    split at h
    · rename_i x
      split at h
      · rename_i hh0; exact absurd (by simp [kindOf, hh0]) hk
      rename_i hh0
      split at h
      · rename_i f first cap l hx hl
        obtain ⟨r, H', hc, hK⟩ := h
        have hax : ∀ {e' : Env}, Agree (readsOp (.call { callee := .value x, args := args, argTypes := ts })) e e' → rd C e' x = rd C e x := fun ha => rd_congr fun s hs => ha s (by simp only [readsOp, List.mem_append]; exact .inl hs)
        have hay : ∀ {e' : Env}, Agree (readsOp (.call { callee := .value x, args := args, argTypes := ts })) e e' → rdAll C e' args.toList = rdAll C e args.toList := fun ha => rdAll_congr fun s hs => ha s (by simp only [readsOp, List.mem_append]; exact .inr hs)
        by_cases m0 : callMode mv dst = 0
        · have hkk : kindOf mv ⟨dst, .call { callee := .value x, args := args, argTypes := ts }, ty, pos, after, guard⟩ = .quiet := by simp [kindOf, hh0, m0]
          rw [m0] at hc
          have hc' : CallN C f (first ++ l ++ cap) H r H' ∧ ρ.p f (first ++ l ++ cap) r := by simpa [CallD] using hc
          obtain ⟨⟨c1, rfl, c2⟩, c3⟩ := hc'
          refine ⟨Env.put [] dst r.home, H', ⟨keys_put (o := ⟨dst, _, ty, pos, after, guard⟩), fun _ => rfl, fun _ => rfl, fun _ => ⟨[], (List.append_nil _).symm⟩, fun e' H'' K' ha hpr hh hK' => ?_⟩, by rw [← put_nil]; exact hK⟩
          rw [hkk] at hK'
          simp only [chg, Bool.false_eq_true, if_false] at hK'
          unfold wpOp
          refine ⟨hd, ?_⟩
          simp only [hh0, Bool.false_eq_true, if_false, hax ha, hay ha, hx, hl]
          exact ⟨r, H'', by rw [m0]; simp only [CallD, if_true]; exact ⟨⟨c1, rfl, c2⟩, c3⟩, by show K' _ _; rw [put_nil]; exact hK'⟩
        by_cases m2 : callMode mv dst = 2
        · have hkk : kindOf mv ⟨dst, .call { callee := .value x, args := args, argTypes := ts }, ty, pos, after, guard⟩ = .read := by simp [kindOf, hh0, m2]
          rw [m2] at hc
          have hc' : (Call C f (first ++ l ++ cap) H r H' ∧ H' = H) ∧ ρ.p f (first ++ l ++ cap) r := by simpa [CallD] using hc
          obtain ⟨⟨c1, rfl⟩, c3⟩ := hc'
          refine ⟨Env.put [] dst r.home, H', ⟨keys_put (o := ⟨dst, _, ty, pos, after, guard⟩), fun _ => rfl, fun _ => rfl, fun _ => ⟨[], (List.append_nil _).symm⟩, fun e' H'' K' ha hpr hh hK' => ?_⟩, by rw [← put_nil]; exact hK⟩
          rw [hkk] at hK' hh
          obtain rfl : H'' = H' := hh
          simp only [chg, Bool.false_eq_true, if_false] at hK'
          unfold wpOp
          refine ⟨hd, ?_⟩
          simp only [hh0, Bool.false_eq_true, if_false, hax ha, hay ha, hx, hl]
          exact ⟨r, H'', by rw [m2]; show (if (2 : Nat) = 0 then _ else if (2 : Nat) = 2 then _ else _); rw [if_neg (by decide), if_pos rfl]; exact ⟨⟨c1, rfl⟩, c3⟩, by show K' _ _; rw [put_nil]; exact hK'⟩
        · have hkk : kindOf mv ⟨dst, .call { callee := .value x, args := args, argTypes := ts }, ty, pos, after, guard⟩ = .call := by simp [kindOf, hh0, m0, m2]
          have hc' : Call C f (first ++ l ++ cap) H r H' ∧ ρ.q f (first ++ l ++ cap) H r H' := by simpa [CallD, m0, m2] using hc
          refine ⟨Env.put [] dst r.home, H', ⟨keys_put (o := ⟨dst, _, ty, pos, after, guard⟩), fun hh => by rw [hkk] at hh; simp [chg] at hh, fun hh => by rw [hkk] at hh; simp [stay] at hh, fun hh => by rw [hkk] at hh; simp [wr] at hh, fun e' H'' K' ha hpr hh hK' => ?_⟩, by rw [← put_nil]; exact hK⟩
          rw [hkk] at hK' hh
          obtain rfl : H'' = H := hh
          simp only [chg, if_true] at hK'
          unfold wpOp
          refine ⟨hd, ?_⟩
          simp only [hh0, Bool.false_eq_true, if_false, hax ha, hay ha, hx, hl]
          exact ⟨r, H', by simp only [CallD, m0, m2, if_false]; exact hc', by show K' _ _; rw [put_nil]; exact hK'⟩
      · exact h.elim
    · rename_i b
      split at h
      · rename_i hz0
        exfalso; apply hk
        simp only [Bool.and_eq_true] at hz0
        obtain ⟨q1, q2⟩ := hz0
        cases b <;> simp_all [isAppend, kindOf]
      rename_i hp0
      split at h
      · rename_i hz0
        exfalso; apply hk
        simp only [Bool.and_eq_true] at hz0
        obtain ⟨q1, q2⟩ := hz0
        cases b <;> simp_all [isAppend, kindOf]
      rename_i hz0
      split at h
      · rename_i hb
        obtain rfl : b = .append := by cases b <;> simp_all [isAppend]
        have hp1 : pended mv dst = false := by simpa [isAppend] using hp0
        have hz1 : zeroed mv dst = false := by simpa [isAppend] using hz0
        split at h
        · rename_i x y t u tr hargs hts
          split at h
          · rename_i el ud hel hud
            split at h
            · rename_i m z bs f e₁ g hsz hz hbs hg hy
              split at h
              · rename_i b gb zb n r hf hr
                obtain ⟨hrw, h⟩ := h
                split at h
                · rename_i g' l hb
                  obtain ⟨h1, h2, h3, h4, h5, h6, h7, h8, h9, h⟩ := h
                  have hbx : ¬ boxed mv dst = true := fun hb => by simp [kindOf, hp1, hz1, hb] at hk
                  obtain ⟨δ, rfl, _, hδ⟩ := give_congr (e' := e) (fun _ _ => rfl) hg
                  rw [put_append] at h
                  have hkk : kindOf mv ⟨dst, .call { callee := .builtin .append, args := args, argTypes := ts }, ty, pos, after, guard⟩ = .store := by simp [kindOf, hp1, hz1, hbx, hrw]
                  refine ⟨δ.put dst (.gr b (gb + 1) (m + 1) (n + r.length)), _, ⟨keys_put' (o := ⟨dst, _, ty, pos, after, guard⟩) fun p hp => ?_, fun hh => by rw [hkk] at hh; simp [chg] at hh, fun hh => by rw [hkk] at hh; simp [stay] at hh, fun hh => by rw [hkk] at hh; simp [wr] at hh, fun e' H' K' ha hpr hh hK' => ?_⟩, h⟩
                  · simp only [writesOp, List.mem_append, hargs]; exact .inr (hδ p hp)
                  · have hax : Agree (opTmps x) e e' := fun s hs => ha s (by simp only [readsOp, hargs, listTmps, List.mem_append]; exact .inl hs)
                    have hay : Agree (opTmps y) e e' := fun s hs => ha s (by simp only [readsOp, hargs, listTmps, List.mem_append]; exact .inr (.inl hs))
                    obtain ⟨δ', hδ', hg', _⟩ := give_congr (e' := e') hax hg
                    obtain rfl : δ = δ' := List.append_cancel_right hδ'
                    rw [hkk] at hh hK'
                    obtain rfl : H' = H := hh
                    simp only [chg, if_true] at hK'
                    unfold wpOp
                    refine ⟨hd, ?_⟩
                    simp only [hp1, hz1, Bool.false_and, Bool.false_eq_true, if_false, isAppend, if_true, hargs, hts, hel, hud, hsz, hz, hbs, hg', rd_congr hay, hy, hf, hr, hrw, hb, put_append, true_and]
                    exact ⟨h1, h2, h3, h4, h5, h6, h7, h8, h9, hK'⟩
                · exact h.elim
              · rename_i l r hf hr
                have hbx : ¬ boxed mv dst = true := fun hb => by simp [kindOf, hp1, hz1, hb] at hk
                split at h
                · rename_i hrw
                  obtain ⟨h1, h⟩ := h
                  split at h
                  · rename_i hre
                    obtain ⟨h3, h4, h5, h6, h⟩ := h
                    obtain ⟨δ, rfl, _, hδ⟩ := give_congr (e' := e) (fun _ _ => rfl) hg
                    rw [put_append] at h
                    have hkk : kindOf mv ⟨dst, .call { callee := .builtin .append, args := args, argTypes := ts }, ty, pos, after, guard⟩ = .store := by simp [kindOf, hp1, hz1, hbx, hrw]
                    refine ⟨δ.put dst (.own []), H, ⟨keys_put' (o := ⟨dst, _, ty, pos, after, guard⟩) fun p hp => ?_, fun _ => rfl, fun _ => rfl, fun _ => ⟨[], (List.append_nil _).symm⟩, fun e' H' K' ha hpr hh hK' => ?_⟩, h⟩
                    · simp only [writesOp, List.mem_append, hargs]; exact .inr (hδ p hp)
                    · have hax : Agree (opTmps x) e e' := fun s hs => ha s (by simp only [readsOp, hargs, listTmps, List.mem_append]; exact .inl hs)
                      have hay : Agree (opTmps y) e e' := fun s hs => ha s (by simp only [readsOp, hargs, listTmps, List.mem_append]; exact .inr (.inl hs))
                      obtain ⟨δ', hδ', hg', _⟩ := give_congr (e' := e') hax hg
                      obtain rfl : δ = δ' := List.append_cancel_right hδ'
                      rw [hkk] at hh hK'
                      obtain rfl : H' = H := hh
                      simp only [chg, if_true] at hK'
                      unfold wpOp
                      refine ⟨hd, ?_⟩
                      simp only [hp1, hz1, Bool.false_and, Bool.false_eq_true, if_false, isAppend, if_true, hargs, hts, hel, hud, hsz, hz, hbs, hg', rd_congr hay, hy, hf, hr, hrw, put_append, hre]
                      exact ⟨h1, h3, h4, h5, h6, hK'⟩
                  rename_i hre
                  obtain ⟨h3, h4, h5, h6, h7, h8, h⟩ := h
                  obtain ⟨δ, rfl, _, hδ⟩ := give_congr (e' := e) (fun _ _ => rfl) hg
                  rw [put_append] at h
                  have hkk : kindOf mv ⟨dst, .call { callee := .builtin .append, args := args, argTypes := ts }, ty, pos, after, guard⟩ = .store := by simp [kindOf, hp1, hz1, hbx, hrw]
                  refine ⟨δ.put dst (.gr H.length 0 (m + 1) r.length), _, ⟨keys_put' (o := ⟨dst, _, ty, pos, after, guard⟩) fun p hp => ?_, fun hh => by rw [hkk] at hh; simp [chg] at hh, fun hh => by rw [hkk] at hh; simp [stay] at hh, fun hh => by rw [hkk] at hh; simp [wr] at hh, fun e' H' K' ha hpr hh hK' => ?_⟩, h⟩
                  · simp only [writesOp, List.mem_append, hargs]; exact .inr (hδ p hp)
                  · have hax : Agree (opTmps x) e e' := fun s hs => ha s (by simp only [readsOp, hargs, listTmps, List.mem_append]; exact .inl hs)
                    have hay : Agree (opTmps y) e e' := fun s hs => ha s (by simp only [readsOp, hargs, listTmps, List.mem_append]; exact .inr (.inl hs))
                    obtain ⟨δ', hδ', hg', _⟩ := give_congr (e' := e') hax hg
                    obtain rfl : δ = δ' := List.append_cancel_right hδ'
                    rw [hkk] at hh hK'
                    obtain rfl : H' = H := hh
                    simp only [chg, if_true] at hK'
                    unfold wpOp
                    refine ⟨hd, ?_⟩
                    simp only [hp1, hz1, Bool.false_and, Bool.false_eq_true, if_false, isAppend, if_true, hargs, hts, hel, hud, hsz, hz, hbs, hg', rd_congr hay, hy, hf, hr, hrw, put_append, hre]
                    exact ⟨h1, h3, h4, h5, h6, h7, h8, hK'⟩
                rename_i hrw
                obtain ⟨h1, h2, h3, h4, h5, h6, h7, h⟩ := h
                obtain ⟨δ, rfl, _, hδ⟩ := give_congr (e' := e) (fun _ _ => rfl) hg
                rw [put_append] at h
                refine ⟨δ.put dst (.own (l ++ r)), H, ⟨keys_put' (o := ⟨dst, _, ty, pos, after, guard⟩) fun p hp => ?_, fun _ => rfl, fun _ => rfl, fun _ => ⟨[], (List.append_nil _).symm⟩, fun e' H' K' ha hpr hh hK' => ?_⟩, h⟩
                · simp only [writesOp, List.mem_append, hargs]; exact .inr (hδ p hp)
                · have hax : Agree (opTmps x) e e' := fun s hs => ha s (by simp only [readsOp, hargs, listTmps, List.mem_append]; exact .inl hs)
                  have hay : Agree (opTmps y) e e' := fun s hs => ha s (by simp only [readsOp, hargs, listTmps, List.mem_append]; exact .inr (.inl hs))
                  obtain ⟨δ', hδ', hg', _⟩ := give_congr (e' := e') hax hg
                  obtain rfl : δ = δ' := List.append_cancel_right hδ'
                  simp only [kindOf, chg, Bool.false_eq_true, if_false, hp1, hz1, hbx, hrw] at hK'
                  unfold wpOp
                  refine ⟨hd, ?_⟩
                  simp only [hp1, hz1, Bool.false_and, Bool.false_eq_true, if_false, isAppend, if_true, hargs, hts, hel, hud, hsz, hz, hbs, hg', rd_congr hay, hy, hf, hr, put_append]
                  rw [if_neg hrw, if_neg hbx]
                  exact ⟨h1, h2, h3, h4, h5, h6, h7, hK'⟩
              · rename_i fh hr
                obtain ⟨h1, h2, h3, h4, h⟩ := h
                have hbx : ¬ boxed mv dst = true := fun hb => by simp [kindOf, hp1, hz1, hb] at hk
                obtain ⟨δ, rfl, _, hδ⟩ := give_congr (e' := e) (fun _ _ => rfl) hg
                have hag : ∀ (e' : Env), Agree (readsOp (.call { callee := .builtin .append, args := args, argTypes := ts })) e e' → give C e' x = some (f, δ ++ e') ∧ rd C e' y = some g := fun e' ha => by
                  have hax : Agree (opTmps x) e e' := fun s hs => ha s (by simp only [readsOp, hargs, listTmps, List.mem_append]; exact .inl hs)
                  have hay : Agree (opTmps y) e e' := fun s hs => ha s (by simp only [readsOp, hargs, listTmps, List.mem_append]; exact .inr (.inl hs))
                  obtain ⟨δ', hδ', hg', _⟩ := give_congr (e' := e') hax hg
                  obtain rfl : δ = δ' := List.append_cancel_right hδ'
                  exact ⟨hg', by rw [rd_congr hay, hy]⟩
                unfold MoveQ at h
                split at h
                rotate_left
                · exact h.elim
                rename_i b₂ g₂ z₂ n₂
                split at h
                rotate_left
                · exact h.elim
                rename_i g₂' c hb2
                split at h
                · rename_i hcp
                  obtain ⟨p1, p2, p3, hrw, h⟩ := h
                  have hkk : kindOf mv ⟨dst, .call { callee := .builtin .append, args := args, argTypes := ts }, ty, pos, after, guard⟩ = .store := by simp [kindOf, hp1, hz1, hbx, hrw]
                  split at h
                  rotate_left
                  · exact h.elim
                  rename_i l hfl
                  split at h
                  rotate_left
                  · exact h.elim
                  rename_i r hch
                  obtain ⟨p5, p6, h⟩ := h
                  rw [put_append] at h
                  refine ⟨δ.put dst _, _, ⟨keys_put' (o := ⟨dst, _, ty, pos, after, guard⟩) fun p hp => ?_, fun _ => rfl, fun _ => rfl, fun _ => ⟨[], (List.append_nil _).symm⟩, fun e' H' K' ha hpr hh hK' => ?_⟩, h⟩
                  · simp only [writesOp, List.mem_append, hargs]; exact .inr (hδ p hp)
                  · obtain ⟨hg', hy'⟩ := hag e' ha
                    rw [hkk] at hh hK'
                    obtain rfl : H' = H := hh
                    simp only [chg, if_true] at hK'
                    unfold wpOp
                    refine ⟨hd, ?_⟩
                    simp only [hp1, hz1, Bool.false_and, Bool.false_eq_true, if_false, isAppend, if_true, hargs, hts, hel, hud, hsz, hz, hbs, hg', hy', hfl, hr]
                    refine ⟨h1, h2, h3, h4, ?_⟩
                    unfold MoveQ
                    simp only [hb2, put_append, hcp, if_true, hch]
                    exact ⟨p1, p2, p3, hrw, p5, p6, hK'⟩
                rename_i hcp
                obtain ⟨p1, p2, p3, p4, hrw, h⟩ := h
                have hkk : kindOf mv ⟨dst, .call { callee := .builtin .append, args := args, argTypes := ts }, ty, pos, after, guard⟩ = .store := by simp [kindOf, hp1, hz1, hbx, hrw]
                split at h
                · rename_i l hfl
                  obtain ⟨p5, p6, h⟩ := h
                  rw [put_append] at h
                  refine ⟨δ.put dst _, _, ⟨keys_put' (o := ⟨dst, _, ty, pos, after, guard⟩) fun p hp => ?_, fun hh => by rw [hkk] at hh; simp [chg] at hh, fun hh => by rw [hkk] at hh; simp [stay] at hh, fun hh => by rw [hkk] at hh; simp [wr] at hh, fun e' H' K' ha hpr hh hK' => ?_⟩, h⟩
                  · simp only [writesOp, List.mem_append, hargs]; exact .inr (hδ p hp)
                  · obtain ⟨hg', hy'⟩ := hag e' ha
                    rw [hkk] at hh hK'
                    obtain rfl : H' = H := hh
                    simp only [chg, if_true] at hK'
                    unfold wpOp
                    refine ⟨hd, ?_⟩
                    simp only [hp1, hz1, Bool.false_and, Bool.false_eq_true, if_false, isAppend, if_true, hargs, hts, hel, hud, hsz, hz, hbs, hg', hy', hfl, hr]
                    refine ⟨h1, h2, h3, h4, ?_⟩
                    unfold MoveQ
                    simp only [hb2, put_append, hcp, Bool.false_eq_true, if_false]
                    exact ⟨p1, p2, p3, p4, hrw, p5, p6, hK'⟩
                · rename_i b gb zb n hfl
                  split at h
                  · rename_i g' l hb
                    obtain ⟨p5, p6, p7, p8, p9, h⟩ := h
                    rw [put_append] at h
                    refine ⟨δ.put dst _, _, ⟨keys_put' (o := ⟨dst, _, ty, pos, after, guard⟩) fun p hp => ?_, fun hh => by rw [hkk] at hh; simp [chg] at hh, fun hh => by rw [hkk] at hh; simp [stay] at hh, fun hh => by rw [hkk] at hh; simp [wr] at hh, fun e' H' K' ha hpr hh hK' => ?_⟩, h⟩
                    · simp only [writesOp, List.mem_append, hargs]; exact .inr (hδ p hp)
                    · obtain ⟨hg', hy'⟩ := hag e' ha
                      rw [hkk] at hh hK'
                      obtain rfl : H' = H := hh
                      simp only [chg, if_true] at hK'
                      unfold wpOp
                      refine ⟨hd, ?_⟩
                      simp only [hp1, hz1, Bool.false_and, Bool.false_eq_true, if_false, isAppend, if_true, hargs, hts, hel, hud, hsz, hz, hbs, hg', hy', hfl, hr]
                      refine ⟨h1, h2, h3, h4, ?_⟩
                      unfold MoveQ
                      simp only [hb2, hb, put_append, hcp, Bool.false_eq_true, if_false]
                      exact ⟨p1, p2, p3, p4, hrw, p5, p6, p7, p8, p9, hK'⟩
                  · exact h.elim
                · exact h.elim
              · exact h.elim
            · exact h.elim
          · exact h.elim
        · exact h.elim
      · rename_i hb
        split at h
        · rename_i hb2
          obtain rfl : b = .clear := by cases b <;> simp_all [isClear]
          simp [kindOf] at hk
        rename_i hb2
        split at h
        · rename_i f hf
          have hkq : kindOf mv ⟨dst, .call { callee := .builtin b, args := args, argTypes := ts }, ty, pos, after, guard⟩ = .quiet := by
            cases b <;> simp_all [kindOf, isAppend]
          refine eff_val (o := ⟨dst, .call { callee := .builtin b, args := args, argTypes := ts }, ty, pos, after, guard⟩) hf h (.inl hkq) (by simp) (fun e' H' K' hv hK' => ?_)
          unfold wpOp
          refine ⟨hd, ?_⟩
          simp only at hv
          simp only [hb, hb2, if_false, hv, Bool.false_eq_true, Bool.and_false]
          exact hK'
        · exact h.elim
    · exact h.elim
  · rename_i n1 n2 n3 n4 n5 n6 n7 n8 n8b n8c n9
    clear h hd
    have go : ∀ {op : Op}, (kindOf mv ⟨dst, op, ty, pos, after, guard⟩ = .quiet) → (∀ t x, op ≠ .load t x) → (∀ (e' : Env) (H' : Heap) (K' : Env → Heap → Prop), wpOp C nt mv (CallD C ρ) ⟨dst, op, ty, pos, after, guard⟩ e' H' K' = (dstOk nt dst ∧ match valOp C e' H' op with | some f => K' (e'.put dst f) H' | none => False)) →
        wpOp C nt mv (CallD C ρ) ⟨dst, op, ty, pos, after, guard⟩ e H K → ∃ δ H₁, Eff C ρ nt mv ⟨dst, op, ty, pos, after, guard⟩ e H δ H₁ ∧ K (δ ++ e) H₁ := fun {op} hq hl hw h0 => by
      rw [hw] at h0
      obtain ⟨hd, h⟩ := h0
      split at h
      · rename_i f hf
        refine eff_val (o := ⟨dst, op, ty, pos, after, guard⟩) hf h (.inl hq) (fun _ => hl) (fun e' H' K' hv hK' => ?_)
        rw [hw]
        refine ⟨hd, ?_⟩
        simp only at hv
        rw [hv]
        exact hK'
      · exact h.elim
    cases op with
    | assign x => exact absurd rfl (n1 x)
    | move x => exact absurd rfl (n2 x)
    | extract x i => exact absurd rfl (n3 x i)
    | load t x => exact absurd rfl (n4 t x)
    | alloc t => exact absurd rfl (n5 t)
    | box t x => exact absurd rfl (n6 t x)
    | store t x y => exact absurd rfl (n7 t x y)
    | buildSlice t n ps => exact absurd rfl (n8 t n ps)
    | call c => exact absurd rfl (n9 c)
    | fieldAddr a b c => exact go rfl (by simp) (fun _ _ _ => rfl) h0
    | field a b c => exact go rfl (by simp) (fun _ _ _ => rfl) h0
    | indexAddr a b c => exact go rfl (by simp) (fun _ _ _ => rfl) h0
    | index a b c => exact go rfl (by simp) (fun _ _ _ => rfl) h0
    | lookup a b c d => exact go rfl (by simp) (fun _ _ _ => rfl) h0
    | binOp a b c d f => exact absurd rfl (n8b a b c d f)
    | pick a b c => exact go rfl (by simp) (fun _ _ _ => rfl) h0
    | unOp a b c => exact go rfl (by simp) (fun _ _ _ => rfl) h0
    | convert a b c => exact absurd rfl (n8c a b c)
    | slice a b c d f => exact go rfl (by simp) (fun _ _ _ => rfl) h0
    | build a b => exact go rfl (by simp) (fun _ _ _ => rfl) h0
    | makeFunc a b c => exact go rfl (by simp) (fun _ _ _ => rfl) h0
    | nilCheck a => exact go rfl (by simp) (fun _ _ _ => rfl) h0
    | _ => exact absurd rfl hk
end
end Go.Proofs.YtlbjfjaleefiiaaDoor.Ev
end
