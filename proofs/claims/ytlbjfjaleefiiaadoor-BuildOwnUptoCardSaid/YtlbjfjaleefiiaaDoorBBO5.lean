/- Of what the law BuildOwn needs: part 5. -/
import Derived.Scope
import Derived.Test.YtlbjfjaleefiiaaDoorBBO4
set_option linter.unusedSimpArgs false
set_option linter.unusedVariables false
section
namespace Go.Proofs.YtlbjfjaleefiiaaDoor.Ev
open Go
def Cond (t : Bool) (p q : Prop) : Prop := (t = true → p) ∧ (t = false → q)
def Loop (step : Env → Heap → (Ex → Env → Heap → Prop) → Prop) (e : Env) (H : Heap) (Q : Ex → Env → Heap → Prop) : Prop := ∃ k, iterP step k e H Q
def barred (mv : List Nat) (id : Nat) : Bool := mv.contains (id + 2000000)
def decOrd : Nat → Nat → List Nat
  | 0, _ => []
  | k + 1, n => if n ≤ 1 then [] else n % 64 :: decOrd k (n / 64)
def ordersOf : List Nat → Nat → List (List Nat)
  | [], _ => []
  | x :: mv, id => if x / 1000000000000000000000000000000000000000000000000000000000000000000000000000000000000000000000000000000000000000000000000 = id + 1 then decOrd 66 (x % 1000000000000000000000000000000000000000000000000000000000000000000000000000000000000000000000000000000000000000000000000) :: ordersOf mv id else ordersOf mv id
def DrawC (C : Ctx) (nt : Nat) (mv : List Nat) (ops : Array Oper) (e : Env) (H : Heap) (K : Env → Heap → Prop) : List (List Nat) → Prop
  | [] => wpOps C nt mv (CallP C) ops ops.toList e H K
  | l :: R => ∃ ρ : Det, ∀ r ∈ l :: R, wpOps C nt mv (CallD C (det ρ)) ops (opersOf ops r) e H K
def wpC (C : Ctx) (nt : Nat) (mv vars : List Nat) : Code → Env → Heap → (Ex → Env → Heap → Prop) → Prop
  | .skip, e, H, Q => Q .normal e H
  | .label _, e, H, Q => Q .normal e H
  | .region id ops draw, e, H, Q => if draw = true then barred mv id = false ∧ DrawC C nt mv ops e H (fun e' H' => Q .normal (keep vars e') H') (ordersOf mv id) else wpOps C nt mv (fun _ => Call C) ops ops.toList e H fun e' H' => Q .normal (keep vars e') H'
  | .seq a b, e, H, Q => wpC C nt mv vars a e H fun x e' H' => match x with
    | .normal => wpC C nt mv vars b e' H' Q
    | x => Q x e' H'
  | .cond c a b, e, H, Q => match rd C e c with
    | some (.sc (.bool t)) => Cond t (wpC C nt mv vars a e H Q) (wpC C nt mv vars b e H Q)
    | _ => False
  | .block id c, e, H, Q => wpC C nt mv vars c e H fun x e' H' => match x with
    | .exit i => if i = id then Q .normal e' H' else Q (.exit i) e' H'
    | x => Q x e' H'
  | .loop c, e, H, Q => Loop (wpC C nt mv vars c) e H Q
  | .scope c, e, H, Q => wpC C nt mv vars c e H Q
  | .exit id, e, H, Q => Q (.exit id) e H
  | .ret, e, H, Q => Q .ret e H
  | _, _, _, _ => False
def codeOk (mv : List Nat) : Code → Bool
  | .region id ops draw => !draw || barred mv id || (if (ordersOf mv id).isEmpty = true then orderOk mv ops else ordersOk mv ops (ordersOf mv id))
  | .seq a b => codeOk mv a && codeOk mv b
  | .cond _ a b => codeOk mv a && codeOk mv b
  | .block _ a => codeOk mv a
  | .loop a => codeOk mv a
  | .scope a => codeOk mv a
  | _ => true
theorem keep_get (vars : List Nat) (e : Env) (t : Nat) : (keep vars e).get t = if t ∈ vars then e.get t else .undef := by
  unfold keep
  induction vars with
  | nil => simp [Env.get]
  | cons s vars ih =>
    simp only [List.map_cons, Env.get, List.mem_cons]
    by_cases h : s = t
    · simp [h]
    · rw [if_neg h, ih]
      simp [Ne.symm h]
section
variable {C : Ctx} {nt : Nat} {mv vars : List Nat}
theorem Inv.keep {e : Env} {H : Heap} {a : Act} {W : Wd} (hi : Inv C nt e H a W) (vars : List Nat) : Inv C nt (Ev.keep vars e) H a W where
  heap := hi.heap
  env t := by
    rw [keep_get]
    split
    · exact hi.env t
    · exact .undef
  size := hi.size
  defers := hi.defers
def exOf : Ex → Exit
  | .normal => .normal
  | .exit i => .exit i
  | .ret => .ret
def Done (C : Ctx) (nt : Nat) (W : Wd) (Q : Ex → Env → Heap → Prop) (x : Exit) (a : Act) (w : World) : Prop :=
  ∃ y e H W', x = exOf y ∧ W'.w = w ∧ Q y e H ∧ Inv C nt e H a W' ∧ Evo W W' (fun _ _ => False)
theorem wpC_sound (hmix : C.P.follows .mixedOrders = true) : ∀ (c : Code), codeOk mv c = true → ∀ (e : Env) (H : Heap) (Q : Ex → Env → Heap → Prop) (a : Act) (W : Wd), wpC C nt mv vars c e H Q → Inv C nt e H a W → c.wp C.P (Done C nt W Q) a W.w := by
  intro c
  induction c with
  | skip => exact fun _ e H Q a W h hi => wp_skip ⟨.normal, e, H, W, rfl, rfl, h, hi, Evo.refl _ _⟩
  | label l => exact fun _ e H Q a W h hi => wp_label ⟨.normal, e, H, W, rfl, rfl, h, hi, Evo.refl _ _⟩
  | exit id => exact fun _ e H Q a W h hi => wp_exit ⟨.exit id, e, H, W, rfl, rfl, h, hi, Evo.refl _ _⟩
  | ret => exact fun _ e H Q a W h hi => wp_ret ⟨.ret, e, H, W, rfl, rfl, h, hi, Evo.refl _ _⟩
  | region id ops draw =>
    intro hk e H Q a W h hi
    simp only [codeOk] at hk
    have hQ : ∀ e' H' a' W', Q .normal (keep vars e') H' → Inv C nt e' H' a' W' → Evo W W' (fun _ _ => False) → Done C nt W Q .normal a' W'.w := fun e' H' a' W' hq hi' hE =>
      ⟨.normal, _, H', W', rfl, rfl, hq, hi'.keep vars, hE⟩
    cases draw with
    | false => exact wp_region_list (wpOps_sound (W₀ := W) hQ ops.toList e H a W hi (Evo.refl _ _) h)
    | true =>
      obtain ⟨hb, h⟩ := h
      rw [hb] at hk
      cases ho : ordersOf mv id with
      | nil =>
        rw [ho] at hk h
        exact drawn_sound hmix (by simpa using hk) hQ hi (Evo.refl _ _) h
      | cons l R =>
        rw [ho] at hk h
        obtain ⟨ρ, h⟩ := h
        exact drawn_orders (R := l :: R) hmix (by simpa using hk) hQ hi (Evo.refl _ _) h
  | seq x y ihx ihy =>
    intro hk e H Q a W h hi
    simp only [codeOk, Bool.and_eq_true] at hk
    refine wp_seq (wp_mono (ihx hk.1 e H _ a W h hi) ?_)
    rintro ex a' w' ⟨z, e', H', W', rfl, rfl, hq, hi', hE⟩
    cases z with
    | normal =>
      refine wp_mono (ihy hk.2 e' H' Q a' W' hq hi') ?_
      rintro ex a₂ w₂ ⟨z, e₂, H₂, W₂, rfl, rfl, hq₂, hi₂, hE₂⟩
      exact ⟨z, e₂, H₂, W₂, rfl, rfl, hq₂, hi₂, hE.trans0 hE₂⟩
    | exit i => exact ⟨.exit i, e', H', W', rfl, rfl, hq, hi', hE⟩
    | ret => exact ⟨.ret, e', H', W', rfl, rfl, hq, hi', hE⟩
  | cond cc x y ihx ihy =>
    intro hk e H Q a W h hi
    simp only [codeOk, Bool.and_eq_true] at hk
    unfold wpC at h
    split at h
    · rename_i t hc
      obtain ⟨_, _, hr⟩ := rd_sound hi hc
      refine wp_cond hr.bool ?_
      cases t with
      | true => exact ihx hk.1 e H Q a W (h.1 rfl) hi
      | false => exact ihy hk.2 e H Q a W (h.2 rfl) hi
    · exact h.elim
  | block id x ih =>
    intro hk e H Q a W h hi
    refine wp_block (wp_mono (ih hk e H _ a W h hi) ?_)
    rintro ex a' w' ⟨z, e', H', W', rfl, rfl, hq, hi', hE⟩
    cases z with
    | normal => exact ⟨.normal, e', H', W', rfl, rfl, hq, hi', hE⟩
    | ret => exact ⟨.ret, e', H', W', rfl, rfl, hq, hi', hE⟩
    | exit i =>
      simp only [exOf, Exit.inBlock]
      simp only at hq
      split
      · rename_i hid; rw [if_pos hid] at hq; exact ⟨.normal, e', H', W', rfl, rfl, hq, hi', hE⟩
      · rename_i hid; rw [if_neg hid] at hq; exact ⟨.exit i, e', H', W', rfl, rfl, hq, hi', hE⟩
  | loop x ih =>
    intro hko e H Q a W h hi
    obtain ⟨k, hk⟩ := h
    let R : Nat → Act → World → Prop := fun k a' w' => ∃ e' H' W', W'.w = w' ∧ iterP (wpC C nt mv vars x) k e' H' Q ∧ Inv C nt e' H' a' W' ∧ Evo W W' (fun _ _ => False)
    have hmin : ∀ a' w', ∃ m, (∃ k, R k a' w') → R m a' w' ∧ ∀ j, R j a' w' → m ≤ j := fun a' w' => by
      by_cases hh : ∃ k, R k a' w'
      · obtain ⟨k, hk⟩ := hh
        obtain ⟨m, hm⟩ := exists_min (p := fun k => R k a' w') k hk
        exact ⟨m, fun _ => hm⟩
      · exact ⟨0, fun h => absurd h hh⟩
    refine wp_loop (fun a' w' => ∃ k, R k a' w') (fun a' w' => (hmin a' w').choose) ⟨k, e, H, W, rfl, hk, hi, Evo.refl _ _⟩ ?_
    intro a' w' hI
    obtain ⟨hf, _⟩ := (hmin a' w').choose_spec hI
    generalize (hmin a' w').choose = k0 at hf ⊢
    obtain ⟨e', H', W', rfl, hit, hi', hE⟩ := hf
    cases k0 with
    | zero => exact hit.elim
    | succ k0 =>
      refine wp_mono (ih hko e' H' _ a' W' hit hi') ?_
      rintro ex a₂ w₂ ⟨z, e₂, H₂, W₂, rfl, rfl, hq, hi₂, hE₂⟩
      cases z with
      | normal =>
        have hR : R k0 a₂ W₂.w := ⟨e₂, H₂, W₂, rfl, hq, hi₂, hE.trans0 hE₂⟩
        exact ⟨⟨k0, hR⟩, Nat.lt_succ_of_le (((hmin a₂ W₂.w).choose_spec ⟨k0, hR⟩).2 k0 hR)⟩
      | exit i => exact ⟨.exit i, e₂, H₂, W₂, rfl, rfl, hq, hi₂, hE.trans0 hE₂⟩
      | ret => exact ⟨.ret, e₂, H₂, W₂, rfl, rfl, hq, hi₂, hE.trans0 hE₂⟩
  | scope x ih =>
    intro hk e H Q a W h hi
    refine wp_scope_straight (wp_mono (ih hk e H Q a W h hi) ?_)
    rintro ex a' w' ⟨z, e', H', W', rfl, rfl, hq, hi', hE⟩
    cases z <;> exact ⟨_, e', H', W', rfl, rfl, hq, hi', hE⟩
  | rangeFunc => exact fun _ e H Q a W h _ => h.elim
  | goto => exact fun _ e H Q a W h _ => h.elim
  | refuse => exact fun _ e H Q a W h _ => h.elim
end
end Go.Proofs.YtlbjfjaleefiiaaDoor.Ev
end
section
namespace Go.Proofs.YtlbjfjaleefiiaaDoor.Ev
open Go
def resTmps : List ResultVar → List Nat
  | [] => []
  | .tmp t :: l => t :: resTmps l
  | .cell _ _ :: l => resTmps l
def resIdx (t : Nat) : Nat → List ResultVar → Option Nat
  | _, [] => none
  | i, .tmp s :: l => if s = t then some i else resIdx t (i + 1) l
  | i, .cell _ _ :: l => resIdx t (i + 1) l
theorem resIdx_get {t : Nat} : ∀ {rs : List ResultVar} {i k : Nat}, (resTmps rs).Nodup → rs[k]? = some (.tmp t) → resIdx t i rs = some (i + k)
  | [], i, k, _, h => by simp at h
  | .tmp s :: l, i, k, hn, h => by
    simp only [resTmps, List.nodup_cons] at hn
    cases k with
    | zero => simp at h; subst h; simp [resIdx]
    | succ k =>
      simp only [List.getElem?_cons_succ] at h
      have hne : s ≠ t := by
        intro hst
        subst hst
        have : ∀ {l : List ResultVar} {k : Nat}, l[k]? = some (.tmp s) → s ∈ resTmps l := by
          intro l
          induction l with
          | nil => intro k h; simp at h
          | cons x l ih =>
            intro k h
            cases k with
            | zero => simp at h; subst h; simp [resTmps]
            | succ k => simp at h; cases x <;> simp [resTmps, ih h]
        exact hn.1 (this h)
      simp only [resIdx]
      rw [if_neg hne, resIdx_get hn.2 h]
      congr 1; omega
  | .cell s ty :: l, i, k, hn, h => by
    cases k with
    | zero => simp at h
    | succ k =>
      simp only [List.getElem?_cons_succ] at h
      simp only [resIdx]
      rw [resIdx_get (by simpa [resTmps] using hn) h]
      congr 1; omega
def Wd.out (W : Wd) (rs : List ResultVar) : Wd :=
  { W with o := fun b => match W.o b with
    | some (.tmp t, k) => match resIdx t 0 rs with
      | some i => some (.res, i + k)
      | none => some (.tmp t, k)
    | q => q }
section
variable {C : Ctx} {nt : Nat} {e : Env} {H : Heap} {a : Act} {W : Wd}
theorem partOf_notTup {P : Program} {t : TypeId} {l : List FV} {off : Nat} {f : FV} (h : partOf P t (l.map demote1) off = some f) : f.isTup = false := by
  unfold partOf at h
  split at h
  · split at h
    · simp at h; subst h; rfl
    · simp at h
  · rw [List.getElem?_map, Option.map_eq_some_iff] at h
    obtain ⟨g, _, rfl⟩ := h
    cases g <;> rfl
  · simp at h
def resSem (tmps : Array Value) : ResultVar → Sem Value
  | .tmp t => pure (tmps.getD t undef)
  | .cell t ty => do loadVar ty (← asAddr (tmps.getD t undef))
theorem results_eq (fn : Func) (tmps : Array Value) : Go.results fn tmps = (do
    let vs ← fn.results.mapM (resSem tmps)
    pure (if h : vs.size = 1 then vs[0] else .tuple vs)) := by
  unfold Go.results
  congr 1
theorem res_sound (hi : Inv C nt e H a W) {rs : List ResultVar} (hn : (resTmps rs).Nodup) {k : Nat} {x : ResultVar} {f : FV} (hk : rs[k]? = some x) (h : resOf C e H x = some f) :
    ∃ v, (resSem a.tmps x).run C.P W.w = .ok v W.w ∧ FRep (W.out rs) (some .res) k f v ∧ f.isTup = false := by
  cases x with
  | tmp t =>
    simp only [resOf, Option.some.injEq] at h
    subst h
    obtain ⟨q1, q2⟩ := strip_rep (hi.env t)
    refine ⟨a.tmps.getD t undef, rfl, q1.shift (A := W) (B := W.out rs) (fun _ _ _ => rfl) (fun _ => Nat.le_refl _) (fun _ c _ _ h => ⟨c, h, rfl⟩) (fun b hb => ⟨?_, rfl⟩) (fun b i hb hβ => ⟨hβ, ?_⟩) (fun i => ⟨Nat.le_refl _, fun _ h => ⟨rfl, by simp only [Wd.out, h]⟩⟩) q2, q2⟩
    · simp only [Wd.out, hb, resIdx_get (i := 0) hn hk, Nat.zero_add, Nat.add_zero]
    · simp only [Wd.out, hb]
  | cell t ty =>
    simp only [resOf] at h
    split at h
    · rename_i b off hb
      have hr := hi.env t
      rw [hb] at hr
      have hv := box_get hr
      have hbo := box_alive hr
      obtain ⟨v, h1, h2⟩ := loadBox_sound hi.heap hbo h
      have hE0 : Evo0 W (W.out rs) (fun _ _ => False) := { cell := fun _ _ _ => rfl, lim := fun _ => Nat.le_refl _, shape := fun _ c _ _ h => ⟨c, h, rfl⟩, hold := fun _ _ _ _ h => h.elim, beta := fun b i hb hβ => ⟨hβ, by simp only [Wd.out, hb]⟩, row := fun i => ⟨Nat.le_refl _, fun _ h => ⟨rfl, by simp only [Wd.out, h]⟩⟩ }
      refine ⟨v, ?_, (h2.mono0 hE0 (by simp)).weaken rfl, partOf_notTup h⟩
      simp only [resSem, hv, asAddr, Sem.run_bind, Sem.run_pure, Result.andThen_ok, h1]
    · simp at h
theorem resAll_sound (hi : Inv C nt e H a W) {rs : List ResultVar} (hn : (resTmps rs).Nodup) : ∀ (l : List ResultVar) (i : Nat) (fs : List FV), (∀ k x, l[k]? = some x → rs[i + k]? = some x) → resAll C e H l = some fs →
    ∃ vs : List Value, (l.mapM (resSem a.tmps)).run C.P W.w = .ok vs W.w ∧ vs.length = fs.length ∧
      ∀ (k : Nat) (f : FV) (v : Value), fs[k]? = some f → vs[k]? = some v → FRep (W.out rs) (some .res) (i + k) f v ∧ f.isTup = false
  | [], i, fs, _, h => by simp [resAll] at h; subst h; exact ⟨[], rfl, rfl, by simp⟩
  | x :: l, i, fs, hl, h => by
    unfold resAll at h
    split at h
    · rename_i f s hf hs
      simp at h; subst h
      obtain ⟨v, h1, h2, h3⟩ := res_sound hi hn (hl 0 x rfl) hf
      obtain ⟨vs, h4, h5, h6⟩ := resAll_sound hi hn l (i + 1) s (fun k y hk => by have := hl (k + 1) y (by simpa using hk); rw [show i + 1 + k = i + (k + 1) by omega]; exact this) hs
      refine ⟨v :: vs, ?_, by simp [h5], fun k g u hg hu => ?_⟩
      · simp only [List.mapM_cons, Sem.run_bind, h1, Result.andThen_ok, h4, Sem.run_pure]
      · cases k with
        | zero => simp at hg hu; subst hg hu; exact ⟨h2, h3⟩
        | succ k =>
          have := h6 k g u (by simpa using hg) (by simpa using hu)
          rw [show i + (k + 1) = i + 1 + k by omega]; exact this
    · simp at h
theorem result_sound (hi : Inv C nt e H a W) {fn : Func} (hn : (resTmps fn.results.toList).Nodup) {r : FV} (h : resultOf C e H fn.results.toList = some r) :
    ∃ v, (results fn a.tmps).run C.P W.w = .ok v W.w ∧ FRep (W.out fn.results.toList) (some .res) 0 r v := by
  unfold resultOf at h
  split at h
  · rename_i t hrs
    simp only [Option.some.injEq] at h
    have hv : (results fn a.tmps).run C.P W.w = .ok (a.tmps.getD t undef) W.w := by
      have h1 : (fn.results.mapM (resSem a.tmps)).run C.P W.w = .ok #[a.tmps.getD t undef] W.w := by
        rw [Array.mapM_eq_mapM_toList, Sem.run_map, hrs]
        rfl
      rw [results_eq]
      simp only [Sem.run_bind, h1, Result.andThen_ok]
      rfl
    refine ⟨_, hv, ?_⟩
    have hre := hi.env t
    rw [hrs]
    have hst : FRep W (some (.tmp t)) 0 (stripO (e.get t)) (a.tmps.getD t undef) := by
      by_cases ho : ∃ m, e.get t = .oagg m
      · obtain ⟨m, hm⟩ := ho
        rw [hm] at hre ⊢
        exact hre
      · have : stripO (e.get t) = strip (e.get t) := by
          cases hg : e.get t <;> first | rfl | exact absurd ⟨_, hg⟩ ho
        rw [this]
        exact (strip_rep hre).1
    rw [h] at hst
    exact hst.carry (A := W) (B := W.out [.tmp t]) (r := .tmp t) (r' := .res) (fun _ _ _ => rfl) (fun _ => Nat.le_refl _) (fun _ c _ _ h => ⟨c, h, rfl⟩) (fun b i hb => ⟨by simp [Wd.out, hb, resIdx], rfl⟩) (fun b i hb hβ => ⟨hβ, by simp only [Wd.out, hb]⟩) (fun i => ⟨Nat.le_refl _, fun _ h => ⟨rfl, by simp only [Wd.out, h]⟩⟩) (.inr rfl)
  rename_i hrs0
  have key : ∀ fs, resAll C e H fn.results.toList = some fs → ∃ vs : List Value, (fn.results.mapM (resSem a.tmps)).run C.P W.w = .ok vs.toArray W.w ∧ vs.length = fs.length ∧
      ∀ (k : Nat) (f : FV) (v : Value), fs[k]? = some f → vs[k]? = some v → FRep (W.out fn.results.toList) (some .res) k f v ∧ f.isTup = false := fun fs hfs => by
    obtain ⟨vs, h1, h2, h3⟩ := resAll_sound hi hn fn.results.toList 0 fs (fun k x hk => by simpa using hk) hfs
    refine ⟨vs, ?_, h2, fun k f v hf hv => by simpa using h3 k f v hf hv⟩
    rw [Array.mapM_eq_mapM_toList, Sem.run_map, h1]
    rfl
  split at h
  · rename_i f hfs
    simp only [Option.some.injEq] at h; subst h
    obtain ⟨vs, h1, h2, h3⟩ := key _ hfs
    obtain ⟨v, rfl⟩ : ∃ v, vs = [v] := by
      match vs, h2 with
      | [v], _ => exact ⟨v, rfl⟩
    refine ⟨v, ?_, (h3 0 f v rfl rfl).1⟩
    rw [results_eq]
    simp only [Sem.run_bind, h1, Result.andThen_ok]
    rfl
  · rename_i l hne hfs
    simp only [Option.some.injEq] at h; subst h
    obtain ⟨vs, h1, h2, h3⟩ := key _ hfs
    refine ⟨.tuple vs.toArray, ?_, .tup (by simpa using h2) fun k f v hf hv => (h3 k f v hf (by simpa using hv)).1⟩
    rw [results_eq]
    simp only [Sem.run_bind, h1, Result.andThen_ok]
    have : ¬ vs.toArray.size = 1 := by
      intro hh
      match l, h2 with
      | [x], _ => exact hne x rfl
      | [], h2 => simp at h2; simp [h2] at hh
      | _ :: _ :: _, h2 => simp at hh; simp [hh] at h2
    rw [dif_neg this]
    rfl
  · simp at h
theorem argsEnv_get : ∀ (args : List FV) (i t : Nat), (argsEnv i args).get t = if i ≤ t then (match args[t - i]? with | some f => f | none => .undef) else .undef
  | [], i, t => by simp [argsEnv, Env.get]
  | f :: l, i, t => by
    simp only [argsEnv, Env.get, argsEnv_get l (i + 1) t]
    by_cases h : i = t
    · subst h; simp
    · rw [if_neg h]
      by_cases h' : i ≤ t
      · rw [if_pos h', if_pos (by omega)]
        rw [show t - i = (t - (i + 1)) + 1 by omega, List.getElem?_cons_succ]
      · rw [if_neg h', if_neg (by omega)]
theorem con_gen2 {f : FuncId} {fn : Func} {c : Code} {args : List FV} {H : Heap} {G : FV → Heap → Prop} {mv vars : List Nat} (hf : C.P.funcs[f]? = some fn) (hb : fn.body = some c) (hn : (resTmps fn.results.toList).Nodup) (hmix : C.P.follows .mixedOrders = true) (hk : codeOk mv c = true)
    (h : wpC C fn.ntmps mv vars c (argsEnv 0 args) H fun x e H₁ => (match x with | .exit _ => False | _ => True) ∧ ∃ r, resultOf C e H₁ fn.results.toList = some r ∧ G r H₁) (vs : List Value) (W : Wd) (hlen : vs.length = args.length)
    (hargs : ∀ (j : Nat) (g : FV) (v : Value), args[j]? = some g → vs[j]? = some v → FRep W none 0 g v) (hH : HInv C H W) :
    Calls C.P f vs.toArray W.w fun x w' => ∃ v W' H₁ r, x = .returned v ∧ W'.w = w' ∧ G r H₁ ∧ FRep W' (some .res) 0 r v ∧ HInv C H₁ W' ∧ Evo W W' (fun _ _ => False) := by
  refine calls_of_wp hf hb ?_
  have hi : Inv C fn.ntmps (argsEnv 0 args) H { tmps := vs.toArray ++ Array.replicate (fn.ntmps - vs.toArray.size) undef, defers := [] } W := by
    refine ⟨hH, fun t => ?_, by simp; omega, rfl⟩
    rw [argsEnv_get]
    simp only [Nat.zero_le, if_true, Nat.sub_zero]
    cases hg : args[t]? with
    | none => exact .undef
    | some g =>
      have hlt : t < vs.length := by
        rw [hlen]
        rcases Nat.lt_or_ge t args.length with h' | h'
        · exact h'
        · simp [List.getElem?_eq_none h'] at hg
      have hv := List.getElem?_eq_getElem hlt
      have : (vs.toArray ++ Array.replicate (fn.ntmps - vs.toArray.size) undef).getD t undef = vs[t] := by
        simp [Array.getElem?_append, hlt]
      rw [this]
      exact (hargs t g _ hg hv).weaken rfl
  refine wp_mono (wpC_sound hmix c hk _ _ _ _ _ h hi) ?_
  rintro x a' w' ⟨y, e', H₁, W', rfl, rfl, ⟨hy, r, hr, hG⟩, hi', hE⟩
  obtain ⟨v, hv, hrep⟩ := result_sound hi' hn hr
  have hE2 : Evo W' (W'.out fn.results.toList) (fun q _ => q.heap = true) := Evo.of rfl rfl rfl (Nat.le_refl _) (fun _ _ _ => rfl) (fun _ => Nat.le_refl _) (fun _ c _ _ h => ⟨c, h, rfl⟩) (fun b q i hb hq => ⟨by
      simp only [Wd.out, hb]
      cases q <;> simp_all [Root.heap], rfl⟩) (fun b i hb hβ => ⟨hβ, by simp only [Wd.out, hb]⟩) (fun i => ⟨Nat.le_refl _, fun _ h => ⟨rfl, by simp only [Wd.out, h]⟩⟩) (fun b _ hb => ⟨rfl, rfl, by simp only [Wd.out, hb]⟩)
  have hH' : HInv C H₁ (W'.out fn.results.toList) := hi'.heap.evo hE2.toEvo0 (fun _ _ _ _ => rfl) rfl rfl rfl (fun b hb => by simp only [Wd.out, (hi'.heap.fresh b hb).2]) (fun b i k hb => by
    simp only [Wd.out] at hb
    split at hb
    · split at hb <;> simp at hb
    · exact hi'.heap.boxes b i k hb) (fun b hb => by simp only [Wd.out, hb])
  have hfin : ∃ v' W'' H₂ r', Ending.returned v = .returned v' ∧ W''.w = W'.w ∧ G r' H₂ ∧ FRep W'' (some .res) 0 r' v' ∧ HInv C H₂ W'' ∧ Evo W W'' (fun _ _ => False) :=
    ⟨v, W'.out fn.results.toList, H₁, r, rfl, rfl, hG, hrep, hH', hE.trans0 (hE2.weaken (by simp))⟩
  cases y with
  | exit i => exact hy.elim
  | normal => exact ⟨hi'.defers, v, hv, hfin⟩
  | ret => exact ⟨hi'.defers, v, hv, hfin⟩
theorem con_genH {f : FuncId} {fn : Func} {c : Code} {args : List FV} {H : Heap} {r : FV} {G : Heap → Prop} {mv vars : List Nat} (hf : C.P.funcs[f]? = some fn) (hb : fn.body = some c) (hn : (resTmps fn.results.toList).Nodup) (hmix : C.P.follows .mixedOrders = true) (hk : codeOk mv c = true)
    (h : wpC C fn.ntmps mv vars c (argsEnv 0 args) H fun x e H₁ => (match x with | .exit _ => False | _ => True) ∧ resultOf C e H₁ fn.results.toList = some r ∧ G H₁) (vs : List Value) (W : Wd) (hlen : vs.length = args.length)
    (hargs : ∀ (j : Nat) (g : FV) (v : Value), args[j]? = some g → vs[j]? = some v → FRep W (some (.tmp j)) 0 g v) (hH : HInv C H W) :
    Calls C.P f vs.toArray W.w fun x w' => ∃ v W' H₁, x = .returned v ∧ W'.w = w' ∧ G H₁ ∧ FRep W' (some .res) 0 r v ∧ HInv C H₁ W' ∧ Evo W W' (fun _ _ => False) := by
  refine calls_of_wp hf hb ?_
  have hi : Inv C fn.ntmps (argsEnv 0 args) H { tmps := vs.toArray ++ Array.replicate (fn.ntmps - vs.toArray.size) undef, defers := [] } W := by
    refine ⟨hH, fun t => ?_, by simp; omega, rfl⟩
    rw [argsEnv_get]
    simp only [Nat.zero_le, if_true, Nat.sub_zero]
    cases hg : args[t]? with
    | none => exact .undef
    | some g =>
      have hlt : t < vs.length := by
        rw [hlen]
        rcases Nat.lt_or_ge t args.length with h' | h'
        · exact h'
        · simp [List.getElem?_eq_none h'] at hg
      have hv := List.getElem?_eq_getElem hlt
      have : (vs.toArray ++ Array.replicate (fn.ntmps - vs.toArray.size) undef).getD t undef = vs[t] := by
        simp [Array.getElem?_append, hlt]
      rw [this]
      exact hargs t g _ hg hv
  refine wp_mono (wpC_sound hmix c hk _ _ _ _ _ h hi) ?_
  rintro x a' w' ⟨y, e', H₁, W', rfl, rfl, ⟨hy, hr, hG⟩, hi', hE⟩
  obtain ⟨v, hv, hrep⟩ := result_sound hi' hn hr
  have hE2 : Evo W' (W'.out fn.results.toList) (fun q _ => q.heap = true) := Evo.of rfl rfl rfl (Nat.le_refl _) (fun _ _ _ => rfl) (fun _ => Nat.le_refl _) (fun _ c _ _ h => ⟨c, h, rfl⟩) (fun b q i hb hq => ⟨by
      simp only [Wd.out, hb]
      cases q <;> simp_all [Root.heap], rfl⟩) (fun b i hb hβ => ⟨hβ, by simp only [Wd.out, hb]⟩) (fun i => ⟨Nat.le_refl _, fun _ h => ⟨rfl, by simp only [Wd.out, h]⟩⟩) (fun b _ hb => ⟨rfl, rfl, by simp only [Wd.out, hb]⟩)
  have hH' : HInv C H₁ (W'.out fn.results.toList) := hi'.heap.evo hE2.toEvo0 (fun _ _ _ _ => rfl) rfl rfl rfl (fun b hb => by simp only [Wd.out, (hi'.heap.fresh b hb).2]) (fun b i k hb => by
    simp only [Wd.out] at hb
    split at hb
    · split at hb <;> simp at hb
    · exact hi'.heap.boxes b i k hb) (fun b hb => by simp only [Wd.out, hb])
  have hfin : ∃ v' W'' H₂, Ending.returned v = .returned v' ∧ W''.w = W'.w ∧ G H₂ ∧ FRep W'' (some .res) 0 r v' ∧ HInv C H₂ W'' ∧ Evo W W'' (fun _ _ => False) :=
    ⟨v, W'.out fn.results.toList, H₁, rfl, rfl, hG, hrep, hH', hE.trans0 (hE2.weaken (by simp))⟩
  cases y with
  | exit i => exact hy.elim
  | normal => exact ⟨hi'.defers, v, hv, hfin⟩
  | ret => exact ⟨hi'.defers, v, hv, hfin⟩
theorem con_gen {f : FuncId} {fn : Func} {c : Code} {args : List FV} {H : Heap} {r : FV} {G : Heap → Prop} {mv vars : List Nat} (hf : C.P.funcs[f]? = some fn) (hb : fn.body = some c) (hn : (resTmps fn.results.toList).Nodup) (hmix : C.P.follows .mixedOrders = true) (hk : codeOk mv c = true)
    (h : wpC C fn.ntmps mv vars c (argsEnv 0 args) H fun x e H₁ => (match x with | .exit _ => False | _ => True) ∧ resultOf C e H₁ fn.results.toList = some r ∧ G H₁) (vs : List Value) (W : Wd) (hlen : vs.length = args.length)
    (hargs : ∀ (j : Nat) (g : FV) (v : Value), args[j]? = some g → vs[j]? = some v → FRep W none 0 g v) (hH : HInv C H W) :
    Calls C.P f vs.toArray W.w fun x w' => ∃ v W' H₁, x = .returned v ∧ W'.w = w' ∧ G H₁ ∧ FRep W' (some .res) 0 r v ∧ HInv C H₁ W' ∧ Evo W W' (fun _ _ => False) :=
  con_genH hf hb hn hmix hk h vs W hlen (fun j g v hg hv => (hargs j g v hg hv).weaken rfl) hH
theorem con_of {f : FuncId} {fn : Func} {c : Code} {args : List FV} {H H' : Heap} {r : FV} {mv vars : List Nat} (hf : C.P.funcs[f]? = some fn) (hb : fn.body = some c) (hn : (resTmps fn.results.toList).Nodup) (hmix : C.P.follows .mixedOrders = true) (hk : codeOk mv c = true)
    (h : wpC C fn.ntmps mv vars c (argsEnv 0 args) H fun x e H₁ => (match x with | .exit _ => False | _ => True) ∧ resultOf C e H₁ fn.results.toList = some r ∧ H₁ = H') : Con C f args H r H' :=
  fun vs W hlen hargs hH _ => (con_gen (G := fun H₁ => H₁ = H') hf hb hn hmix hk h vs W hlen hargs hH).mono fun _ _ ⟨v, W', H₁, h1, h2, h3, h4, h5, h6⟩ => ⟨v, W', h1, h2, h4, h3 ▸ h5, h6⟩
theorem pcon_of {f : FuncId} {fn : Func} {c : Code} {args : List FV} {r : FV} {mv vars : List Nat} (hf : C.P.funcs[f]? = some fn) (hb : fn.body = some c) (hn : (resTmps fn.results.toList).Nodup) (hmix : C.P.follows .mixedOrders = true) (hk : codeOk mv c = true)
    (h : wpC C fn.ntmps mv vars c (argsEnv 0 args) [] fun x e H₁ => (match x with | .exit _ => False | _ => True) ∧ resultOf C e H₁ fn.results.toList = some r ∧ True) : PCon C f args r :=
  fun vs W hlen hargs hH _ => (con_gen (G := fun _ => True) hf hb hn hmix hk h vs W hlen hargs hH).mono fun _ _ ⟨v, W', H₁, h1, h2, _, h4, h5, h6⟩ => ⟨v, W', H₁, h1, h2, h4, h5, h6⟩
end
end Go.Proofs.YtlbjfjaleefiiaaDoor.Ev
end
