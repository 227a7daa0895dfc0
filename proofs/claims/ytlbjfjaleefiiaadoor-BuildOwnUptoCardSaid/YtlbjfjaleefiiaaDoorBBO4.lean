/- Of what the law BuildOwn needs: part 4. -/
import Derived.Orders
import Derived.Test.YtlbjfjaleefiiaaDoorBBO3
set_option linter.unusedSimpArgs false
set_option linter.unusedVariables false
section
namespace Go.Proofs.YtlbjfjaleefiiaaDoor.Ev
open Go
def EnvEq (e e' : Env) : Prop := ∀ t, e.get t = e'.get t
def Ext (K : Env → Heap → Prop) (e : Env) (H : Heap) : Prop := ∃ e', EnvEq e' e ∧ K e' H
theorem get_append (δ e : Env) (t : Nat) : (δ ++ e).get t = if t ∈ δ.map (·.1) then δ.get t else e.get t := by
  induction δ with
  | nil => simp
  | cons p δ ih =>
    obtain ⟨s, f⟩ := p
    simp only [List.cons_append, Env.get, List.map_cons, List.mem_cons, ih]
    by_cases h : s = t
    · simp [h]
    · have : ¬ t = s := fun hh => h hh.symm
      rw [if_neg h]
      by_cases a : t ∈ List.map (fun x => x.1) δ
      · rw [if_pos a, if_pos (.inr a), if_neg h]
      · rw [if_neg a, if_neg (by rintro (b | b); exact this b; exact a b)]
theorem EnvEq.append {δ e e' : Env} (h : EnvEq e e') : EnvEq (δ ++ e) (δ ++ e') := fun t => by
  rw [get_append, get_append, h t]
def gReads (ops : Array Oper) (o : Oper) : List Nat :=
  match o.guard with
  | some (j, _) => ((ops[j]?).bind (·.dst)).toList
  | none => []
def readsG (mv : List Nat) (ops : Array Oper) (o : Oper) : List Nat := readsOp o.op ++ pendR mv o ++ gReads ops o
section
variable {C : Ctx} {ρ : Rho} {nt : Nat} {mv : List Nat} {ops : Array Oper}
def wpG (C : Ctx) (ρ : Rho) (nt : Nat) (mv : List Nat) (ops : Array Oper) (o : Oper) (e : Env) (H : Heap) (K : Env → Heap → Prop) : Prop :=
  match wanted nt ops e o with
  | some true => wpOp C nt mv (CallD C ρ) o e H K
  | some false => K (e.put o.dst (.tup [])) H
  | none => False
theorem wpOps_cons' {o : Oper} {l : List Oper} {e : Env} {H : Heap} {K : Env → Heap → Prop} : wpOps C nt mv (CallD C ρ) ops (o :: l) e H K = wpG C ρ nt mv ops o e H (fun e' H' => wpOps C nt mv (CallD C ρ) ops l e' H' K) := rfl
theorem wanted_congr {o : Oper} {e e' : Env} (h : Agree (gReads ops o) e e') : wanted nt ops e' o = wanted nt ops e o := by
  unfold wanted
  cases hg : o.guard with
  | none => rfl
  | some p =>
    obtain ⟨j, want⟩ := p
    simp only
    cases hd : (ops[j]?).bind (·.dst) with
    | none => rfl
    | some d =>
      simp only
      rw [h d (by simp [gReads, hg, hd])]
structure EffG (C : Ctx) (ρ : Rho) (nt : Nat) (mv : List Nat) (ops : Array Oper) (o : Oper) (e : Env) (H : Heap) (δ : Env) (H₁ : Heap) : Prop where
  keys : ∀ p ∈ δ, p.1 ∈ writesOp mv o
  heap : chg (kindOf mv o) = false → H₁ = H
  dem : stay (kindOf mv o) = true → Ev.dem H₁ = Ev.dem H
  ext : wr (kindOf mv o) = false → ∃ X, Ev.dem H₁ = Ev.dem H ++ X
  again : ∀ (e' : Env) (H' : Heap) (K : Env → Heap → Prop), Agree (readsG mv ops o) e e' → Compat (kindOf mv o) H' H →
    K (δ ++ e') (if chg (kindOf mv o) = true then H₁ else H') → wpG C ρ nt mv ops o e' H' K
theorem effG_of {o : Oper} {e : Env} {H : Heap} {K : Env → Heap → Prop} (hk : kindOf mv o ≠ .other) (h : wpG C ρ nt mv ops o e H K) : ∃ δ H₁, EffG C ρ nt mv ops o e H δ H₁ ∧ K (δ ++ e) H₁ := by
  unfold wpG at h
  split at h
  · rename_i hw
    obtain ⟨δ, H₁, hE, hK⟩ := eff_of hk h
    refine ⟨δ, H₁, ⟨hE.keys, hE.heap, hE.dem, hE.ext, fun e' H' K' ha hh hK' => ?_⟩, hK⟩
    unfold wpG
    rw [wanted_congr ha.right, hw]
    exact hE.again e' H' K' ha.left.left ha.left.right hh hK'
  · rename_i hw
    refine ⟨Env.put [] o.dst (.tup []), H, ⟨keys_put, fun _ => rfl, fun _ => rfl, fun _ => ⟨[], (List.append_nil _).symm⟩, fun e' H' K' ha hh hK' => ?_⟩, by rw [← put_nil]; exact h⟩
    unfold wpG
    rw [wanted_congr ha.right, hw]
    simp only
    rw [put_nil]
    by_cases hs : chg (kindOf mv o) = true
    · rw [if_pos hs] at hK'
      have : H' = H := by cases hk' : kindOf mv o <;> simp_all [chg, Compat]
      rw [this]; exact hK'
    · rw [if_neg hs] at hK'; exact hK'
  · exact h.elim
theorem EffG.same {o : Oper} {e : Env} {H : Heap} {δ : Env} {H₁ : Heap} (h : EffG C ρ nt mv ops o e H δ H₁) {e' : Env} {K : Env → Heap → Prop} (ha : Agree (readsG mv ops o) e e') (hK : K (δ ++ e') H₁) : wpG C ρ nt mv ops o e' H K :=
  h.again e' H K ha (Compat.refl _ _) (by
    split
    · exact hK
    · rename_i hs; rw [← h.heap (by simpa using hs)]; exact hK)
theorem wpG_mono {o : Oper} {e : Env} {H : Heap} {K K' : Env → Heap → Prop} (hk : kindOf mv o ≠ .other) (hh : ∀ e H, K e H → K' e H) (h : wpG C ρ nt mv ops o e H K) : wpG C ρ nt mv ops o e H K' := by
  obtain ⟨δ, H₁, hE, hK⟩ := effG_of hk h
  exact hE.same (fun _ _ => rfl) (hh _ _ hK)
theorem wpOps_ext {K : Env → Heap → Prop} : ∀ {l : List Oper} {e e' : Env} {H : Heap}, (∀ o ∈ l, kindOf mv o ≠ .other) → EnvEq e e' → wpOps C nt mv (CallD C ρ) ops l e H K → wpOps C nt mv (CallD C ρ) ops l e' H (Ext K)
  | [], e, e', H, _, he, h => ⟨e, he, h⟩
  | o :: l, e, e', H, hk, he, h => by
    rw [wpOps_cons'] at h ⊢
    obtain ⟨δ, H₁, hE, hK⟩ := effG_of (hk o (by simp)) h
    exact hE.same (fun t _ => (he t).symm) (wpOps_ext (fun p hp => hk p (by simp [hp])) he.append hK)
theorem Ext.ext {K : Env → Heap → Prop} {e : Env} {H : Heap} (h : Ext (Ext K) e H) : Ext K e H := by
  obtain ⟨e₁, h1, e₂, h2, h3⟩ := h
  exact ⟨e₂, fun t => (h2 t).trans (h1 t), h3⟩
theorem wpOps_mono {K K' : Env → Heap → Prop} (hh : ∀ e H, K e H → K' e H) : ∀ {l : List Oper} {e : Env} {H : Heap}, (∀ o ∈ l, kindOf mv o ≠ .other) → wpOps C nt mv (CallD C ρ) ops l e H K → wpOps C nt mv (CallD C ρ) ops l e H K'
  | [], e, H, _, h => hh e H h
  | o :: l, e, H, hk, h => by
    rw [wpOps_cons'] at h ⊢
    exact wpG_mono (hk o (by simp)) (fun e H h => wpOps_mono hh (fun p hp => hk p (by simp [hp])) h) h
def disjoint (a b : List Nat) : Bool := a.all fun t => !b.contains t
def indep (mv : List Nat) (ops : Array Oper) (o p : Oper) : Bool :=
  disjoint (writesOp mv o) (readsG mv ops p) && disjoint (writesOp mv o) (writesOp mv p) && disjoint (writesOp mv p) (readsG mv ops o) &&
    match kindOf mv o, kindOf mv p with
    | .store, .quiet => true
    | .quiet, .store => true
    | .grow, .quiet => true
    | .quiet, .grow => true
    | .load, .grow => true
    | .call, .quiet => true
    | .quiet, .call => true
    | .grow, _ => false
    | _, .grow => false
    | .call, _ => false
    | _, .call => false
    | .take, .read => false
    | .read, .take => false
    | .store, _ => false
    | _, .store => false
    | .take, .take => false
    | _, _ => true
theorem disjoint_spec {a b : List Nat} (h : disjoint a b = true) : ∀ t ∈ a, t ∉ b := by
  intro t ht hb
  have := List.all_eq_true.1 h t ht
  simp [hb] at this
theorem agree_append {ts : List Nat} {δ e : Env} (h : ∀ p ∈ δ, p.1 ∉ ts) : Agree ts e (δ ++ e) := fun t ht => by
  rw [get_append, if_neg]
  intro hm
  obtain ⟨p, hp, rfl⟩ := List.mem_map.1 hm
  exact h p hp ht
theorem agree_append' {ts : List Nat} {δ e : Env} (h : ∀ p ∈ δ, p.1 ∉ ts) : Agree ts (δ ++ e) e := fun t ht => (agree_append (e := e) h t ht).symm
theorem swap {o p : Oper} {e : Env} {H : Heap} {K : Env → Heap → Prop} (ho : kindOf mv o ≠ .other) (hp : kindOf mv p ≠ .other) (hi : indep mv ops o p = true)
    (h : wpG C ρ nt mv ops o e H (fun e₁ H₁ => wpG C ρ nt mv ops p e₁ H₁ K)) : wpG C ρ nt mv ops p e H (fun e₁ H₁ => wpG C ρ nt mv ops o e₁ H₁ (Ext K)) := by
  simp only [indep, Bool.and_eq_true] at hi
  obtain ⟨⟨⟨h1, h2⟩, h3⟩, h4⟩ := hi
  have d1 := disjoint_spec h1; have d2 := disjoint_spec h2; have d3 := disjoint_spec h3
  obtain ⟨δo, Ho, hEo, h⟩ := effG_of ho h
  obtain ⟨δp, Hp, hEp, hK⟩ := effG_of hp h
  have hkeys : EnvEq (δp ++ (δo ++ e)) (δo ++ (δp ++ e)) := fun t => by
    simp only [get_append]
    by_cases a : t ∈ δp.map (·.1)
    · have : t ∉ δo.map (·.1) := fun b => by
        obtain ⟨x, hx, rfl⟩ := List.mem_map.1 a
        obtain ⟨y, hy, hxy⟩ := List.mem_map.1 b
        exact d2 _ (hEo.keys y hy) (by rw [hxy]; exact hEp.keys x hx)
      simp [a, this]
    · simp [a]
  have ap : Agree (readsG mv ops p) (δo ++ e) e := agree_append' fun x hx => d1 _ (hEo.keys x hx)
  have ao : Agree (readsG mv ops o) e (δp ++ e) := agree_append fun x hx => d3 _ (hEp.keys x hx)
  by_cases hso : chg (kindOf mv o) = true
  · have hcp : chg (kindOf mv p) = false ∧ Compat (kindOf mv p) H Ho := by
      cases hh : kindOf mv o <;> cases hh' : kindOf mv p <;> simp_all [chg, Compat]
      have := hEo.dem (by rw [hh]; rfl)
      exact ⟨[], by rw [List.append_nil]; exact this.symm⟩
    have hHp : Hp = Ho := hEp.heap hcp.1
    subst hHp
    refine hEp.again e H _ ap hcp.2 ?_
    rw [if_neg (by rw [hcp.1]; simp)]
    exact hEo.same ao ⟨_, hkeys, hK⟩
  · have hHo : Ho = H := hEo.heap (by simpa using hso)
    subst hHo
    refine hEp.same ap ?_
    refine hEo.again (δp ++ e) Hp _ ao ?_ ?_
    · cases hh : kindOf mv o with
      | quiet => trivial
      | load =>
        have : wr (kindOf mv p) = false := by cases hp' : kindOf mv p <;> first | rfl | (rw [hh, hp'] at h4; simp at h4)
        exact hEp.ext this
      | take => rw [hh] at hso; simp [chg] at hso
      | store => rw [hh] at hso; simp [chg] at hso
      | grow => rw [hh] at hso; simp [chg] at hso
      | call => rw [hh] at hso; simp [chg] at hso
      | read =>
        have : chg (kindOf mv p) = false := by cases hp' : kindOf mv p <;> first | rfl | (rw [hh, hp'] at h4; simp at h4)
        exact hEp.heap this
      | other => exact absurd hh ho
    · rw [if_neg hso]
      exact ⟨_, hkeys, hK⟩
theorem front {i : Oper} {K : Env → Heap → Prop} (hi : kindOf mv i ≠ .other) : ∀ {pre post : List Oper} {e : Env} {H : Heap}, (∀ o ∈ pre, kindOf mv o ≠ .other ∧ indep mv ops o i = true) → (∀ o ∈ post, kindOf mv o ≠ .other) →
    wpOps C nt mv (CallD C ρ) ops (pre ++ i :: post) e H K → wpG C ρ nt mv ops i e H (fun e₁ H₁ => wpOps C nt mv (CallD C ρ) ops (pre ++ post) e₁ H₁ (Ext K))
  | [], post, e, H, _, hpost, h => by
    rw [List.nil_append, wpOps_cons'] at h
    exact wpG_mono hi (fun e H h => wpOps_ext hpost (fun _ => rfl) h) h
  | o :: pre, post, e, H, hpre, hpost, h => by
    rw [List.cons_append, wpOps_cons'] at h
    obtain ⟨ho, hoi⟩ := hpre o (by simp)
    have h1 := wpG_mono ho (fun e H h => front hi (fun p hp => hpre p (by simp [hp])) hpost h) h
    refine wpG_mono hi (fun e₁ H₁ h => ?_) (swap ho hi hoi h1)
    rw [List.cons_append, wpOps_cons']
    refine wpG_mono ho (fun e₂ H₂ h₂ => ?_) h
    obtain ⟨e₃, h3, h4⟩ := h₂
    refine wpOps_mono (fun e H h => Ext.ext h) (fun p hp => ?_) (wpOps_ext (fun p hp => ?_) h3 h4)
    all_goals
      rcases List.mem_append.1 hp with hp | hp
      · exact (hpre p (by simp [hp])).1
      · exact hpost p hp
end
end Go.Proofs.YtlbjfjaleefiiaaDoor.Ev
end
section
namespace Go.Proofs.YtlbjfjaleefiiaaDoor.Ev
open Go
def preds (o : Oper) : List Nat := o.after.toList.filterMap fun e => if Region.binds .any e = true then some e.on else none
def maskOf (acc : List Nat) (o : Oper) : Nat := (preds o).foldl (fun s p => s ||| 2 ^ p ||| acc.getD p 0) 0
def masksFrom : List Nat → List Oper → List Nat
  | acc, [] => acc
  | acc, o :: l => masksFrom (acc ++ [maskOf acc o]) l
def pairOk (mv : List Nat) (ops : Array Oper) (m : List Nat) (j : Nat) (o : Oper) : Nat → List Oper → Bool
  | _, [] => true
  | i, p :: l => ((m.getD j 0).testBit i || indep mv ops p o) && pairOk mv ops m j o (i + 1) l
def pairsOk (mv : List Nat) (ops : Array Oper) (m : List Nat) : Nat → List Oper → List Oper → Bool
  | _, _, [] => true
  | j, before, o :: l => pairOk mv ops m j o 0 before && pairsOk mv ops m (j + 1) (before ++ [o]) l
def rowOk (mv : List Nat) : Nat → List Oper → Bool
  | _, [] => true
  | j, o :: l => decide (kindOf mv o ≠ .other) && (preds o).all (fun p => decide (p < j)) && rowOk mv (j + 1) l
def orderOk (mv : List Nat) (ops : Array Oper) : Bool :=
  rowOk mv 0 ops.toList && pairsOk mv ops (masksFrom [] ops.toList) 0 [] ops.toList
section
variable {C : Ctx} {ρ : Rho} {nt : Nat} {mv : List Nat} {ops : Array Oper}
inductive Anc (ops : Array Oper) : Nat → Nat → Prop
  | one {i j o} : ops[j]? = some o → i ∈ preds o → Anc ops i j
  | more {i k j o} : ops[j]? = some o → k ∈ preds o → Anc ops i k → Anc ops i j
theorem foldl_bits {acc : List Nat} {i : Nat} : ∀ (l : List Nat) (s : Nat), (l.foldl (fun s p => s ||| 2 ^ p ||| acc.getD p 0) s).testBit i = true → s.testBit i = true ∨ ∃ p ∈ l, p = i ∨ (acc.getD p 0).testBit i = true
  | [], s, h => .inl h
  | p :: l, s, h => by
    simp only [List.foldl_cons] at h
    rcases foldl_bits l _ h with h | ⟨q, hq, h⟩
    · simp only [Nat.testBit_or, Bool.or_eq_true, Nat.testBit_two_pow, decide_eq_true_eq] at h
      rcases h with (h | h) | h
      · exact .inl h
      · exact .inr ⟨p, by simp, .inl h⟩
      · exact .inr ⟨p, by simp, .inr h⟩
    · exact .inr ⟨q, by simp [hq], h⟩
theorem masks_anc : ∀ (l pre : List Oper) (acc : List Nat), ops.toList = pre ++ l → acc.length = pre.length → (∀ i j, (acc.getD j 0).testBit i = true → Anc ops i j) → ∀ i j, ((masksFrom acc l).getD j 0).testBit i = true → Anc ops i j
  | [], pre, acc, _, _, h => h
  | o :: l, pre, acc, ho, hl, h => by
    simp only [masksFrom]
    refine masks_anc l (pre ++ [o]) _ (by simp [ho]) (by simp [hl]) fun i j hb => ?_
    rcases Nat.lt_trichotomy j acc.length with hj | hj | hj
    · have : (acc ++ [maskOf acc o]).getD j 0 = acc.getD j 0 := by simp [List.getD, List.getElem?_append_left hj]
      rw [this] at hb; exact h i j hb
    · subst hj
      have : (acc ++ [maskOf acc o]).getD acc.length 0 = maskOf acc o := by simp [List.getD]
      rw [this] at hb
      have hoj : ops[acc.length]? = some o := by
        rw [← Array.getElem?_toList, ho, hl]; simp
      rcases foldl_bits _ _ hb with hb | ⟨p, hp, rfl | hb⟩
      · simp at hb
      · exact .one hoj hp
      · exact .more hoj hp (h i p hb)
    · have : (acc ++ [maskOf acc o]).getD j 0 = 0 := by
        simp only [List.getD]; rw [List.getElem?_eq_none (by simp; omega)]; rfl
      rw [this] at hb; simp at hb
theorem pairOk_spec {m : List Nat} {j : Nat} {o : Oper} : ∀ {l : List Oper} {i : Nat}, pairOk mv ops m j o i l = true → ∀ k p, l[k]? = some p → (m.getD j 0).testBit (i + k) = true ∨ indep mv ops p o = true
  | [], i, _, k, p, h => by simp at h
  | q :: l, i, h, k, p, hk => by
    simp only [pairOk, Bool.and_eq_true, Bool.or_eq_true] at h
    cases k with
    | zero => simp at hk; subst hk; exact h.1
    | succ k =>
      have := pairOk_spec h.2 k p (by simpa using hk)
      rw [show i + (k + 1) = i + 1 + k by omega]; exact this
theorem pairsOk_spec {m : List Nat} : ∀ {l before : List Oper}, pairsOk mv ops m before.length before l = true → ∀ j i o p, before.length ≤ j → (before ++ l)[j]? = some o → i < j → (before ++ l)[i]? = some p → (m.getD j 0).testBit i = true ∨ indep mv ops p o = true
  | [], before, _, j, i, o, p, hj, ho, _, _ => by simp at ho; rw [List.getElem?_eq_none (by omega)] at ho; simp at ho
  | q :: l, before, h, j, i, o, p, hj, ho, hij, hp => by
    simp only [pairsOk, Bool.and_eq_true] at h
    by_cases hjb : j = before.length
    · subst hjb
      rw [List.getElem?_append_right (Nat.le_refl _)] at ho
      simp at ho; subst ho
      rw [List.getElem?_append_left hij] at hp
      simpa using pairOk_spec h.1 i p hp
    · refine pairsOk_spec (before := before ++ [q]) (l := l) (by simpa using h.2) j i o p (by simp; omega) (by simpa using ho) hij (by simpa using hp)
theorem rowOk_spec : ∀ {l : List Oper} {j : Nat}, rowOk mv j l = true → ∀ k o, l[k]? = some o → kindOf mv o ≠ .other ∧ ∀ p ∈ preds o, p < j + k
  | [], j, _, k, o, h => by simp at h
  | q :: l, j, h, k, o, hk => by
    simp only [rowOk, Bool.and_eq_true, decide_eq_true_eq, List.all_eq_true] at h
    cases k with
    | zero => simp at hk; subst hk; exact ⟨h.1.1, fun p hp => by simpa using h.1.2 p hp⟩
    | succ k =>
      have := rowOk_spec h.2 k o (by simpa using hk)
      rw [show j + (k + 1) = j + 1 + k by omega]; exact this
theorem exists_min {p : Nat → Prop} : ∀ n, p n → ∃ k, p k ∧ ∀ j, p j → k ≤ j := by
  intro n
  induction n using Nat.strongRecOn with
  | _ n ih =>
    intro hn
    by_cases h : ∃ m, m < n ∧ p m
    · obtain ⟨m, hm, hp⟩ := h; exact ih m hm hp
    · exact ⟨n, hn, fun j hj => Nat.le_of_not_lt fun hlt => h ⟨j, hlt, hj⟩⟩
def Listed (listed : Array Bool) (i : Nat) : Prop := listed.getD i false = true
def Closed (ops : Array Oper) (listed : Array Bool) : Prop := ∀ j o, Listed listed j → ops[j]? = some o → ∀ p ∈ preds o, Listed listed p
theorem Closed.anc {listed : Array Bool} (h : Closed ops listed) {i j : Nat} (ha : Anc ops i j) : Listed listed j → Listed listed i := by
  induction ha with
  | one ho hi => exact fun hj => h _ _ hj ho _ hi
  | more ho hk _ ih => exact fun hj => ih (h _ _ hj ho _ hk)
def left (ops : Array Oper) (listed : Array Bool) : List Nat := (List.range ops.size).filter fun i => !listed.getD i false
theorem ready_spec {listed : Array Bool} (hs : listed.size = ops.size) {i : Nat} : i ∈ Region.ready .any ops listed ↔ i ∈ left ops listed ∧ ∀ o, ops[i]? = some o → ∀ p ∈ preds o, Listed listed p := by
  unfold Region.ready left
  simp only [List.mem_filter, List.mem_range]
  constructor
  · rintro ⟨h1, h2⟩
    simp only [Bool.and_eq_true] at h2
    have e : ops[i]? = some ops[i] := Array.getElem?_eq_getElem h1
    refine ⟨⟨h1, ?_⟩, fun o ho p hp => ?_⟩
    · have : i < listed.size := by omega
      have := h2.1
      simp only [Array.getD_eq_getD_getElem?, Array.getElem?_eq_getElem (show i < listed.size by omega), Option.getD_some] at this ⊢
      exact this
    · rw [ho] at h2
      simp only [Option.map_some, Option.getD_some] at h2
      simp only [preds, List.mem_filterMap] at hp
      obtain ⟨e, he, hpe⟩ := hp
      have := (Array.all_eq_true'.1 h2.2) e (Array.mem_toList_iff.1 he)
      split at hpe
      · rename_i hb
        simp only [Option.some.injEq] at hpe
        subst hpe
        simp only [hb, Bool.not_true, Bool.false_or] at this
        exact this
      · simp at hpe
  · rintro ⟨⟨h1, h2⟩, h3⟩
    refine ⟨h1, ?_⟩
    have e : ops[i]? = some ops[i] := Array.getElem?_eq_getElem h1
    simp only [Bool.and_eq_true]
    refine ⟨?_, ?_⟩
    · simp only [Array.getD_eq_getD_getElem?, Array.getElem?_eq_getElem (show i < listed.size by omega), Option.getD_some] at h2 ⊢
      exact h2
    · rw [e]
      simp only [Option.map_some, Option.getD_some]
      refine Array.all_eq_true'.2 fun x hx => ?_
      by_cases hb : Region.binds .any x = true
      · simp only [hb, Bool.not_true, Bool.false_or]
        exact h3 _ e x.on (by simp only [preds, List.mem_filterMap]; exact ⟨x, Array.mem_toList_iff.2 hx, by simp [hb]⟩)
      · simp [hb]
theorem left_split {listed : Array Bool} (hs : listed.size = ops.size) {i : Nat} (hi : i ∈ left ops listed) :
    ∃ pre post, left ops listed = pre ++ i :: post ∧ left ops (listed.setIfInBounds i true) = pre ++ post ∧ (∀ j ∈ pre, j < i) ∧ (∀ j ∈ pre, j ∈ left ops listed) ∧ ∀ j ∈ post, j ∈ left ops listed := by
  have hi' := hi
  unfold left at hi'
  simp only [List.mem_filter, List.mem_range] at hi'
  obtain ⟨h1, h2⟩ := hi'
  have hr : List.range ops.size = List.range i ++ i :: List.range' (i + 1) (ops.size - i - 1) := by
    rw [List.range_eq_range', List.range_eq_range', show ops.size = i + (1 + (ops.size - i - 1)) by omega, ← List.range'_append_1]
    simp [Nat.add_comm 1, List.range'_succ]
  have hne : ∀ j, j ≠ i → (listed.setIfInBounds i true).getD j false = listed.getD j false := fun j hj => by
    simp [Array.getElem?_setIfInBounds_ne (Ne.symm hj)]
  have hii : (listed.setIfInBounds i true).getD i false = true := by
    have : i < listed.size := by omega
    simp [this]
  refine ⟨(List.range i).filter fun i => !listed.getD i false, (List.range' (i + 1) (ops.size - i - 1)).filter fun i => !listed.getD i false, ?_, ?_, ?_, ?_, ?_⟩
  · unfold left
    rw [hr, List.filter_append, List.filter_cons, if_pos h2]
  · unfold left
    rw [hr, List.filter_append, List.filter_cons, if_neg (by rw [hii]; simp)]
    congr 1
    · refine List.filter_congr fun j hj => ?_
      rw [hne j (by simp at hj; omega)]
    · refine List.filter_congr fun j hj => ?_
      rw [hne j (by simp [List.mem_range'_1] at hj; omega)]
  · intro j hj; simp only [List.mem_filter, List.mem_range] at hj; exact hj.1
  · intro j hj
    simp only [List.mem_filter, List.mem_range] at hj
    unfold left
    simp only [List.mem_filter, List.mem_range]
    exact ⟨by omega, hj.2⟩
  · intro j hj
    simp only [List.mem_filter, List.mem_range'_1] at hj
    unfold left
    simp only [List.mem_filter, List.mem_range]
    exact ⟨by omega, hj.2⟩
def opersOf (ops : Array Oper) (l : List Nat) : List Oper := l.filterMap (ops[·]?)
theorem CallP.wp {o : Oper} {e : Env} {H : Heap} {K : Env → Heap → Prop} (h : wpOp C nt mv (CallD C ρ) o e H K) : wpOp C nt mv (fun _ => Call C) o e H K := by
  unfold wpOp at h ⊢
  refine ⟨h.1, ?_⟩
  have h := h.2
  split at h <;> first | exact h | skip
  rename_i c _
  obtain ⟨callee, args, ts⟩ := c
  simp only at h ⊢
  split at h <;> first | exact h | skip
  split at h
  · rename_i hm; rw [if_pos hm]; exact h
  rename_i hm; rw [if_neg hm]
  split at h
  · obtain ⟨r, H', hc, hK⟩ := h
    exact ⟨r, H', hc.call, hK⟩
  · exact h.elim
theorem range_get {α : Type} : ∀ (l pre : List α), (List.range' pre.length l.length).filterMap (fun i => (pre ++ l)[i]?) = l
  | [], pre => by simp
  | x :: l, pre => by
    have := range_get l (pre ++ [x])
    simp only [List.length_append, List.length_cons, List.length_nil, List.append_assoc, List.cons_append, List.nil_append] at this
    simp only [List.length_cons, List.range'_succ]
    rw [List.filterMap_cons]
    have h0 : (pre ++ x :: l)[pre.length]? = some x := by simp
    rw [h0]
    simp only
    rw [this]
theorem opersOf_range : opersOf ops (List.range ops.size) = ops.toList := by
  have := range_get ops.toList []
  unfold opersOf
  rw [List.range_eq_range']
  simpa using this
theorem any_sound {Q : Exit → Act → World → Prop} {K : Env → Heap → Prop} {W₀ : Wd} (hok : orderOk mv ops = true) (hQ : ∀ e H a W, K e H → Inv C nt e H a W → Evo W₀ W (fun _ _ => False) → Q .normal a W.w) :
    ∀ (fuel : Nat) (listed : Array Bool) (e : Env) (H : Heap) (a : Act) (W : Wd), listed.size = ops.size → Closed ops listed → (left ops listed).length ≤ fuel → Inv C nt e H a W → Evo W₀ W (fun _ _ => False) →
      wpOps C nt mv (CallD C ρ) ops (opersOf ops (left ops listed)) e H (Ext K) → wpAny C.P .any ops Q fuel listed a W.w := by
  simp only [orderOk, Bool.and_eq_true] at hok
  obtain ⟨hrow, hpairs⟩ := hok
  have hrow' := fun k o (h : ops[k]? = some o) => by
    have := rowOk_spec hrow k o (by rw [Array.getElem?_toList]; exact h)
    simpa using this
  have hkind : ∀ l : List Nat, ∀ o ∈ opersOf ops l, kindOf mv o ≠ .other := fun l o ho => by
    simp only [opersOf, List.mem_filterMap] at ho
    obtain ⟨i, _, hi⟩ := ho
    exact (hrow' i o hi).1
  have hpair : ∀ i j o p, ops[j]? = some o → ops[i]? = some p → i < j → Anc ops i j ∨ indep mv ops p o = true := fun i j o p ho hp hij => by
    rcases pairsOk_spec (before := []) hpairs j i o p (Nat.zero_le _) (by rw [List.nil_append, Array.getElem?_toList]; exact ho) hij (by rw [List.nil_append, Array.getElem?_toList]; exact hp) with h | h
    · exact .inl (masks_anc ops.toList [] [] (by simp) rfl (by simp) i j h)
    · exact .inr h
  have hEnd : ∀ e H a W, Ext K e H → Inv C nt e H a W → Evo W₀ W (fun _ _ => False) → Q .normal a W.w := fun e H a W ⟨e', h1, h2⟩ hi hE =>
    hQ e' H a W h2 ⟨hi.heap, fun t => by rw [h1 t]; exact hi.env t, hi.size, hi.defers⟩ hE
  -- nothing is ready: nothing is left
  have hnone : ∀ listed : Array Bool, listed.size = ops.size → Closed ops listed → Region.ready .any ops listed = [] → left ops listed = [] := fun listed hs hc hr => by
    cases hl : left ops listed with
    | nil => rfl
    | cons i r =>
      exfalso
      -- the least that is left
      obtain ⟨k, hk, hmin⟩ := exists_min (p := fun k => k ∈ left ops listed) i (by rw [hl]; simp)
      have : k ∈ Region.ready .any ops listed := by
        rw [ready_spec hs]
        refine ⟨hk, fun o ho p hp => ?_⟩
        have hlt := (hrow' k o ho).2 p hp
        have hkn : k < ops.size := by
          unfold left at hk; simp only [List.mem_filter, List.mem_range] at hk; exact hk.1
        by_cases hp' : Listed listed p
        · exact hp'
        · have : p ∈ left ops listed := by
            unfold left
            simp only [List.mem_filter, List.mem_range]
            refine ⟨by omega, ?_⟩
            unfold Listed at hp'
            simpa using hp'
          have := hmin p this
          omega
      rw [hr] at this; simp at this
  intro fuel
  induction fuel with
  | zero =>
    intro listed e H a W hs hc hlen hi hE h
    have hl : left ops listed = [] := List.length_eq_zero_iff.1 (Nat.le_zero.1 hlen)
    rw [hl] at h
    refine ⟨?_, hEnd e H a W h hi hE⟩
    cases hr : Region.ready .any ops listed with
    | nil => rfl
    | cons i r =>
      have := (ready_spec hs).1 (show i ∈ Region.ready .any ops listed by rw [hr]; simp)
      rw [hl] at this; simp at this
  | succ fuel ih =>
    intro listed e H a W hs hc hlen hi hE h
    refine ⟨fun hr => ?_, fun i hir => ?_⟩
    · rw [hnone listed hs hc hr] at h
      exact hEnd e H a W h hi hE
    · obtain ⟨hil, hpr⟩ := (ready_spec hs).1 hir
      obtain ⟨pre, post, h1, h2, h3, h4, h5⟩ := left_split hs hil
      have hin : i < ops.size := by
        unfold left at hil; simp only [List.mem_filter, List.mem_range] at hil; exact hil.1
      have hoi : ops[i]? = some ops[i] := Array.getElem?_eq_getElem hin
      rw [h1] at h
      have hsplit : opersOf ops (pre ++ i :: post) = opersOf ops pre ++ ops[i] :: opersOf ops post := by
        simp [opersOf, List.filterMap_append, hoi]
      rw [hsplit] at h
      have hf := front (hrow' i _ hoi).1 (fun o ho => by
        refine ⟨hkind pre o ho, ?_⟩
        simp only [opersOf, List.mem_filterMap] at ho
        obtain ⟨j, hj, hoj⟩ := ho
        rcases hpair j i _ _ hoi hoj (h3 j hj) with hanc | hind
        · exfalso
          have hlist : Listed listed j := by
            cases hanc with
            | one ho' hj' => rw [hoi] at ho'; simp only [Option.some.injEq] at ho'; subst ho'; exact hpr _ hoi _ hj'
            | more ho' hk' ha' => rw [hoi] at ho'; simp only [Option.some.injEq] at ho'; subst ho'; exact hc.anc ha' (hpr _ hoi _ hk')
          have := h4 j hj
          unfold left at this
          simp only [List.mem_filter] at this
          unfold Listed at hlist
          rw [hlist] at this
          simp at this
        · exact hind) (hkind post) h
      have hc' : Closed ops (listed.setIfInBounds i true) := by
        intro j o hj ho p hp
        have hmono : ∀ k, Listed listed k → Listed (listed.setIfInBounds i true) k := fun k hk => by
          unfold Listed at hk ⊢
          by_cases hki : k = i
          · subst hki; simp [show k < listed.size by omega]
          · simpa [Array.getElem?_setIfInBounds_ne (Ne.symm hki)] using hk
        by_cases hji : j = i
        · subst hji; exact hmono p (hpr o ho p hp)
        · have : Listed listed j := by
            unfold Listed at hj ⊢
            simpa [Array.getElem?_setIfInBounds_ne (Ne.symm hji)] using hj
          exact hmono p (hc j o this ho p hp)
      have hlen' : (left ops (listed.setIfInBounds i true)).length ≤ fuel := by
        rw [h2]; rw [h1] at hlen; simp at hlen ⊢; omega
      have hrest : ∀ e₁ H₁ a₁ W₁, wpOps C nt mv (CallD C ρ) ops (opersOf ops pre ++ opersOf ops post) e₁ H₁ (Ext (Ext K)) → Inv C nt e₁ H₁ a₁ W₁ → Evo W₀ W₁ (fun _ _ => False) →
          wpAny C.P .any ops Q fuel (listed.setIfInBounds i true) a₁ W₁.w := fun e₁ H₁ a₁ W₁ hw hi₁ hE₁ => by
        refine ih _ e₁ H₁ a₁ W₁ (by simpa using hs) hc' hlen' hi₁ hE₁ ?_
        rw [h2]
        have : opersOf ops (pre ++ post) = opersOf ops pre ++ opersOf ops post := by simp [opersOf]
        rw [this]
        refine wpOps_mono (fun e H h => Ext.ext h) (fun o ho => ?_) hw
        rcases List.mem_append.1 ho with ho | ho
        · exact hkind _ o ho
        · exact hkind _ o ho
      unfold wpG at hf
      unfold Go.wpOp
      rw [hoi]
      simp only
      split at hf
      · rename_i hw
        rw [if_pos (wanted_sound hi hw)]
        left
        refine Oper.wp_mono (fun a' w' hA => ?_) (wpOp_sound (Q := Q) hi (CallP.wp hf))
        obtain ⟨e', H', W', rfl, hK, hi', hE'⟩ := hA
        exact hrest e' H' a' W' hK hi' (hE.trans0 hE')
      · rename_i hw
        rw [if_neg (by rw [wanted_sound hi hw]; simp)]
        exact hrest _ H _ W hf (hi.undef _) hE
      · exact hf.elim
theorem CallP.any {o : Oper} {e : Env} {H : Heap} {K : Env → Heap → Prop} (h : wpOp C nt mv (CallP C) o e H K) : wpOp C nt mv (CallD C Rho.any) o e H K := by
  unfold wpOp at h ⊢
  refine ⟨h.1, ?_⟩
  have h := h.2
  split at h <;> first | exact h | skip
  rename_i c _
  obtain ⟨callee, args, ts⟩ := c
  simp only at h ⊢
  split at h <;> first | exact h | skip
  split at h
  · rename_i hm; rw [if_pos hm]; exact h
  rename_i hm; rw [if_neg hm]
  split at h
  · obtain ⟨r, H', hc, hK⟩ := h
    exact ⟨r, H', hc.toD, hK⟩
  · exact h.elim
theorem wpOp_monoP {o : Oper} {e : Env} {H : Heap} {K K' : Env → Heap → Prop} (hk : kindOf mv o ≠ .other) (hh : ∀ e H, K e H → K' e H) (h : wpOp C nt mv (CallD C ρ) o e H K) : wpOp C nt mv (CallD C ρ) o e H K' := by
  obtain ⟨δ, H₁, hE, hK⟩ := eff_of hk h
  refine hE.again e H K' (fun _ _ => rfl) (fun _ _ => rfl) (Compat.refl _ _) ?_
  split
  · exact hh _ _ hK
  · rename_i hs; rw [← hE.heap (by simpa using hs)]; exact hh _ _ hK
theorem CallP.anys {K : Env → Heap → Prop} : ∀ {l : List Oper} {e : Env} {H : Heap}, (∀ o ∈ l, kindOf mv o ≠ .other) → wpOps C nt mv (CallP C) ops l e H K → wpOps C nt mv (CallD C Rho.any) ops l e H K
  | [], e, H, _, h => h
  | o :: l, e, H, hk, h => by
    unfold wpOps at h ⊢
    split at h
    · exact wpOp_monoP (hk o (by simp)) (fun e H h => CallP.anys (fun p hp => hk p (by simp [hp])) h) (CallP.any h)
    · exact CallP.anys (fun p hp => hk p (by simp [hp])) h
    · exact h.elim
theorem drawn_sound (hmix : C.P.follows .mixedOrders = true) {id : Nat} {e : Env} {H : Heap} {a : Act} {W W₀ : Wd} {K : Env → Heap → Prop} {Q : Exit → Act → World → Prop} (hok : orderOk mv ops = true)
    (hQ : ∀ e H a W, K e H → Inv C nt e H a W → Evo W₀ W (fun _ _ => False) → Q .normal a W.w) (hi : Inv C nt e H a W) (hE : Evo W₀ W (fun _ _ => False)) (h : wpOps C nt mv (CallP C) ops ops.toList e H K) :
    (Code.region id ops true).wp C.P Q a W.w := by
  refine wp_region_any hmix ?_
  have hd := Evo.drew W (fun _ _ => False)
  have hi' : Inv C nt e H a W.drew := ⟨hi.heap.drew, fun t => (hi.env t).mono (Evo.drew W (fun _ _ => True)) (by simp), hi.size, hi.defers⟩
  have hl : left ops (Array.replicate ops.size false) = List.range ops.size := by
    unfold left
    rw [List.filter_eq_self]
    intro i hi
    simp only [List.mem_range] at hi
    simp [hi]
  have hk : ∀ o ∈ ops.toList, kindOf mv o ≠ .other := fun o ho => by
    simp only [orderOk, Bool.and_eq_true] at hok
    obtain ⟨k, hk⟩ := List.getElem?_of_mem ho
    exact (rowOk_spec hok.1 k o hk).1
  refine any_sound (ρ := Rho.any) hok hQ ops.size _ e H a W.drew (by simp) (fun j o hj => ?_) (by rw [hl]; simp) hi' (hE.trans0 hd) ?_
  · unfold Listed at hj
    by_cases hjs : j < ops.size <;> simp [hjs] at hj
  · rw [hl, opersOf_range]
    exact wpOps_mono (fun e H h => ⟨e, fun _ => rfl, h⟩) hk (CallP.anys hk h)
end
end Go.Proofs.YtlbjfjaleefiiaaDoor.Ev
end
section
namespace Go.Proofs.YtlbjfjaleefiiaaDoor.Ev
open Go
def Form (X : (Env → Heap → Prop) → Prop) : Prop := ∃ (P : Prop) (S : Env → Heap → Prop), ∀ K, X K ↔ P ∧ ∀ e' H', S e' H' → K e' H'
theorem Form.no : Form (fun _ => False) := ⟨False, fun _ _ => False, fun K => by simp⟩
theorem Form.one (e : Env) (H : Heap) : Form (fun K => K e H) := ⟨True, fun e' H' => e' = e ∧ H' = H, fun K => ⟨fun h => ⟨trivial, fun e' H' ⟨h1, h2⟩ => h1 ▸ h2 ▸ h⟩, fun h => h.2 e H ⟨rfl, rfl⟩⟩⟩
theorem Form.and {X : (Env → Heap → Prop) → Prop} (Q : Prop) (h : Form X) : Form (fun K => Q ∧ X K) := by
  obtain ⟨P, S, h⟩ := h
  exact ⟨Q ∧ P, S, fun K => by show (Q ∧ X K) ↔ _; rw [h K, and_assoc]⟩
theorem Form.iff {X Y : (Env → Heap → Prop) → Prop} (h : Form X) (he : ∀ K, Y K ↔ X K) : Form Y := by
  obtain ⟨P, S, h⟩ := h
  exact ⟨P, S, fun K => (he K).trans (h K)⟩
theorem Form.all {X : (Env → Heap → Prop) → Prop} (h : Form X) {ι : Type} (x₀ : ι) {K : ι → Env → Heap → Prop} (hk : ∀ x, X (K x)) : X (fun e H => ∀ x, K x e H) := by
  obtain ⟨P, S, h⟩ := h
  exact (h _).2 ⟨((h _).1 (hk x₀)).1, fun e' H' hs x => ((h _).1 (hk x)).2 e' H' hs⟩
section
variable {C : Ctx} {nt : Nat} {mv : List Nat} {ops : Array Oper} (ρ : Det)
theorem Form.call (m : Nat) (f : FuncId) (args : List FV) (e : Env) (dst : Option Nat) (H : Heap) : Form (fun K => CallQ (CallD C (det ρ) m) f args H (KCall e dst K)) := by
  by_cases hm : m = 0 ∨ m = 2
  · refine Form.iff (Form.and (CallD C (det ρ) m f args H (ρ.p f args) H) (Form.one (e.put dst (ρ.p f args).home) H)) fun K => ⟨?_, ?_⟩
    · rintro ⟨r, H', h1, h2⟩
      have hh : H' = H ∧ r = ρ.p f args := by
        rcases hm with rfl | rfl
        · simp only [CallD, if_true] at h1; exact ⟨h1.1.2.1, h1.2⟩
        · simp only [CallD, if_true] at h1; exact ⟨h1.1.2, h1.2⟩
      obtain ⟨rfl, rfl⟩ := hh
      exact ⟨h1, h2⟩
    · rintro ⟨h1, h2⟩
      exact ⟨_, _, h1, h2⟩
  · have m0 : ¬ m = 0 := fun h => hm (.inl h)
    have m2 : ¬ m = 2 := fun h => hm (.inr h)
    refine Form.iff (Form.and (CallD C (det ρ) m f args H (ρ.q f args H).1 (ρ.q f args H).2) (Form.one (e.put dst (ρ.q f args H).1.home) (ρ.q f args H).2)) fun K => ⟨?_, ?_⟩
    · rintro ⟨r, H', h1, h2⟩
      have hh : r = (ρ.q f args H).1 ∧ H' = (ρ.q f args H).2 := by
        simp only [CallD, m0, m2, if_false] at h1; exact h1.2
      obtain ⟨rfl, rfl⟩ := hh
      exact ⟨h1, h2⟩
    · rintro ⟨h1, h2⟩
      exact ⟨_, _, h1, h2⟩
theorem Form.val (e : Env) (dst : Option Nat) (H : Heap) (v : Option FV) : Form (fun K => match v with
    | some f => K (e.put dst f) H
    | none => False) := by
  cases v with
  | none => exact Form.no
  | some f => exact Form.one _ _
set_option maxHeartbeats 1000000 in
theorem wpOp_form (o : Oper) (e : Env) (H : Heap) (hk : kindOf mv o ≠ .other) : Form (fun K => wpOp C nt mv (CallD C (det ρ)) o e H K) := by
  obtain ⟨dst, op, ty, pos, after, guard⟩ := o
  unfold wpOp
  refine Form.and _ ?_
  cases op with
  | assign x =>
    dsimp only
    cases hg : give C e x with
    | none => simp only [hg]; exact Form.no
    | some p => simp only [hg]; exact Form.one _ _
  | move x =>
    dsimp only
    by_cases hm : mvOf mv dst = true
    · simp only [hm, if_true]
      cases hg : give C e x with
      | none => exact Form.no
      | some p => exact Form.one _ _
    · simp only [hm]
      exact Form.val _ _ _ _
  | extract x i =>
    dsimp only
    by_cases hm : mvOf mv dst = true
    · simp [kindOf, hm] at hk
    · simp only [hm]
      exact Form.val _ _ _ _
  | load t x =>
    dsimp only
    by_cases hm : mvOf mv dst = true
    · simp only [hm, if_true]
      split
      · split
        · exact Form.one _ _
        · exact Form.no
      · split
        · exact Form.and _ (Form.one _ _)
        · exact Form.no
      · split
        · refine Form.and _ ?_
          split
          · exact Form.one _ _
          · exact Form.no
        · exact Form.no
      · exact Form.no
    · simp only [hm]
      exact Form.val _ _ _ _
  | store t x y =>
    dsimp only
    split
    · split
      · exact Form.and _ (Form.and _ (Form.and _ (Form.one _ _)))
      · exact Form.no
    · split
      · exact Form.and _ (Form.and _ (Form.and _ (Form.and _ (Form.one _ _))))
      · exact Form.no
    · refine Form.and _ ?_
      split
      · split
        · split
          · exact Form.and _ (Form.and _ (Form.and _ (Form.and _ (Form.one _ _))))
          · exact Form.no
        · exact Form.and _ (Form.and _ (Form.and _ (Form.and _ (Form.one _ _))))
        · exact Form.no
      · exact Form.no
    · exact Form.no
  | buildSlice t n parts =>
    dsimp only
    split
    · split
      · split
        · split
          · exact Form.and _ (Form.and _ (Form.and _ (Form.and _ (Form.and _ (Form.one _ _)))))
          · exact Form.no
        · exact Form.no
      · exact Form.no
    split
    · split
      · refine Form.and _ (Form.and _ (Form.and _ (Form.and _ ?_)))
        split
        · exact Form.and _ (Form.one _ _)
        · exact Form.no
      · exact Form.no
    · exact Form.no
  | binOp op t x y yt =>
    dsimp only
    by_cases hn : nilRow y = true
    · simp [kindOf, hn] at hk
    · simp only [hn]
      exact Form.val _ _ _ _
  | convert s d x =>
    dsimp only
    cases hb : bytesConv C e s d x with
    | none => exact Form.val _ _ _ _
    | some t => exact Form.one _ _
  | call c =>
    obtain ⟨callee, args, ts⟩ := c
    dsimp only
    cases callee with
    | value x =>
      have hh0 : ¬ handed mv dst = true := fun hh => by simp [kindOf, hh] at hk
      simp only [hh0, if_false]
      cases hr : rd C e x with
      | none => exact Form.no
      | some f =>
        cases hl : rdAll C e args.toList with
        | none => cases f <;> exact Form.no
        | some l =>
          cases f <;> try exact Form.no
          exact Form.call ρ _ _ _ _ _ _
    | builtin b =>
      dsimp only
      by_cases hb : isAppend b = true
      · obtain rfl : b = .append := by cases b <;> simp_all [isAppend]
        have hp1 : pended mv dst = false := by
          cases hz : pended mv dst
          · rfl
          · simp [kindOf, hz] at hk
        have hz1 : zeroed mv dst = false := by
          cases hz : zeroed mv dst
          · rfl
          · simp [kindOf, hp1, hz] at hk
        have hbx : ¬ boxed mv dst = true := fun hb => by simp [kindOf, hp1, hz1, hb] at hk
        simp only [hp1, hz1, Bool.false_and, Bool.false_eq_true, if_false, hb, if_true, hbx]
        split
        · split
          · split
            · split
              · refine Form.and _ ?_
                split
                · exact Form.and _ (Form.and _ (Form.and _ (Form.and _ (Form.and _ (Form.and _ (Form.and _ (Form.and _ (Form.and _ (Form.one _ _)))))))))
                · exact Form.no
              · split
                · refine Form.and _ ?_
                  split
                  · exact Form.and _ (Form.and _ (Form.and _ (Form.and _ (Form.one _ _))))
                  · exact Form.and _ (Form.and _ (Form.and _ (Form.and _ (Form.and _ (Form.and _ (Form.one _ _))))))
                exact Form.and _ (Form.and _ (Form.and _ (Form.and _ (Form.and _ (Form.and _ (Form.and _ (Form.one _ _)))))))
              · refine Form.and _ (Form.and _ (Form.and _ (Form.and _ ?_)))
                unfold MoveQ
                split
                · split
                  · split
                    · refine Form.and _ (Form.and _ (Form.and _ (Form.and _ ?_)))
                      split
                      · split
                        · exact Form.and _ (Form.and _ (Form.one _ _))
                        · exact Form.no
                      · exact Form.no
                    refine Form.and _ (Form.and _ (Form.and _ (Form.and _ (Form.and _ ?_))))
                    split
                    · exact Form.and _ (Form.and _ (Form.one _ _))
                    · split
                      · exact Form.and _ (Form.and _ (Form.and _ (Form.and _ (Form.and _ (Form.one _ _)))))
                      · exact Form.no
                    · exact Form.no
                  · exact Form.no
                · exact Form.no
              · exact Form.no
            · exact Form.no
          · exact Form.no
        · exact Form.no
      · by_cases hc : isClear b = true
        · obtain rfl : b = .clear := by cases b <;> simp_all [isClear]
          simp [kindOf] at hk
        · have hb' : isAppend b = false := by simpa using hb
          simp only [hb', Bool.and_false, Bool.false_eq_true, if_false, hc]
          exact Form.val _ _ _ _
    | invoke a b => dsimp only; exact Form.no
  | alloc t =>
    dsimp only
    cases hz : zeroOf C.P t with
    | none => exact Form.no
    | some z =>
      dsimp only
      cases hl : FV.ofValues z.cells.toList with
      | none => exact Form.no
      | some l => exact Form.one _ _
  | box t x =>
    dsimp only
    cases hg : give C e x with
    | none => exact Form.no
    | some p =>
      dsimp only
      cases hl : p.1.cells with
      | none => exact Form.no
      | some l => exact Form.and _ (Form.one _ _)
  | _ => first | exact absurd rfl hk | (dsimp only; exact Form.val _ _ _ _)
end
end Go.Proofs.YtlbjfjaleefiiaaDoor.Ev
end
section
namespace Go.Proofs.YtlbjfjaleefiiaaDoor.Ev
open Go
def isPend (mv : List Nat) (o : Oper) : Bool :=
  match o.op with
  | .call { callee := .builtin .append, .. } => pended mv o.dst
  | _ => false
def good (mv : List Nat) (o : Oper) : Bool := isPend mv o || decide (kindOf mv o ≠ .other)
def kindP (mv : List Nat) (o : Oper) : Kind := if isPend mv o = true then .quiet else kindOf mv o
theorem good_kind {mv : List Nat} {o : Oper} (h : good mv o = true) (hp : ¬ isPend mv o = true) : kindOf mv o ≠ .other := by
  simpa [good, hp] using h
theorem kindP_ne {mv : List Nat} {o : Oper} (h : good mv o = true) : kindP mv o ≠ .other := by
  unfold kindP
  split
  · simp
  · rename_i hp; exact good_kind h hp
theorem Form.fam {e : Nat → Nat → Env} {H : Heap} : Form (fun K => ∀ k o, K (e k o) H) :=
  ⟨True, fun e' H' => (∃ k o, e' = e k o) ∧ H' = H, fun K => ⟨fun h => ⟨trivial, by rintro e' H' ⟨⟨k, o, rfl⟩, rfl⟩; exact h k o⟩, fun h k o => h.2 _ _ ⟨⟨k, o, rfl⟩, rfl⟩⟩⟩
section
variable {C : Ctx} {ρ : Rho} {nt : Nat} {mv : List Nat} {ops : Array Oper}
theorem pend_eff {o : Oper} {e : Env} {H : Heap} {K : Env → Heap → Prop} (hp : isPend mv o = true) (h : wpOp C nt mv (CallD C ρ) o e H K) :
    ∃ Δ : Nat × Nat → Env, (∀ x, ∀ p ∈ Δ x, p.1 ∈ writesOp mv o) ∧ (∀ x, K (Δ x ++ e) H) ∧ ∀ (e' : Env) (H' : Heap) (K' : Env → Heap → Prop), Agree (readsOp o.op) e e' → (∀ x, K' (Δ x ++ e') H') → wpOp C nt mv (CallD C ρ) o e' H' K' := by
  obtain ⟨dst, op, ty, pos, after, guard⟩ := o
  unfold isPend at hp
  simp only at hp
  split at hp
  · rename_i args ts
    unfold wpOp at h
    obtain ⟨hd, h⟩ := h
    simp only [hp, isAppend, Bool.and_self, if_true] at h
    unfold PendQ at h
    split at h
    · rename_i x y t u tr hargs hts
      split at h
      · rename_i el ud hel hud
        split at h
        · rename_i m z bs f e₁ g hsz hz hbs hg hy
          split at h
          · rename_i l p hf hr
            obtain ⟨h1, h2, h3, h4, h5, h6, h7, h⟩ := h
            obtain ⟨δ, rfl, _, hδ⟩ := give_congr (e' := e) (fun _ _ => rfl) hg
            refine ⟨fun kq => δ.put dst (.ext kq.1 kq.2 (m + 1) l), fun kq => keys_put' (o := ⟨dst, _, ty, pos, after, guard⟩) fun q hq => ?_, fun kq => by rw [← put_append]; exact h kq.1 kq.2, fun e' H' K' ha hK' => ?_⟩
            · simp only [writesOp, List.mem_append, hargs]; exact .inr (hδ q hq)
            · have hax : Agree (opTmps x) e e' := fun s hs => ha s (by simp only [readsOp, hargs, listTmps, List.mem_append]; exact .inl hs)
              have hay : Agree (opTmps y) e e' := fun s hs => ha s (by simp only [readsOp, hargs, listTmps, List.mem_append]; exact .inr (.inl hs))
              obtain ⟨δ', hδ', hg', _⟩ := give_congr (e' := e') hax hg
              obtain rfl : δ = δ' := List.append_cancel_right hδ'
              unfold wpOp
              refine ⟨hd, ?_⟩
              simp only [hp, isAppend, Bool.and_self, if_true, PendQ, hargs, hts, hel, hud, hsz, hz, hbs, hg', rd_congr hay, hy, hf, hr]
              exact ⟨h1, h2, h3, h4, h5, h6, h7, fun k q => by rw [put_append]; exact hK' (k, q)⟩
          · exact h.elim
        · exact h.elim
      · exact h.elim
    · exact h.elim
  · simp at hp
structure EffP (C : Ctx) (ρ : Rho) (nt : Nat) (mv : List Nat) (ops : Array Oper) (o : Oper) (e : Env) (H : Heap) (Δ : Nat × Nat → Env) (H₁ : Heap) : Prop where
  keys : ∀ x, ∀ p ∈ Δ x, p.1 ∈ writesOp mv o
  one : isPend mv o = false → ∀ x, Δ x = Δ (0, 0)
  heap : chg (kindP mv o) = false → H₁ = H
  dem : stay (kindP mv o) = true → Ev.dem H₁ = Ev.dem H
  ext : wr (kindP mv o) = false → ∃ X, Ev.dem H₁ = Ev.dem H ++ X
  again : ∀ (e' : Env) (H' : Heap) (K : Env → Heap → Prop), Agree (readsG mv ops o) e e' → Compat (kindP mv o) H' H →
    (∀ x, K (Δ x ++ e') (if chg (kindP mv o) = true then H₁ else H')) → wpG C ρ nt mv ops o e' H' K
theorem effP_of {o : Oper} {e : Env} {H : Heap} {K : Env → Heap → Prop} (hk : good mv o = true) (h : wpG C ρ nt mv ops o e H K) : ∃ Δ H₁, EffP C ρ nt mv ops o e H Δ H₁ ∧ ∀ x, K (Δ x ++ e) H₁ := by
  by_cases hp : isPend mv o = true
  · have hkp : kindP mv o = .quiet := by simp [kindP, hp]
    unfold wpG at h
    split at h
    · rename_i hw
      obtain ⟨Δ, hkeys, hK, hag⟩ := pend_eff hp h
      refine ⟨Δ, H, ⟨hkeys, fun h => by rw [hp] at h; simp at h, fun _ => rfl, fun _ => rfl, fun _ => ⟨[], (List.append_nil _).symm⟩, fun e' H' K' ha hh hK' => ?_⟩, hK⟩
      unfold wpG
      rw [wanted_congr ha.right, hw]
      refine hag e' H' K' ha.left.left fun x => ?_
      have := hK' x
      rw [hkp] at this
      simpa [chg] using this
    · rename_i hw
      refine ⟨fun _ => Env.put [] o.dst (.tup []), H, ⟨fun _ => keys_put, fun _ _ => rfl, fun _ => rfl, fun _ => rfl, fun _ => ⟨[], (List.append_nil _).symm⟩, fun e' H' K' ha hh hK' => ?_⟩, fun _ => by rw [← put_nil]; exact h⟩
      unfold wpG
      rw [wanted_congr ha.right, hw]
      simp only
      rw [put_nil]
      have := hK' (0, 0)
      rw [hkp] at this
      simpa [chg] using this
    · exact h.elim
  · have hkp : kindP mv o = kindOf mv o := by simp [kindP, hp]
    obtain ⟨δ, H₁, hE, hK⟩ := effG_of (good_kind hk hp) h
    exact ⟨fun _ => δ, H₁, ⟨fun _ => hE.keys, fun _ _ => rfl, by rw [hkp]; exact hE.heap, by rw [hkp]; exact hE.dem, by rw [hkp]; exact hE.ext, fun e' H' K' ha hh hK' => hE.again e' H' K' ha (by rw [← hkp]; exact hh) (by rw [← hkp]; exact hK' (0, 0))⟩, fun _ => hK⟩
theorem EffP.same {o : Oper} {e : Env} {H : Heap} {Δ : Nat × Nat → Env} {H₁ : Heap} (h : EffP C ρ nt mv ops o e H Δ H₁) {e' : Env} {K : Env → Heap → Prop} (ha : Agree (readsG mv ops o) e e') (hK : ∀ x, K (Δ x ++ e') H₁) : wpG C ρ nt mv ops o e' H K :=
  h.again e' H K ha (Compat.refl _ _) fun x => by
    split
    · exact hK x
    · rename_i hs; rw [← h.heap (by simpa using hs)]; exact hK x
theorem wpG_monoP {o : Oper} {e : Env} {H : Heap} {K K' : Env → Heap → Prop} (hk : good mv o = true) (hh : ∀ e H, K e H → K' e H) (h : wpG C ρ nt mv ops o e H K) : wpG C ρ nt mv ops o e H K' := by
  obtain ⟨Δ, H₁, hE, hK⟩ := effP_of hk h
  exact hE.same (fun _ _ => rfl) fun x => hh _ _ (hK x)
theorem wpOps_extP {K : Env → Heap → Prop} : ∀ {l : List Oper} {e e' : Env} {H : Heap}, (∀ o ∈ l, good mv o = true) → EnvEq e e' → wpOps C nt mv (CallD C ρ) ops l e H K → wpOps C nt mv (CallD C ρ) ops l e' H (Ext K)
  | [], e, e', H, _, he, h => ⟨e, he, h⟩
  | o :: l, e, e', H, hk, he, h => by
    rw [wpOps_cons'] at h ⊢
    obtain ⟨Δ, H₁, hE, hK⟩ := effP_of (hk o (by simp)) h
    exact hE.same (fun t _ => (he t).symm) fun x => wpOps_extP (fun p hp => hk p (by simp [hp])) he.append (hK x)
theorem wpOps_monoP {K K' : Env → Heap → Prop} (hh : ∀ e H, K e H → K' e H) : ∀ {l : List Oper} {e : Env} {H : Heap}, (∀ o ∈ l, good mv o = true) → wpOps C nt mv (CallD C ρ) ops l e H K → wpOps C nt mv (CallD C ρ) ops l e H K'
  | [], e, H, _, h => hh e H h
  | o :: l, e, H, hk, h => by
    rw [wpOps_cons'] at h ⊢
    exact wpG_monoP (hk o (by simp)) (fun e H h => wpOps_monoP hh (fun p hp => hk p (by simp [hp])) h) h
end
def indepP (mv : List Nat) (ops : Array Oper) (o p : Oper) : Bool :=
  disjoint (writesOp mv o) (readsG mv ops p) && disjoint (writesOp mv o) (writesOp mv p) && disjoint (writesOp mv p) (readsG mv ops o) && !(isPend mv o && isPend mv p) &&
    match kindP mv o, kindP mv p with
    | .store, .quiet => true
    | .quiet, .store => true
    | .grow, .quiet => true
    | .quiet, .grow => true
    | .load, .grow => true
    | .call, .quiet => true
    | .quiet, .call => true
    | .grow, _ => false
    | _, .grow => false
    | .call, _ => false
    | _, .call => false
    | .take, .read => false
    | .read, .take => false
    | .store, _ => false
    | _, .store => false
    | .take, .take => false
    | _, _ => true
section
variable {C : Ctx} {nt : Nat} {mv : List Nat} {ops : Array Oper} (ρ : Det)
theorem wpOp_formP (o : Oper) (e : Env) (H : Heap) (hk : good mv o = true) : Form (fun K => wpOp C nt mv (CallD C (det ρ)) o e H K) := by
  by_cases hp : isPend mv o = true
  · obtain ⟨dst, op, ty, pos, after, guard⟩ := o
    unfold isPend at hp
    simp only at hp
    split at hp
    · rename_i args ts
      unfold wpOp
      refine Form.and _ ?_
      simp only [hp, isAppend, Bool.and_self, if_true]
      unfold PendQ
      split
      · split
        · split
          · split
            · exact Form.and _ (Form.and _ (Form.and _ (Form.and _ (Form.and _ (Form.and _ (Form.and _ Form.fam))))))
            · exact Form.no
          · exact Form.no
        · exact Form.no
      · exact Form.no
    · simp at hp
  · exact wpOp_form ρ o e H (good_kind hk hp)
theorem wpG_allP {o : Oper} {e : Env} {H : Heap} {ι : Type} (x₀ : ι) {K : ι → Env → Heap → Prop} (hk : good mv o = true) (h : ∀ x, wpG C (det ρ) nt mv ops o e H (K x)) :
    wpG C (det ρ) nt mv ops o e H (fun e H => ∀ x, K x e H) := by
  unfold wpG at h ⊢
  cases hw : wanted nt ops e o with
  | none => rw [hw] at h; exact (h x₀).elim
  | some t =>
    rw [hw] at h
    cases t
    · exact fun x => h x
    · exact (wpOp_formP ρ o e H hk).all x₀ h
theorem keys_eq {δo δp e : Env} {a b : List Nat} (d2 : ∀ t ∈ a, t ∉ b) (ho : ∀ p ∈ δo, p.1 ∈ a) (hp : ∀ p ∈ δp, p.1 ∈ b) : EnvEq (δp ++ (δo ++ e)) (δo ++ (δp ++ e)) := fun t => by
  simp only [get_append]
  by_cases h : t ∈ δp.map (·.1)
  · have : t ∉ δo.map (·.1) := fun b => by
      obtain ⟨x, hx, rfl⟩ := List.mem_map.1 h
      obtain ⟨y, hy, hxy⟩ := List.mem_map.1 b
      exact d2 _ (ho y hy) (by rw [hxy]; exact hp x hx)
    simp [h, this]
  · simp [h]
theorem swapP {o p : Oper} {e : Env} {H : Heap} {K : Env → Heap → Prop} (ho : good mv o = true) (hp : good mv p = true) (hi : indepP mv ops o p = true)
    (h : wpG C (det ρ) nt mv ops o e H (fun e₁ H₁ => wpG C (det ρ) nt mv ops p e₁ H₁ K)) : wpG C (det ρ) nt mv ops p e H (fun e₁ H₁ => wpG C (det ρ) nt mv ops o e₁ H₁ (Ext K)) := by
  simp only [indepP, Bool.and_eq_true] at hi
  obtain ⟨⟨⟨⟨h1, h2⟩, h3⟩, hpp⟩, h4⟩ := hi
  have d1 := disjoint_spec h1; have d2 := disjoint_spec h2; have d3 := disjoint_spec h3
  have hkpo : kindP mv p ≠ .other := kindP_ne hp
  have hkoo : kindP mv o ≠ .other := kindP_ne ho
  obtain ⟨Δo, Ho, hEo, hh0⟩ := effP_of ho h
  clear h
  by_cases hop : isPend mv o = true
  · have hnp : isPend mv p = false := by simpa [hop] using hpp
    have hko : kindP mv o = .quiet := by simp [kindP, hop]
    have hHo : Ho = H := hEo.heap (by rw [hko]; rfl)
    subst hHo
    have hall : ∀ x : Nat × Nat, wpG C (det ρ) nt mv ops p e Ho (fun e₁ H₁ => Agree (readsG mv ops o) e e₁ ∧ Ext K (Δo x ++ e₁) H₁) := fun x => by
      obtain ⟨Δp, Hp, hEp, hK⟩ := effP_of hp (hh0 x)
      refine hEp.again e Ho _ (agree_append' fun q hq => d1 _ (hEo.keys x q hq)) (Compat.refl _ _) fun y => ⟨agree_append fun q hq => d3 _ (hEp.keys y q hq), ?_⟩
      have hHp : (if chg (kindP mv p) = true then Hp else Ho) = Hp := by
        split
        · rfl
        · rename_i hs; exact (hEp.heap (by simpa using hs)).symm
      rw [hHp]
      exact ⟨_, keys_eq d2 (hEo.keys x) (hEp.keys y), hK y⟩
    refine wpG_monoP hp (fun e₁ H₁ hx => ?_) (wpG_allP ρ (0, 0) hp hall)
    refine hEo.again e₁ H₁ _ (hx (0, 0)).1 (by rw [hko]; trivial) fun x => ?_
    rw [hko]
    exact (hx x).2
  have hop' : isPend mv o = false := by simpa using hop
  have hone := hEo.one hop'
  have h0 := hh0 (0, 0)
  obtain ⟨Δp, Hp, hEp, hK⟩ := effP_of hp h0
  have ap : Agree (readsG mv ops p) (Δo (0, 0) ++ e) e := agree_append' fun x hx => d1 _ (hEo.keys _ x hx)
  have ao : ∀ y, Agree (readsG mv ops o) e (Δp y ++ e) := fun y => agree_append fun x hx => d3 _ (hEp.keys y x hx)
  by_cases hso : chg (kindP mv o) = true
  · have hcp : chg (kindP mv p) = false ∧ Compat (kindP mv p) H Ho := by
      cases hh : kindP mv o <;> cases hh' : kindP mv p <;> simp_all [chg, Compat]
      have := hEo.dem (by rw [hh]; rfl)
      exact ⟨[], by rw [List.append_nil]; exact this.symm⟩
    have hHp : Hp = Ho := hEp.heap hcp.1
    subst hHp
    refine hEp.again e H _ ap hcp.2 fun y => ?_
    rw [if_neg (by rw [hcp.1]; simp)]
    refine hEo.same (ao y) fun x => ?_
    rw [hone x]
    exact ⟨_, keys_eq d2 (hEo.keys _) (hEp.keys y), hK y⟩
  · have hHo : Ho = H := hEo.heap (by simpa using hso)
    subst hHo
    refine hEp.same ap fun y => ?_
    refine hEo.again (Δp y ++ e) Hp _ (ao y) ?_ fun x => ?_
    · cases hh : kindP mv o with
      | quiet => trivial
      | load =>
        have : wr (kindP mv p) = false := by cases hp' : kindP mv p <;> first | rfl | (rw [hh, hp'] at h4; simp at h4)
        exact hEp.ext this
      | take => rw [hh] at hso; simp [chg] at hso
      | store => rw [hh] at hso; simp [chg] at hso
      | grow => rw [hh] at hso; simp [chg] at hso
      | call => rw [hh] at hso; simp [chg] at hso
      | read =>
        have : chg (kindP mv p) = false := by cases hp' : kindP mv p <;> first | rfl | (rw [hh, hp'] at h4; simp at h4)
        exact hEp.heap this
      | other => exact absurd hh hkoo
    · rw [if_neg hso, hone x]
      exact ⟨_, keys_eq d2 (hEo.keys _) (hEp.keys y), hK y⟩
theorem frontP {i : Oper} {K : Env → Heap → Prop} (hi : good mv i = true) : ∀ {pre post : List Oper} {e : Env} {H : Heap}, (∀ o ∈ pre, good mv o = true ∧ indepP mv ops o i = true) → (∀ o ∈ post, good mv o = true) →
    wpOps C nt mv (CallD C (det ρ)) ops (pre ++ i :: post) e H K → wpG C (det ρ) nt mv ops i e H (fun e₁ H₁ => wpOps C nt mv (CallD C (det ρ)) ops (pre ++ post) e₁ H₁ (Ext K))
  | [], post, e, H, _, hpost, h => by
    rw [List.nil_append, wpOps_cons'] at h
    exact wpG_monoP hi (fun e H h => wpOps_extP hpost (fun _ => rfl) h) h
  | o :: pre, post, e, H, hpre, hpost, h => by
    rw [List.cons_append, wpOps_cons'] at h
    obtain ⟨ho, hoi⟩ := hpre o (by simp)
    have h1 := wpG_monoP ho (fun e H h => frontP hi (fun p hp => hpre p (by simp [hp])) hpost h) h
    refine wpG_monoP hi (fun e₁ H₁ h => ?_) (swapP ρ ho hi hoi h1)
    rw [List.cons_append, wpOps_cons']
    refine wpG_monoP ho (fun e₂ H₂ h₂ => ?_) h
    obtain ⟨e₃, h3, h4⟩ := h₂
    refine wpOps_monoP (fun e H h => Ext.ext h) (fun p hp => ?_) (wpOps_extP (fun p hp => ?_) h3 h4)
    all_goals
      rcases List.mem_append.1 hp with hp | hp
      · exact (hpre p (by simp [hp])).1
      · exact hpost p hp
end
end Go.Proofs.YtlbjfjaleefiiaaDoor.Ev
end
section
namespace Go.Proofs.YtlbjfjaleefiiaaDoor.Ev
open Go
def clashRow (mv : List Nat) (ops : Array Oper) (m : List Nat) (j : Nat) : List (Nat × Nat) := (List.range j).filterMap fun i => match ops[i]?, ops[j]? with
  | some p, some o => if ((m.getD j 0).testBit i || indepP mv ops p o) = true then none else some (i, j)
  | _, _ => none
def clashes (mv : List Nat) (ops : Array Oper) (m : List Nat) : List (Nat × Nat) := (List.range ops.size).flatMap (clashRow mv ops m)
def saysS : List (Nat × Nat) → List Bool → Nat → Nat → Bool
  | p :: X, t :: s, u, v => (if t = true then p.1 == v && p.2 == u else p.1 == u && p.2 == v) || saysS X s u v
  | _, _, _, _ => false
theorem saysS_spec : ∀ {X : List (Nat × Nat)} {s : List Bool} {u v : Nat}, saysS X s u v = true → ∃ (k : Nat) (p : Nat × Nat) (t : Bool), X[k]? = some p ∧ s[k]? = some t ∧ (t = false → p.1 = u ∧ p.2 = v) ∧ (t = true → p.1 = v ∧ p.2 = u)
  | [], s, u, v, h => by cases s <;> simp [saysS] at h
  | p :: X, [], u, v, h => by simp [saysS] at h
  | p :: X, t :: s, u, v, h => by
    simp only [saysS, Bool.or_eq_true] at h
    rcases h with h | h
    · refine ⟨0, p, t, rfl, rfl, fun ht => ?_, fun ht => ?_⟩
      · subst ht; simpa using h
      · subst ht; simpa using h
    · obtain ⟨k, q, b, h1, h2, h3, h4⟩ := saysS_spec h
      exact ⟨k + 1, q, b, by simpa using h1, by simpa using h2, h3, h4⟩
def indepAt (mv : List Nat) (ops : Array Oper) (u v : Nat) : Bool := match ops[u]?, ops[v]? with
  | some a, some b => indepP mv ops a b
  | _, _ => false
def pairGood (mv : List Nat) (ops : Array Oper) (m : List Nat) (X : List (Nat × Nat)) (s : List Bool) (u v : Nat) : Bool := (m.getD v 0).testBit u || saysS X s u v || indepAt mv ops u v
def rowGood (mv : List Nat) (ops : Array Oper) (m : List Nat) (X : List (Nat × Nat)) (s : List Bool) : List Nat → Bool
  | [] => true
  | u :: l => l.all (fun v => pairGood mv ops m X s u v) && rowGood mv ops m X s l
def isPerm (n : Nat) (l : List Nat) : Bool := l.all (fun i => decide (i < n)) && (List.range n).all (fun i => l.contains i) && decide l.Nodup
def rowOkP (mv : List Nat) : Nat → List Oper → Bool
  | _, [] => true
  | j, o :: l => good mv o && (preds o).all (fun p => decide (p < j)) && rowOkP mv (j + 1) l
theorem rowOkP_spec {mv : List Nat} : ∀ {l : List Oper} {j : Nat}, rowOkP mv j l = true → ∀ k o, l[k]? = some o → good mv o = true ∧ ∀ p ∈ preds o, p < j + k
  | [], j, _, k, o, h => by simp at h
  | q :: l, j, h, k, o, hk => by
    simp only [rowOkP, Bool.and_eq_true, decide_eq_true_eq, List.all_eq_true] at h
    cases k with
    | zero => simp at hk; subst hk; exact ⟨h.1.1, fun p hp => by simpa using h.1.2 p hp⟩
    | succ k =>
      have := rowOkP_spec h.2 k o (by simpa using hk)
      rw [show j + (k + 1) = j + 1 + k by omega]; exact this
def signs (X : List (Nat × Nat)) (l : List Nat) : List Bool := X.map fun p => decide (l.idxOf p.2 < l.idxOf p.1)
def fits : List (Option Bool) → List Bool → Bool
  | some t :: d, s :: r => (t == s) && fits d r
  | none :: d, _ :: r => fits d r
  | [], [] => true
  | _, _ => false
def stepD (i : Nat) : List (Nat × Nat) → List (Option Bool) → List (Option Bool)
  | _ :: X, some t :: d => some t :: stepD i X d
  | p :: X, none :: d => (if p.1 = i then some false else if p.2 = i then some true else none) :: stepD i X d
  | _, _ => []
def touched (i : Nat) : List (Nat × Nat) → List (Option Bool) → Bool
  | _ :: X, some _ :: d => touched i X d
  | p :: X, none :: d => p.1 == i || p.2 == i || touched i X d
  | _, _ => false
def blocked (m : List Nat) (i : Nat) : List (Nat × Nat) → List (Option Bool) → Bool
  | _ :: X, some _ :: d => blocked m i X d
  | p :: X, none :: d => (m.getD i 0).testBit p.1 || (m.getD i 0).testBit p.2 || blocked m i X d
  | _, _ => false
def covers (mv : List Nat) (ops : Array Oper) (m : List Nat) (X : List (Nat × Nat)) (R : List (List Nat)) : Nat → List (Option Bool) → Bool
  | f, d => R.any (fun l => fits d (signs X l) && isPerm ops.size l && rowGood mv ops m X (signs X l) l) && (match f with
    | 0 => d.all Option.isSome
    | f + 1 => (List.range ops.size).all fun i => !touched i X d || blocked m i X d || covers mv ops m X R f (stepD i X d))
def ordersOk (mv : List Nat) (ops : Array Oper) (R : List (List Nat)) : Bool :=
  rowOkP mv 0 ops.toList && covers mv ops (masksFrom [] ops.toList) (clashes mv ops (masksFrom [] ops.toList)) R (clashes mv ops (masksFrom [] ops.toList)).length (List.replicate (clashes mv ops (masksFrom [] ops.toList)).length none)
theorem fits_spec : ∀ {d : List (Option Bool)} {s : List Bool}, fits d s = true → s.length = d.length ∧ ∀ (k : Nat) (t : Bool), d[k]? = some (some t) → s[k]? = some t
  | [], [], _ => ⟨rfl, fun k t h => by simp at h⟩
  | [], _ :: _, h => by simp [fits] at h
  | some t :: d, s :: r, h => by
    simp only [fits, Bool.and_eq_true, beq_iff_eq] at h
    obtain ⟨h1, h2⟩ := fits_spec h.2
    refine ⟨by simp [h1], fun k u hk => ?_⟩
    cases k with
    | zero => simp at hk; subst hk; simp [h.1]
    | succ k => simpa using h2 k u (by simpa using hk)
  | none :: d, s :: r, h => by
    simp only [fits] at h
    obtain ⟨h1, h2⟩ := fits_spec h
    refine ⟨by simp [h1], fun k u hk => ?_⟩
    cases k with
    | zero => simp at hk
    | succ k => simpa using h2 k u (by simpa using hk)
  | some _ :: _, [], h => by simp [fits] at h
  | none :: _, [], h => by simp [fits] at h
theorem stepD_spec {i : Nat} : ∀ {X : List (Nat × Nat)} {d : List (Option Bool)}, d.length = X.length → (stepD i X d).length = X.length ∧ ∀ k : Nat, ((stepD i X d)[k]?).join = (match (d[k]?).join with
    | some t => some t
    | none => match X[k]? with
      | some p => if p.1 = i then some false else if p.2 = i then some true else none
      | none => none)
  | [], [], _ => ⟨rfl, fun k => by simp [stepD]⟩
  | [], _ :: _, h => by simp at h
  | _ :: _, [], h => by simp at h
  | p :: X, t :: d, h => by
    obtain ⟨h1, h2⟩ := stepD_spec (i := i) (X := X) (d := d) (by simpa using h)
    cases t with
    | some t =>
      refine ⟨by simp [stepD, h1], fun k => ?_⟩
      cases k with
      | zero => simp [stepD]
      | succ k => simpa [stepD] using h2 k
    | none =>
      refine ⟨by simp [stepD, h1], fun k => ?_⟩
      cases k with
      | zero => simp [stepD]
      | succ k => simpa [stepD] using h2 k
theorem touched_not {i : Nat} : ∀ {X : List (Nat × Nat)} {d : List (Option Bool)}, d.length = X.length → touched i X d = false → stepD i X d = d
  | [], [], _, _ => rfl
  | [], _ :: _, h, _ => by simp at h
  | _ :: _, [], h, _ => by simp at h
  | p :: X, t :: d, h, ht => by
    cases t with
    | some t =>
      simp only [touched] at ht
      simp only [stepD]
      rw [touched_not (by simpa using h) ht]
    | none =>
      simp only [touched, Bool.or_eq_false_iff, beq_eq_false_iff_ne] at ht
      simp only [stepD]
      rw [touched_not (by simpa using h) ht.2, if_neg ht.1.1, if_neg ht.1.2]
theorem touched_some {i : Nat} : ∀ {X : List (Nat × Nat)} {d : List (Option Bool)}, d.all Option.isSome = true → touched i X d = false
  | [], _, _ => by simp [touched]
  | _ :: _, [], _ => by simp [touched]
  | p :: X, t :: d, h => by
    simp only [List.all_cons, Bool.and_eq_true] at h
    cases t with
    | some t => exact touched_some (X := X) h.2
    | none => simp at h
theorem blocked_spec {m : List Nat} {i : Nat} : ∀ {X : List (Nat × Nat)} {d : List (Option Bool)}, blocked m i X d = true → ∃ (k : Nat) (p : Nat × Nat), X[k]? = some p ∧ d[k]? = some none ∧ ((m.getD i 0).testBit p.1 = true ∨ (m.getD i 0).testBit p.2 = true)
  | [], d, h => by simp [blocked] at h
  | _ :: _, [], h => by simp [blocked] at h
  | p :: X, t :: d, h => by
    cases t with
    | some t =>
      obtain ⟨k, q, h1, h2, h3⟩ := blocked_spec (X := X) (d := d) h
      exact ⟨k + 1, q, by simpa using h1, by simpa using h2, h3⟩
    | none =>
      simp only [blocked, Bool.or_eq_true] at h
      rcases h with (h | h) | h
      · exact ⟨0, p, rfl, rfl, .inl h⟩
      · exact ⟨0, p, rfl, rfl, .inr h⟩
      · obtain ⟨k, q, h1, h2, h3⟩ := blocked_spec (X := X) (d := d) h
        exact ⟨k + 1, q, by simpa using h1, by simpa using h2, h3⟩
section
variable {C : Ctx} {nt : Nat} {mv : List Nat} {ops : Array Oper} {ρ : Det}
theorem rowGood_at {m : List Nat} {X : List (Nat × Nat)} {s : List Bool} {i : Nat} {post : List Nat} : ∀ {pre : List Nat}, rowGood mv ops m X s (pre ++ i :: post) = true → ∀ u ∈ pre, pairGood mv ops m X s u i = true
  | [], _, u, hu => by simp at hu
  | v :: pre, h, u, hu => by
    simp only [List.cons_append, rowGood, Bool.and_eq_true, List.all_eq_true] at h
    rcases List.mem_cons.1 hu with rfl | hu
    · exact h.1 i (by simp)
    · exact rowGood_at h.2 u hu
def rem (listed : Array Bool) (l : List Nat) : List Nat := l.filter fun i => !listed.getD i false
theorem rem_split {listed : Array Bool} {l : List Nat} {i : Nat} (hi : i ∈ l) (hn : l.Nodup) (hs : i < listed.size) (hl : ¬ Listed listed i) :
    ∃ pre post pre' post', l = pre' ++ i :: post' ∧ rem listed l = pre ++ i :: post ∧ rem (listed.setIfInBounds i true) l = pre ++ post ∧ ∀ u ∈ pre, u ∈ pre' ∧ ¬ Listed listed u := by
  obtain ⟨a, b, rfl⟩ := List.append_of_mem hi
  have hne : ∀ j, j ≠ i → (listed.setIfInBounds i true).getD j false = listed.getD j false := fun j hj => by
    simp [Array.getElem?_setIfInBounds_ne (Ne.symm hj)]
  have hii : (listed.setIfInBounds i true).getD i false = true := by simp [hs]
  have hia : i ∉ a ∧ i ∉ b := by
    rw [List.nodup_append] at hn
    obtain ⟨_, h2, h3⟩ := hn
    exact ⟨fun h => h3 i h i (by simp) rfl, (List.nodup_cons.1 h2).1⟩
  have hlf : listed.getD i false = false := by
    cases h : listed.getD i false
    · rfl
    · exact absurd h hl
  refine ⟨rem listed a, rem listed b, a, b, rfl, ?_, ?_, fun u hu => ?_⟩
  · unfold rem; rw [List.filter_append, List.filter_cons, if_pos (by rw [hlf]; rfl)]
  · unfold rem
    rw [List.filter_append, List.filter_cons, if_neg (by rw [hii]; simp)]
    congr 1
    · refine List.filter_congr fun j hj => ?_
      rw [hne j (fun h => hia.1 (h ▸ hj))]
    · refine List.filter_congr fun j hj => ?_
      rw [hne j (fun h => hia.2 (h ▸ hj))]
  · unfold rem at hu
    simp only [List.mem_filter] at hu
    refine ⟨hu.1, fun h => ?_⟩
    unfold Listed at h
    rw [h] at hu; simp at hu
set_option maxHeartbeats 1000000 in
theorem orders_sound {Q : Exit → Act → World → Prop} {K : Env → Heap → Prop} {W₀ : Wd} {R : List (List Nat)} (hok : ordersOk mv ops R = true) (hQ : ∀ e H a W, K e H → Inv C nt e H a W → Evo W₀ W (fun _ _ => False) → Q .normal a W.w) :
    ∀ (fuel : Nat) (listed : Array Bool) (d : Nat → Option Bool) (e : Env) (H : Heap) (a : Act) (W : Wd), listed.size = ops.size → Closed ops listed → (left ops listed).length ≤ fuel →
      (∀ k p, (clashes mv ops (masksFrom [] ops.toList))[k]? = some p → (d k = none → ¬ Listed listed p.1 ∧ ¬ Listed listed p.2) ∧ (d k = some false → Listed listed p.1) ∧ (d k = some true → Listed listed p.2)) →
      (∃ (f : Nat) (dl : List (Option Bool)), dl.length = (clashes mv ops (masksFrom [] ops.toList)).length ∧ (∀ k : Nat, d k = (dl[k]?).join) ∧ covers mv ops (masksFrom [] ops.toList) (clashes mv ops (masksFrom [] ops.toList)) R f dl = true) → Inv C nt e H a W → Evo W₀ W (fun _ _ => False) →
      (∀ s l, s.length = (clashes mv ops (masksFrom [] ops.toList)).length → (∀ k t, d k = some t → s[k]? = some t) → l ∈ R → isPerm ops.size l = true → rowGood mv ops (masksFrom [] ops.toList) (clashes mv ops (masksFrom [] ops.toList)) s l = true →
        wpOps C nt mv (CallD C (det ρ)) ops (opersOf ops (rem listed l)) e H (Ext K)) → wpAny C.P .any ops Q fuel listed a W.w := by
  simp only [ordersOk, Bool.and_eq_true] at hok
  obtain ⟨hrow, _⟩ := hok
  have hrow' := fun k o (h : ops[k]? = some o) => by
    have := rowOkP_spec hrow k o (by rw [Array.getElem?_toList]; exact h)
    simpa using this
  have hkind : ∀ l : List Nat, ∀ o ∈ opersOf ops l, good mv o = true := fun l o ho => by
    simp only [opersOf, List.mem_filterMap] at ho
    obtain ⟨i, _, hi⟩ := ho
    exact (hrow' i o hi).1
  have hmask := masks_anc (ops := ops) ops.toList [] [] (by simp) rfl (by simp)
  generalize clashes mv ops (masksFrom [] ops.toList) = X at *
  generalize masksFrom [] ops.toList = m at *
  have hEnd : ∀ e H a W, Ext K e H → Inv C nt e H a W → Evo W₀ W (fun _ _ => False) → Q .normal a W.w := fun e H a W ⟨e', h1, h2⟩ hi hE =>
    hQ e' H a W h2 ⟨hi.heap, fun t => by rw [h1 t]; exact hi.env t, hi.size, hi.defers⟩ hE
  -- one of them goes on
  have hsome : ∀ d : Nat → Option Bool, (∃ (f : Nat) (dl : List (Option Bool)), dl.length = X.length ∧ (∀ k : Nat, d k = (dl[k]?).join) ∧ covers mv ops m X R f dl = true) → ∃ s l, s.length = X.length ∧ (∀ k t, d k = some t → s[k]? = some t) ∧ l ∈ R ∧ isPerm ops.size l = true ∧ rowGood mv ops m X s l = true := fun d hd => by
    obtain ⟨f, dl, h1, h2, h3⟩ := hd
    rw [covers.eq_def] at h3
    simp only [Bool.and_eq_true, List.any_eq_true] at h3
    obtain ⟨l, hl, ⟨g1, g2⟩, g3⟩ := h3.1
    obtain ⟨f1, f2⟩ := fits_spec g1
    refine ⟨signs X l, l, by simp [signs], fun k t hk => ?_, hl, g2, g3⟩
    rw [h2 k] at hk
    refine f2 k t ?_
    cases hdl : dl[k]? with
    | none => rw [hdl] at hk; simp at hk
    | some q => rw [hdl] at hk; simp at hk; rw [hk]
  have hperm : ∀ l, isPerm ops.size l = true → (∀ i ∈ l, i < ops.size) ∧ (∀ i, i < ops.size → i ∈ l) ∧ l.Nodup := fun l hl => by
    simp only [isPerm, Bool.and_eq_true, List.all_eq_true, decide_eq_true_eq, List.mem_range, List.contains_iff_mem] at hl
    exact ⟨hl.1.1, hl.1.2, hl.2⟩
  have hremnil : ∀ (listed : Array Bool) l, isPerm ops.size l = true → left ops listed = [] → rem listed l = [] := fun listed l hl h0 => by
    unfold rem
    rw [List.filter_eq_nil_iff]
    intro i hi hh
    have : i ∈ left ops listed := by
      unfold left
      simp only [List.mem_filter, List.mem_range]
      exact ⟨(hperm l hl).1 i hi, hh⟩
    rw [h0] at this; simp at this
  have hfin : ∀ (listed : Array Bool) (d : Nat → Option Bool) (e : Env) (H : Heap) (a : Act) (W : Wd), (∃ (f : Nat) (dl : List (Option Bool)), dl.length = X.length ∧ (∀ k : Nat, d k = (dl[k]?).join) ∧ covers mv ops m X R f dl = true) → Inv C nt e H a W → Evo W₀ W (fun _ _ => False) → left ops listed = [] →
      (∀ s l, s.length = X.length → (∀ k t, d k = some t → s[k]? = some t) → l ∈ R → isPerm ops.size l = true → rowGood mv ops m X s l = true →
        wpOps C nt mv (CallD C (det ρ)) ops (opersOf ops (rem listed l)) e H (Ext K)) → Q .normal a W.w := fun listed d e H a W hd hi hE h0 h => by
    obtain ⟨s, l, h1, h2, h3, h4, h5⟩ := hsome d hd
    have := h s l h1 h2 h3 h4 h5
    rw [hremnil listed l h4 h0] at this
    exact hEnd e H a W this hi hE
  have hnone : ∀ listed : Array Bool, listed.size = ops.size → Closed ops listed → Region.ready .any ops listed = [] → left ops listed = [] := fun listed hs hc hr => by
    cases hl : left ops listed with
    | nil => rfl
    | cons i r =>
      exfalso
      obtain ⟨k, hk, hmin⟩ := exists_min (p := fun k => k ∈ left ops listed) i (by rw [hl]; simp)
      have : k ∈ Region.ready .any ops listed := by
        rw [ready_spec hs]
        refine ⟨hk, fun o ho p hp => ?_⟩
        have hlt := (hrow' k o ho).2 p hp
        have hkn : k < ops.size := by
          unfold left at hk; simp only [List.mem_filter, List.mem_range] at hk; exact hk.1
        by_cases hp' : Listed listed p
        · exact hp'
        · have : p ∈ left ops listed := by
            unfold left
            simp only [List.mem_filter, List.mem_range]
            refine ⟨by omega, ?_⟩
            unfold Listed at hp'
            simpa using hp'
          have := hmin p this
          omega
      rw [hr] at this; simp at this
  intro fuel
  induction fuel with
  | zero =>
    intro listed d e H a W hs hc hlen hd hd2 hi hE h
    have hl : left ops listed = [] := List.length_eq_zero_iff.1 (Nat.le_zero.1 hlen)
    refine ⟨?_, hfin listed d e H a W hd2 hi hE hl h⟩
    cases hr : Region.ready .any ops listed with
    | nil => rfl
    | cons i r =>
      have := (ready_spec hs).1 (show i ∈ Region.ready .any ops listed by rw [hr]; simp)
      rw [hl] at this; simp at this
  | succ fuel ih =>
    intro listed d e H a W hs hc hlen hd hd2 hi hE h
    refine ⟨fun hr => hfin listed d e H a W hd2 hi hE (hnone listed hs hc hr) h, fun i hir => ?_⟩
    obtain ⟨hil, hpr⟩ := (ready_spec hs).1 hir
    have hin : i < ops.size := by
      unfold left at hil; simp only [List.mem_filter, List.mem_range] at hil; exact hil.1
    have hnl : ¬ Listed listed i := by
      unfold left at hil; simp only [List.mem_filter] at hil
      intro h'; unfold Listed at h'; rw [h'] at hil; simp at hil
    have hoi : ops[i]? = some ops[i] := Array.getElem?_eq_getElem hin
    obtain ⟨pre0, post0, g1, g2, _, _, _⟩ := left_split hs hil
    have hlen' : (left ops (listed.setIfInBounds i true)).length ≤ fuel := by
      rw [g2]; rw [g1] at hlen; simp at hlen ⊢; omega
    have hmono : ∀ k, Listed listed k → Listed (listed.setIfInBounds i true) k := fun k hk => by
      unfold Listed at hk ⊢
      by_cases hki : k = i
      · subst hki; simp [show k < listed.size by omega]
      · simpa [Array.getElem?_setIfInBounds_ne (Ne.symm hki)] using hk
    have hback : ∀ k, k ≠ i → Listed (listed.setIfInBounds i true) k → Listed listed k := fun k hki hk => by
      unfold Listed at hk ⊢
      simpa [Array.getElem?_setIfInBounds_ne (Ne.symm hki)] using hk
    have hself : Listed (listed.setIfInBounds i true) i := by
      unfold Listed; simp [show i < listed.size by omega]
    have hc' : Closed ops (listed.setIfInBounds i true) := by
      intro j o hj ho p hp
      by_cases hji : j = i
      · subst hji; exact hmono p (hpr o ho p hp)
      · exact hmono p (hc j o (hback j hji hj) ho p hp)
    -- what is settled now
    obtain ⟨d', hd'⟩ : ∃ d' : Nat → Option Bool, ∀ k, d' k = match d k with
        | some t => some t
        | none => match X[k]? with
          | some p => if p.1 = i then some false else if p.2 = i then some true else none
          | none => none := ⟨_, fun _ => rfl⟩
    have hext : ∀ s : List Bool, (∀ k t, d' k = some t → s[k]? = some t) → ∀ k t, d k = some t → s[k]? = some t := fun s hse k t hk => hse k t (by rw [hd' k, hk])
    have hd2' : ∃ (f : Nat) (dl : List (Option Bool)), dl.length = X.length ∧ (∀ k : Nat, d' k = (dl[k]?).join) ∧ covers mv ops m X R f dl = true := by
      obtain ⟨f, dl, e1, e2, e3⟩ := hd2
      obtain ⟨s1, s2⟩ := stepD_spec (i := i) e1
      refine ⟨f - (if touched i X dl = true then 1 else 0), stepD i X dl, s1, fun k => by rw [hd' k, s2 k, e2 k], ?_⟩
      cases ht : touched i X dl with
      | false => rw [touched_not e1 ht]; simpa using e3
      | true =>
        rw [covers.eq_def] at e3
        simp only [Bool.and_eq_true] at e3
        cases f with
        | zero =>
          have h3 := e3.2
          simp only at h3
          rw [touched_some h3] at ht
          simp at ht
        | succ f =>
          have h3 := List.all_eq_true.1 e3.2 i (by simpa using hin)
          simp only [ht, Bool.not_true, Bool.false_or, Bool.or_eq_true] at h3
          rcases h3 with h3 | h3
          · exfalso
            obtain ⟨k, p, b1, b2, b3⟩ := blocked_spec h3
            have hdk : d k = none := by rw [e2 k, b2]; rfl
            obtain ⟨q1, _, _⟩ := hd k p b1
            obtain ⟨u1, u2⟩ := q1 hdk
            have hanc : ∀ j, (m.getD i 0).testBit j = true → Listed listed j := fun j hj => by
              cases hmask _ _ hj with
              | one ho' hj' => rw [hoi] at ho'; simp only [Option.some.injEq] at ho'; subst ho'; exact hpr _ hoi _ hj'
              | more ho' hk' ha' => rw [hoi] at ho'; simp only [Option.some.injEq] at ho'; subst ho'; exact hc.anc ha' (hpr _ hoi _ hk')
            rcases b3 with b3 | b3
            · exact u1 (hanc _ b3)
            · exact u2 (hanc _ b3)
          · simpa using h3
    have hd1' : ∀ k p, X[k]? = some p → (d' k = none → ¬ Listed (listed.setIfInBounds i true) p.1 ∧ ¬ Listed (listed.setIfInBounds i true) p.2) ∧ (d' k = some false → Listed (listed.setIfInBounds i true) p.1) ∧ (d' k = some true → Listed (listed.setIfInBounds i true) p.2) := fun k p hp => by
      obtain ⟨q1, q2, q3⟩ := hd k p hp
      cases hdk : d k with
      | some t =>
        have e1 : d' k = some t := by rw [hd' k, hdk]
        rw [e1]
        refine ⟨fun h => by simp at h, fun h => ?_, fun h => ?_⟩
        · exact hmono _ (q2 (by rw [hdk]; exact h))
        · exact hmono _ (q3 (by rw [hdk]; exact h))
      | none =>
        obtain ⟨u1, u2⟩ := q1 hdk
        have e1 : d' k = if p.1 = i then some false else if p.2 = i then some true else none := by rw [hd' k, hdk, hp]
        rw [e1]
        by_cases p1 : p.1 = i
        · rw [if_pos p1]
          exact ⟨fun h => by simp at h, fun _ => p1 ▸ hself, fun h => by simp at h⟩
        · rw [if_neg p1]
          by_cases p2 : p.2 = i
          · rw [if_pos p2]
            exact ⟨fun h => by simp at h, fun h => by simp at h, fun _ => p2 ▸ hself⟩
          · rw [if_neg p2]
            exact ⟨fun _ => ⟨fun h => u1 (hback _ p1 h), fun h => u2 (hback _ p2 h)⟩, fun h => by simp at h, fun h => by simp at h⟩
    -- each of those that go on begins with it
    have hstep : ∀ x : { x : List Bool × List Nat // x.1.length = X.length ∧ (∀ k t, d' k = some t → x.1[k]? = some t) ∧ x.2 ∈ R ∧ isPerm ops.size x.2 = true ∧ rowGood mv ops m X x.1 x.2 = true },
        wpG C (det ρ) nt mv ops ops[i] e H (fun e₁ H₁ => wpOps C nt mv (CallD C (det ρ)) ops (opersOf ops (rem (listed.setIfInBounds i true) x.1.2)) e₁ H₁ (Ext (Ext K))) := by
      rintro ⟨⟨s, l⟩, h1, h2, h3, h4, h5⟩
      obtain ⟨k1, k2, k3⟩ := hperm l h4
      obtain ⟨pre, post, pre', post', r1, r2, r3, r4⟩ := rem_split (k2 i hin) k3 (by omega) hnl
      have hw := h s l h1 (hext s h2) h3 h4 h5
      rw [r2] at hw
      have hsplit : opersOf ops (pre ++ i :: post) = opersOf ops pre ++ ops[i] :: opersOf ops post := by
        simp [opersOf, List.filterMap_append, hoi]
      rw [hsplit] at hw
      have hf := frontP ρ (hrow' i _ hoi).1 (fun o ho => by
        refine ⟨hkind pre o ho, ?_⟩
        simp only [opersOf, List.mem_filterMap] at ho
        obtain ⟨j, hj, hoj⟩ := ho
        obtain ⟨hjp, hjl⟩ := r4 j hj
        have hg := rowGood_at (r1 ▸ h5) j hjp
        have hji : j ≠ i := by
          rintro rfl
          rw [r1] at k3
          exact (List.nodup_append.1 k3).2.2 j hjp j (by simp) rfl
        simp only [pairGood, Bool.or_eq_true] at hg
        rcases hg with (hg | hg) | hg
        · exfalso
          have hanc := hmask _ _ hg
          have hlist : Listed listed j := by
            cases hanc with
            | one ho' hj' => rw [hoi] at ho'; simp only [Option.some.injEq] at ho'; subst ho'; exact hpr _ hoi _ hj'
            | more ho' hk' ha' => rw [hoi] at ho'; simp only [Option.some.injEq] at ho'; subst ho'; exact hc.anc ha' (hpr _ hoi _ hk')
          exact hjl hlist
        · exfalso
          obtain ⟨k, p, t, e1, e2, e3, e4⟩ := saysS_spec hg
          obtain ⟨q1, q2, q3⟩ := hd k p e1
          cases t with
          | false =>
            obtain ⟨f1, f2⟩ := e3 rfl
            have hdk : d k = none := by
              cases hdk : d k with
              | none => rfl
              | some t =>
                cases t
                · exact absurd (f1 ▸ q2 hdk) hjl
                · exact absurd (f2 ▸ q3 hdk) hnl
            have : d' k = some true := by rw [hd' k, hdk, e1]; simp only; rw [if_neg (by rw [f1]; exact hji), if_pos f2]
            have := h2 k true this
            rw [e2] at this; simp at this
          | true =>
            obtain ⟨f1, f2⟩ := e4 rfl
            have hdk : d k = none := by
              cases hdk : d k with
              | none => rfl
              | some t =>
                cases t
                · exact absurd (f1 ▸ q2 hdk) hnl
                · exact absurd (f2 ▸ q3 hdk) hjl
            have : d' k = some false := by rw [hd' k, hdk, e1]; simp only; rw [if_pos f1]
            have := h2 k false this
            rw [e2] at this; simp at this
        · simp only [indepAt, hoj, hoi] at hg
          exact hg) (hkind post) hw
      have hback2 : opersOf ops pre ++ opersOf ops post = opersOf ops (rem (listed.setIfInBounds i true) l) := by rw [r3]; simp [opersOf]
      rw [hback2] at hf
      exact hf
    obtain ⟨s0, l0, y1, y2, y3, y4, y5⟩ := hsome d' hd2'
    have hf := wpG_allP (ρ := ρ) ⟨(s0, l0), y1, y2, y3, y4, y5⟩ (hrow' i _ hoi).1 hstep
    have hrest : ∀ e₁ H₁ a₁ W₁, (∀ x : { x : List Bool × List Nat // x.1.length = X.length ∧ (∀ k t, d' k = some t → x.1[k]? = some t) ∧ x.2 ∈ R ∧ isPerm ops.size x.2 = true ∧ rowGood mv ops m X x.1 x.2 = true },
          wpOps C nt mv (CallD C (det ρ)) ops (opersOf ops (rem (listed.setIfInBounds i true) x.1.2)) e₁ H₁ (Ext (Ext K))) → Inv C nt e₁ H₁ a₁ W₁ → Evo W₀ W₁ (fun _ _ => False) →
        wpAny C.P .any ops Q fuel (listed.setIfInBounds i true) a₁ W₁.w := fun e₁ H₁ a₁ W₁ hw hi₁ hE₁ => by
      refine ih _ d' e₁ H₁ a₁ W₁ (by simpa using hs) hc' hlen' hd1' hd2' hi₁ hE₁ fun s l h1 h2 h3 h4 h5 => ?_
      exact wpOps_monoP (fun e H h => Ext.ext h) (fun o ho => hkind _ o ho) (hw ⟨(s, l), h1, h2, h3, h4, h5⟩)
    unfold wpG at hf
    unfold Go.wpOp
    rw [hoi]
    simp only
    split at hf
    · rename_i hw
      rw [if_pos (wanted_sound hi hw)]
      left
      refine Oper.wp_mono (fun a' w' hA => ?_) (wpOp_sound (Q := Q) hi (CallP.wp hf))
      obtain ⟨e', H', W', rfl, hK, hi', hE'⟩ := hA
      exact hrest e' H' a' W' hK hi' (hE.trans0 hE')
    · rename_i hw
      rw [if_neg (by rw [wanted_sound hi hw]; simp)]
      exact hrest _ H _ W hf (hi.undef _) hE
    · exact hf.elim
theorem drawn_orders (hmix : C.P.follows .mixedOrders = true) {id : Nat} {e : Env} {H : Heap} {a : Act} {W W₀ : Wd} {K : Env → Heap → Prop} {Q : Exit → Act → World → Prop} {R : List (List Nat)} (hok : ordersOk mv ops R = true)
    (hQ : ∀ e H a W, K e H → Inv C nt e H a W → Evo W₀ W (fun _ _ => False) → Q .normal a W.w) (hi : Inv C nt e H a W) (hE : Evo W₀ W (fun _ _ => False))
    (h : ∀ l ∈ R, wpOps C nt mv (CallD C (det ρ)) ops (opersOf ops l) e H K) :
    (Code.region id ops true).wp C.P Q a W.w := by
  refine wp_region_any hmix ?_
  have hd := Evo.drew W (fun _ _ => False)
  have hi' : Inv C nt e H a W.drew := ⟨hi.heap.drew, fun t => (hi.env t).mono (Evo.drew W (fun _ _ => True)) (by simp), hi.size, hi.defers⟩
  have hl : left ops (Array.replicate ops.size false) = List.range ops.size := by
    unfold left
    rw [List.filter_eq_self]
    intro i hi
    simp only [List.mem_range] at hi
    simp [hi]
  have hno : ∀ j, ¬ Listed (Array.replicate ops.size false) j := fun j hj => by
    unfold Listed at hj
    by_cases hjs : j < ops.size <;> simp [hjs] at hj
  have hk : ∀ l, ∀ o ∈ opersOf ops l, good mv o = true := fun l o ho => by
    simp only [ordersOk, Bool.and_eq_true] at hok
    simp only [opersOf, List.mem_filterMap] at ho
    obtain ⟨i, _, hi⟩ := ho
    exact (rowOkP_spec hok.1 i o (by rw [Array.getElem?_toList]; exact hi)).1
  have hcov : covers mv ops (masksFrom [] ops.toList) (clashes mv ops (masksFrom [] ops.toList)) R (clashes mv ops (masksFrom [] ops.toList)).length (List.replicate (clashes mv ops (masksFrom [] ops.toList)).length none) = true := by
    simp only [ordersOk, Bool.and_eq_true] at hok
    exact hok.2
  refine orders_sound (ρ := ρ) hok hQ ops.size _ (fun _ => none) e H a W.drew (by simp) (fun j o hj => absurd hj (hno j)) (by rw [hl]; simp) (fun k p _ => ⟨fun _ => ⟨hno _, hno _⟩, fun h => by simp at h, fun h => by simp at h⟩) ⟨_, _, by simp, fun k => by
    rw [List.getElem?_replicate]
    split <;> rfl, hcov⟩ hi' (hE.trans0 hd) fun s l _ _ hlR hlp _ => ?_
  have hrem : rem (Array.replicate ops.size false) l = l := by
    unfold rem
    rw [List.filter_eq_self]
    intro i _
    have := hno i
    unfold Listed at this
    simpa using this
  rw [hrem]
  exact wpOps_monoP (fun e H h => ⟨e, fun _ => rfl, h⟩) (hk l) (h l hlR)
end
end Go.Proofs.YtlbjfjaleefiiaaDoor.Ev
end
