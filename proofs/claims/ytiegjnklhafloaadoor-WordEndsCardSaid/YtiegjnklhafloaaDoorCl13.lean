/-
  A region in whatever order its edges allow comes to what its order in the clean evaluator comes to.
-/
import Derived.Test.YtiegjnklhafloaaDoorCl12
namespace Go.Cl
open Go
set_option linter.unusedSimpArgs false
set_option linter.unusedVariables false

def CallLen (call : CallF) : Prop := ∀ f vs h r h', call f vs h = some (r, h') → h.length ≤ h'.length

theorem storeAt_len {h h' : Heap} {b o : Nat} {vs : List CV} (hs : storeAt h b o vs = some h') : h'.length = h.length := by
  simp only [storeAt] at hs
  split at hs
  · split at hs
    · simp at hs; subst hs; simp
    · cases hs
  · cases hs

theorem appendTo_len {h h' : Heap} {esz k : Nat} {x v : CV} {ys : List CV} (hs : appendTo h esz x k ys = some (v, h')) : h.length ≤ h'.length := by
  simp only [appendTo] at hs
  split at hs
  · cases hs
  · cases x <;> simp at hs
    · obtain ⟨_, hs⟩ := hs
      split at hs
      · simp at hs; rw [← hs.2]; exact Nat.le_refl _
      · split at hs
        · split at hs
          · rename_i h'' hst
            simp at hs; rw [← hs.2, storeAt_len hst]; exact Nat.le_refl _
          · cases hs
        · split at hs
          · simp at hs
            obtain ⟨_, _, rfl⟩ := hs
            simp [kill_length]
          · cases hs
    · split at hs
      · simp at hs; rw [← hs.2]; exact Nat.le_refl _
      · simp at hs; rw [← hs.2]; simp

theorem evOp_len {call : CallF} (hL : CallLen call) {op : SOp} {e : Env} {h h' : Heap} {v : CV} (hev : evOp call op e h = some (v, h')) : h.length ≤ h'.length := by
  by_cases h01 : cls op = 0 ∨ cls op = 1
  · rw [quiet_heap h01 hev]; exact Nat.le_refl _
  by_cases h2 : cls op = 2
  · obtain ⟨g, rfl, _⟩ := make_heap h2 hev; simp
  cases op <;> simp only [cls] at h01 h2 <;> (try (exact absurd (by decide) h01)) <;> (try (exact absurd (by decide) h2)) <;> simp only [evOp] at hev
  case store n x y =>
    split at hev
    · split at hev
      · split at hev
        · rename_i h'' hst
          simp at hev; rw [← hev.2, storeAt_len hst]; exact Nat.le_refl _
        · cases hev
      · cases hev
    · cases hev
  case append z x y =>
    split at hev
    · split at hev
      · exact appendTo_len hev
      · cases hev
    · cases hev
  case slTail z x lo =>
    split at hev
    · simp only [slTail] at hev
      split at hev
      · split at hev
        · split at hev
          · simp at hev; rw [← hev.2]; exact Nat.le_refl _
          · split at hev
            · split at hev
              · simp at hev; rw [← hev.2]; simp
              · cases hev
            · cases hev
        · cases hev
      · cases hev
    · cases hev
  case call f xs =>
    split at hev
    · exact hL _ _ _ _ _ hev
    · cases hev
  case callv f xs =>
    split at hev
    · exact hL _ _ _ _ _ hev
    · cases hev
  all_goals (repeat' (first | (simp at hev; done) | (simp at hev; rw [← hev.2]; simp; done) | (split at hev)))

/-! ### what the clean run goes through -/

structure Traj (call : CallF) (l : List SOper) (e0 : Env) (h0 : Heap) (eF : Env) (hF : Heap) (E : Nat → Env) (H : Nat → Heap) (V : Nat → CV) : Prop where
  e0 : E 0 = e0
  h0 : H 0 = h0
  eF : E l.length = eF
  hF : H l.length = hF
  env : ∀ p, p < l.length → E (p + 1) = Env.put (E p) (opAt l p).dst (V p)
  step : ∀ p, p < l.length → (wanted (E p) (opAt l p).guard = some false ∧ V p = .undef ∧ H (p + 1) = H p) ∨
    (wanted (E p) (opAt l p).guard = some true ∧ evOp call (opAt l p).op (E p) (H p) = some (V p, H (p + 1)) ∧ Recheck call l (E (p + 1)) (H (p + 1)) (opAt l p).re)

theorem traj_of {call : CallF} {all : List SOper} : ∀ (l : List SOper) (e0 : Env) (h0 : Heap) (eF : Env) (hF : Heap), evOps call all l e0 h0 = some (eF, hF) →
    ∃ (E : Nat → Env) (H : Nat → Heap), E 0 = e0 ∧ H 0 = h0 ∧ E l.length = eF ∧ H l.length = hF ∧ ∀ p, p < l.length → evOper call all (opAt l p) (E p) (H p) = some (E (p + 1), H (p + 1))
  | [], e0, h0, eF, hF, h => by
    simp [evOps] at h
    exact ⟨fun _ => e0, fun _ => h0, rfl, rfl, h.1, h.2, fun p hp => by simp at hp⟩
  | o :: l, e0, h0, eF, hF, h => by
    simp only [evOps] at h
    cases h1 : evOper call all o e0 h0 with
    | none => simp [h1] at h
    | some q =>
      obtain ⟨e1, h1'⟩ := q
      simp [h1] at h
      obtain ⟨E, H, a1, a2, a3, a4, a5⟩ := traj_of l e1 h1' eF hF h
      refine ⟨fun n => match n with | 0 => e0 | n + 1 => E n, fun n => match n with | 0 => h0 | n + 1 => H n, rfl, rfl, a3, a4, fun p hp => ?_⟩
      cases p with
      | zero => simpa [opAt, a1, a2] using h1
      | succ p => simpa [opAt] using a5 p (by simpa using hp)

theorem traj {call : CallF} {l : List SOper} {e0 : Env} {h0 : Heap} {eF : Env} {hF : Heap} (h : evOps call l l e0 h0 = some (eF, hF)) : ∃ E H V, Traj call l e0 h0 eF hF E H V := by
  obtain ⟨E, H, a1, a2, a3, a4, a5⟩ := traj_of l e0 h0 eF hF h
  have key : ∀ p, ∃ v, p < l.length → E (p + 1) = Env.put (E p) (opAt l p).dst v ∧ ((wanted (E p) (opAt l p).guard = some false ∧ v = .undef ∧ H (p + 1) = H p) ∨
    (wanted (E p) (opAt l p).guard = some true ∧ evOp call (opAt l p).op (E p) (H p) = some (v, H (p + 1)) ∧ Recheck call l (E (p + 1)) (H (p + 1)) (opAt l p).re)) := by
    intro p
    by_cases hp : p < l.length
    · have hev := a5 p hp
      simp only [evOper] at hev
      cases hw : wanted (E p) (opAt l p).guard with
      | none => simp [hw] at hev
      | some b =>
        cases b with
        | false =>
          simp [hw] at hev
          exact ⟨.undef, fun _ => ⟨hev.1.symm, .inl ⟨rfl, rfl, hev.2.symm⟩⟩⟩
        | true =>
          simp only [hw] at hev
          cases hop : evOp call (opAt l p).op (E p) (H p) with
          | none => simp [hop] at hev
          | some q =>
            obtain ⟨v, h1⟩ := q
            simp only [hop] at hev
            split at hev
            · rename_i hre
              simp at hev
              obtain ⟨e1, e2⟩ := hev
              subst e2
              exact ⟨v, fun _ => ⟨e1.symm, .inr ⟨rfl, rfl, e1 ▸ recheckB_spec hre⟩⟩⟩
            · cases hev
    · exact ⟨.undef, fun h => absurd h hp⟩
  obtain ⟨V, hV⟩ := Classical.axiomOfChoice key
  exact ⟨E, H, V, a1, a2, a3, a4, fun p hp => (hV p hp).1, fun p hp => (hV p hp).2⟩

section
variable {P : Program} {G : Gam} {N : Nat} {call : CallF} {ops : Array Oper} {l : List SOper} {D : List (Nat × List Nat)} {e0 eF : Env} {h0 hF : Heap} {E : Nat → Env} {H : Nat → Heap} {V : Nat → CV}

theorem put_get_ne {e : Env} {d : Option Nat} {v : CV} {t : Nat} (h : d ≠ some t) : Env.get (Env.put e d v) t = Env.get e t := by
  cases d with
  | none => rfl
  | some k =>
    have : ¬ t = k := fun x => h (by rw [x])
    simp [Env.put, Env.get, this]

theorem put_get_eq {e : Env} {v : CV} {t : Nat} : Env.get (Env.put e (some t) v) t = some v := by simp [Env.put, Env.get]

/-- a slot that none of some steps writes -/
theorem Traj.keep (T : Traj call l e0 h0 eF hF E H V) {t r s : Nat} (hrs : r ≤ s) (hs : s ≤ l.length) (h : ∀ p, r ≤ p → p < s → (opAt l p).dst ≠ some t) : Env.get (E s) t = Env.get (E r) t := by
  induction s with
  | zero => have : r = 0 := by omega
            subst this; rfl
  | succ s ih =>
    by_cases hh : r = s + 1
    · subst hh; rfl
    · rw [T.env s (by omega), put_get_ne (h s (by omega) (by omega)), ih (by omega) (by omega) fun p h1 h2 => h p h1 (by omega)]

theorem Traj.written (T : Traj call l e0 h0 eF hF E H V) (hD : Draw P G N ops l D) {t p s : Nat} (hp : (opAt l p).dst = some t) (hps : p < s) (hs : s ≤ l.length) : Env.get (E s) t = some (V p) := by
  rw [T.keep (r := p + 1) (by omega) hs, T.env p (by omega), hp, put_get_eq]
  intro q h1 h2
  have := hD.len
  exact hD.dst q p t (by omega) (by omega) (by omega) hp

theorem Traj.before (T : Traj call l e0 h0 eF hF E H V) {t s : Nat} (hs : s ≤ l.length) (h : ∀ p, p < s → (opAt l p).dst ≠ some t) : Env.get (E s) t = Env.get e0 t := by
  rw [T.keep (r := 0) (by omega) hs fun p _ h2 => h p h2, T.e0]

theorem Traj.grow (T : Traj call l e0 h0 eF hF E H V) {r s : Nat} (hrs : r ≤ s) (hs : s ≤ l.length) (h : ∀ p, r ≤ p → p < s → isHeavy (opAt l p) = false) : ∃ g, H s = H r ++ g := by
  induction s with
  | zero => have : r = 0 := by omega
            subst this; exact ⟨[], by simp⟩
  | succ s ih =>
    by_cases hh : r = s + 1
    · subst hh; exact ⟨[], by simp⟩
    · obtain ⟨g, hg⟩ := ih (by omega) (by omega) fun p h1 h2 => h p h1 (by omega)
      rcases T.step s (by omega) with ⟨_, _, h1⟩ | ⟨_, h1, _⟩
      · exact ⟨g, by rw [h1, hg]⟩
      · have hc := h s (by omega) (by omega)
        have : cls (opAt l s).op = 0 ∨ cls (opAt l s).op = 1 ∨ cls (opAt l s).op = 2 := by
          simp [isHeavy] at hc
          have : cls (opAt l s).op ≤ 3 := by cases (opAt l s).op <;> simp [cls]
          omega
        rcases this with hc | hc | hc
        · exact ⟨g, by rw [quiet_heap (.inl hc) h1, hg]⟩
        · exact ⟨g, by rw [quiet_heap (.inr hc) h1, hg]⟩
        · obtain ⟨g', hg', _⟩ := make_heap hc h1
          exact ⟨g ++ g', by rw [hg', hg, List.append_assoc]⟩

theorem Traj.len (T : Traj call l e0 h0 eF hF E H V) (hL : CallLen call) {r s : Nat} (hrs : r ≤ s) (hs : s ≤ l.length) : (H r).length ≤ (H s).length := by
  induction s with
  | zero => have : r = 0 := by omega
            subst this; exact Nat.le_refl _
  | succ s ih =>
    by_cases hh : r = s + 1
    · subst hh; exact Nat.le_refl _
    · have := ih (by omega) (by omega)
      rcases T.step s (by omega) with ⟨_, _, h1⟩ | ⟨_, h1, _⟩
      · rw [h1]; exact this
      · exact Nat.le_trans this (evOp_len hL h1)

theorem recheck_mem {all : List SOper} {e : Env} {h : Heap} : ∀ {re : List Nat}, Recheck call all e h re → ∀ p ∈ re, p < all.length → ∀ d, (opAt all p).dst = some d →
    wanted e (opAt all p).guard = some false ∨ (wanted e (opAt all p).guard = some true ∧ ∃ v, e.get d = some v ∧ evOp call (opAt all p).op e h = some (v, h))
  | [], _, p, hp, _, _, _ => by simp at hp
  | q :: re, hR, p, hp, hlt, d, hd => by
    simp only [Recheck] at hR
    rcases List.mem_cons.1 hp with rfl | hp
    · have hg : all[p]? = some (opAt all p) := by simp [opAt, List.getD, hlt]
      have := hR.1
      rw [hg] at this
      simp only [hd] at this
      exact this
    · exact recheck_mem hR.2 p hp hlt d hd

/-- a read, told at p, reads the same at each later heap up to the first heavy one that must come behind it -/
theorem Traj.readAt (T : Traj call l e0 h0 eF hF E H V) (hD : Draw P G N ops l D) {p : Nat} (hp : p < l.length) (hc : cls (opAt l p).op = 0 ∨ cls (opAt l p).op = 1) (hw : wanted (E p) (opAt l p).guard = some true) {q : Nat} (hpq : p ≤ q) (hq : q ≤ l.length)
    (hn : ∀ r, p < r → r < q → isHeavy (opAt l r) = true → p ∉ Cl.anc D r) : evOp call (opAt l p).op (E p) (H q) = some (V p, H q) := by
  have hlen := hD.len
  induction q with
  | zero =>
    have : p = 0 := by omega
    subst this
    rcases T.step 0 hp with ⟨h1, _⟩ | ⟨_, h1, _⟩
    · rw [hw] at h1; cases h1
    · have := quiet_heap hc h1; rw [this] at h1; exact h1
  | succ q ih =>
    by_cases hh : p = q + 1
    · subst hh
      rcases T.step _ hp with ⟨h1, _⟩ | ⟨_, h1, _⟩
      · rw [hw] at h1; cases h1
      · have := quiet_heap hc h1; rw [this] at h1; exact h1
    · have ih := ih (by omega) (by omega) fun r h1 h2 => hn r h1 (by omega)
      by_cases hpq' : p = q
      · subst hpq'
        rcases T.step p hp with ⟨h1, _⟩ | ⟨_, h1, _⟩
        · rw [hw] at h1; cases h1
        · rw [quiet_heap hc h1]; exact ih
      · cases hH : isHeavy (opAt l q) with
        | false =>
          obtain ⟨g, hg⟩ := T.grow (r := q) (s := q + 1) (by omega) (by omega) fun r h1 h2 => by
            have : r = q := by omega
            subst this; exact hH
          rw [hg]
          exact read_more hc ih g
        | true =>
          rcases hc with hc | hc
          · exact (evOp_pure hc ih).2 _
          · obtain ⟨⟨d, hd⟩, hre, hnw⟩ := hD.read p q (by omega) (by omega) hc (by omega) hH (hn q (by omega) (by omega) hH)
            rcases T.step q (by omega) with ⟨_, _, h1⟩ | ⟨_, h1, hR⟩
            · rw [h1]; exact ih
            · have hkeep : ∀ t ∈ uses (opAt l p), Env.get (E (q + 1)) t = Env.get (E p) t := fun t ht =>
                T.keep (by omega) (by omega) fun r h1 h2 hdr => hnw r t (by omega) (by omega) (by omega) hdr ht
              have hrc := recheck_mem hR p hre hp d hd
              rw [wanted_congr (e' := E p) fun t ht => hkeep t (List.mem_append_right _ ht), hw] at hrc
              rcases hrc with hrc | ⟨_, v, hv, hrc⟩
              · cases hrc
              · rw [T.written hD hd (by omega) (by omega)] at hv; cases hv
                rw [← hrc]
                exact evOp_congr fun t ht => (hkeep t (List.mem_append_left _ ht)).symm

theorem Env.only_mem {ks : List Nat} {e : Env} {t : Nat} (ht : t ∈ ks) : Env.get (Env.only ks e) t = Env.get e t := by
  induction ks with
  | nil => simp at ht
  | cons k ks ih =>
    simp only [Env.only]
    by_cases hk : t = k
    · subst hk
      cases hg : Env.get e t with
      | some v => simp [Env.get]
      | none =>
        simp only
        cases hh : Env.get (Env.only ks e) t with
        | none => rfl
        | some v => rw [Env.get_only ks e t v hh] at hg; cases hg
    · have ht' : t ∈ ks := by rcases List.mem_cons.1 ht with h | h; exact absurd h hk; exact h
      cases hg : Env.get e k with
      | none => exact ih ht'
      | some v => simp only [Env.get, hk, if_false]; exact ih ht'

theorem Env.only_some {ks : List Nat} {e : Env} {t : Nat} {v : CV} (h : Env.get (Env.only ks e) t = some v) : t ∈ ks := by
  induction ks with
  | nil => simp [Env.only, Env.get] at h
  | cons k ks ih =>
    simp only [Env.only] at h
    cases hg : Env.get e k with
    | none => rw [hg] at h; exact List.mem_cons_of_mem _ (ih h)
    | some u =>
      rw [hg] at h
      simp only [Env.get] at h
      by_cases hk : t = k
      · subst hk; exact List.mem_cons_self ..
      · rw [if_neg hk] at h; exact List.mem_cons_of_mem _ (ih h)

/-! ### what holds while it runs -/

def isOn (D : List (Nat × List Nat)) (listed : Array Bool) (p : Nat) : Prop := listed.getD (idx D p) false = true

def slotv (l : List SOper) (e0 : Env) (V : Nat → CV) (S : Nat → Prop) (d : Nat) (v : CV) : Prop :=
  (∃ p, p < l.length ∧ (opAt l p).dst = some d ∧ S p ∧ v = V p) ∨ ((∀ p, p < l.length → (opAt l p).dst = some d → ¬ S p) ∧ Env.get e0 d = some v)

structure DInv (G : Gam) (N : Nat) (ops : Array Oper) (l : List SOper) (D : List (Nat × List Nat)) (e0 : Env) (h0 : Heap) (H : Nat → Heap) (V : Nat → CV) (m0 : Mp) (a0 : Act) (w0 : World) (listed : Array Bool) (q : Nat) (m : Mp) (a : Act) (w : World) : Prop where
  lsz : listed.size = ops.size
  qle : q ≤ ops.size
  below : ∀ p, p < ops.size → isOn D listed p → p < q
  heavies : ∀ p, p < q → isHeavy (opAt l p) = true → isOn D listed p
  atq : q < ops.size → isHeavy (opAt l q) = true
  closed : ∀ p, p < ops.size → isOn D listed p → ∀ i ∈ edges ops (idx D p), listed.getD i false = true
  asz : N ≤ a.tmps.size
  adef : a.defers = a0.defers
  slot : ∀ d v, slotv l e0 V (isOn D listed) d v → ∃ rv, tr G m v = some rv ∧ a.tmps[d]? = some rv
  sim : Sim G m (H q) w
  evo : Evo m0 h0 w0 m (H q) w
  pend : ∀ p, p < q → ¬ isOn D listed p → ∀ ob, H (p + 1) = H p ++ [ob] → m (H p).length = none ∧ (H q)[(H p).length]? = some ob

theorem anc_on (hD : Draw P G N ops l D) {listed : Array Bool} (hcl : ∀ p, p < ops.size → isOn D listed p → ∀ i ∈ edges ops (idx D p), listed.getD i false = true) :
    ∀ p, p < ops.size → (∀ i ∈ edges ops (idx D p), listed.getD i false = true) → ∀ x ∈ Cl.anc D p, isOn D listed x := by
  intro p
  induction p using Nat.strongRecOn with
  | _ p ih =>
    intro hp he x hx
    obtain ⟨h1, h2⟩ := hD.anc p hp x hx
    rcases h2 with h2 | ⟨j, hj, h2, h3⟩
    · exact he _ h2
    · exact ih j hj (by omega) (hcl j (by omega) (he _ h2)) x h3

theorem nextHeavy (l : List SOper) (n q : Nat) (hq : q ≤ n) : ∃ q', q ≤ q' ∧ q' ≤ n ∧ (∀ p, q ≤ p → p < q' → isHeavy (opAt l p) = false) ∧ (q' < n → isHeavy (opAt l q') = true) := by
  induction hk : n - q generalizing q with
  | zero => exact ⟨q, Nat.le_refl _, hq, fun p h1 h2 => by omega, fun h => by omega⟩
  | succ k ih =>
    cases hh : isHeavy (opAt l q) with
    | true => exact ⟨q, Nat.le_refl _, hq, fun p h1 h2 => by omega, fun _ => hh⟩
    | false =>
      obtain ⟨q', a1, a2, a3, a4⟩ := ih (q + 1) (by omega) (by omega)
      refine ⟨q', by omega, a2, fun p h1 h2 => ?_, a4⟩
      by_cases hp : p = q
      · subst hp; exact hh
      · exact a3 p (by omega) h2

/-- the slots that an operation looks at hold what the clean run has there -/
theorem DInv.uses (T : Traj call l e0 h0 eF hF E H V) (hD : Draw P G N ops l D) {m0 : Mp} {a0 : Act} {w0 : World} {listed : Array Bool} {q : Nat} {m : Mp} {a : Act} {w : World} (I : DInv G N ops l D e0 h0 H V m0 a0 w0 listed q m a w) {p : Nat} (hp : p < ops.size) (hon : ¬ isOn D listed p)
    (hed : ∀ i ∈ edges ops (idx D p), listed.getD i false = true) : ER G m N (Env.only (Cl.uses (opAt l p)) (E p)) a := by
  have hlen := hD.len
  refine ⟨I.asz, fun t v hv => ?_⟩
  have ht := Env.only_some hv
  rw [Env.only_mem ht] at hv
  refine I.slot t v ?_
  by_cases hex : ∃ r, r < ops.size ∧ (opAt l r).dst = some t
  · obtain ⟨r, hr, hrd⟩ := hex
    have huniq : ∀ r', r' < ops.size → (opAt l r').dst = some t → r' = r := by
      intro r' h1 h2
      by_cases hne : r' = r
      · exact hne
      · exact absurd h2 (hD.dst r' r t h1 hr hne hrd)
    by_cases hpr : r = p
    · subst hpr
      rw [T.before (by omega) fun p' h1 h2 => by have := huniq p' (by omega) h2; omega] at hv
      exact .inr ⟨fun p' h1 h2 => by rw [huniq p' (by omega) h2]; exact hon, hv⟩
    · obtain ⟨u1, u2⟩ := hD.use p r t hp hr (Ne.symm hpr) hrd ht
      by_cases hlt : r < p
      · have hon' := anc_on hD I.closed p hp hed r (u1 hlt)
        rw [T.written hD hrd hlt (by omega)] at hv
        exact .inl ⟨r, by omega, hrd, hon', by simpa using hv.symm⟩
      · rw [T.before (by omega) fun p' h1 h2 => by have := huniq p' (by omega) h2; omega] at hv
        refine .inr ⟨fun p' h1 h2 hs => ?_, hv⟩
        rw [huniq p' (by omega) h2] at hs
        exact hon (anc_on hD I.closed r hr (I.closed r hr hs) p (u2 (by omega)))
  · rw [T.before (by omega) fun p' h1 h2 => hex ⟨p', by omega, h2⟩] at hv
    exact .inr ⟨fun p' h1 h2 => absurd ⟨p', by omega, h2⟩ hex, hv⟩

theorem isOn_set (hD : Draw P G N ops l D) {listed : Array Bool} (hl : listed.size = ops.size) {p r : Nat} (hp : p < ops.size) (hr : r < ops.size) : isOn D (listed.setIfInBounds (idx D p) true) r ↔ r = p ∨ isOn D listed r := by
  have h1 := hD.lt p hp
  unfold isOn
  by_cases h : idx D r = idx D p
  · have := hD.inj r p hr hp h
    subst this
    simp [Array.getD, hl, h1]
  · have hne : r ≠ p := fun x => h (by rw [x])
    simp only [hne, false_or]
    simp only [Array.getD_eq_getD_getElem?]
    rw [Array.getElem?_setIfInBounds_ne (Ne.symm h)]

theorem Evo.more {m m' : Mp} {h h' : Heap} {w w' : World} (k : Evo m h w m' h' w') (s : Sim G m' h' w') (g : List Obj) : Evo m h w m' (h' ++ g) w' := by
  refine ⟨k.mono, by have := k.len; simp; omega, fun b hb e => ⟨(k.un b hb e).1, by rw [List.getElem?_append_left (by have := k.len; omega)]; exact (k.un b hb e).2⟩, k.os, k.out, k.size, k.frame, fun b L e o => ?_⟩
  obtain ⟨x, q1, q2⟩ := o
  rw [List.getElem?_append_left (s.dom b L e)] at q1
  exact k.own b L e ⟨x, q1, q2⟩

end
end Go.Cl
