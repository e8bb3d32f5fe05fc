/-
  A region in whatever order its edges allow: the proof by what is listed.
-/
import Derived.Test.YtiegjnklhafloaaDoorCl13
namespace Go.Cl
open Go
set_option linter.unusedSimpArgs false
set_option linter.unusedVariables false

section
variable {P : Program} {G : Gam} {N : Nat} {call : CallF} {ops : Array Oper} {l : List SOper} {D : List (Nat × List Nat)} {e0 eF : Env} {h0 hF : Heap} {E : Nat → Env} {H : Nat → Heap} {V : Nat → CV}
  {m0 : Mp} {a0 : Act} {w0 : World} {listed : Array Bool} {q : Nat} {m : Mp} {a : Act} {w : World}

theorem put_defers (a : Act) (d : Option Nat) (rv : Value) : (a.put d rv).defers = a.defers := by cases d <;> rfl
theorem put_size (a : Act) (d : Option Nat) (rv : Value) : (a.put d rv).tmps.size = a.tmps.size := by cases d <;> simp [Act.put]

/-- the slots, one operation later -/
theorem slot_next (hD : Draw P G N ops l D) (I : DInv G N ops l D e0 h0 H V m0 a0 w0 listed q m a w) {p : Nat} (hp : p < ops.size) (hdN : ∀ k, (opAt l p).dst = some k → k < N) {m' : Mp} (hm : m.le m') {rv : Value} (hv : tr G m' (V p) = some rv) :
    ∀ d v, slotv l e0 V (isOn D (listed.setIfInBounds (idx D p) true)) d v → ∃ rv', tr G m' v = some rv' ∧ (a.put (opAt l p).dst rv).tmps[d]? = some rv' := by
  intro d v hs
  have hlen := hD.len
  by_cases hd : (opAt l p).dst = some d
  · have hvp : v = V p := by
      rcases hs with ⟨r, h1, h2, h3, rfl⟩ | ⟨h1, _⟩
      · by_cases hr : r = p
        · rw [hr]
        · exact absurd h2 (hD.dst r p d (by omega) hp hr hd)
      · exact absurd ((isOn_set hD I.lsz hp hp).2 (.inl rfl)) (h1 p (by omega) hd)
    subst hvp
    refine ⟨rv, hv, ?_⟩
    rw [hd]
    exact Array.getElem?_setIfInBounds_self_of_lt (Nat.lt_of_lt_of_le (hdN d hd) I.asz)
  · have : slotv l e0 V (isOn D listed) d v := by
      rcases hs with ⟨r, h1, h2, h3, rfl⟩ | ⟨h1, h2⟩
      · rcases (isOn_set hD I.lsz hp (by omega)).1 h3 with rfl | h
        · exact absurd h2 hd
        · exact .inl ⟨r, h1, h2, h, rfl⟩
      · exact .inr ⟨fun r h3 h4 h5 => h1 r h3 h4 ((isOn_set hD I.lsz hp (by omega)).2 (.inr h5)), h2⟩
    obtain ⟨ru, g1, g2⟩ := I.slot d v this
    refine ⟨ru, tr_mono G hm _ _ g1, ?_⟩
    cases hdd : (opAt l p).dst with
    | none => exact g2
    | some k =>
      have : k ≠ d := fun x => hd (by rw [hdd, x])
      simp [Act.put, Array.getElem?_setIfInBounds_ne this, g2]

theorem closed_next (hD : Draw P G N ops l D) (I : DInv G N ops l D e0 h0 H V m0 a0 w0 listed q m a w) {p : Nat} (hp : p < ops.size) (hed : ∀ i ∈ edges ops (idx D p), listed.getD i false = true) :
    ∀ r, r < ops.size → isOn D (listed.setIfInBounds (idx D p) true) r → ∀ i ∈ edges ops (idx D r), (listed.setIfInBounds (idx D p) true).getD i false = true := by
  have keep : ∀ i, listed.getD i false = true → (listed.setIfInBounds (idx D p) true).getD i false = true := by
    intro i hi
    simp only [Array.getD_eq_getD_getElem?] at hi ⊢
    by_cases h : i = idx D p
    · subst h
      rw [Array.getElem?_setIfInBounds_self_of_lt (by rw [I.lsz]; exact hD.lt p hp)]; rfl
    · rw [Array.getElem?_setIfInBounds_ne (Ne.symm h)]; exact hi
  intro r hr hon i hi
  rcases (isOn_set hD I.lsz hp hr).1 hon with rfl | h
  · exact keep i (hed i hi)
  · exact keep i (I.closed r hr h i hi)

theorem adv_quiet (hD : Draw P G N ops l D) (I : DInv G N ops l D e0 h0 H V m0 a0 w0 listed q m a w) {p : Nat} (hp : p < ops.size) (hpq : p < q) (hed : ∀ i ∈ edges ops (idx D p), listed.getD i false = true) (hdN : ∀ k, (opAt l p).dst = some k → k < N)
    {m' : Mp} (hm : m.le m') {rv : Value} (hv : tr G m' (V p) = some rv) {w' : World} (s : Sim G m' (H q) w') (ev : Evo m0 h0 w0 m' (H q) w') (hpend : ∀ r, r < q → r ≠ p → ¬ isOn D listed r → ∀ ob, H (r + 1) = H r ++ [ob] → m' (H r).length = none) :
    DInv G N ops l D e0 h0 H V m0 a0 w0 (listed.setIfInBounds (idx D p) true) q m' (a.put (opAt l p).dst rv) w' where
  lsz := by simp [I.lsz]
  qle := I.qle
  below r hr hon := by
    rcases (isOn_set hD I.lsz hp hr).1 hon with rfl | h
    · exact hpq
    · exact I.below r hr h
  heavies r hr hh := (isOn_set hD I.lsz hp (by have := I.qle; omega)).2 (.inr (I.heavies r hr hh))
  atq := I.atq
  closed := closed_next hD I hp hed
  asz := by rw [put_size]; exact I.asz
  adef := by rw [put_defers]; exact I.adef
  slot := slot_next hD I hp hdN hm hv
  sim := s
  evo := ev
  pend r hr hon ob hob := by
    have hrn : ¬ isOn D listed r := fun h => hon ((isOn_set hD I.lsz hp (by have := I.qle; omega)).2 (.inr h))
    have hrp : r ≠ p := fun h => hon ((isOn_set hD I.lsz hp (by have := I.qle; omega)).2 (.inl h))
    exact ⟨hpend r hr hrp hrn ob hob, (I.pend r hr hrn ob hob).2⟩

theorem adv_heavy (T : Traj call l e0 h0 eF hF E H V) (hL : CallLen call) (hD : Draw P G N ops l D) (I : DInv G N ops l D e0 h0 H V m0 a0 w0 listed q m a w) (hq : q < ops.size) (hed : ∀ i ∈ edges ops (idx D q), listed.getD i false = true) (hdN : ∀ k, (opAt l q).dst = some k → k < N)
    {m' : Mp} {rv : Value} (hv : tr G m' (V q) = some rv) {w' : World} (s : Sim G m' (H (q + 1)) w') (ev : Evo m (H q) w m' (H (q + 1)) w') :
    ∃ q', DInv G N ops l D e0 h0 H V m0 a0 w0 (listed.setIfInBounds (idx D q) true) q' m' (a.put (opAt l q).dst rv) w' := by
  have hlen := hD.len
  obtain ⟨q', a1, a2, a3, a4⟩ := nextHeavy l ops.size (q + 1) (by omega)
  obtain ⟨g, hg⟩ := T.grow (r := q + 1) (s := q') a1 (by omega) a3
  refine ⟨q', ?_⟩
  refine ⟨by simp [I.lsz], a2, ?_, ?_, a4, closed_next hD I hq hed, by rw [put_size]; exact I.asz, by rw [put_defers]; exact I.adef, slot_next hD I hq hdN ev.mono hv, by rw [hg]; exact s.more g, by rw [hg]; exact (I.evo.trans ev).more s g, ?_⟩
  · intro r hr hon
    rcases (isOn_set hD I.lsz hq hr).1 hon with rfl | h
    · omega
    · have := I.below r hr h; omega
  · intro r hr hh
    by_cases hrq : r = q
    · exact (isOn_set hD I.lsz hq (by omega)).2 (.inl hrq)
    · by_cases hlt : r < q
      · exact (isOn_set hD I.lsz hq (by omega)).2 (.inr (I.heavies r hlt hh))
      · have := a3 r (by omega) hr; rw [hh] at this; cases this
  · intro r hr hon ob hob
    have hrq : r ≠ q := fun h => hon ((isOn_set hD I.lsz hq (by omega)).2 (.inl h))
    by_cases hlt : r < q
    · obtain ⟨p1, p2⟩ := I.pend r hlt (fun h => hon ((isOn_set hD I.lsz hq (by omega)).2 (.inr h))) ob hob
      have hl : (H r).length < (H q).length := by
        have := (List.getElem?_eq_some_iff.1 p2).1; exact this
      obtain ⟨u1, u2⟩ := ev.un _ hl p1
      refine ⟨u1, ?_⟩
      rw [hg]
      exact get_more (u2.trans p2) g
    · have hl := T.len hL (r := q + 1) (s := r) (by omega) (by omega)
      refine ⟨?_, ?_⟩
      · cases hk : m' (H r).length with
        | none => rfl
        | some L => exact absurd (s.dom _ _ hk) (by omega)
      · obtain ⟨g2, hg2⟩ := T.grow (r := r + 1) (s := q') (by omega) (by omega) fun x h1 h2 => a3 x (by omega) h2
        rw [hg2, hob, List.append_assoc, List.getElem?_append_right (Nat.le_refl _)]
        simp

/-- one operation of those that are ready -/
theorem step_any (T : Traj call l e0 h0 eF hF E H V) (hG : Good P G) (hC : CallOK P G call) (hL : CallLen call) (hD : Draw P G N ops l D) (I : DInv G N ops l D e0 h0 H V m0 a0 w0 listed q m a w) {p : Nat} (hp : p < ops.size) (hon : ¬ isOn D listed p)
    (hed : ∀ i ∈ edges ops (idx D p), listed.getD i false = true) {K : Act → World → Prop} {Q : Exit → Act → World → Prop}
    (hK : ∀ q' m' a' w', DInv G N ops l D e0 h0 H V m0 a0 w0 (listed.setIfInBounds (idx D p) true) q' m' a' w' → K a' w') : wpOp P ops Q (idx D p) K a w := by
  have hlen := hD.len
  have hanc := anc_on hD I.closed p hp hed
  have hpq : p ≤ q := by
    rcases Nat.lt_or_ge q p with h | h
    · have := hanc q (hD.heavy q p (by omega) hp (I.atq (by omega)) h)
      have := I.below q (by omega) this; omega
    · exact h
  have hER := I.uses T hD hp hon hed
  have hcon : ∀ t ∈ uses (opAt l p), Env.get (E p) t = Env.get (Env.only (uses (opAt l p)) (E p)) t := fun t ht => (Env.only_mem ht).symm
  have hcop : ∀ h, evOp call (opAt l p).op (E p) h = evOp call (opAt l p).op (Env.only (uses (opAt l p)) (E p)) h := fun h => evOp_congr fun t ht => hcon t (List.mem_append_left _ ht)
  have hcw : wanted (E p) (opAt l p).guard = wanted (Env.only (uses (opAt l p)) (E p)) (opAt l p).guard := wanted_congr fun t ht => hcon t (List.mem_append_right _ ht)
  obtain ⟨o, ho, hM⟩ := hD.match_ p hp
  simp only [operM, Bool.and_eq_true] at hM
  obtain ⟨⟨⟨h1, h2⟩, h3⟩, h4⟩ := hM
  have hd : o.dst = (opAt l p).dst := by simpa using h2
  have hdN : ∀ k, (opAt l p).dst = some k → k < N := by
    intro k hk; rw [hk] at h3; simpa using h3
  unfold wpOp
  rw [ho]
  simp only
  rcases T.step p (by omega) with ⟨hw, hVu, hH⟩ | ⟨hw, hev, _⟩
  · rw [guard_sim h4 hER rfl (hcw ▸ hw)]
    simp only [Bool.false_eq_true, if_false]
    rw [hd]
    have hv : ∀ m' : Mp, tr G m' (V p) = some undef := fun m' => by rw [hVu]; rfl
    by_cases hlt : p < q
    · exact hK q m _ w (adv_quiet hD I hp hlt hed hdN (Mp.le_refl m) (hv m) I.sim I.evo fun r hr _ hrn ob hob => (I.pend r hr hrn ob hob).1)
    · obtain rfl : p = q := by omega
      obtain ⟨q', I'⟩ := adv_heavy T hL hD I hp hed hdN (hv m) (w' := w) (by rw [hH]; exact I.sim) (by rw [hH]; exact Evo.refl ..)
      exact hK q' m _ w I'
  · rw [guard_sim h4 hER rfl (hcw ▸ hw)]
    simp only [if_true]
    refine .inl ?_
    by_cases hlt : p < q
    · have hnh : isHeavy (opAt l p) = false := by
        cases hh : isHeavy (opAt l p) with
        | false => rfl
        | true => exact absurd (I.heavies p hlt hh) hon
      have hcls : (cls (opAt l p).op = 0 ∨ cls (opAt l p).op = 1) ∨ cls (opAt l p).op = 2 := by
        simp [isHeavy] at hnh
        have : cls (opAt l p).op ≤ 3 := by cases (opAt l p).op <;> simp [cls]
        omega
      rcases hcls with hc | hc
      · have hrd := T.readAt hD (by omega) hc hw (q := q) hpq (by have := I.qle; omega) fun r h5 h6 h7 h8 => hon (anc_on hD I.closed r (by have := I.qle; omega) (I.closed r (by have := I.qle; omega) (I.heavies r h6 h7)) p h8)
        rw [hcop] at hrd
        obtain ⟨_, rv, g1, g2⟩ := quiet_sim hc h1 hrd hER I.sim
        unfold Oper.wp
        rw [g1]
        show K (a.put o.dst rv) w
        rw [hd]
        exact hK q m _ w (adv_quiet hD I hp hlt hed hdN (Mp.le_refl m) g2 I.sim I.evo fun r hr _ hrn ob hob => (I.pend r hr hrn ob hob).1)
      · rw [hcop] at hev
        obtain ⟨g, e1, e2, e3⟩ := makes_any (hq := H q) hc h1 hev hER I.sim
        have hpd : ∀ ob, g = [ob] → (H q)[(H p).length]? = some ob ∧ m (H p).length = none := fun ob hob => by
          have := I.pend p hlt hon ob (by rw [e1, hob]); exact ⟨this.2, this.1⟩
        obtain ⟨m', rv, w', g1, g2, g3, g4, g5, g6⟩ := (e3 hpd).go
        unfold Oper.wp
        rw [g1]
        show K (a.put o.dst rv) w'
        rw [hd]
        have hle : m.le m' := by
          have : g = [] ∨ ∃ ob, g = [ob] := by
            cases g with
            | nil => exact .inl rfl
            | cons x t => cases t with
              | nil => exact .inr ⟨x, rfl⟩
              | cons _ _ => simp at e2
          rcases this with hg | ⟨ob, hg⟩
          · rw [g5 hg]; exact Mp.le_refl m
          · obtain ⟨L, hL', _⟩ := g6 ob hg; rw [hL']; exact Mp.upd_le (hpd ob hg).2
        have hdiff : ∀ b, b ≠ (H p).length → m' b = m b := by
          intro b hb
          have : g = [] ∨ ∃ ob, g = [ob] := by
            cases g with
            | nil => exact .inl rfl
            | cons x t => cases t with
              | nil => exact .inr ⟨x, rfl⟩
              | cons _ _ => simp at e2
          rcases this with hg | ⟨ob, hg⟩
          · rw [g5 hg]
          · obtain ⟨L, hL', _⟩ := g6 ob hg; rw [hL']; simp [Mp.upd, hb]
        refine hK q m' _ w' (adv_quiet hD I hp hlt hed hdN hle g2 g3 ?_ ?_)
        · have ev := I.evo
          have hb0 : h0.length ≤ (H p).length := by have := T.len hL (r := 0) (s := p) (by omega) (by omega); rw [T.h0] at this; exact this
          refine ⟨Mp.le_trans ev.mono hle, ev.len, fun b hb e => ?_, g4.os.trans ev.os, g4.out.trans ev.out, Nat.le_trans ev.size g4.size, fun r hr hn => ?_, fun b L e o => ?_⟩
          · obtain ⟨u1, u2⟩ := ev.un b hb e
            exact ⟨by rw [hdiff b (by omega)]; exact u1, u2⟩
          · rw [g4.old r (Nat.lt_of_lt_of_le hr ev.size)]; exact ev.frame r hr hn
          · by_cases hb : b = (H p).length
            · have : g = [] ∨ ∃ ob, g = [ob] := by
                cases g with
                | nil => exact .inl rfl
                | cons x t => cases t with
                  | nil => exact .inr ⟨x, rfl⟩
                  | cons _ _ => simp at e2
              rcases this with hg | ⟨ob, hg⟩
              · rw [g5 hg] at e; exact ev.own b L e o
              · obtain ⟨L', hL', hO⟩ := g6 ob hg
                subst hb
                rw [hL', Mp.upd_same] at e; cases e
                obtain ⟨x, x1, x2⟩ := o
                rw [(hpd ob hg).1] at x1; cases x1
                have := hO x2
                have := ev.size
                exact .inl (by omega)
            · rw [hdiff b hb] at e; exact ev.own b L e o
        · intro r hr hrp hrn ob hob
          have hpr := (I.pend r hr hrn ob hob).1
          have hgg : g = [] ∨ ∃ ob, g = [ob] := by
            cases g with
            | nil => exact .inl rfl
            | cons x t => cases t with
              | nil => exact .inr ⟨x, rfl⟩
              | cons _ _ => simp at e2
          rcases hgg with hg | ⟨ob', hg⟩
          · rw [g5 hg]; exact hpr
          · rw [hdiff]
            · exact hpr
            · have hq' := I.qle
              rcases Nat.lt_or_ge r p with h | h
              · have l1 := T.len hL (r := r + 1) (s := p) (by omega) (by omega)
                rw [hob] at l1; simp at l1; omega
              · have l1 := T.len hL (r := p + 1) (s := r) (by omega) (by omega)
                rw [e1, hg] at l1; simp at l1; omega
    · obtain rfl : p = q := by omega
      rw [hcop] at hev
      refine op_wp hG hC h1 hev hER I.sim ?_
      intro m' rv w' g1 g2 g3
      rw [hd]
      obtain ⟨q', I'⟩ := adv_heavy T hL hD I hp hed hdN g1 g2 g3
      exact hK q' m' _ w' I'

/-! ### all of them -/

def unl (n : Nat) (listed : Array Bool) : List Nat := (List.range n).filter fun i => !listed.getD i false

theorem filter_lt {α : Type} (p p' : α → Bool) : ∀ (l : List α), (∀ x ∈ l, p' x = true → p x = true) → (∃ x ∈ l, p x = true ∧ p' x = false) → (l.filter p').length < (l.filter p).length
  | [], _, h => by obtain ⟨x, hx, _⟩ := h; simp at hx
  | x :: l, h, hex => by
    have hle : ∀ l : List α, (∀ x ∈ l, p' x = true → p x = true) → (l.filter p').length ≤ (l.filter p).length := by
      intro l
      induction l with
      | nil => intro _; simp
      | cons y l ih =>
        intro hl
        have := ih fun z hz => hl z (List.mem_cons_of_mem _ hz)
        have hy := hl y (List.mem_cons_self ..)
        cases h1 : p' y <;> cases h2 : p y <;> simp [List.filter_cons, h1, h2] <;> first | omega | (simp [h1, h2] at hy)
    obtain ⟨y, hy, h1, h2⟩ := hex
    rcases List.mem_cons.1 hy with rfl | hy
    · have := hle l fun z hz => h z (List.mem_cons_of_mem _ hz)
      simp [List.filter_cons, h1, h2]; omega
    · have := filter_lt p p' l (fun z hz => h z (List.mem_cons_of_mem _ hz)) ⟨y, hy, h1, h2⟩
      have hx := h x (List.mem_cons_self ..)
      cases h3 : p' x <;> cases h4 : p x <;> simp [List.filter_cons, h3, h4] <;> first | omega | (simp [h3, h4] at hx)

theorem unl_set {n : Nat} {listed : Array Bool} (hl : listed.size = n) {i : Nat} (hi : i < n) (hon : listed.getD i false = false) : (unl n (listed.setIfInBounds i true)).length < (unl n listed).length := by
  refine filter_lt _ _ _ ?_ ⟨i, by simpa using hi, by simp [hon], ?_⟩
  · intro x hx h
    simp only [Array.getD_eq_getD_getElem?] at h ⊢
    by_cases hxi : x = i
    · subst hxi; rw [Array.getElem?_setIfInBounds_self_of_lt (by omega)] at h; simp at h
    · rw [Array.getElem?_setIfInBounds_ne (Ne.symm hxi)] at h; exact h
  · simp only [Array.getD_eq_getD_getElem?]
    rw [Array.getElem?_setIfInBounds_self_of_lt (by omega)]; rfl

theorem ready_mem {listed : Array Bool} (hl : listed.size = ops.size) {i : Nat} : i ∈ Region.ready .any ops listed ↔ i < ops.size ∧ listed.getD i false = false ∧ ∀ j ∈ edges ops i, listed.getD j false = true := by
  unfold Region.ready
  rw [List.mem_filter, List.mem_range]
  constructor
  · rintro ⟨h1, h2⟩
    rw [Bool.and_eq_true] at h2
    obtain ⟨h2, h3⟩ := h2
    have ho : ops[i]? = some ops[i] := Array.getElem?_eq_getElem h1
    refine ⟨h1, ?_, ?_⟩
    · simp only [Array.getD_eq_getD_getElem?] at h2 ⊢
      rw [Array.getElem?_eq_getElem (by omega)] at h2 ⊢
      simpa using h2
    · intro j hj
      simp only [edges, ho, List.mem_map, List.mem_filter] at hj
      obtain ⟨ed, ⟨he1, he2⟩, rfl⟩ := hj
      rw [ho] at h3
      simp only [Option.map_some, Option.getD_some, Array.all_eq_true_iff_forall_mem] at h3
      have := h3 ed (by simpa using he1)
      simpa [he2] using this
  · rintro ⟨h1, h2, h3⟩
    have ho : ops[i]? = some ops[i] := Array.getElem?_eq_getElem h1
    refine ⟨h1, ?_⟩
    rw [Bool.and_eq_true]
    refine ⟨?_, ?_⟩
    · simp only [Array.getD_eq_getD_getElem?] at h2 ⊢
      rw [Array.getElem?_eq_getElem (by omega)] at h2 ⊢
      simpa using h2
    · rw [ho]
      simp only [Option.map_some, Option.getD_some, Array.all_eq_true_iff_forall_mem]
      intro ed hed
      by_cases hb : Region.binds .any ed = true
      · have := h3 ed.on (by simp only [edges, ho, List.mem_map, List.mem_filter]; exact ⟨ed, ⟨by simpa using hed, hb⟩, rfl⟩)
        simp [this]
      · simp [hb]

theorem any_wp (T : Traj call l e0 h0 eF hF E H V) (hG : Good P G) (hC : CallOK P G call) (hL : CallLen call) (hD : Draw P G N ops l D) {Q : Exit → Act → World → Prop}
    (hQ : ∀ m' a' w', ER G m' N eF a' → a'.defers = a0.defers → Sim G m' hF w' → Evo m0 h0 w0 m' hF w' → Q .normal a' w') :
    ∀ (fuel : Nat) (listed : Array Bool) (q : Nat) (m : Mp) (a : Act) (w : World), DInv G N ops l D e0 h0 H V m0 a0 w0 listed q m a w → (unl ops.size listed).length ≤ fuel → wpAny P .any ops Q fuel listed a w := by
  have hlen := hD.len
  have hend : ∀ (listed : Array Bool) (q : Nat) (m : Mp) (a : Act) (w : World), DInv G N ops l D e0 h0 H V m0 a0 w0 listed q m a w → Region.ready .any ops listed = [] → Q .normal a w := by
    intro listed q m a w I hr
    have hall : ∀ p, p < ops.size → isOn D listed p := by
      intro p
      induction p using Nat.strongRecOn with
      | _ p ih =>
        intro hp
        cases hb : listed.getD (idx D p) false with
        | true => exact hb
        | false =>
          have : idx D p ∈ Region.ready .any ops listed := (ready_mem I.lsz).2 ⟨hD.lt p hp, hb, fun i hi => by
            obtain ⟨j, hj, rfl⟩ := hD.edge p hp i hi
            exact ih j hj (by omega)⟩
          rw [hr] at this; simp at this
    have hq : q = ops.size := by
      have h1 := I.qle
      rcases Nat.lt_or_ge q ops.size with h | h
      · have := I.below q h (hall q h); omega
      · omega
    subst hq
    have hE : E ops.size = eF := by rw [← hlen]; exact T.eF
    have hH : H ops.size = hF := by rw [← hlen]; exact T.hF
    refine hQ m a w ⟨I.asz, fun t v hv => I.slot t v ?_⟩ I.adef (hH ▸ I.sim) (hH ▸ I.evo)
    rw [← hE] at hv
    by_cases hex : ∃ r, r < ops.size ∧ (opAt l r).dst = some t
    · obtain ⟨r, hr1, hrd⟩ := hex
      rw [T.written hD hrd hr1 (by omega)] at hv
      exact .inl ⟨r, by omega, hrd, hall r hr1, by simpa using hv.symm⟩
    · rw [T.before (by omega) fun p' h1 h2 => hex ⟨p', h1, h2⟩] at hv
      exact .inr ⟨fun p' h1 h2 => absurd ⟨p', by omega, h2⟩ hex, hv⟩
  intro fuel
  induction fuel with
  | zero =>
    intro listed q m a w I hf
    have hr : Region.ready .any ops listed = [] := by
      apply List.eq_nil_iff_forall_not_mem.2
      intro i hi
      obtain ⟨h1, h2, _⟩ := (ready_mem I.lsz).1 hi
      have : i ∈ unl ops.size listed := by simp only [unl, List.mem_filter, List.mem_range]; exact ⟨h1, by rw [h2]; rfl⟩
      have hz : unl ops.size listed = [] := List.eq_nil_of_length_eq_zero (by omega)
      rw [hz] at this; simp at this
    exact ⟨hr, hend listed q m a w I hr⟩
  | succ fuel ih =>
    intro listed q m a w I hf
    refine ⟨hend listed q m a w I, fun i hi => ?_⟩
    obtain ⟨h1, h2, h3⟩ := (ready_mem I.lsz).1 hi
    obtain ⟨p, hp, rfl⟩ := hD.onto i h1
    refine step_any T hG hC hL hD I hp (by unfold isOn; rw [h2]; simp) h3 ?_
    intro q' m' a' w' I'
    have := unl_set I.lsz h1 h2
    exact ih _ q' m' a' w' I' (by omega)

/-- a region that draws its order -/
theorem draw_wp {id : Nat} (hmix : P.follows .mixedOrders = true) (hG : Good P G) (hC : CallOK P G call) (hL : CallLen call) (hM : drawM P G N ops l D = true) {e e' : Env} {h h' : Heap} {m : Mp} {a : Act} {w : World} {Q : Exit → Act → World → Prop}
    (hev : evOps call l l e h = some (e', h')) (he : ER G m N e a) (s : Sim G m h w)
    (hQ : ∀ m' a' w', ER G m' N e' a' → a'.defers = a.defers → Sim G m' h' w' → Evo m h w m' h' w' → Q .normal a' w') : (Code.region id ops true).wp P Q a w := by
  obtain ⟨E, H, V, T⟩ := traj hev
  have hD := drawM_spec hM
  have hlen := hD.len
  refine wp_region_any hmix ?_
  have hw : (fun (x : World) => x.heap = w.heap) { w with drawn := w.drawn + 1 } := rfl
  have s' : Sim G m h { w with drawn := w.drawn + 1 } := s.world fun b L _ _ => rfl
  have ev' : Evo m h w m h { w with drawn := w.drawn + 1 } := ⟨Mp.le_refl m, Nat.le_refl _, fun b _ e => ⟨e, rfl⟩, rfl, rfl, Nat.le_refl _, fun _ _ _ => rfl, fun b L e o => .inr ⟨b, L, e, o, rfl⟩⟩
  obtain ⟨q, a1, a2, a3, a4⟩ := nextHeavy l ops.size 0 (Nat.zero_le _)
  obtain ⟨g, hg⟩ := T.grow (r := 0) (s := q) (Nat.zero_le _) (by omega) a3
  rw [T.h0] at hg
  have hoff : ∀ p, ¬ isOn D (Array.replicate ops.size false) p := by
    intro p hp
    unfold isOn at hp
    simp only [Array.getD_eq_getD_getElem?, Array.getElem?_replicate] at hp
    split at hp <;> simp at hp
  refine any_wp T hG hC hL hD (m0 := m) (a0 := a) (w0 := w) hQ ops.size _ q m a _ ⟨by simp, a2, fun p _ hp => absurd hp (hoff p), fun p h1 h2 => ?_, a4, fun p _ hp => absurd hp (hoff p), he.size, rfl, fun d v hs => ?_, by rw [hg]; exact s'.more g, by rw [hg]; exact ev'.more s' g, fun p hp _ ob hob => ?_⟩ ?_
  · have := a3 p (Nat.zero_le _) h1; rw [h2] at this; cases this
  · rcases hs with ⟨p, _, _, hp, _⟩ | ⟨_, hv⟩
    · exact absurd hp (hoff p)
    · exact he.get d v hv
  · have hl := T.len hL (r := 0) (s := p) (Nat.zero_le _) (by omega)
    rw [T.h0] at hl
    refine ⟨?_, ?_⟩
    · cases hk : m (H p).length with
      | none => rfl
      | some L => exact absurd (s.dom _ _ hk) (by omega)
    · obtain ⟨g2, hg2⟩ := T.grow (r := p + 1) (s := q) (by omega) (by omega) fun x h1 h2 => a3 x (Nat.zero_le _) h2
      rw [hg2, hob, List.append_assoc, List.getElem?_append_right (Nat.le_refl _)]
      simp
  · unfold unl
    exact Nat.le_trans (List.length_filter_le _ _) (by simp)

end
end Go.Cl
