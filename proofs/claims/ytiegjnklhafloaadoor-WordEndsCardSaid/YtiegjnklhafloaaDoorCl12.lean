/-
  A region: its operations in the order of the text; or in whatever order the edges allow.
-/
import Derived.Test.YtiegjnklhafloaaDoorCl11
namespace Go.Cl
open Go
set_option linter.unusedSimpArgs false
set_option linter.unusedVariables false

/-! ### in the order of the text -/

def opsM (P : Program) (G : Gam) (N : Nat) (ops : Array Oper) : List Oper → List SOper → Bool
  | [], [] => true
  | o :: os, s :: ss => operM P G N ops o s && opsM P G N ops os ss
  | _, _ => false

section
variable {P : Program} {G : Gam} {N : Nat} {call : CallF}

theorem ops_wp {ops : Array Oper} (hG : Good P G) (hC : CallOK P G call) {Q : Exit → Act → World → Prop} :
    ∀ (os : List Oper) (l : List SOper) (i : Nat), ops.toList.drop i = os → opsM P G N ops os l = true →
    ∀ (m : Mp) (e : Env) (h : Heap) (a : Act) (w : World) (e' : Env) (h' : Heap) (all : List SOper), evOps call all l e h = some (e', h') → ER G m N e a → Sim G m h w →
      (∀ m' a' w', ER G m' N e' a' → a'.defers = a.defers → Sim G m' h' w' → Evo m h w m' h' w' → Q .normal a' w') →
      wpOps P ops Q (List.range' i os.length) a w
  | [], [], i, _, _, m, e, h, a, w, e', h', all, hev, he, s, hQ => by
    simp [evOps] at hev
    obtain ⟨rfl, rfl⟩ := hev
    exact hQ m a w he rfl s (Evo.refl ..)
  | [], _ :: _, _, _, hM, _, _, _, _, _, _, _, _, _, _, _, _ => by simp [opsM] at hM
  | _ :: _, [], _, _, hM, _, _, _, _, _, _, _, _, _, _, _, _ => by simp [opsM] at hM
  | o :: os, so :: l, i, hd, hM, m, e, h, a, w, e', h', all, hev, he, s, hQ => by
    simp only [opsM, Bool.and_eq_true] at hM
    simp only [evOps] at hev
    cases h1 : evOper call all so e h with
    | none => simp [h1] at hev
    | some p =>
      obtain ⟨e1, h1'⟩ := p
      simp [h1] at hev
      have hoi : ops[i]? = some o := by
        have := congrArg (·[0]?) hd
        simpa using this
      have hrest : ops.toList.drop (i + 1) = os := by rw [← List.drop_drop, hd]; rfl
      rw [List.length_cons, List.range'_succ, wpOps_cons]
      unfold wpOp
      rw [hoi]
      refine oper_wp hG hC hM.1 h1 he s ?_
      intro m1 a1 w1 g1 g2 g3 g4
      exact ops_wp hG hC os l (i + 1) hrest hM.2 m1 e1 h1' a1 w1 e' h' all hev g1 g3 fun m' a' w' k1 k2 k3 k4 => hQ m' a' w' k1 (k2.trans g2) k3 (g4.trans k4)

/-! ### in any order -/

/-- position p's edges, by the operations' own numbers -/
def edges (ops : Array Oper) (i : Nat) : List Nat :=
  match ops[i]? with
  | some o => (o.after.toList.filter (Region.binds .any ·)).map (·.on)
  | none => []

def dflt : SOper := { dst := none, op := .mkmap }

def opAt (l : List SOper) (p : Nat) : SOper := l.getD p dflt
def idx (D : List (Nat × List Nat)) (p : Nat) : Nat := (D.getD p (0, [])).1
def anc (D : List (Nat × List Nat)) (p : Nat) : List Nat := (D.getD p (0, [])).2

def uses (s : SOper) : List Nat := s.op.slots ++ gslots s.guard
def isHeavy (s : SOper) : Bool := cls s.op == 3

def drawM (P : Program) (G : Gam) (N : Nat) (ops : Array Oper) (l : List SOper) (D : List (Nat × List Nat)) : Bool :=
  let n := ops.size
  let R := List.range n
  l.length == n && D.length == n &&
  (R.all fun p => decide (idx D p < n) && (match ops[idx D p]? with | some o => operM P G N ops o (opAt l p) | none => false)) &&
  (R.all fun i => R.any fun p => idx D p == i) &&
  (R.all fun p => R.all fun q => p == q || idx D p != idx D q) &&
  (R.all fun p => ((edges ops (idx D p)).all fun i => (List.range p).any fun j => idx D j == i) &&
    (anc D p).all fun x => decide (x < p) && ((edges ops (idx D p)).any fun i => idx D x == i || (List.range p).any fun j => idx D j == i && (anc D j).contains x)) &&
  (R.all fun p => R.all fun q => p == q || (match (opAt l q).dst with
    | some d => (opAt l p).dst != some d && (!(uses (opAt l p)).contains d || (if q < p then (anc D p).contains q else (anc D q).contains p))
    | none => true)) &&
  (R.all fun p => !isHeavy (opAt l p) || R.all fun q => decide (q ≤ p) || (anc D q).contains p) &&
  (R.all fun p => cls (opAt l p).op != 1 || R.all fun q => decide (q ≤ p) || !isHeavy (opAt l q) || (anc D q).contains p ||
    ((opAt l p).dst.isSome && (opAt l q).re.contains p &&
      R.all fun r => decide (r < p) || decide (q < r) || (match (opAt l r).dst with | some d => !(uses (opAt l p)).contains d | none => true)))

/-- what the test says -/
structure Draw (P : Program) (G : Gam) (N : Nat) (ops : Array Oper) (l : List SOper) (D : List (Nat × List Nat)) : Prop where
  len : l.length = ops.size
  lt : ∀ p, p < ops.size → idx D p < ops.size
  match_ : ∀ p, p < ops.size → ∃ o, ops[idx D p]? = some o ∧ operM P G N ops o (opAt l p) = true
  onto : ∀ i, i < ops.size → ∃ p, p < ops.size ∧ idx D p = i
  inj : ∀ p q, p < ops.size → q < ops.size → idx D p = idx D q → p = q
  edge : ∀ p, p < ops.size → ∀ i ∈ edges ops (idx D p), ∃ j, j < p ∧ idx D j = i
  anc : ∀ p, p < ops.size → ∀ x ∈ Cl.anc D p, x < p ∧ ((idx D x ∈ edges ops (idx D p)) ∨ ∃ j, j < p ∧ idx D j ∈ edges ops (idx D p) ∧ x ∈ Cl.anc D j)
  dst : ∀ p q d, p < ops.size → q < ops.size → p ≠ q → (opAt l q).dst = some d → (opAt l p).dst ≠ some d
  use : ∀ p q d, p < ops.size → q < ops.size → p ≠ q → (opAt l q).dst = some d → d ∈ uses (opAt l p) → (q < p → q ∈ Cl.anc D p) ∧ (p < q → p ∈ Cl.anc D q)
  heavy : ∀ p q, p < ops.size → q < ops.size → isHeavy (opAt l p) = true → p < q → p ∈ Cl.anc D q
  read : ∀ p q, p < ops.size → q < ops.size → cls (opAt l p).op = 1 → p < q → isHeavy (opAt l q) = true → p ∉ Cl.anc D q →
    (∃ d, (opAt l p).dst = some d) ∧ p ∈ (opAt l q).re ∧ ∀ r d, r < ops.size → p ≤ r → r ≤ q → (opAt l r).dst = some d → d ∉ uses (opAt l p)

theorem drawM_spec {ops : Array Oper} {l : List SOper} {D : List (Nat × List Nat)} (h : drawM P G N ops l D = true) : Draw P G N ops l D := by
  simp only [drawM, Bool.and_eq_true, List.all_eq_true, List.mem_range, List.any_eq_true, Bool.or_eq_true, beq_iff_eq, decide_eq_true_eq, Bool.not_eq_true', bne_iff_ne, List.contains_iff_mem] at h
  obtain ⟨⟨⟨⟨⟨⟨⟨⟨h1, h2⟩, h3⟩, h4⟩, h5⟩, h6⟩, h7⟩, h8⟩, h9⟩ := h
  refine ⟨h1, fun p hp => (h3 p hp).1, fun p hp => ?_, fun i hi => ?_, fun p q hp hq he => ?_, fun p hp i hi => ?_, fun p hp x hx => ?_, fun p q d hp hq hne hd => ?_, fun p q d hp hq hne hd hu => ?_, fun p q hp hq hh hlt => ?_, fun p q hp hq hc hlt hh hna => ?_⟩
  · have := (h3 p hp).2
    cases ho : ops[idx D p]? with
    | none => simp [ho] at this
    | some o => simp [ho] at this; exact ⟨o, rfl, this⟩
  · obtain ⟨p, hp, e⟩ := h4 i hi; exact ⟨p, hp, e⟩
  · rcases h5 p hp q hq with h | h
    · exact h
    · exact absurd he h
  · obtain ⟨j, hj, e⟩ := (h6 p hp).1 i hi; exact ⟨j, hj, e⟩
  · obtain ⟨hx1, i, hi, hx2⟩ := (h6 p hp).2 x hx
    refine ⟨hx1, ?_⟩
    rcases hx2 with hx2 | ⟨j, hj, e, hx3⟩
    · exact .inl (hx2 ▸ hi)
    · exact .inr ⟨j, hj, e ▸ hi, hx3⟩
  · rcases h7 p hp q hq with h | h
    · exact absurd h hne
    · rw [hd] at h
      simp only [Bool.and_eq_true, bne_iff_ne] at h
      exact h.1
  · rcases h7 p hp q hq with h | h
    · exact absurd h hne
    · rw [hd] at h
      simp only [Bool.and_eq_true, Bool.or_eq_true, bne_iff_ne, Bool.not_eq_true'] at h
      rcases h.2 with h | h
      · rw [← Bool.not_eq_true, List.contains_iff_mem] at h; exact absurd hu h
      · constructor
        · intro hlt; rw [if_pos hlt] at h; simpa using h
        · intro hlt; rw [if_neg (by omega)] at h; simpa using h
  · rcases h8 p hp with h | h
    · rw [hh] at h; cases h
    · rcases h q hq with h | h
      · omega
      · exact h
  · rcases h9 p hp with h | h
    · exact absurd hc h
    · rcases h q hq with ((h | h) | h) | h
      · omega
      · rw [hh] at h; cases h
      · exact absurd h hna
      · refine ⟨Option.isSome_iff_exists.1 h.1.1, h.1.2, fun r d hr h1 h2 hd => ?_⟩
        rcases h.2 r hr with (h | h) | h
        · omega
        · omega
        · rw [hd] at h
          simp only at h
          intro hm
          rw [Bool.not_eq_true', ← Bool.not_eq_true, List.contains_iff_mem] at h
          exact h hm

end
end Go.Cl
