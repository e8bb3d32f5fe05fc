/-
  Layer 5: what ops stand for; alike.
-/
import Derived.Test.YtofpioacialnkaaClRep
import Derived.Test.YtofpioacialnkaaS
namespace Go.Cl
open Go
set_option linter.unusedSimpArgs false
set_option linter.unusedVariables false

variable {p : PP}

def Any : Nat → Prop := fun _ => True

structure Case where
  send : Bool
  chan : Int
  v : Int
  deriving DecidableEq, Inhabited

structure OpV where
  kind : Int
  n : Int
  v : Int
  wait : Int
  cases : List Case
  deriving DecidableEq, Inhabited

def caseC : Cod Case where
  n := 3
  rep _ _ c x := c = [.bool x.send, .int .i64 x.chan, .int .i64 x.v]
  len e := by subst e; rfl
  flat e := by subst e; rfl
  mono e _ := e
  keep e _ _ := e
  lt e := e

theorem Sl.scalar {α : Type} {e : Cod α} {h : Heap} {P : Nat → Prop} {v : CV} {l : List α} (s : Sl e h P v l) : v.scalar = true := let ⟨_, r, _⟩ := s; r.scalar

theorem Sl.cells {α : Type} {e : Cod α} {h : Heap} {P : Nat → Prop} {v : CV} {l : List α} (s : Sl e h P v l) : v.cells = [v] := by
  have := s.scalar
  cases v <;> first | rfl | simp [CV.scalar] at this

def opC : Cod OpV where
  n := 5
  rep h P c x := ∃ cv, c = [.int .i64 x.kind, .int .i64 x.n, .int .i64 x.v, .int .i64 x.wait, cv] ∧ Sl caseC h P cv x.cases
  len := by rintro h P c x ⟨cv, rfl, _⟩; rfl
  flat := by rintro h P c x ⟨cv, rfl, s⟩; simp only [List.all_cons, List.all_nil, s.scalar]; rfl
  mono := by rintro h P Q c x ⟨cv, rfl, s⟩ k; exact ⟨cv, rfl, s.mono k⟩
  keep := by rintro h h' P S c x ⟨cv, rfl, s⟩ k hS; exact ⟨cv, rfl, s.keep k hS⟩
  lt := by rintro h P c x ⟨cv, rfl, s⟩; exact ⟨cv, rfl, s.lt⟩

def EqInv (v0 v1 : CV) (α : Type) (a b : List α) (h : Heap) (m : Nat) (e : Env) (h' : Heap) : Prop :=
  ∃ i : Nat, i ≤ a.length ∧ m = a.length - i ∧ e = [(0, v0), (1, v1), (12, .int .i64 a.length), (13, .int .i64 i)] ∧ h' = h ∧ a.take i = b.take i

theorem eqStep {α : Type} {a b : List α} {i : Nat} (h : a.take i = b.take i) (ha : i < a.length) (hb : i < b.length) (he : a[i] = b[i]) : a.take (i + 1) = b.take (i + 1) := by
  rw [← List.take_append_getElem ha, ← List.take_append_getElem hb, h, he]

theorem eqDone {α : Type} {a b : List α} (h : a.take a.length = b.take a.length) (hl : a.length = b.length) : a = b := by
  rw [List.take_length, hl, List.take_length] at h; exact h

theorem eqCase {x y : Case} : eqv (.st [.b, .i, .i]) (.agg [.bool x.send, .int .i64 x.chan, .int .i64 x.v]) (.agg [.bool y.send, .int .i64 y.chan, .int .i64 y.v]) = some (decide (x = y)) := by
  obtain ⟨a, b, c⟩ := x
  obtain ⟨d, e, f⟩ := y
  simp only [eqv, List.length_cons, List.length_nil, and_self, if_true, eqCells, eqKind]
  by_cases h1 : a = d
  · by_cases h2 : b = e
    · by_cases h3 : c = f
      · simp [h1, h2, h3]
      · simp [h1, h2, h3, show (c == f) = false by simpa using h3]
    · simp [h1, h2, show (b == e) = false by simpa using h2]
  · simp [h1, show (a == d) = false by simpa using h1]

theorem casesEq_spec {h : Heap} {v0 v1 : CV} {a b : List Case} {P Q : Nat → Prop} (hp : p.Pg 66 = some S.f66) (hq : p.pr 66 = none) (s0 : Sl caseC h P v0 a) (s1 : Sl caseC h Q v1 b) (hb : a.length ≤ big) :
    WF p 66 [v0, v1] h fun r h' => r = .bool (decide (a = b)) ∧ h' = h := by
  refine WF_of hp hq ?_
  show W p S.b66 _ _ (retQ [.t 4] _)
  unfold S.b66
  have n0 := s0.len (by decide)
  have n1 := s1.len (by decide)
  by_cases hl : a.length = b.length
  · have hl' : (a.length : Int) = b.length := by omega
    simp [n0, n1, hl']
    rw [← hl']
    refine W_loop (EqInv v0 v1 Case a b h) ?_ a.length ⟨0, by omega, by omega, rfl, rfl, rfl⟩
    rintro m e h' ⟨i, hi, rfl, rfl, rfl, ht⟩
    by_cases hia : i = a.length
    · subst hia
      have := eqDone ht hl
      simp [this]
    · have hlt : i < a.length := by omega
      have hlt' : (i : Int) < a.length := by omega
      obtain ⟨b0, o0, row0, x1, x2, x3, x4⟩ := s0.row (k := .i64) (by decide) hlt
      obtain ⟨b1, o1, row1, y1, y2, y3, y4⟩ := s1.row (k := .i64) (by decide) (i := i) (by omega)
      simp only [caseC] at x1 x2 x4 y1 y2 y4
      subst x4 y4
      have hw : IntKind.i64.wrap ((i : Int) + 1) = ((i + 1 : Nat) : Int) := by
        simp [big] at hb
        rw [w64 (by omega) (by omega)]; omega
      have hlb : i < b.length := by omega
      by_cases he : a[i] = b[i]
      · simp [hlt', x1, x2, y1, y2, eqCase, he, hw]
        exact ⟨a.length - (i + 1), by omega, i + 1, by omega, rfl, rfl, rfl, eqStep ht hlt hlb he⟩
      · have hne : ¬ a = b := fun e => he (by subst e; rfl)
        simp [hlt', x1, x2, y1, y2, eqCase, he, hne]
  · have hl' : ¬ (a.length : Int) = b.length := by omega
    have hne : ¬ a = b := fun e => hl (by rw [e])
    simp [n0, n1, hl', hne]

theorem intsEq_spec {h : Heap} {v0 v1 : CV} {a b : List Int} {P Q : Nat → Prop} (hp : p.Pg 61 = some S.f61) (hq : p.pr 61 = none) (s0 : Sl (.int .i64) h P v0 a) (s1 : Sl (.int .i64) h Q v1 b) (hb : a.length ≤ big) :
    WF p 61 [v0, v1] h fun r h' => r = .bool (decide (a = b)) ∧ h' = h := by
  refine WF_of hp hq ?_
  show W p S.b61 _ _ (retQ [.t 4] _)
  unfold S.b61
  have n0 := s0.len (by decide)
  have n1 := s1.len (by decide)
  by_cases hl : a.length = b.length
  · have hl' : (a.length : Int) = b.length := by omega
    simp [n0, n1, hl']
    rw [← hl']
    refine W_loop (EqInv v0 v1 Int a b h) ?_ a.length ⟨0, by omega, by omega, rfl, rfl, rfl⟩
    rintro m e h' ⟨i, hi, rfl, rfl, rfl, ht⟩
    by_cases hia : i = a.length
    · subst hia
      have := eqDone ht hl
      simp [this]
    · have hlt : i < a.length := by omega
      have hlt' : (i : Int) < a.length := by omega
      obtain ⟨b0, o0, x1, x2, x3⟩ := readI_idx (k' := .i64) s0.ints hlt
      obtain ⟨b1, o1, y1, y2, y3⟩ := readI_idx (k' := .i64) s1.ints (i := i) (by omega)
      have hw : IntKind.i64.wrap ((i : Int) + 1) = ((i + 1 : Nat) : Int) := by
        simp [big] at hb
        rw [w64 (by omega) (by omega)]; omega
      have hlb : i < b.length := by omega
      by_cases he : a[i] = b[i]
      · simp [hlt', x1, x3, y1, y3, he, hw]
        exact ⟨a.length - (i + 1), by omega, i + 1, by omega, rfl, rfl, rfl, eqStep ht hlt hlb he⟩
      · have hne : ¬ a = b := fun e => he (by subst e; rfl)
        simp [hlt', x1, x3, y1, y3, he, hne]
  · have hl' : ¬ (a.length : Int) = b.length := by omega
    have hne : ¬ a = b := fun e => hl (by rw [e])
    simp [n0, n1, hl', hne]

theorem opSame_spec {h : Heap} {c d : List CV} {x y : OpV} {P Q : Nat → Prop} (hpg : p.Pg = S.pg) (q51 : p.pr 51 = none) (q66 : p.pr 66 = none) (r0 : opC.rep h P c x) (r1 : opC.rep h Q d y) (hb : x.cases.length ≤ big) :
    WF p 51 [.agg c, .agg d] h fun r h' => r = .bool (decide (x = y)) ∧ Keep NoneOf h h' := by
  obtain ⟨cv, rfl, s0⟩ := r0
  obtain ⟨dv, rfl, s1⟩ := r1
  obtain ⟨a1, a2, a3, a4, a5⟩ := x
  obtain ⟨b1, b2, b3, b4, b5⟩ := y
  simp only at s0 s1 hb
  refine WF_of (by rw [hpg]; exact S.pg51) q51 ?_
  show W p S.b51 _ _ (retQ [.t 4] _)
  unfold S.b51
  have kap : ∀ g, Keep NoneOf h (h ++ g) := fun g => Keep.app _ _ _
  by_cases h1 : a1 = b1
  · by_cases h2 : a2 = b2
    · by_cases h3 : a3 = b3
      · by_cases h4 : a4 = b4
        · simp [CV.cells, two0, two1, h1, h2, h3, h4]
          refine (casesEq_spec (by rw [hpg]; exact S.pg66) q66 (s0.on (kap _)) (s1.on (kap _)) hb).mono ?_
          rintro r h' ⟨rfl, rfl⟩
          simp
          exact kap _
        · simp [CV.cells, two0, two1, h1, h2, h3, h4]; exact kap _
      · simp [CV.cells, two0, two1, h1, h2, h3]; exact kap _
    · simp [CV.cells, two0, two1, h1, h2]; exact kap _
  · simp [CV.cells, two0, two1, h1]; exact kap _

end Go.Cl
