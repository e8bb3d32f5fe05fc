/-
  Layer 5: the document's ops are alike; ops turned from one into the other; programs alike.
-/
import Derived.Test.YtofpioacialnkaaAOp
namespace Go.Cl
open Go
set_option linter.unusedSimpArgs false
set_option linter.unusedVariables false

variable {p : PP}

def EqInvR (a b : List Case) (h : Heap) (m : Nat) (e : Env) (h' : Heap) : Prop :=
  ∃ i : Nat, i ≤ a.length ∧ m = a.length - i ∧ e = [(2, .ptr h.length 0), (3, .ptr (h.length + 1) 0), (5, .int .i64 i)] ∧ ∃ c d, h' = h ++ [.arr c .tight, .arr d .tight] ∧ a.take i = b.take i

theorem refSameOp_spec {h : Heap} {c d : List CV} {x y : OpV} {P Q : Nat → Prop} (hpg : p.Pg = S.pg) (q33 : p.pr 33 = none) (r0 : opC.rep h P c x) (r1 : opC.rep h Q d y) (hb : x.cases.length ≤ big) :
    WF p 33 [.agg c, .agg d] h fun r h' => r = .bool (decide (x = y)) ∧ Keep NoneOf h h' := by
  obtain ⟨cv, rfl, s0⟩ := r0
  obtain ⟨dv, rfl, s1⟩ := r1
  obtain ⟨a1, a2, a3, a4, a5⟩ := x
  obtain ⟨b1, b2, b3, b4, b5⟩ := y
  simp only at s0 s1 hb
  refine WF_of (by rw [hpg]; exact S.pg33) q33 ?_
  show W p S.b33 _ _ (retQ [.t 4] _)
  unfold S.b33
  have kap : ∀ g, Keep NoneOf h (h ++ g) := fun g => Keep.app _ _ _
  have n0 := (s0.on (kap [.arr [.int .i64 a1, .int .i64 a2, .int .i64 a3, .int .i64 a4, cv] .tight, .arr [.int .i64 b1, .int .i64 b2, .int .i64 b3, .int .i64 b4, dv] .tight])).len (by decide)
  have n1 := (s1.on (kap [.arr [.int .i64 a1, .int .i64 a2, .int .i64 a3, .int .i64 a4, cv] .tight, .arr [.int .i64 b1, .int .i64 b2, .int .i64 b3, .int .i64 b4, dv] .tight])).len (by decide)
  by_cases h1 : a1 = b1
  · by_cases h2 : a2 = b2
    · by_cases h3 : a3 = b3
      · by_cases h4 : a4 = b4
        · subst h1 h2 h3 h4
          by_cases hl : (a5.length : Int) = b5.length
          · have hl2 : a5.length = b5.length := by omega
            have t0 := s0.on (kap [.arr [.int .i64 a1, .int .i64 a2, .int .i64 a3, .int .i64 a4, cv] .tight, .arr [.int .i64 a1, .int .i64 a2, .int .i64 a3, .int .i64 a4, dv] .tight])
            have t1 := s1.on (kap [.arr [.int .i64 a1, .int .i64 a2, .int .i64 a3, .int .i64 a4, cv] .tight, .arr [.int .i64 a1, .int .i64 a2, .int .i64 a3, .int .i64 a4, dv] .tight])
            simp [CV.cells, two0, two1, n0, n1, hl, hl2]
            refine W_loop (fun m e h' => ∃ i : Nat, i ≤ a5.length ∧ m = a5.length - i ∧ e = [(2, .ptr h.length 0), (3, .ptr (h.length + 1) 0), (5, .int .i64 i)] ∧ h' = h ++ [.arr [.int .i64 a1, .int .i64 a2, .int .i64 a3, .int .i64 a4, cv] .tight, .arr [.int .i64 a1, .int .i64 a2, .int .i64 a3, .int .i64 a4, dv] .tight] ∧ a5.take i = b5.take i) ?_ a5.length ⟨0, by omega, by omega, rfl, rfl, rfl⟩
            rintro m e h' ⟨i, hi, rfl, rfl, rfl, ht⟩
            by_cases hia : i = a5.length
            · subst hia
              have := eqDone ht hl2
              simp [two0, two1, n0, this]
              exact kap _
            · have hlt : i < a5.length := by omega
              have hlt' : (i : Int) < a5.length := by omega
              obtain ⟨b0, o0, row0, x1, x2, x3, x4⟩ := t0.row (k := .i64) (by decide) hlt
              obtain ⟨b1, o1, row1, y1, y2, y3, y4⟩ := t1.row (k := .i64) (by decide) (i := i) (by omega)
              simp only [caseC] at x1 x2 x4 y1 y2 y4
              subst x4 y4
              have hw : IntKind.i64.wrap ((i : Int) + 1) = ((i + 1 : Nat) : Int) := by
                simp [big] at hb
                rw [w64 (by omega) (by omega)]; omega
              have hlb : i < b5.length := by omega
              by_cases he : a5[i] = b5[i]
              · simp [two0, two1, n0, hlt, hlt', hl, hl2, hlb, x1, x2, y1, y2, eqCase, he, hw]
                exact ⟨b5.length - (i + 1), by omega, i + 1, by omega, rfl, by omega, eqStep ht hlt hlb he⟩
              · have hne : ¬ a5 = b5 := fun e => he (by subst e; rfl)
                simp [two0, two1, n0, hlt, hlt', hl, hl2, hlb, x1, x2, y1, y2, eqCase, he, hne]
                exact kap _
          · have hne : ¬ a5 = b5 := fun e => hl (by rw [e])
            have hl2 : ¬ a5.length = b5.length := by omega
            simp [CV.cells, two0, two1, n0, n1, hl, hl2, hne]
            exact kap _
        · simp [CV.cells, two0, two1, h1, h2, h3, h4]; exact kap _
      · simp [CV.cells, two0, two1, h1, h2, h3]; exact kap _
    · simp [CV.cells, two0, two1, h1, h2]; exact kap _
  · simp [CV.cells, two0, two1, h1]; exact kap _

/-- two slices looked through side by side -/
def EqInv3 (v0 v1 : CV) (α : Type) (a b : List α) (h : Heap) (m : Nat) (e : Env) (h' : Heap) : Prop :=
  ∃ i : Nat, i ≤ a.length ∧ m = a.length - i ∧ e = [(0, v0), (1, v1), (5, .int .i64 i)] ∧ Keep NoneOf h h' ∧ a.take i = b.take i

theorem refSameProg_spec {h : Heap} {v0 v1 : CV} {a b : List OpV} {P Q : Nat → Prop} (hpg : p.Pg = S.pg) (q63 : p.pr 63 = none) (q33 : p.pr 33 = none) (s0 : Sl opC h P v0 a) (s1 : Sl opC h Q v1 b) (hb : a.length ≤ big) (hc : ∀ x ∈ a, x.cases.length ≤ big) :
    WF p 63 [v0, v1] h fun r h' => r = .bool (decide (a = b)) ∧ Keep NoneOf h h' := by
  refine WF_of (by rw [hpg]; exact S.pg63) q63 ?_
  show W p S.b63 _ _ (retQ [.t 4] _)
  unfold S.b63
  have n0 := s0.len (by decide)
  have n1 := s1.len (by decide)
  by_cases hl : a.length = b.length
  · have hl' : (a.length : Int) = b.length := by omega
    simp [n0, n1, hl']
    refine W_loop (EqInv3 v0 v1 OpV a b h) ?_ a.length ⟨0, by omega, by omega, rfl, Keep.refl _ _, rfl⟩
    rintro m e h' ⟨i, hi, rfl, rfl, k, ht⟩
    have t0 := s0.on k
    have t1 := s1.on k
    have n0 := t0.len (by decide)
    by_cases hia : i = a.length
    · subst hia
      have := eqDone ht hl
      simp [n0, this]
      exact k
    · have hlt : i < a.length := by omega
      have hlt' : (i : Int) < a.length := by omega
      have hlb : i < b.length := by omega
      obtain ⟨b0, o0, row0, x1, x2, x3, x4⟩ := t0.row (k := .i64) (by decide) hlt
      obtain ⟨b1, o1, row1, y1, y2, y3, y4⟩ := t1.row (k := .i64) (by decide) hlb
      simp only [opC] at x1 x2 y1 y2
      have hw : IntKind.i64.wrap ((i : Int) + 1) = ((i + 1 : Nat) : Int) := by
        simp [big] at hb
        rw [w64 (by omega) (by omega)]; omega
      simp [n0, hlt', x1, x2, y1, y2]
      refine (refSameOp_spec hpg q33 x4 y4 (hc _ (List.getElem_mem hlt))).mono ?_
      rintro r h2 ⟨rfl, k2⟩
      by_cases he : a[i] = b[i]
      · simp [he, hw]
        exact ⟨a.length - (i + 1), by omega, i + 1, by omega, rfl, rfl, k.trans k2, eqStep ht hlt hlb he⟩
      · have hne : ¬ a = b := fun e => he (by subst e; rfl)
        simp [he, hne]
        exact k.trans k2
  · have hl' : ¬ (a.length : Int) = b.length := by omega
    have hne : ¬ a = b := fun e => hl (by rw [e])
    simp [n0, n1, hl', hne]
    exact Keep.refl _ _

def EqInv4 (v1 : CV) (v0 : CV) (a b : List OpV) (h : Heap) (m : Nat) (e : Env) (h' : Heap) : Prop :=
  ∃ i : Nat, i ≤ a.length ∧ m = a.length - i ∧ e = [(1, v1), (2, .fn 51 []), (15, v0), (16, .int .i64 a.length), (17, .int .i64 i)] ∧ Keep NoneOf h h' ∧ a.take i = b.take i

theorem opsEq_spec {h : Heap} {v0 v1 : CV} {a b : List OpV} {P Q : Nat → Prop} (hpg : p.Pg = S.pg) (q62 : p.pr 62 = none) (q51 : p.pr 51 = none) (q66 : p.pr 66 = none) (s0 : Sl opC h P v0 a) (s1 : Sl opC h Q v1 b) (hb : a.length ≤ big) (hc : ∀ x ∈ a, x.cases.length ≤ big) :
    WF p 62 [v0, v1, .fn 51 []] h fun r h' => r = .bool (decide (a = b)) ∧ Keep NoneOf h h' := by
  refine WF_of (by rw [hpg]; exact S.pg62) q62 ?_
  show W p S.b62 _ _ (retQ [.t 6] _)
  unfold S.b62
  have n0 := s0.len (by decide)
  have n1 := s1.len (by decide)
  by_cases hl : a.length = b.length
  · have hl' : (a.length : Int) = b.length := by omega
    simp [n0, n1, hl']
    rw [← hl']
    refine W_loop (EqInv4 v1 v0 a b h) ?_ a.length ⟨0, by omega, by omega, rfl, Keep.refl _ _, rfl⟩
    rintro m e h' ⟨i, hi, rfl, rfl, k, ht⟩
    have t0 := s0.on k
    have t1 := s1.on k
    by_cases hia : i = a.length
    · subst hia
      have := eqDone ht hl
      simp [this]
      exact k
    · have hlt : i < a.length := by omega
      have hlt' : (i : Int) < a.length := by omega
      have hlb : i < b.length := by omega
      obtain ⟨b0, o0, row0, x1, x2, x3, x4⟩ := t0.row (k := .i64) (by decide) hlt
      simp only [opC] at x1 x2
      have hw : IntKind.i64.wrap ((i : Int) + 1) = ((i + 1 : Nat) : Int) := by
        simp [big] at hb
        rw [w64 (by omega) (by omega)]; omega
      have c0 := opC.len x4
      have f0 := opC.flat x4
      simp only [opC] at c0
      have st0 := store_new (h := h') (z := [.int .i64 0, .int .i64 0, .int .i64 0, .int .i64 0, .nils]) (row := row0) (by simpa using c0) f0
      have kap : ∀ g, Keep NoneOf h' (h' ++ g) := fun g => Keep.app _ _ _
      obtain ⟨b1, o1, row1, y1, y2, y3, y4⟩ := (t1.on (kap [.arr row0 .tight])).row (k := .i64) (by decide) hlb
      have c1 := opC.len y4
      have f1 := opC.flat y4
      simp only [opC] at y1 y2 c1
      have st1 := store_new2 (h := h') (o := .arr row0 .tight) (z := [.int .i64 0, .int .i64 0, .int .i64 0, .int .i64 0, .nils]) (row := row1) (by simpa using c1) f1
      simp [hlt', x1, x2, CV.cells, fits, c0, st0, y1, y2, c1, st1, two0n, two1n]
      refine (opSame_spec hpg q51 q66 (opC.on x4 (kap _)) (opC.on y4 (h' := h' ++ [.arr row0 .tight, .arr row1 .tight]) (by have := Keep.app NoneOf (h' ++ [.arr row0 .tight]) [.arr row1 .tight]; simpa using this)) (hc _ (List.getElem_mem hlt))).mono ?_
      rintro r h2 ⟨rfl, k2⟩
      have k3 := k.trans ((kap _).trans k2)
      by_cases he : a[i] = b[i]
      · simp [he, hw]
        exact ⟨a.length - (i + 1), by omega, i + 1, by omega, rfl, rfl, k3, eqStep ht hlt hlb he⟩
      · have hne : ¬ a = b := fun e => he (by subst e; rfl)
        simp [he, hne]
        exact k3
  · have hl' : ¬ (a.length : Int) = b.length := by omega
    have hne : ¬ a = b := fun e => hl (by rw [e])
    simp [n0, n1, hl', hne]
    exact Keep.refl _ _

end Go.Cl
