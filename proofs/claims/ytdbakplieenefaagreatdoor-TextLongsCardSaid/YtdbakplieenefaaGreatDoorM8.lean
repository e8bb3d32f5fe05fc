/-
  Texts laid together: AOp AOpR AOpO AOpK AOpU AOpT AOpV ATell.
-/
import Derived.Test.YtdbakplieenefaaGreatDoorM4
import Derived.Test.YtdbakplieenefaaGreatDoorM5
import Derived.Test.YtdbakplieenefaaGreatDoorS
import Derived.Test.YtdbakplieenefaaGreatDoorM7
namespace Go.Cl
open Go
set_option linter.unusedSimpArgs false
set_option linter.unusedVariables false
variable {p : PP}
def caseC : Cod Case where
 n := 3
 rep _ _ c x := c = [.bool x.send, .int .i64 x.chan, .int .i64 x.v]
 len e := by subst e; rfl
 flat e := by subst e; rfl
 mono e _ := e
 keep e _ _ := e
 lt e := e
def opC : Cod OpV where
 n := 5
 rep h P c x := ∃ cv, c = [.int .i64 x.kind, .int .i64 x.n, .int .i64 x.v, .int .i64 x.wait, cv] ∧ Sl caseC h P cv x.cases
 len := by rintro h P c x ⟨cv, rfl, _⟩; rfl
 flat := by rintro h P c x ⟨cv, rfl, s⟩; simp only [List.all_cons, List.all_nil, s.scalar]; rfl
 mono := by rintro h P Q c x ⟨cv, rfl, s⟩ k; exact ⟨cv, rfl, s.mono k⟩
 keep := by rintro h h' P S c x ⟨cv, rfl, s⟩ k hS; exact ⟨cv, rfl, s.keep k hS⟩
 lt := by rintro h P c x ⟨cv, rfl, s⟩; exact ⟨cv, rfl, s.lt⟩
def EqInv (v0 v1 : CV) (α : Type) (a b : List α) (h : Heap) (m : Nat) (e : Env) (h' : Heap) : Prop :=
 ∃ i : Nat, i ≤ a.length ∧ m = a.length - i ∧ e = [(0, v0), (1, v1), (12, .int .i64 a.length), (13, .int .i64 i)] ∧ h' = h ∧ a.take i = b.take i
theorem eqStep {α : Type} {a b : List α} {i : Nat} (h : a.take i = b.take i) (ha : i < a.length) (hb : i < b.length) (he : a[i] = b[i]) : a.take (i + 1) = b.take (i + 1) := by
 rw [← List.take_append_getElem ha, ← List.take_append_getElem hb, h, he]
theorem eqDone {α : Type} {a b : List α} (h : a.take a.length = b.take a.length) (hl : a.length = b.length) : a = b := by
 rw [List.take_length, hl, List.take_length] at h; exact h
theorem eqCase {x y : Case} : eqv (.st [.b, .i, .i]) (.agg [.bool x.send, .int .i64 x.chan, .int .i64 x.v]) (.agg [.bool y.send, .int .i64 y.chan, .int .i64 y.v]) = some (decide (x = y)) := by
 obtain ⟨a, b, c⟩ := x
 obtain ⟨d, e, f⟩ := y
 simp only [eqv, List.length_cons, List.length_nil, and_self, if_true, eqCells, eqKind]
 by_cases h1 : a = d
 ·by_cases h2 : b = e
  ·by_cases h3 : c = f
   ·simp [h1, h2, h3]
   ·simp [h1, h2, h3, show (c == f) = false by simpa using h3]
  ·simp [h1, h2, show (b == e) = false by simpa using h2]
 ·simp [h1, show (a == d) = false by simpa using h1]
theorem casesEq_spec {h : Heap} {v0 v1 : CV} {a b : List Case} {P Q : Nat → Prop} (hp : p.Pg 66 = some S.f66) (hq : p.pr 66 = none) (s0 : Sl caseC h P v0 a) (s1 : Sl caseC h Q v1 b) (hb : a.length ≤ big) :
  WF p 66 [v0, v1] h fun r h' => r = .bool (decide (a = b)) ∧ h' = h := by
 refine WF_of hp hq ?_
 show W p S.b66 _ _ (retQ [.t 4] _)
 unfold S.b66
 have n0 := s0.len (by decide)
 have n1 := s1.len (by decide)
 by_cases hl : a.length = b.length
 ·have hl' : (a.length : Int) = b.length := by omega
  simp [n0, n1, hl']
  rw [← hl']
  refine W_loop (EqInv v0 v1 Case a b h) ?_ a.length ⟨0, by omega, by omega, rfl, rfl, rfl⟩
  rintro m e h' ⟨i, hi, rfl, rfl, rfl, ht⟩
  by_cases hia : i = a.length
  ·subst hia
   have := eqDone ht hl
   simp [this]
  ·have hlt : i < a.length := by omega
   have hlt' : (i : Int) < a.length := by omega
   obtain ⟨b0, o0, row0, x1, x2, x3, x4⟩ := s0.row (k := .i64) (by decide) hlt
   obtain ⟨b1, o1, row1, y1, y2, y3, y4⟩ := s1.row (k := .i64) (by decide) (i := i) (by omega)
   simp only [caseC] at x1 x2 x4 y1 y2 y4
   subst x4 y4
   have hw : IntKind.i64.wrap ((i : Int) + 1) = ((i + 1 : Nat) : Int) := by
    simp [big] at hb
    rw [w64 (by omega) (by omega)]; omega
   have hlb : i < b.length := by omega
   by_cases he : a[i] = b[i]
   ·simp [hlt', x1, x2, y1, y2, eqCase, he, hw]
    exact ⟨a.length - (i + 1), by omega, i + 1, by omega, rfl, rfl, rfl, eqStep ht hlt hlb he⟩
   ·have hne : ¬ a = b := fun e => he (by subst e; rfl)
    simp [hlt', x1, x2, y1, y2, eqCase, he, hne]
 ·have hl' : ¬ (a.length : Int) = b.length := by omega
  have hne : ¬ a = b := fun e => hl (by rw [e])
  simp [n0, n1, hl', hne]
theorem intsEq_spec {h : Heap} {v0 v1 : CV} {a b : List Int} {P Q : Nat → Prop} (hp : p.Pg 61 = some S.f61) (hq : p.pr 61 = none) (s0 : Sl (.int .i64) h P v0 a) (s1 : Sl (.int .i64) h Q v1 b) (hb : a.length ≤ big) :
  WF p 61 [v0, v1] h fun r h' => r = .bool (decide (a = b)) ∧ h' = h := by
 refine WF_of hp hq ?_
 show W p S.b61 _ _ (retQ [.t 4] _)
 unfold S.b61
 have n0 := s0.len (by decide)
 have n1 := s1.len (by decide)
 by_cases hl : a.length = b.length
 ·have hl' : (a.length : Int) = b.length := by omega
  simp [n0, n1, hl']
  rw [← hl']
  refine W_loop (EqInv v0 v1 Int a b h) ?_ a.length ⟨0, by omega, by omega, rfl, rfl, rfl⟩
  rintro m e h' ⟨i, hi, rfl, rfl, rfl, ht⟩
  by_cases hia : i = a.length
  ·subst hia
   have := eqDone ht hl
   simp [this]
  ·have hlt : i < a.length := by omega
   have hlt' : (i : Int) < a.length := by omega
   obtain ⟨b0, o0, x1, x2, x3⟩ := readI_idx (k' := .i64) s0.ints hlt
   obtain ⟨b1, o1, y1, y2, y3⟩ := readI_idx (k' := .i64) s1.ints (i := i) (by omega)
   have hw : IntKind.i64.wrap ((i : Int) + 1) = ((i + 1 : Nat) : Int) := by
    simp [big] at hb
    rw [w64 (by omega) (by omega)]; omega
   have hlb : i < b.length := by omega
   by_cases he : a[i] = b[i]
   ·simp [hlt', x1, x3, y1, y3, he, hw]
    exact ⟨a.length - (i + 1), by omega, i + 1, by omega, rfl, rfl, rfl, eqStep ht hlt hlb he⟩
   ·have hne : ¬ a = b := fun e => he (by subst e; rfl)
    simp [hlt', x1, x3, y1, y3, he, hne]
 ·have hl' : ¬ (a.length : Int) = b.length := by omega
  have hne : ¬ a = b := fun e => hl (by rw [e])
  simp [n0, n1, hl', hne]
theorem opSame_spec {h : Heap} {c d : List CV} {x y : OpV} {P Q : Nat → Prop} (hpg : p.Pg = S.pg) (q51 : p.pr 51 = none) (q66 : p.pr 66 = none) (r0 : opC.rep h P c x) (r1 : opC.rep h Q d y) (hb : x.cases.length ≤ big) :
  WF p 51 [.agg c, .agg d] h fun r h' => r = .bool (decide (x = y)) ∧ Keep NoneOf h h' := by
 obtain ⟨cv, rfl, s0⟩ := r0
 obtain ⟨dv, rfl, s1⟩ := r1
 obtain ⟨a1, a2, a3, a4, a5⟩ := x
 obtain ⟨b1, b2, b3, b4, b5⟩ := y
 simp only at s0 s1 hb
 refine WF_of (by rw [hpg]; exact S.pg51) q51 ?_
 show W p S.b51 _ _ (retQ [.t 4] _)
 unfold S.b51
 have kap : ∀ g, Keep NoneOf h (h ++ g) := fun g => Keep.app _ _ _
 by_cases h1 : a1 = b1
 ·by_cases h2 : a2 = b2
  ·by_cases h3 : a3 = b3
   ·by_cases h4 : a4 = b4
    ·simp [CV.cells, two0, two1, h1, h2, h3, h4]
     refine (casesEq_spec (by rw [hpg]; exact S.pg66) q66 (s0.on (kap _)) (s1.on (kap _)) hb).mono ?_
     rintro r h' ⟨rfl, rfl⟩
     simp
     exact kap _
    ·simp [CV.cells, two0, two1, h1, h2, h3, h4]; exact kap _
   ·simp [CV.cells, two0, two1, h1, h2, h3]; exact kap _
  ·simp [CV.cells, two0, two1, h1, h2]; exact kap _
 ·simp [CV.cells, two0, two1, h1]; exact kap _
theorem refSameOp_spec {h : Heap} {c d : List CV} {x y : OpV} {P Q : Nat → Prop} (hpg : p.Pg = S.pg) (q33 : p.pr 33 = none) (r0 : opC.rep h P c x) (r1 : opC.rep h Q d y) (hb : x.cases.length ≤ big) :
  WF p 33 [.agg c, .agg d] h fun r h' => r = .bool (decide (x = y)) ∧ Keep NoneOf h h' := by
 obtain ⟨cv, rfl, s0⟩ := r0
 obtain ⟨dv, rfl, s1⟩ := r1
 obtain ⟨a1, a2, a3, a4, a5⟩ := x
 obtain ⟨b1, b2, b3, b4, b5⟩ := y
 simp only at s0 s1 hb
 refine WF_of (by rw [hpg]; exact S.pg33) q33 ?_
 show W p S.b33 _ _ (retQ [.t 4] _)
 unfold S.b33
 have kap : ∀ g, Keep NoneOf h (h ++ g) := fun g => Keep.app _ _ _
 have n0 := (s0.on (kap [.arr [.int .i64 a1, .int .i64 a2, .int .i64 a3, .int .i64 a4, cv] .tight, .arr [.int .i64 b1, .int .i64 b2, .int .i64 b3, .int .i64 b4, dv] .tight])).len (by decide)
 have n1 := (s1.on (kap [.arr [.int .i64 a1, .int .i64 a2, .int .i64 a3, .int .i64 a4, cv] .tight, .arr [.int .i64 b1, .int .i64 b2, .int .i64 b3, .int .i64 b4, dv] .tight])).len (by decide)
 by_cases h1 : a1 = b1
 ·by_cases h2 : a2 = b2
  ·by_cases h3 : a3 = b3
   ·by_cases h4 : a4 = b4
    ·subst h1 h2 h3 h4
     by_cases hl : (a5.length : Int) = b5.length
     ·have hl2 : a5.length = b5.length := by omega
      have t0 := s0.on (kap [.arr [.int .i64 a1, .int .i64 a2, .int .i64 a3, .int .i64 a4, cv] .tight, .arr [.int .i64 a1, .int .i64 a2, .int .i64 a3, .int .i64 a4, dv] .tight])
      have t1 := s1.on (kap [.arr [.int .i64 a1, .int .i64 a2, .int .i64 a3, .int .i64 a4, cv] .tight, .arr [.int .i64 a1, .int .i64 a2, .int .i64 a3, .int .i64 a4, dv] .tight])
      simp [CV.cells, two0, two1, n0, n1, hl, hl2]
      refine W_loop (fun m e h' => ∃ i : Nat, i ≤ a5.length ∧ m = a5.length - i ∧ e = [(2, .ptr h.length 0), (3, .ptr (h.length + 1) 0), (5, .int .i64 i)] ∧ h' = h ++ [.arr [.int .i64 a1, .int .i64 a2, .int .i64 a3, .int .i64 a4, cv] .tight, .arr [.int .i64 a1, .int .i64 a2, .int .i64 a3, .int .i64 a4, dv] .tight] ∧ a5.take i = b5.take i) ?_ a5.length ⟨0, by omega, by omega, rfl, rfl, rfl⟩
      rintro m e h' ⟨i, hi, rfl, rfl, rfl, ht⟩
      by_cases hia : i = a5.length
      ·subst hia
       have := eqDone ht hl2
       simp [two0, two1, n0, this]
       exact kap _
      ·have hlt : i < a5.length := by omega
       have hlt' : (i : Int) < a5.length := by omega
       obtain ⟨b0, o0, row0, x1, x2, x3, x4⟩ := t0.row (k := .i64) (by decide) hlt
       obtain ⟨b1, o1, row1, y1, y2, y3, y4⟩ := t1.row (k := .i64) (by decide) (i := i) (by omega)
       simp only [caseC] at x1 x2 x4 y1 y2 y4
       subst x4 y4
       have hw : IntKind.i64.wrap ((i : Int) + 1) = ((i + 1 : Nat) : Int) := by
        simp [big] at hb
        rw [w64 (by omega) (by omega)]; omega
       have hlb : i < b5.length := by omega
       by_cases he : a5[i] = b5[i]
       ·simp [two0, two1, n0, hlt, hlt', hl, hl2, hlb, x1, x2, y1, y2, eqCase, he, hw]
        exact ⟨b5.length - (i + 1), by omega, i + 1, by omega, rfl, by omega, eqStep ht hlt hlb he⟩
       ·have hne : ¬ a5 = b5 := fun e => he (by subst e; rfl)
        simp [two0, two1, n0, hlt, hlt', hl, hl2, hlb, x1, x2, y1, y2, eqCase, he, hne]
        exact kap _
     ·have hne : ¬ a5 = b5 := fun e => hl (by rw [e])
      have hl2 : ¬ a5.length = b5.length := by omega
      simp [CV.cells, two0, two1, n0, n1, hl, hl2, hne]
      exact kap _
    ·simp [CV.cells, two0, two1, h1, h2, h3, h4]; exact kap _
   ·simp [CV.cells, two0, two1, h1, h2, h3]; exact kap _
  ·simp [CV.cells, two0, two1, h1, h2]; exact kap _
 ·simp [CV.cells, two0, two1, h1]; exact kap _
def EqInv3 (v0 v1 : CV) (α : Type) (a b : List α) (h : Heap) (m : Nat) (e : Env) (h' : Heap) : Prop :=
 ∃ i : Nat, i ≤ a.length ∧ m = a.length - i ∧ e = [(0, v0), (1, v1), (5, .int .i64 i)] ∧ Keep NoneOf h h' ∧ a.take i = b.take i
theorem refSameProg_spec {h : Heap} {v0 v1 : CV} {a b : List OpV} {P Q : Nat → Prop} (hpg : p.Pg = S.pg) (q63 : p.pr 63 = none) (q33 : p.pr 33 = none) (s0 : Sl opC h P v0 a) (s1 : Sl opC h Q v1 b) (hb : a.length ≤ big) (hc : ∀ x ∈ a, x.cases.length ≤ big) :
  WF p 63 [v0, v1] h fun r h' => r = .bool (decide (a = b)) ∧ Keep NoneOf h h' := by
 refine WF_of (by rw [hpg]; exact S.pg63) q63 ?_
 show W p S.b63 _ _ (retQ [.t 4] _)
 unfold S.b63
 have n0 := s0.len (by decide)
 have n1 := s1.len (by decide)
 by_cases hl : a.length = b.length
 ·have hl' : (a.length : Int) = b.length := by omega
  simp [n0, n1, hl']
  refine W_loop (EqInv3 v0 v1 OpV a b h) ?_ a.length ⟨0, by omega, by omega, rfl, Keep.refl _ _, rfl⟩
  rintro m e h' ⟨i, hi, rfl, rfl, k, ht⟩
  have t0 := s0.on k
  have t1 := s1.on k
  have n0 := t0.len (by decide)
  by_cases hia : i = a.length
  ·subst hia
   have := eqDone ht hl
   simp [n0, this]
   exact k
  ·have hlt : i < a.length := by omega
   have hlt' : (i : Int) < a.length := by omega
   have hlb : i < b.length := by omega
   obtain ⟨b0, o0, row0, x1, x2, x3, x4⟩ := t0.row (k := .i64) (by decide) hlt
   obtain ⟨b1, o1, row1, y1, y2, y3, y4⟩ := t1.row (k := .i64) (by decide) hlb
   simp only [opC] at x1 x2 y1 y2
   have hw : IntKind.i64.wrap ((i : Int) + 1) = ((i + 1 : Nat) : Int) := by
    simp [big] at hb
    rw [w64 (by omega) (by omega)]; omega
   simp [n0, hlt', x1, x2, y1, y2]
   refine (refSameOp_spec hpg q33 x4 y4 (hc _ (List.getElem_mem hlt))).mono ?_
   rintro r h2 ⟨rfl, k2⟩
   by_cases he : a[i] = b[i]
   ·simp [he, hw]
    exact ⟨a.length - (i + 1), by omega, i + 1, by omega, rfl, rfl, k.trans k2, eqStep ht hlt hlb he⟩
   ·have hne : ¬ a = b := fun e => he (by subst e; rfl)
    simp [he, hne]
    exact k.trans k2
 ·have hl' : ¬ (a.length : Int) = b.length := by omega
  have hne : ¬ a = b := fun e => hl (by rw [e])
  simp [n0, n1, hl', hne]
  exact Keep.refl _ _
def EqInv4 (v1 : CV) (v0 : CV) (a b : List OpV) (h : Heap) (m : Nat) (e : Env) (h' : Heap) : Prop :=
 ∃ i : Nat, i ≤ a.length ∧ m = a.length - i ∧ e = [(1, v1), (2, .fn 51 []), (15, v0), (16, .int .i64 a.length), (17, .int .i64 i)] ∧ Keep NoneOf h h' ∧ a.take i = b.take i
theorem opsEq_spec {h : Heap} {v0 v1 : CV} {a b : List OpV} {P Q : Nat → Prop} (hpg : p.Pg = S.pg) (q62 : p.pr 62 = none) (q51 : p.pr 51 = none) (q66 : p.pr 66 = none) (s0 : Sl opC h P v0 a) (s1 : Sl opC h Q v1 b) (hb : a.length ≤ big) (hc : ∀ x ∈ a, x.cases.length ≤ big) :
  WF p 62 [v0, v1, .fn 51 []] h fun r h' => r = .bool (decide (a = b)) ∧ Keep NoneOf h h' := by
 refine WF_of (by rw [hpg]; exact S.pg62) q62 ?_
 show W p S.b62 _ _ (retQ [.t 6] _)
 unfold S.b62
 have n0 := s0.len (by decide)
 have n1 := s1.len (by decide)
 by_cases hl : a.length = b.length
 ·have hl' : (a.length : Int) = b.length := by omega
  simp [n0, n1, hl']
  rw [← hl']
  refine W_loop (EqInv4 v1 v0 a b h) ?_ a.length ⟨0, by omega, by omega, rfl, Keep.refl _ _, rfl⟩
  rintro m e h' ⟨i, hi, rfl, rfl, k, ht⟩
  have t0 := s0.on k
  have t1 := s1.on k
  by_cases hia : i = a.length
  ·subst hia
   have := eqDone ht hl
   simp [this]
   exact k
  ·have hlt : i < a.length := by omega
   have hlt' : (i : Int) < a.length := by omega
   have hlb : i < b.length := by omega
   obtain ⟨b0, o0, row0, x1, x2, x3, x4⟩ := t0.row (k := .i64) (by decide) hlt
   simp only [opC] at x1 x2
   have hw : IntKind.i64.wrap ((i : Int) + 1) = ((i + 1 : Nat) : Int) := by
    simp [big] at hb
    rw [w64 (by omega) (by omega)]; omega
   have c0 := opC.len x4
   have f0 := opC.flat x4
   simp only [opC] at c0
   have st0 := store_new (h := h') (z := [.int .i64 0, .int .i64 0, .int .i64 0, .int .i64 0, .nils]) (row := row0) (by simpa using c0) f0
   have kap : ∀ g, Keep NoneOf h' (h' ++ g) := fun g => Keep.app _ _ _
   obtain ⟨b1, o1, row1, y1, y2, y3, y4⟩ := (t1.on (kap [.arr row0 .tight])).row (k := .i64) (by decide) hlb
   have c1 := opC.len y4
   have f1 := opC.flat y4
   simp only [opC] at y1 y2 c1
   have st1 := store_new2 (h := h') (o := .arr row0 .tight) (z := [.int .i64 0, .int .i64 0, .int .i64 0, .int .i64 0, .nils]) (row := row1) (by simpa using c1) f1
   simp [hlt', x1, x2, CV.cells, fits, c0, st0, y1, y2, c1, st1, two0n, two1n]
   refine (opSame_spec hpg q51 q66 (opC.on x4 (kap _)) (opC.on y4 (h' := h' ++ [.arr row0 .tight, .arr row1 .tight]) (by have := Keep.app NoneOf (h' ++ [.arr row0 .tight]) [.arr row1 .tight]; simpa using this)) (hc _ (List.getElem_mem hlt))).mono ?_
   rintro r h2 ⟨rfl, k2⟩
   have k3 := k.trans ((kap _).trans k2)
   by_cases he : a[i] = b[i]
   ·simp [he, hw]
    exact ⟨a.length - (i + 1), by omega, i + 1, by omega, rfl, rfl, k3, eqStep ht hlt hlb he⟩
   ·have hne : ¬ a = b := fun e => he (by subst e; rfl)
    simp [he, hne]
    exact k3
 ·have hl' : ¬ (a.length : Int) = b.length := by omega
  have hne : ¬ a = b := fun e => hl (by rw [e])
  simp [n0, n1, hl', hne]
  exact Keep.refl _ _
def OfInv (h : Heap) (c : List CV) (x : OpV) (m : Nat) (e : Env) (h' : Heap) : Prop :=
 ∃ (i : Nat) (cv : CV), i ≤ x.cases.length ∧ m = x.cases.length - i ∧ e = [(1, .ptr h.length 0), (2, .ptr (h.length + 1) 0), (3, .ptr (h.length + 2) 0), (4, .int .i64 i)] ∧ Keep NoneOf h h' ∧
  h'[h.length]? = some (.arr c .tight) ∧ h'[h.length + 1]? = some (.arr [.int .i64 0, .int .i64 0, .int .i64 0, .int .i64 0, .nils] .tight) ∧
  h'[h.length + 2]? = some (.arr [.int .i64 x.kind, .int .i64 x.n, .int .i64 x.v, .int .i64 x.wait, cv] .tight) ∧ OwnL caseC h' NoneOf cv (x.cases.take i) ∧ ∀ b, cv.blk = some b → h.length + 2 < b
theorem opOf_spec {K : Nat} {h : Heap} {c : List CV} {x : OpV} {P : Nat → Prop} (hp : p.Pg K = some S.f32) (hq : p.pr K = none) (r0 : opC.rep h P c x) (hb : x.cases.length ≤ big) :
  WF p K [.agg c] h fun r h' => Keep NoneOf h h' ∧ ∃ d, r = .agg d ∧ opC.rep h' (From h) d x := by
 obtain ⟨cv, rfl, s0⟩ := r0
 refine WF_of hp hq ?_
 show W p S.b32 _ _ (retQ [.cell (some 5) 2] _)
 unfold S.b32
 obtain ⟨a1, a2, a3, a4, a5⟩ := x
 simp only at s0 hb
 have l0 : ∀ (o1 o2 : Obj) o, loadAt (h ++ [.arr [.int .i64 a1, .int .i64 a2, .int .i64 a3, .int .i64 a4, cv] .tight, o1]) h.length o none = ([.int .i64 a1, .int .i64 a2, .int .i64 a3, .int .i64 a4, cv] : List CV)[o]? := fun o1 o2 o => two0 o
 have st : ∀ (o1 o2 : Obj) (z row : List CV), row.length = z.length → row.all CV.scalar = true → storeAt (h ++ [o1, o2, .arr z .tight]) (h.length + 2) 0 row = some (h ++ [o1, o2, .arr row .tight]) := by
  intro o1 o2 z row q1 q2
  have := store_new (h := h ++ [o1, o2]) q1 q2
  simpa using this
 simp [CV.cells, two0, fillC, splice, fits, st, CV.scalar]
 refine W_loop (OfInv h [.int .i64 a1, .int .i64 a2, .int .i64 a3, .int .i64 a4, cv] ⟨a1, a2, a3, a4, a5⟩) ?_ a5.length ⟨0, .nils, Nat.zero_le _, rfl, rfl, Keep.app _ _ _, by simp, by simp, by simp, by simpa using OwnL.nil, by simp [CV.blk]⟩
 rintro m e h1 ⟨i, ov, hi, rfl, rfl, k1, g0, g1, g2, ow, hov⟩
 simp only at hi g2 ow
 have s1 := s0.on k1
 have n1 := s1.len (by decide)
 have l0 := ld g0
 have l2 := ld g2
 by_cases hie : i = a5.length
 ·subst hie
  rw [List.take_length] at ow
  have ln := ldw g2 (n := 5) rfl
  have hsc := ow.scalar
  have s2 := sto g1 (vs := [.int .i64 a1, .int .i64 a2, .int .i64 a3, .int .i64 a4, ov]) rfl (by simp only [List.all_cons, List.all_nil, hsc]; rfl)
  have hlt := lt_of_get g1
  have ke : Keep (fun b => b = h.length + 1) h1 (h1.set (h.length + 1) (.arr [.int .i64 a1, .int .i64 a2, .int .i64 a3, .int .i64 a4, ov] .tight)) := Keep.set _ _ rfl
  have hl := ldw (get_set_self (o := .arr [.int .i64 a1, .int .i64 a2, .int .i64 a3, .int .i64 a4, ov] .tight) hlt) (n := 5) rfl
  simp [l0, n1, ln, fits, CV.cells, s2, hl]
  refine ⟨k1.then ke fun b hb e => by omega, ov, rfl, ?_⟩
  have ow2 := ow.keep ke (fun b hb e => by have := hov b hb; omega) fun _ e => e.elim
  exact ow2.sl.mono fun b hb => by
   rcases hb with hb | hb
   ·exact hb.elim
   ·have := hov b hb; simp only [From]; omega
 ·have hlt : i < a5.length := by omega
  have hlt' : (i : Int) < a5.length := by omega
  obtain ⟨bb, o, row, x1, x2, x3, x4⟩ := s1.row (k := .i64) (by decide) hlt
  simp only [caseC] at x1 x4
  subst x4
  have y0 := x3 0 (by decide)
  have y1 := x3 1 (by decide)
  have y2 := x3 2 (by decide)
  simp at y0 y1 y2
  have hw : IntKind.i64.wrap ((i : Int) + 1) = ((i + 1 : Nat) : Int) := by
   simp [big] at hb
   rw [w64 (by omega) (by omega)]; omega
  have kap : ∀ g, Keep NoneOf h1 (h1 ++ g) := fun g => Keep.app _ _ _
  simp [l0, l2, n1, hlt', x1, y0, y1, y2, fillC, splice, spread, cellsAt]
  refine OV_push (e := caseC) (x := a5[i]) (ow.on (kap _)) rfl (fun _ e => e.elim) (by simp; omega) (by decide) ?_
  intro v' h2 ow2 k2 hb2
  have hl1 := k1.len
  have hgt : ∀ b, v'.blk = some b → h.length + 2 < b := by
   intro b hb
   have := lt_of_get g2
   rcases hb2 b hb with q | q
   ·exact hov b q
   ·simp at q; omega
  have g2' := k2.at (get_app (g := [.arr [.bool a5[i].send, .int .i64 a5[i].chan, .int .i64 a5[i].v] .tight]) g2) (fun e => by have := hov _ e; omega)
  have g1' := k2.at (get_app (g := [.arr [.bool a5[i].send, .int .i64 a5[i].chan, .int .i64 a5[i].v] .tight]) g1) (fun e => by have := hov _ e; omega)
  have g0' := k2.at (get_app (g := [.arr [.bool a5[i].send, .int .i64 a5[i].chan, .int .i64 a5[i].v] .tight]) g0) (fun e => by have := hov _ e; omega)
  have s3 := sto1 g2' (o := 4) (v := v') (by simp) ow2.scalar
  simp [CV.cells_scalar ow2.scalar, fits_scalar ow2.scalar, s3, hw]
  have ke : Keep (fun b => b = h.length + 2) h2 (h2.set (h.length + 2) (.arr [.int .i64 a1, .int .i64 a2, .int .i64 a3, .int .i64 a4, v'] .tight)) := Keep.set _ _ rfl
  refine ⟨a5.length - (i + 1), by omega, i + 1, v', by simp only; omega, rfl, rfl, ((k1.trans (kap _)).then k2 fun b hb e => by have := hov b e; omega).then ke fun b hb e => by omega, ke.at g0' (by omega), ke.at g1' (by omega), get_set_self (lt_of_get g2'), ?_, hgt⟩
  have := ow2.keep ke (fun b hb e => by have := hgt b hb; omega) fun _ e => e.elim
  simpa [List.take_append_getElem hlt] using this
def AllInv (v0 : CV) (l : List OpV) (h : Heap) (m : Nat) (e : Env) (h' : Heap) : Prop :=
 ∃ (i : Nat) (ov : CV), i ≤ l.length ∧ m = l.length - i ∧ e = [(0, v0), (3, ov), (4, .int .i64 i)] ∧ Keep NoneOf h h' ∧ OwnN opC h.length h' ov (l.take i) ∧ ∀ b, ov.blk = some b → h.length ≤ b
theorem opOfAll_body {h : Heap} {v0 : CV} {l : List OpV} {P : Nat → Prop} {K : CV → Heap → Prop} (h32 : p.Pg 32 = some S.f32) (q32 : p.pr 32 = none) (s0 : Sl opC h P v0 l) (hb : l.length ≤ big) (hc : ∀ x ∈ l, x.cases.length ≤ big)
  (kk : ∀ r h', Keep NoneOf h h' → OwnN opC h.length h' r l → (∀ b, r.blk = some b → h.length ≤ b) → K r h') : W p S.b53 [(0, v0)] h (retQ [.t 2] K) := by
 unfold S.b53
 simp
 refine W_loop (AllInv v0 l h) ?_ l.length ⟨0, .nils, by omega, by omega, rfl, Keep.refl _ _, OwnN.nil, by simp [CV.blk]⟩
 rintro m e h1 ⟨i, ov, hi, rfl, rfl, k1, ow, hov⟩
 have s1 := s0.on k1
 have n1 := s1.len (by decide)
 by_cases hie : i = l.length
 ·subst hie
  rw [List.take_length] at ow
  simp [n1]
  exact kk _ _ k1 ow hov
 ·have hlt : i < l.length := by omega
  have hlt' : (i : Int) < l.length := by omega
  obtain ⟨bb, o, row, x1, x2, x3, x4⟩ := s1.row (k := .i64) (by decide) hlt
  simp only [opC] at x1 x2
  have hw : IntKind.i64.wrap ((i : Int) + 1) = ((i + 1 : Nat) : Int) := by
   simp [big] at hb
   rw [w64 (by omega) (by omega)]; omega
  simp [n1, hlt', x1, x2]
  refine (opOf_spec h32 q32 x4 (hc _ (List.getElem_mem hlt))).mono ?_
  rintro r h2 ⟨k2, d, rfl, r2⟩
  have cl := opC.len r2
  simp only [opC] at cl
  have kap : ∀ g, Keep NoneOf h2 (h2 ++ g) := fun g => Keep.app _ _ _
  have ow2 := (ow.on k2).on (kap [.arr d .tight])
  simp [fillC, splice, cl, spread, cellsAt]
  rw [show List.take 5 d = d from List.take_of_length_le (by omega)]
  refine OV_pushN (e := opC) (x := l[i]) ow2 (opC.on r2 (kap _)) (fun b hb hlt => ?_) (by simp; omega) (by decide) ?_
  ·have := k1.len
   have hbb : h1.length ≤ b := hb
   exact ⟨by omega, fun hv => by have := ow.blk b hv; omega⟩
  ·intro v' h3 o3 k3 hb3
   simp [hw]
   refine ⟨l.length - (i + 1), by omega, i + 1, v', by omega, rfl, rfl, ((k1.trans k2).trans (kap _)).then k3 fun b hb e => by have := hov b e; omega, by simpa [List.take_append_getElem hlt] using o3, fun b hb => ?_⟩
   rcases hb3 b hb with q | q
   ·exact hov b q
   ·have := (k1.trans k2).len; simp at q; omega
theorem opOfAll_spec {h : Heap} {v0 : CV} {l : List OpV} {P : Nat → Prop} (hpg : p.Pg = S.pg) (q53 : p.pr 53 = none) (q32 : p.pr 32 = none) (s0 : Sl opC h P v0 l) (hb : l.length ≤ big) (hc : ∀ x ∈ l, x.cases.length ≤ big) :
  WF p 53 [v0] h fun r h' => Keep NoneOf h h' ∧ Sl opC h' (From h) r l :=
 WF_of (by rw [hpg]; exact S.pg53) q53 (by exact opOfAll_body (by rw [hpg]; exact S.pg32) q32 s0 hb hc fun r h' k o hr => ⟨k, o.sl hr⟩)
set_option maxHeartbeats 4000000
structure KdV where
 word : Wd
 least : Int
 most : Int
 wait : Bool
 more : Bool
 deriving Inhabited
def kdL (x : KdV) : List CV := [.str x.word, .int .i64 x.least, .int .i64 x.most, .bool x.wait, .bool x.more]
def kdC : Cod KdV where
 n := 5
 rep _ _ c x := c = kdL x
 len e := by subst e; rfl
 flat e := by subst e; rfl
 mono e _ := e
 keep e _ _ := e
 lt e := e
def kindsL : List KdV := [⟨[], 0, 0, false, false⟩, ⟨wRun, 1, 1000, false, false⟩, ⟨wLock, 0, 7, false, false⟩, ⟨wUnlock, 0, 7, false, false⟩, ⟨wSend, 0, 7, true, false⟩, ⟨wRecv, 0, 7, true, false⟩, ⟨wClose, 0, 7, false, false⟩, ⟨wSelect, 0, 0, true, true⟩, ⟨wLoop, 1, 32, false, false⟩, ⟨wEnd, 0, 0, false, false⟩]
theorem kind_at {i : Nat} (h0 : 1 ≤ i) (h1 : i < 10) : kindsL[i]'h1 = ⟨wordOf i, leastOf i, mostOf i, isWait i, decide (i = 7)⟩ := by
 have : i = 1 ∨ i = 2 ∨ i = 3 ∨ i = 4 ∨ i = 5 ∨ i = 6 ∨ i = 7 ∨ i = 8 ∨ i = 9 := by omega
 rcases this with rfl | rfl | rfl | rfl | rfl | rfl | rfl | rfl | rfl <;> rfl
theorem kinds_spec (lp : LP p) {h : Heap} : WF p 224 [] h fun r h' => ∃ v, r = v ∧ Sl kdC h' (From h) v kindsL ∧ Keep NoneOf h h' := by
 refine WF_of (by rw [lp.pg]; exact S.pg224) (lp.no ⟨rfl, rfl⟩) ?_
 show W p S.b224 _ _ (retQ [.t 0] _)
 unfold S.b224
 simp [fillC, splice, CV.cells]
 refine ⟨?_, Keep.app _ _ _⟩
 exact Sl.fresh (Rows.of_flat kdL kindsL fun x _ => rfl) rfl
theorem kind_row {h : Heap} {P : Nat → Prop} {v : CV} {k : Int} (s : Sl kdC h P v kindsL) (h0 : 1 ≤ k) (h9 : k ≤ 9) :
  ∃ b o, idxAddrV 5 v (.int .i64 k) = some (.ptr b o) ∧ loadAt h b o (some 5) = some (.agg (kdL ⟨wordOf k, leastOf k, mostOf k, isWait k, decide (k = 7)⟩)) ∧ ∀ j, j < 5 → loadAt h b (o + j) none = (kdL ⟨wordOf k, leastOf k, mostOf k, isWait k, decide (k = 7)⟩)[j]? := by
 obtain ⟨i, hi⟩ := Int.eq_ofNat_of_zero_le (by omega : 0 ≤ k)
 have hi9 : i < kindsL.length := by show i < 10; omega
 obtain ⟨b0, o0, row, x1, x2, x3, x4⟩ := s.row (k := .i64) (by decide) hi9
 rw [kind_at (by omega) hi9, ← hi] at x4
 have x4 : row = kdL ⟨wordOf k, leastOf k, mostOf k, isWait k, decide (i = 7)⟩ := x4
 rw [show decide (i = 7) = decide (k = 7) by by_cases h7 : i = 7 <;> simp [h7, hi] <;> omega] at x4
 simp only [kdC] at x1 x2 x3
 rw [← hi] at x1
 subst x4
 exact ⟨b0, o0, x1, x2, x3⟩
def caL (c : Case) : List CV := [.bool c.send, .int .i64 c.chan, .int .i64 c.v]
theorem caL_0 (c : Case) : (caL c)[0]? = some (.bool c.send) := rfl
theorem caL_1 (c : Case) : (caL c)[1]? = some (.int .i64 c.chan) := rfl
theorem caL_2 (c : Case) : (caL c)[2]? = some (.int .i64 c.v) := rfl
theorem caseIs_spec (lp : LP p) {h : Heap} {b : Nat} {c x : Case} (g : h[b]? = some (.arr (caL c) .tight)) : WF p 234 [.agg (caL x), .ptr b 0] h fun r h' => r = .bool (decide (x.chan = c.chan)) ∧ Keep NoneOf h h' := by
 refine WF_of (by rw [lp.pg]; exact S.pg234) (lp.no ⟨rfl, rfl⟩) ?_
 show W p S.b234 _ _ (retQ [.t 3] _)
 unfold S.b234
 have k : Keep NoneOf h (h ++ [.arr (caL x) .tight]) := Keep.app _ _ _
 have l0 := ld (k.at g id)
 have h0 : ∀ o, loadAt (h ++ [.arr (caL x) .tight]) h.length o none = (caL x)[o]? := fun o => one0 o
 simp [h0, l0, caL_1]
 exact k
def CiI (v f : CV) (l : List Case) (ch : Int) (h : Heap) (m : Nat) (e : Env) (h' : Heap) : Prop :=
 ∃ i : Nat, i ≤ l.length ∧ m = l.length - i ∧ e = [(0, v), (1, f), (7, .int .i64 l.length), (8, .int .i64 i)] ∧ Keep NoneOf h h' ∧ (l.take i).any (fun x => decide (x.chan = ch)) = false
theorem caseIndex_spec (lp : LP p) {h : Heap} {b : Nat} {c : Case} {v : CV} {l : List Case} {P : Nat → Prop} (g : h[b]? = some (.arr (caL c) .tight)) (s : Sl caseC h P v l) (hl : l.length ≤ big) :
  WF p 238 [v, .fn 234 [.ptr b 0]] h fun r h' => (∃ j : Int, r = .int .i64 j ∧ decide (0 ≤ j) = l.any (fun x => decide (x.chan = c.chan))) ∧ Keep NoneOf h h' := by
 refine WF_of (by rw [lp.pg]; exact S.pg238) (lp.no ⟨rfl, rfl⟩) ?_
 show W p S.b238 _ _ (retQ [.t 4] _)
 unfold S.b238
 have n0 := s.len (by decide)
 simp [n0]
 refine W_loop (CiI v (.fn 234 [.ptr b 0]) l c.chan h) ?_ l.length ⟨0, by omega, by omega, rfl, Keep.refl _ _, by simp⟩
 rintro m e h1 ⟨i, hi, rfl, rfl, k1, hno⟩
 by_cases hie : i = l.length
 ·subst hie
  rw [List.take_length] at hno
  rw [hno]
  simp
  exact k1
 ·have hlt : i < l.length := by omega
  have hlt' : (i : Int) < l.length := by omega
  obtain ⟨b0, o0, row, x1, x2, x3, x4⟩ := (s.on k1).row (k := .i64) (by decide) hlt
  have x4 : row = caL l[i] := x4
  simp only [caseC] at x1 x2
  rw [x4] at x2
  have hw : IntKind.i64.wrap ((i : Int) + 1) = ((i + 1 : Nat) : Int) := by
   simp [big] at hl
   rw [w64 (by omega) (by omega)]; omega
  simp [hlt', x1, x2]
  refine (caseIs_spec lp (k1.at g id)).mono ?_
  rintro r h2 ⟨rfl, k2⟩
  by_cases hq : l[i].chan = c.chan
  ·have : l.any (fun x => decide (x.chan = c.chan)) = true := by
    rw [List.any_eq_true]; exact ⟨l[i], List.getElem_mem hlt, by simpa using hq⟩
   rw [this]
   simp [hq]
   exact k1.trans k2
  ·simp [hq, hw]
   refine ⟨l.length - (i + 1), by omega, i + 1, by omega, rfl, rfl, k1.trans k2, ?_⟩
   rw [← List.take_append_getElem hlt, List.any_append, hno]
   simp [hq]
theorem caseHas_spec (lp : LP p) {h : Heap} {b : Nat} {c : Case} {v : CV} {l : List Case} {P : Nat → Prop} (g : h[b]? = some (.arr (caL c) .tight)) (s : Sl caseC h P v l) (hl : l.length ≤ big) :
  WF p 235 [v, .fn 234 [.ptr b 0]] h fun r h' => r = .bool (l.any (fun x => decide (x.chan = c.chan))) ∧ Keep NoneOf h h' := by
 refine WF_of (by rw [lp.pg]; exact S.pg235) (lp.no ⟨rfl, rfl⟩) ?_
 show W p S.b235 _ _ (retQ [.t 4] _)
 unfold S.b235
 simp
 refine (caseIndex_spec lp g s hl).mono ?_
 rintro r h1 ⟨⟨j, rfl, hj⟩, k1⟩
 rw [← hj]
 simp
 exact k1
def CaI (v : CV) (l : List Case) (h : Heap) (m : Nat) (e : Env) (h' : Heap) : Prop :=
 ∃ i : Nat, i ≤ l.length ∧ m = l.length - i ∧ e = [(0, v), (13, v), (14, .int .i64 l.length), (15, .int .i64 i)] ∧ Keep NoneOf h h' ∧ casesGo [] l = casesGo (l.take i) (l.drop i)
theorem cases_spec (lp : LP p) {h : Heap} {v : CV} {l : List Case} {P : Nat → Prop} (s : Sl caseC h P v l) :
  WF p 225 [v] h fun r h' => r = .int .i64 (casesP l) ∧ Keep NoneOf h h' := by
 refine WF_of (by rw [lp.pg]; exact S.pg225) (lp.no ⟨rfl, rfl⟩) ?_
 show W p S.b225 _ _ (retQ [.t 2] _)
 unfold S.b225
 have n0 := s.len (by decide)
 by_cases h1 : (l.length : Int) < 1
 ·rw [show casesP l = 18 by unfold casesP; rw [if_pos (.inl (by omega))]]
  have h1' : l.length = 0 := by omega
  simp [n0, h1, h1']
  exact Keep.refl _ _
 by_cases h4 : (4 : Int) < l.length
 ·rw [show casesP l = 18 by unfold casesP; rw [if_pos (.inr (by omega))]]
  have h1' : ¬ l.length = 0 := by omega
  simp [n0, h1, h1', h4]
  exact Keep.refl _ _
 ·rw [show casesP l = casesGo [] l by unfold casesP; rw [if_neg (by omega)]]
  have h1' : ¬ l.length = 0 := by omega
  simp [n0, h1, h1', h4]
  refine W_loop (CaI v l h) ?_ l.length ⟨0, by omega, by omega, rfl, Keep.refl _ _, by simp⟩
  rintro m e h1 ⟨i, hi, rfl, rfl, k1, hgo⟩
  rw [hgo]
  by_cases hie : i = l.length
  ·subst hie
   rw [List.drop_length]
   simp [casesGo]
   exact k1
  ·have hlt : i < l.length := by omega
   have hlt' : (i : Int) < l.length := by omega
   have s1 := s.on k1
   obtain ⟨b0, o0, row, x1, x2, x3, x4⟩ := s1.row (k := .i64) (by decide) hlt
   have x4 : row = caL l[i] := x4
   simp only [caseC] at x1 x2
   rw [x4] at x2
   have hw : IntKind.i64.wrap ((i : Int) + 1) = ((i + 1 : Nat) : Int) := by rw [w64 (by omega) (by omega)]; omega
   rw [List.drop_eq_getElem_cons hlt, casesGo, List.take_append_getElem hlt]
   rw [List.drop_eq_getElem_cons hlt, casesGo, List.take_append_getElem hlt] at hgo
   generalize hC : l[i] = C at *
   have st := store_new (h := h1) (z := [.bool false, .int .i64 0, .int .i64 0]) (row := caL C) rfl rfl
   have hf : fits (some 3) (.agg (caL C)) = true := rfl
   have l0 : ∀ o, loadAt (h1 ++ [.arr (caL C) .tight]) h1.length o none = (caL C)[o]? := fun o => one0 o
   have kap : Keep NoneOf h1 (h1 ++ [.arr (caL C) .tight]) := Keep.app _ _ _
   have g : (h1 ++ [.arr (caL C) .tight])[h1.length]? = some (.arr (caL C) .tight) := by simp
   obtain ⟨w, y1, y2⟩ := (s1.on kap).cut (k := .i64) (m := i) (by decide) (by omega)
   have y1 : slSl (h1 ++ [.arr (caL C) .tight]) 3 v none (some (.int .i64 i)) = some (w, h1 ++ [.arr (caL C) .tight]) := y1
   by_cases c0 : C.chan < 0
   ·have hb : caseBad C = true := by simp [caseBad, c0]
    simp [hlt', x1, x2, hf, st, l0, caL_0, caL_1, caL_2, c0, hb]
    exact k1.trans kap
   by_cases c1 : 8 ≤ C.chan
   ·have hb : caseBad C = true := by simp [caseBad, c1]
    simp [hlt', x1, x2, hf, st, l0, caL_0, caL_1, caL_2, c0, c1, hb]
    exact k1.trans kap
   by_cases c2 : C.send = false ∧ ¬ C.v = 0
   ·have hb : caseBad C = true := by simp [caseBad, c2.1, c2.2]
    simp [hlt', x1, x2, hf, st, l0, caL_0, caL_1, caL_2, c0, c1, c2.1, c2.2, hb]
    exact k1.trans kap
   have hb : caseBad C = false := by
    unfold caseBad
    rw [decide_eq_false c0, decide_eq_false c1]
    by_cases c3 : C.send = false
    ·have : C.v = 0 := by
      by_cases c4 : C.v = 0
      ·exact c4
      ·exact absurd ⟨c3, c4⟩ c2
     simp [this]
    ·simp [c3]
   have rest : ∀ {K : CV → Heap → Prop}, (∀ h', Keep NoneOf h h' → K (.bool ((l.take i).any (fun x => decide (x.chan = C.chan)))) h') → WF p 235 [w, .fn 234 [.ptr h1.length 0]] (h1 ++ [.arr (caL C) .tight]) K := fun kk =>
    (caseHas_spec lp g y2 (by simp [big]; omega)).mono fun r h' ⟨e1, e2⟩ => e1 ▸ kk h' ((k1.trans kap).trans e2)
   rw [hb] at hgo
   simp only [Bool.false_eq_true, if_false] at hgo
   rw [← hgo]
   by_cases c3 : C.send = true
   ·simp [hlt', x1, x2, hf, st, l0, caL_0, caL_1, caL_2, c0, c1, c3, y1]
    refine rest ?_
    intro h' k2
    by_cases hq : (l.take i).any (fun x => decide (x.chan = C.chan)) = true
    ·rw [hq] at hgo
     rw [hq, hgo]
     simp
     exact ⟨hb, k2⟩
    ·rw [Bool.not_eq_true] at hq
     rw [hq] at hgo
     rw [hq]
     simp [hw]
     exact ⟨l.length - (i + 1), by omega, i + 1, by omega, rfl, rfl, k2, hgo⟩
   ·have c4 : C.v = 0 := by
     by_cases c4 : C.v = 0
     ·exact c4
     ·exact absurd ⟨by simpa using c3, c4⟩ c2
    simp [hlt', x1, x2, hf, st, l0, caL_0, caL_1, caL_2, c0, c1, c3, c4, y1]
    refine rest ?_
    intro h' k2
    by_cases hq : (l.take i).any (fun x => decide (x.chan = C.chan)) = true
    ·rw [hq] at hgo
     rw [hq, hgo]
     simp
     exact ⟨hb, k2⟩
    ·rw [Bool.not_eq_true] at hq
     rw [hq] at hgo
     rw [hq]
     simp [hw]
     exact ⟨l.length - (i + 1), by omega, i + 1, by omega, rfl, rfl, k2, hgo⟩
theorem opWaits_spec (lp : LP p) {h : Heap} {c : List CV} {x : OpV} {P : Nat → Prop} (r0 : opC.rep h P c x) : WF p 223 [.agg c] h fun r h' => r = .bool (waitsP x) ∧ Keep NoneOf h h' := by
 obtain ⟨cv, rfl, s0⟩ := r0
 refine WF_of (by rw [lp.pg]; exact S.pg223) (lp.no ⟨rfl, rfl⟩) ?_
 show W p S.b223 _ _ (retQ [.t 2] _)
 unfold S.b223 waitsP isWait
 obtain ⟨a1, a2, a3, a4, a5⟩ := x
 have kap : ∀ g, Keep NoneOf h (h ++ g) := fun g => Keep.app _ _ _
 by_cases h4 : a1 = 4
 ·subst h4
  by_cases hw : a4 = 0
  all_goals simp [CV.cells, one0, hw]; exact kap _
 by_cases h5 : a1 = 5
 ·subst h5
  by_cases hw : a4 = 0
  all_goals simp [CV.cells, one0, hw]; exact kap _
 by_cases h7 : a1 = 7
 ·subst h7
  by_cases hw : a4 = 0
  all_goals simp [CV.cells, one0, hw]; exact kap _
 ·simp [CV.cells, one0, h4, h5, h7]; exact kap _
theorem opCheck_spec (lp : LP p) {h : Heap} {c : List CV} {x : OpV} {P : Nat → Prop} (r0 : opC.rep h P c x) : WF p 219 [.agg c] h fun r h' => r = .int .i64 (opCheckP x) ∧ Keep NoneOf h h' := by
 obtain ⟨cv, hC, s0⟩ := r0
 refine WF_of (by rw [lp.pg]; exact S.pg219) (lp.no ⟨rfl, rfl⟩) ?_
 show W p S.b219 _ _ (retQ [.t 2] _)
 unfold S.b219
 have c0 : c[0]? = some (.int .i64 x.kind) := by subst hC; rfl
 have c1 : c[1]? = some (.int .i64 x.n) := by subst hC; rfl
 have c2 : c[2]? = some (.int .i64 x.v) := by subst hC; rfl
 have c3 : c[3]? = some (.int .i64 x.wait) := by subst hC; rfl
 have c4 : c[4]? = some cv := by subst hC; rfl
 by_cases k0 : x.kind < 1
 ·rw [show opCheckP x = 3 by unfold opCheckP; rw [if_pos (.inl k0)]]
  simp [CV.cells, one0, c0, k0]
  exact Keep.app _ _ _
 by_cases k9 : 9 < x.kind
 ·rw [show opCheckP x = 3 by unfold opCheckP; rw [if_pos (.inr k9)]]
  simp [CV.cells, one0, c0, k0, k9]
  exact Keep.app _ _ _
 clear hC
 simp [CV.cells, one0, two0, c0, k0, k9]
 refine WO_re_n ?_
 simp
 refine (kinds_spec lp).mono ?_
 rintro r h1 ⟨v, rfl, sl, k1⟩
 have g0 := k1.at (b := h.length) (o := .arr c .tight) (by simp) id
 have g1 := k1.at (b := h.length + 1) (o := .arr [.str [], .int .i64 0, .int .i64 0, .bool false, .bool false] .tight) (by simp) id
 have l0 := ld g0
 refine ⟨fun c => by simp [recheckB, wanted, Env.get, cls, evOp, Opd.ev, withH, CV.eqb, l0, c0], ?_⟩
 obtain ⟨b0, o0, x1, x2, _⟩ := kind_row (k := x.kind) sl (by omega) (by omega)
 have hk7 : (decide (x.kind = 7) : Bool) = decide (x.kind = 7) := rfl
 have hchk : opCheckP x = if x.n < leastOf x.kind ∨ mostOf x.kind < x.n ∨ (x.kind ≠ 4 ∧ x.v ≠ 0) then 1
  else if (isWait x.kind = false ∧ x.wait ≠ 0) ∨ x.wait < -1 ∨ 1000 < x.wait then 1
  else if decide (x.kind = 7) = true then casesP x.cases
  else if x.cases ≠ [] then 1 else 0 := by
  unfold opCheckP
  rw [if_neg (by omega)]
  simp only [decide_eq_true_eq]
 rw [hchk]
 clear hchk hk7
 generalize hT : leastOf x.kind = lst at *
 generalize hM : mostOf x.kind = mst at *
 generalize hW : isWait x.kind = wt at *
 generalize hE : decide (x.kind = 7) = mo at *
 obtain ⟨row, hr⟩ : ∃ row, row = kdL ⟨wordOf x.kind, lst, mst, wt, mo⟩ := ⟨_, rfl⟩
 rw [← hr] at x2
 have hfit : fits (some 5) (.agg row) = true := by rw [hr]; rfl
 have st := sto g1 (vs := row) (by rw [hr]; rfl) (by rw [hr]; rfl)
 have l1 := ld (get_set_self (o := .arr row .tight) (lt_of_get g1))
 have ke : Keep (fun b => b = h.length + 1) h1 (h1.set (h.length + 1) (.arr row .tight)) := Keep.set _ _ rfl
 have l0' := ld (ke.at g0 (by simp))
 have kk : Keep NoneOf h (h1.set (h.length + 1) (.arr row .tight)) := ((Keep.app _ _ _).trans k1).then ke fun b hb e => by omega
 have r1 : row[1]? = some (.int .i64 lst) := by rw [hr]; rfl
 have r2 : row[2]? = some (.int .i64 mst) := by rw [hr]; rfl
 have r3 : row[3]? = some (.bool wt) := by rw [hr]; rfl
 have r4 : row[4]? = some (.bool mo) := by rw [hr]; rfl
 clear hr
 generalize hH : h1.set (h.length + 1) (.arr row .tight) = H at *
 simp [x1, x2, CV.cells, hfit, st, hH, l0', l1, c0, c1, c2, c3, c4, r1, r2, r3, r4]
 refine WO_cut (fun e' => e'.get 1 = some (.ptr h.length 0) ∧ e'.get 3 = some (.ptr (h.length + 1) 0) ∧ e'.get 17 = some (.bool (decide (x.n < lst ∨ mst < x.n ∨ (x.kind ≠ 4 ∧ x.v ≠ 0))))) ?_ ?_
 ·by_cases a1 : x.n < lst
  ·simp [a1, l0', l1, c0, c1, c2, c3, c4, r1, r2, r3, r4]
  by_cases a2 : mst < x.n
  ·simp [a1, a2, l0', l1, c0, c1, c2, c3, c4, r1, r2, r3, r4]
  by_cases a3 : x.kind = 4
  ·simp [a1, a2, a3, l0', l1, c0, c1, c2, c3, c4, r1, r2, r3, r4]
  by_cases a4 : x.v = 0
  all_goals simp [a1, a2, a3, a4, l0', l1, c0, c1, c2, c3, c4, r1, r2, r3, r4]
 rintro e' ⟨q1, q2, q3⟩
 by_cases B1 : x.n < lst ∨ mst < x.n ∨ (x.kind ≠ 4 ∧ x.v ≠ 0)
 ·rw [if_pos B1]
  rw [decide_eq_true B1] at q3
  simp [q1, q2, q3]
  exact kk
 rw [if_neg B1]
 rw [decide_eq_false B1] at q3
 clear B1
 simp [q1, q2, q3, l0', l1, c0, c1, c2, c3, c4, r1, r2, r3, r4]
 clear q1 q2 q3 e'
 refine WO_cut (fun e' => e'.get 1 = some (.ptr h.length 0) ∧ e'.get 3 = some (.ptr (h.length + 1) 0) ∧ e'.get 40 = some (.bool (decide ((wt = false ∧ x.wait ≠ 0) ∨ x.wait < -1 ∨ 1000 < x.wait)))) ?_ ?_
 ·by_cases a1 : x.wait = 0
  ·cases wt <;> simp [a1, l0', l1, c0, c1, c2, c3, c4, r1, r2, r3, r4]
  cases wt with
  | false => simp [a1, l0', l1, c0, c1, c2, c3, c4, r1, r2, r3, r4]
  | true =>
    by_cases a2 : x.wait < -1
    ·simp [a1, a2, l0', l1, c0, c1, c2, c3, c4, r1, r2, r3, r4]
    by_cases a3 : 1000 < x.wait
    all_goals simp [a1, a2, a3, l0', l1, c0, c1, c2, c3, c4, r1, r2, r3, r4]
 rintro e' ⟨q1, q2, q3⟩
 by_cases B1 : (wt = false ∧ x.wait ≠ 0) ∨ x.wait < -1 ∨ 1000 < x.wait
 ·rw [if_pos B1]
  rw [decide_eq_true B1] at q3
  simp [q1, q2, q3]
  exact kk
 rw [if_neg B1]
 rw [decide_eq_false B1] at q3
 clear B1
 have sH := s0.on kk
 have nH := sH.len (by decide)
 cases mo with
 | true =>
   simp [q1, q2, q3, l0', l1, c0, c1, c2, c3, c4, r1, r2, r3, r4]
   refine (cases_spec lp sH).mono ?_
   rintro r h2 ⟨rfl, k2⟩
   simp
   exact kk.trans k2
 | false =>
   by_cases hx : x.cases = []
   ·have hx' : x.cases.length = 0 := by rw [hx]; rfl
    simp [q1, q2, q3, l0', l1, c0, c1, c2, c3, c4, r1, r2, r3, r4, nH, hx, hx']
    exact kk
   ·have hx' : 0 < x.cases.length := List.length_pos_iff.2 hx
    have hx2 : (0 : Int) < x.cases.length := by omega
    simp [q1, q2, q3, l0', l1, c0, c1, c2, c3, c4, r1, r2, r3, r4, nH, hx, hx', hx2]
    exact kk
set_option maxHeartbeats 1000000
structure RcH (h : Heap) (c : List CV) (h' : Heap) : Prop where
 k : Keep NoneOf h h'
 g : h'[h.length]? = some (.arr c .tight)
set_option maxHeartbeats 4000000
structure OpV.In (x : OpV) : Prop where
 n : inI x.n
 v : inI x.v
 w : inI x.wait
 c : ∀ c ∈ x.cases, inI c.chan ∧ inI c.v
 l : x.cases.length ≤ 1000000
theorem opWait_spec (lp : LP p) {n : Int} {h : Heap} (hn : inI n) : WF p 226 [.int .i64 n] h fun r h' => r = .str (waitW n) ∧ h' = h := by
 refine WF_of (by rw [lp.pg]; exact S.pg226) (lp.no ⟨rfl, rfl⟩) ?_
 show W p S.b226 _ _ (retQ [.t 2] _)
 unfold S.b226 waitW
 by_cases h1 : n = -1
 ·simp [h1]
 ·simp [h1]
  refine (wordText_spec lp hn.1 hn.2).mono ?_
  rintro r h2 ⟨rfl, rfl⟩
  simp
theorem opTold_spec (lp : LP p) {c : Case} {h : Heap} (h0 : inI c.chan) (h1 : inI c.v) :
  WF p 227 [.agg (caL c)] h fun r h' => r = .sl (h.length + 1) 0 (told c).length (told c).length ∧ h' = h ++ [.arr (caL c) .tight, .arr ((told c).map .str) .tight] := by
 refine WF_of (by rw [lp.pg]; exact S.pg227) (lp.no ⟨rfl, rfl⟩) ?_
 show W p S.b227 _ _ (retQ [.t 2] _)
 unfold S.b227 told
 have l0 : ∀ o, loadAt (h ++ [.arr (caL c) .tight]) h.length o none = (caL c)[o]? := fun o => one0 o
 cases hs : c.send with
 | true =>
   simp [l0, caL_0, caL_1, caL_2, hs]
   refine WO_re_n ?_
   simp
   refine (wordText_spec lp h0.1 h0.2).mono ?_
   rintro r h2 ⟨rfl, rfl⟩
   refine ⟨fun _ => by simp [recheckB, wanted, Env.get, cls, evOp, Opd.ev, withH, CV.eqb, l0, caL_2, CV.eqb_refl], ?_⟩
   refine (wordText_spec lp h1.1 h1.2).mono ?_
   rintro r h2 ⟨rfl, rfl⟩
   simp [fillC, splice, CV.cells]
 | false =>
   simp [l0, caL_0, caL_1, caL_2, hs]
   refine (wordText_spec lp h0.1 h0.2).mono ?_
   rintro r h2 ⟨rfl, rfl⟩
   simp [fillC, splice, CV.cells]
theorem told_len (c : Case) : (told c).length ≤ 3 ∧ ∀ w ∈ told c, w.length ≤ 21 := by
 unfold told
 have i := fun n => itoa_len n
 constructor
 ·split <;> simp
 ·intro w hw
  split at hw
  all_goals
   simp only [List.mem_cons, List.not_mem_nil, or_false] at hw
  ·rcases hw with rfl | rfl | rfl
   ·decide
   ·exact i _
   ·exact i _
  ·rcases hw with rfl | rfl
   ·decide
   ·exact i _
theorem wordOf_len (k : Int) : (wordOf k).length ≤ 6 := by
 unfold wordOf
 repeat' split
 all_goals decide
theorem waitW_len (n : Int) : (waitW n).length ≤ 21 := by
 unfold waitW
 split
 ·decide
 ·exact itoa_len n
theorem tolds_len : ∀ (l : List Case), (l.flatMap told).length ≤ 3 * l.length
 | [] => by simp
 | c :: l => by
   have := tolds_len l
   have := (told_len c).1
   rw [List.flatMap_cons, List.length_append, List.length_cons]
   omega
theorem opWords_len (x : OpV) : (opWords x).length ≤ 4 + 3 * x.cases.length ∧ ∀ w ∈ opWords x, w.length ≤ 21 := by
 unfold opWords
 have i := fun n => itoa_len n
 have j := wordOf_len x.kind
 have w := waitW_len x.wait
 have t := tolds_len x.cases
 constructor
 ·repeat' split
  all_goals simp only [List.length_cons, List.length_nil]
  all_goals omega
 ·intro u hu
  rcases List.mem_cons.1 hu with rfl | hu
  ·omega
  ·repeat' split at hu
   all_goals simp only [List.mem_cons, List.not_mem_nil, or_false, List.mem_flatMap] at hu
   ·rcases hu with rfl | rfl | rfl
    ·exact i _
    ·exact i _
    ·exact w
   ·rcases hu with rfl | rfl
    ·exact i _
    ·exact w
   ·rcases hu with rfl | ⟨c, _, hc⟩
    ·exact w
    ·exact (told_len c).2 u hc
   ·subst hu
    exact i _
theorem opWords_join {x : OpV} : (joinC 32 (opWords x)).length ≤ (4 + 3 * x.cases.length) * 22 := by
 have h := opWords_len x
 have := joinC_le (c := 32) (n := 21) (opWords x) h.2
 exact Nat.le_trans this (Nat.mul_le_mul_right _ h.1)
theorem txt_pushB {h h1 : Heap} {B : Nat} {v : CV} {l ys : List Wd} {K : CV × Heap → Prop} {n : Nat} (hn : n = ys.length) (k1 : Keep NoneOf h h1) (hB : h.length ≤ B) (hh : B ≤ h1.length) (ow : OwnL .str h1 NoneOf v l) (hv : ∀ b, v.blk = some b → B ≤ b) (hl : l.length ≤ 10000000) (hy : ys.length ≤ 100)
  (kk : ∀ v' h2, OwnL .str h2 NoneOf v' (l ++ ys) → Keep NoneOf h h2 → Keep (fun b => B ≤ b) h1 h2 → (∀ b, v'.blk = some b → B ≤ b) → K (v', h2)) :
  OV (appendTo (h1 ++ [.arr (ys.map .str) .tight]) 1 v n (ys.map .str)) K := by
 refine OV_pushes (e := .str) (m := ys) (ow.on (Keep.app _ _ _)) rows_strs hn (fun _ hb => hb.elim) (by simp [big]; omega) (by simp [big]; omega) (by decide) ?_
 intro v' h2 o2 k2 hb2
 have hb3 : ∀ b, v'.blk = some b → B ≤ b := fun b hb => by
  rcases hb2 b hb with q | q
  ·exact hv b q
  ·simp at q; omega
 refine kk v' h2 o2 ((k1.trans (Keep.app _ _ _)).then k2 fun b hb e => by have := hv b e; omega) ?_ hb3
 exact ((Keep.app _ _ _).then k2 fun b hb e => hv b e)
def OtI (h : Heap) (cv : CV) (l0 : List Wd) (cs : List Case) (m : Nat) (e : Env) (h' : Heap) : Prop :=
 ∃ (i : Nat) (v : CV), i ≤ cs.length ∧ m = cs.length - i ∧ e = [(3, v), (63, cv), (64, .int .i64 cs.length), (65, .int .i64 i)] ∧ Keep NoneOf h h' ∧ OwnL .str h' NoneOf v (l0 ++ (cs.take i).flatMap told) ∧ ∀ b, v.blk = some b → h.length ≤ b
theorem opText_spec (lp : LP p) {h : Heap} {c : List CV} {x : OpV} {P : Nat → Prop} (r0 : opC.rep h P c x) (hx : x.In) : WF p 221 [.agg c] h fun r h' => r = .str (opText x) ∧ Keep NoneOf h h' := by
 obtain ⟨cv, hC, s0⟩ := r0
 refine WF_of (by rw [lp.pg]; exact S.pg221) (lp.no ⟨rfl, rfl⟩) ?_
 show W p S.b221 _ _ (retQ [.t 2] _)
 unfold S.b221
 have c0 : c[0]? = some (.int .i64 x.kind) := by subst hC; rfl
 have c1 : c[1]? = some (.int .i64 x.n) := by subst hC; rfl
 have c2 : c[2]? = some (.int .i64 x.v) := by subst hC; rfl
 have c3 : c[3]? = some (.int .i64 x.wait) := by subst hC; rfl
 have c4 : c[4]? = some cv := by subst hC; rfl
 by_cases k0 : x.kind < 1
 ·rw [show opText x = [] by unfold opText; rw [if_pos (.inl k0)]]
  simp [CV.cells, one0, c0, k0]
  exact Keep.app _ _ _
 by_cases k9 : 9 < x.kind
 ·rw [show opText x = [] by unfold opText; rw [if_pos (.inr k9)]]
  simp [CV.cells, one0, c0, k0, k9]
  exact Keep.app _ _ _
 rw [show opText x = joinC 32 (opWords x) by unfold opText; rw [if_neg (by omega)]]
 clear hC
 simp [CV.cells, one0, two0, c0, k0, k9]
 refine WO_re_n ?_
 simp
 refine (kinds_spec lp).mono ?_
 rintro r h1 ⟨v, rfl, sl, k1⟩
 have g0 := k1.at (b := h.length) (o := .arr c .tight) (by simp) id
 have l0 := ld g0
 refine ⟨fun c => by simp [recheckB, wanted, Env.get, cls, evOp, Opd.ev, withH, CV.eqb, l0, c0], ?_⟩
 obtain ⟨b0, o0, x1, _, x3⟩ := kind_row (k := x.kind) sl (by omega) (by omega)
 have x30 : loadAt h1 b0 o0 none = some (.str (wordOf x.kind)) := x3 0 (by decide)
 have hlt1 := lt_of_get g0
 have kH : Keep NoneOf h (h1 ++ [Obj.arr [.str (wordOf x.kind)] .tight]) := ((Keep.app _ _ _).trans k1).trans (Keep.app _ _ _)
 have gH : (h1 ++ [Obj.arr [.str (wordOf x.kind)] .tight])[h.length]? = some (.arr c .tight) := get_app g0
 have ow : OwnL .str (h1 ++ [Obj.arr [.str (wordOf x.kind)] .tight]) NoneOf (.sl h1.length 0 1 1) [wordOf x.kind] := by
  refine ⟨_, .inr ⟨h1.length, 1, .tight, rfl, ?_, .inl rfl, by simp⟩, rows_strs, fun b hb hn => hn⟩
  rfl
 have hv : ∀ b, (CV.sl h1.length 0 1 1).blk = some b → h.length + 1 ≤ b := fun b hb => by simp [CV.blk] at hb; omega
 have hlH : h.length + 1 ≤ (h1 ++ [Obj.arr [.str (wordOf x.kind)] .tight]).length := by simp; omega
 simp [x1, x30, fillC, splice, CV.cells]
 generalize h1 ++ [Obj.arr [.str (wordOf x.kind)] .tight] = H at *
 generalize CV.sl h1.length 0 1 1 = vv at *
 clear x1 x3 x30 sl g0 l0 k1
 have m0 := ld gH
 have sH := s0.on kH
 have nH := sH.len (by decide)
 have hlen := (opWords_len x).1
 have hjo := opWords_join (x := x)
 have hcl := hx.l
 have fin : ∀ {v' : CV} {h' : Heap}, Keep NoneOf h h' → OwnL .str h' NoneOf v' (opWords x) → WF p 128 [v', .str [32]] h' fun r h'' => r = .str (joinC 32 (opWords x)) ∧ Keep NoneOf h h'' := fun k o => (join_spec lp o.sl (by omega) (by omega)).mono fun r h'' ⟨a, b⟩ => ⟨a, b ▸ k⟩
 have hwords : opWords x = wordOf x.kind :: (if x.kind = 4 then [itoa x.n, itoa x.v, waitW x.wait] else if x.kind = 5 then [itoa x.n, waitW x.wait] else if x.kind = 7 then waitW x.wait :: x.cases.flatMap told else if x.kind = 9 then [] else [itoa x.n]) := rfl
 by_cases h4 : x.kind = 4
 ·rw [if_pos h4] at hwords
  simp [m0, c0, c1, c2, c3, c4, h4]
  refine WO_re_n ?_
  simp
  refine (wordText_spec lp hx.n.1 hx.n.2).mono ?_
  rintro r h2 ⟨rfl, rfl⟩
  refine ⟨fun c => by simp [recheckB, wanted, Env.get, cls, evOp, Opd.ev, withH, CV.eqb, m0, c2, c3, CV.eqb_refl], ?_⟩
  refine WO_re_n ?_
  simp
  refine (wordText_spec lp hx.v.1 hx.v.2).mono ?_
  rintro r h2 ⟨rfl, rfl⟩
  refine ⟨fun c => by simp [recheckB, wanted, Env.get, cls, evOp, Opd.ev, withH, CV.eqb, m0, c2, c3, CV.eqb_refl], ?_⟩
  refine (opWait_spec lp hx.w).mono ?_
  rintro r h2 ⟨rfl, rfl⟩
  simp [fillC, splice, CV.cells, spread, cellsAt]
  refine txt_pushB (ys := [itoa x.n, itoa x.v, waitW x.wait]) (B := h.length + 1) rfl kH (by omega) hlH ow hv (by simp) (by simp) ?_
  intro v' h3 o3 k3 _ _
  simp
  refine (fin k3 (by rw [hwords]; exact o3)).mono ?_
  rintro r h4 ⟨rfl, k4⟩
  simp
  exact k4
 rw [if_neg h4] at hwords
 by_cases h5 : x.kind = 5
 ·rw [if_pos h5] at hwords
  simp [m0, c0, c1, c2, c3, c4, h5]
  refine WO_re_n ?_
  simp
  refine (wordText_spec lp hx.n.1 hx.n.2).mono ?_
  rintro r h2 ⟨rfl, rfl⟩
  refine ⟨fun c => by simp [recheckB, wanted, Env.get, cls, evOp, Opd.ev, withH, CV.eqb, m0, c2, c3, CV.eqb_refl], ?_⟩
  refine (opWait_spec lp hx.w).mono ?_
  rintro r h2 ⟨rfl, rfl⟩
  simp [fillC, splice, CV.cells, spread, cellsAt]
  refine txt_pushB (ys := [itoa x.n, waitW x.wait]) (B := h.length + 1) rfl kH (by omega) hlH ow hv (by simp) (by simp) ?_
  intro v' h3 o3 k3 _ _
  simp
  refine (fin k3 (by rw [hwords]; exact o3)).mono ?_
  rintro r h4 ⟨rfl, k4⟩
  simp
  exact k4
 rw [if_neg h5] at hwords
 by_cases h7 : x.kind = 7
 ·rw [if_pos h7] at hwords
  simp [m0, c0, c1, c2, c3, c4, h7]
  refine (opWait_spec lp hx.w).mono ?_
  rintro r h2 ⟨rfl, rfl⟩
  simp [fillC, splice, CV.cells, spread, cellsAt]
  refine txt_pushB (ys := [waitW x.wait]) (B := h.length + 1) rfl kH (by omega) hlH ow hv (by simp) (by simp) ?_
  intro v' h3 o3 k3 k3b hv3
  have gH3 := k3b.at gH (by omega)
  have m3 := ld gH3
  have s3 := s0.on k3
  have n3 := s3.len (by decide)
  simp [m3, c4, n3]
  refine W_loop (OtI h cv [wordOf x.kind, waitW x.wait] x.cases) ?_ x.cases.length ⟨0, v', by omega, by omega, rfl, k3, by simpa [h7] using o3, fun b hb => by have := hv3 b hb; omega⟩
  rintro m e h4 ⟨i, v4, hi, rfl, rfl, k4, o4, hv4⟩
  by_cases hie : i = x.cases.length
  ·subst hie
   rw [List.take_length] at o4
   simp
   refine (fin k4 (by rw [hwords]; exact o4)).mono ?_
   rintro r h5 ⟨rfl, k5⟩
   simp
   exact k5
  ·have hlt : i < x.cases.length := by omega
   have hlt' : (i : Int) < x.cases.length := by omega
   obtain ⟨b0, o0, row, x1, x2, x3, x4⟩ := (s0.on k4).row (k := .i64) (by decide) hlt
   have x4 : row = caL x.cases[i] := x4
   simp only [caseC] at x1 x2
   rw [x4] at x2
   have hw : IntKind.i64.wrap ((i : Int) + 1) = ((i + 1 : Nat) : Int) := by rw [w64 (by omega) (by omega)]; omega
   have st := store_new (h := h4) (z := [.bool false, .int .i64 0, .int .i64 0]) (row := caL x.cases[i]) rfl rfl
   have hf : fits (some 3) (.agg (caL x.cases[i])) = true := rfl
   have ln := load_new (h := h4) (row := caL x.cases[i]) (n := 3) rfl
   have hin := hx.c x.cases[i] (List.getElem_mem hlt)
   simp [hlt', x1, x2, hf, st, ln]
   refine (opTold_spec lp hin.1 hin.2).mono ?_
   rintro r h5 ⟨rfl, rfl⟩
   have kap : Keep NoneOf h4 (h4 ++ [.arr (caL x.cases[i]) .tight] ++ [.arr (caL x.cases[i]) .tight]) := (Keep.app _ _ _).trans (Keep.app _ _ _)
   have hsp : ∀ (G : Heap) (ys : List Wd), spread (G ++ [.arr (ys.map .str) .tight]) 1 (.sl G.length 0 ys.length ys.length) = some (ys.length, ys.map .str) := by
    intro G ys
    simp [spread, cellsAt]
    exact List.take_of_length_le (by simp)
   have hL : (h4 ++ [Obj.arr (caL x.cases[i]) .tight]).length + 1 = (h4 ++ [Obj.arr (caL x.cases[i]) .tight] ++ [Obj.arr (caL x.cases[i]) .tight]).length := by simp
   have hE : h4 ++ [.arr (caL x.cases[i]) .tight] ++ [.arr (caL x.cases[i]) .tight, .arr ((told x.cases[i]).map .str) .tight] = (h4 ++ [.arr (caL x.cases[i]) .tight] ++ [.arr (caL x.cases[i]) .tight]) ++ [.arr ((told x.cases[i]).map .str) .tight] := by simp
   rw [hE, hL]
   have o5 := o4.on kap
   have k5 := k4.trans kap
   generalize h4 ++ [Obj.arr (caL x.cases[i]) .tight] ++ [Obj.arr (caL x.cases[i]) .tight] = H5 at *
   have ht := (told_len x.cases[i]).1
   have htl : ([wordOf x.kind, waitW x.wait] ++ (x.cases.take i).flatMap told).length ≤ 10000000 := by
    have := tolds_len (x.cases.take i)
    rw [List.length_take] at this
    simp only [List.length_append, List.length_cons, List.length_nil]
    omega
   simp [hsp]
   refine txt_pushB (ys := told x.cases[i]) (B := h.length) rfl k5 (by omega) k5.len o5 hv4 htl (by omega) ?_
   intro v' h6 o6 k6 k6b hv6
   simp [hw]
   refine ⟨x.cases.length - (i + 1), by omega, i + 1, v', by omega, rfl, rfl, k6, ?_, hv6⟩
   rw [← List.take_append_getElem hlt, List.flatMap_append, ← List.append_assoc]
   simpa using o6
 rw [if_neg h7] at hwords
 by_cases h9 : x.kind = 9
 ·rw [if_pos h9] at hwords
  simp [m0, c0, c1, c2, c3, c4, h9]
  refine (fin kH (by rw [hwords]; exact ow)).mono ?_
  rintro r h4 ⟨rfl, k4⟩
  simp
  exact k4
 rw [if_neg h9] at hwords
 simp [m0, c0, c1, c2, c3, c4, h4, h5, h7, h9]
 refine (wordText_spec lp hx.n.1 hx.n.2).mono ?_
 rintro r h2 ⟨rfl, rfl⟩
 simp [fillC, splice, CV.cells, spread, cellsAt]
 refine txt_pushB (ys := [itoa x.n]) (B := h.length + 1) rfl kH (by omega) hlH ow hv (by simp) (by simp) ?_
 intro v' h3 o3 k3 _ _
 simp
 refine (fin k3 (by rw [hwords]; exact o3)).mono ?_
 rintro r h4 ⟨rfl, k4⟩
 simp
 exact k4
set_option maxHeartbeats 1000000
def okOp (x : OpV) : Prop := inI x.kind ∧ inI x.n ∧ inI x.v ∧ inI x.wait ∧ ∀ c ∈ x.cases, inI c.chan ∧ inI c.v
end Go.Cl
