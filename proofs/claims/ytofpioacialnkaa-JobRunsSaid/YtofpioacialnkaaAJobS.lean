/-
  Layer 20: jobs alike.
-/
import Derived.Test.YtofpioacialnkaaAJobC
namespace Go.Cl
open Go
set_option linter.unusedSimpArgs false
set_option linter.unusedVariables false
set_option maxHeartbeats 4000000

variable {p : PP}

theorem jobSame_spec {h : Heap} {c d : List CV} {x y : JobV} {P Q : Nat → Prop} (hpg : p.Pg = S.pg) (q34 : p.pr 34 = none) (q61 : p.pr 61 = none) (q62 : p.pr 62 = none) (q51 : p.pr 51 = none) (q66 : p.pr 66 = none) (r0 : jobC.rep h P c x) (r1 : jobC.rep h Q d y)
    (hb : x.flat.length ≤ big) (hc : ∀ o ∈ x.flat, o.cases.length ≤ big) (hh : x.held.length ≤ big) :
    WF p 34 [.agg c, .agg d] h fun r h' => Keep NoneOf h h' ∧ r = .bool (decide (x = y)) := by
  obtain ⟨fv, hv, rfl, s0, t0⟩ := r0
  obtain ⟨gv, iv, rfl, s1, t1⟩ := r1
  obtain ⟨live, flat, pc, left, used, most, since, seq, waits, held⟩ := x
  obtain ⟨live', flat', pc', left', used', most', since', seq', waits', held'⟩ := y
  simp only [jobCells] at s0 t0 s1 t1 hb hc hh ⊢
  have kap : ∀ (h : Heap) g, Keep NoneOf h (h ++ g) := fun h g => Keep.app _ _ _
  refine WF_of (by rw [hpg]; exact S.pg34) q34 ?_
  show W p S.b34 _ _ (retQ [.t 4] _)
  unfold S.b34
  by_cases c1 : live = live'
  case neg => simp [two0, two1, c1]; exact kap h _
  by_cases c2 : pc = pc'
  case neg => simp [two0, two1, c1, c2]; exact kap h _
  by_cases c3 : left = left'
  case neg => simp [two0, two1, c1, c2, c3]; exact kap h _
  by_cases c4 : used = used'
  case neg => simp [two0, two1, c1, c2, c3, c4]; exact kap h _
  by_cases c5 : most = most'
  case neg => simp [two0, two1, c1, c2, c3, c4, c5]; exact kap h _
  by_cases c6 : since = since'
  case neg => simp [two0, two1, c1, c2, c3, c4, c5, c6]; exact kap h _
  by_cases c7 : seq = seq'
  case neg => simp [two0, two1, c1, c2, c3, c4, c5, c6, c7]; exact kap h _
  by_cases c8 : waits = waits'
  case neg => simp [two0, two1, c1, c2, c3, c4, c5, c6, c7, c8]; exact kap h _
  subst c1 c2 c3 c4 c5 c6 c7 c8
  simp [two0, two1]
  refine (intsEq_spec (by rw [hpg]; exact S.pg61) q61 (t0.on (kap h _)) (t1.on (kap h _)) hh).mono ?_
  rintro r h2 ⟨rfl, rfl⟩
  by_cases c9 : held = held'
  case neg => simp [c9]; exact kap h _
  subst c9
  simp [two0, two1]
  refine (opsEq_spec hpg q62 q51 q66 (s0.on (kap h _)) (s1.on (kap h _)) hb hc).mono ?_
  rintro r h3 ⟨rfl, k3⟩
  simp
  exact (kap h _).trans k3

theorem refSameJob_spec {h : Heap} {c d : List CV} {x y : JobV} {P Q : Nat → Prop} (hpg : p.Pg = S.pg) (q35 : p.pr 35 = none) (q63 : p.pr 63 = none) (q33 : p.pr 33 = none) (q64 : p.pr 64 = none) (r0 : jobC.rep h P c x) (r1 : jobC.rep h Q d y)
    (hb : x.flat.length ≤ big) (hc : ∀ o ∈ x.flat, o.cases.length ≤ big) (hh : x.held.length ≤ big) :
    WF p 35 [.agg c, .agg d] h fun r h' => Keep NoneOf h h' ∧ r = .bool (decide (x = y)) := by
  obtain ⟨fv, hv, rfl, s0, t0⟩ := r0
  obtain ⟨gv, iv, rfl, s1, t1⟩ := r1
  obtain ⟨live, flat, pc, left, used, most, since, seq, waits, held⟩ := x
  obtain ⟨live', flat', pc', left', used', most', since', seq', waits', held'⟩ := y
  simp only [jobCells] at s0 t0 s1 t1 hb hc hh ⊢
  have kap : ∀ (h : Heap) g, Keep NoneOf h (h ++ g) := fun h g => Keep.app _ _ _
  refine WF_of (by rw [hpg]; exact S.pg35) q35 ?_
  show W p S.b35 _ _ (retQ [.t 4] _)
  unfold S.b35
  by_cases c1 : live = live'
  case neg => simp [two0, two1, c1]; exact kap h _
  subst c1
  simp [two0, two1]
  refine (refSameProg_spec hpg q63 q33 (s0.on (kap h _)) (s1.on (kap h _)) hb hc).mono ?_
  rintro r h2 ⟨rfl, k2⟩
  have g0 := k2.at (b := h.length) (o := .arr [.bool live, fv, .int .i64 pc, .int .i64 left, .int .i64 used, .int .i64 most, .int .i64 since, .int .i64 seq, .bool waits, hv] .tight) (by simp) id
  have g1 := k2.at (b := h.length + 1) (o := .arr [.bool live, gv, .int .i64 pc', .int .i64 left', .int .i64 used', .int .i64 most', .int .i64 since', .int .i64 seq', .bool waits', iv] .tight) (by simp) id
  have l0 := ld g0
  have l1 := ld g1
  have k02 : Keep NoneOf h h2 := (kap h _).trans k2
  by_cases cf : flat = flat'
  case neg => simp [cf]; exact k02
  by_cases c2 : pc = pc'
  case neg => simp [l0, l1, cf, c2]; exact k02
  by_cases c3 : left = left'
  case neg => simp [l0, l1, cf, c2, c3]; exact k02
  by_cases c4 : used = used'
  case neg => simp [l0, l1, cf, c2, c3, c4]; exact k02
  by_cases c5 : most = most'
  case neg => simp [l0, l1, cf, c2, c3, c4, c5]; exact k02
  by_cases c6 : since = since'
  case neg => simp [l0, l1, cf, c2, c3, c4, c5, c6]; exact k02
  by_cases c7 : seq = seq'
  case neg => simp [l0, l1, cf, c2, c3, c4, c5, c6, c7]; exact k02
  by_cases c8 : waits = waits'
  case neg => simp [l0, l1, cf, c2, c3, c4, c5, c6, c7, c8]; exact k02
  subst cf c2 c3 c4 c5 c6 c7 c8
  simp [l0, l1]
  refine (intsK_spec (K := 64) (by rw [hpg]; exact S.pg64) q64 (t0.on k02).ints (t1.on k02).ints hh).mono ?_
  rintro r h3 ⟨rfl, rfl⟩
  simp
  exact k02

end Go.Cl
