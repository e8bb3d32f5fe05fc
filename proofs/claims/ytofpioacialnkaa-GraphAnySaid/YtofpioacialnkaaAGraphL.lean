/-
  GraphLends, on the clean evaluator; edges among the arguments.
-/
import Derived.Test.YtofpioacialnkaaAGraphP
namespace Go.Cl
open Go
set_option linter.unusedSimpArgs false
set_option linter.unusedVariables false

variable {p : PP}

/-- a slice of pairs among the arguments -/
theorem arg_pairs {h : Heap} {v : CV} (a : Arg h (.sl (.cons (.int .i64) (.cons (.int .i64) .nil))) v) : ∃ E : List (Int × Int), Read h 2 v (pairs E) ∧ ∀ x ∈ E, (IntKind.i64.min ≤ x.1 ∧ x.1 ≤ IntKind.i64.max) ∧ (IntKind.i64.min ≤ x.2 ∧ x.2 ≤ IntKind.i64.max) := by
  rcases (a : Sh h (.sl (.cons (.int .i64) (.cons (.int .i64) .nil))) [v]) with a | ⟨b, n, cs, h1, h2, h3, h4, h5⟩
  · simp at a; subst a; exact ⟨[], .inl ⟨rfl, rfl⟩, by simp⟩
  · simp at h1; subst h1
    have hn2 : Ty.n (.cons (.int .i64) (.cons (.int .i64) .nil)) = 2 := rfl
    rw [hn2] at h3 h5
    have key : ∀ i, i < n → ∃ x y, (cs.drop (i * 2)).take 2 = [.int .i64 x, .int .i64 y] ∧ (IntKind.i64.min ≤ x ∧ x ≤ IntKind.i64.max) ∧ (IntKind.i64.min ≤ y ∧ y ≤ IntKind.i64.max) := by
      intro i hi
      obtain ⟨⟨x, hx, hxw⟩, ⟨y, hy, hyw⟩, hz⟩ := h5 i hi
      simp only [Lit.wf, Bool.and_eq_true, decide_eq_true_eq] at hxw hyw
      refine ⟨x, y, ?_, hxw, hyw⟩
      have e1 : Ty.n (.int .i64) = 1 := rfl
      rw [e1] at hx hy hz
      have := List.take_append_drop 1 ((cs.drop (i * 2)).take 2)
      rw [← this, hx]
      have t2 := List.take_append_drop 1 (((cs.drop (i * 2)).take 2).drop 1)
      rw [← t2, hy]
      rw [show (((cs.drop (i * 2)).take 2).drop 1).drop 1 = [] from hz]
      rfl
    have : ∀ (n : Nat) (cs : List CV), cs.length = n * 2 → (∀ i, i < n → ∃ x y, (cs.drop (i * 2)).take 2 = [.int .i64 x, .int .i64 y] ∧ (IntKind.i64.min ≤ x ∧ x ≤ IntKind.i64.max) ∧ (IntKind.i64.min ≤ y ∧ y ≤ IntKind.i64.max)) →
        ∃ E : List (Int × Int), pairs E = cs ∧ E.length = n ∧ ∀ x ∈ E, (IntKind.i64.min ≤ x.1 ∧ x.1 ≤ IntKind.i64.max) ∧ (IntKind.i64.min ≤ x.2 ∧ x.2 ≤ IntKind.i64.max) := by
      intro n
      induction n with
      | zero => intro cs hc _; exact ⟨[], by simp [List.length_eq_zero_iff.1 (by simpa using hc), pairs], rfl, by simp⟩
      | succ n ih =>
        intro cs hc hk
        obtain ⟨x, y, hxy, hx, hy⟩ := hk 0 (by omega)
        simp only [Nat.zero_mul, List.drop_zero] at hxy
        obtain ⟨E, he, hl, hr⟩ := ih (cs.drop 2) (by rw [List.length_drop, hc]; omega) (fun i hi => by
          have := hk (i + 1) (by omega)
          rw [List.drop_drop, show 2 + i * 2 = (i + 1) * 2 by omega]
          exact this)
        refine ⟨(x, y) :: E, ?_, by simp [hl], ?_⟩
        · have := List.take_append_drop 2 cs
          rw [← this, hxy, ← he]; rfl
        · intro z hz
          rcases List.mem_cons.1 hz with rfl | hz
          · exact ⟨hx, hy⟩
          · exact hr z hz
    obtain ⟨E, he, hl, hr⟩ := this n cs h3 key
    refine ⟨E, .inr ⟨b, 0, n, n, cs, .ro, rfl, by rw [pairs_length, hl], h2, by omega, ?_⟩, hr⟩
    rw [he]; simp [← h3]

def IInv (v0 v1 : CV) (a b : List Int) (h : Heap) (m : Nat) (e : Env) (h' : Heap) : Prop :=
  ∃ i, i ≤ a.length ∧ m = a.length - i ∧ e = [(0, v0), (1, v1), (5, .int .i64 (i : Nat))] ∧ h' = h ∧ a.take i = b.take i

theorem intsK_spec {K : Nat} {h : Heap} {v0 v1 : CV} {a b : List Int} (h20 : p.Pg K = some S.f20) (q20 : p.pr K = none) (r0 : Read h 1 v0 (ints .i64 a)) (r1 : Read h 1 v1 (ints .i64 b)) (ha : a.length ≤ big) :
    WF p K [v0, v1] h fun r h' => r = .bool (decide (a = b)) ∧ h' = h := by
  refine WF_of h20 q20 ?_
  show W p S.b20 _ _ (retQ [.t 4] _)
  unfold S.b20
  have n0 := readI_len r0
  have n1 := readI_len r1
  by_cases hl : a.length = b.length
  · have hl' : (a.length : Int) = b.length := by omega
    simp [n0, n1, hl, hl']
    refine W_loop (IInv v0 v1 a b h) ?_ a.length ⟨0, by omega, by omega, rfl, rfl, rfl⟩
    rintro m e h' ⟨i, hi, rfl, rfl, rfl, ht⟩
    by_cases hia : i = a.length
    · subst hia
      have : a = b := by rw [List.take_length] at ht; rw [ht, hl, List.take_length]
      simp [n0, this]
    · have hlt : i < a.length := by omega
      have hlt2 : i < b.length := by omega
      have hlt' : (i : Int) < a.length := by omega
      obtain ⟨b0, o0, x1, x2, x3⟩ := readI_idx (k' := .i64) r0 hlt
      obtain ⟨b1, o1, y1, y2, y3⟩ := readI_idx (k' := .i64) r1 hlt2
      have hw : IntKind.i64.wrap ((i : Int) + 1) = ((i + 1 : Nat) : Int) := by
        simp [big] at ha
        rw [w64 (by omega) (by omega)]; omega
      by_cases he : a[i] = b[i]
      · simp [n0, hlt', x1, x3, y1, y3, he, hw]
        refine ⟨a.length - (i + 1), by omega, i + 1, by omega, rfl, rfl, rfl, ?_⟩
        rw [← List.take_append_getElem hlt, ← List.take_append_getElem hlt2, ht, he]
      · have hne : ¬ a = b := fun e => he (by subst e; rfl)
        simp [n0, hlt', x1, x3, y1, y3, he, hne]
  · have hl' : ¬ (a.length : Int) = b.length := by omega
    have hne : ¬ a = b := fun e => hl (by rw [e])
    simp [n0, n1, hl, hl', hne]

theorem ints_spec {h : Heap} {v0 v1 : CV} {a b : List Int} (h20 : p.Pg 20 = some S.f20) (q20 : p.pr 20 = none) (r0 : Read h 1 v0 (ints .i64 a)) (r1 : Read h 1 v1 (ints .i64 b)) (ha : a.length ≤ big) :
    WF p 20 [v0, v1] h fun r h' => r = .bool (decide (a = b)) ∧ h' = h := intsK_spec h20 q20 r0 r1 ha
end Go.Cl
