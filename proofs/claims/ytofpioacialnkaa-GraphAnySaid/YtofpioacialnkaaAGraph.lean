/-
  Layer 18: what 'Clone', 'in', 'Prios' come to.
-/
import Derived.Test.YtofpioacialnkaaPGraph
import Derived.Test.YtofpioacialnkaaS
namespace Go.Cl
open Go
set_option linter.unusedSimpArgs false
set_option linter.unusedVariables false

variable {p : PP}

/-- a slice that is the caller's own -/
def Own (h : Heap) (v : CV) (l : List CV) : Prop := (v = .nils ∧ l = []) ∨ ∃ b st, v = .sl b 0 l.length l.length ∧ h[b]? = some (.arr l st) ∧ st ≠ .ro

theorem Own.read {h : Heap} {v : CV} {l : List CV} (o : Own h v l) : Read h 1 v l := by
  rcases o with o | ⟨b, st, rfl, h1, _⟩
  · exact .inl o
  · exact .inr ⟨b, 0, l.length, l.length, l, st, rfl, by simp, h1, by simp, by simp⟩

/-- pairs of numbers in two cells each -/
def pairs (E : List (Int × Int)) : List CV := E.flatMap fun e => [.int .i64 e.1, .int .i64 e.2]

theorem pairs_length {E : List (Int × Int)} : (pairs E).length = E.length * 2 := by
  induction E with
  | nil => rfl
  | cons e r ih => simp only [pairs, List.flatMap_cons, List.length_append] at ih ⊢; simp [ih]; omega

theorem pairs_row {E : List (Int × Int)} : ∀ {i : Nat} (hi : i < E.length), ((pairs E).drop (i * 2)).take 2 = [.int .i64 E[i].1, .int .i64 E[i].2] := by
  induction E with
  | nil => intro i hi; simp at hi
  | cons e r ih =>
    intro i hi
    cases i with
    | zero => simp [pairs]
    | succ i =>
      have := ih (i := i) (by simpa using hi)
      simpa [pairs, Nat.succ_mul] using this

theorem spread_read {h : Heap} {v : CV} {l : List CV} (r : Read h 1 v l) : spread h 1 v = some (l.length, l) := by
  rcases r with ⟨rfl, rfl⟩ | ⟨b, o, n, c, cs, st, rfl, h1, h2, h3, h4⟩
  · rfl
  · simp only [Nat.mul_one] at h1 h3 h4
    simp only [spread, cellsAt, h2, Nat.mul_one, h3, if_true, ← h4, h1]

theorem clone_spec {h : Heap} {v : CV} {l : List Int} (hp : p.Pg 55 = some S.f55) (hr : p.pr 55 = none) (r : Read h 1 v (ints .i64 l)) (hb : l.length ≤ big) :
    WF p 55 [v] h fun r h' => Own h' r (ints .i64 l) ∧ Keep (fun _ => False) h h' ∧ ∀ b, r.blk = some b → h.length ≤ b := by
  refine WF_of hp hr ?_
  show W p S.b55 _ _ (retQ [.t 2] _)
  unfold S.b55
  have hs : (ints .i64 l).all CV.scalar = true := by simp [ints, CV.scalar]
  rcases r with ⟨rfl, h0⟩ | ⟨b, o, n, c, cs, st, rfl, h1, h2, h3, h4⟩
  · have : l = [] := by simpa [ints] using h0
    subst this
    simp [eqv, Own, ints, Keep.refl, CV.blk]
  · have r' : Read (h ++ [.arr [] .tight]) 1 (.sl b o n c) (ints .i64 l) := .inr ⟨b, o, n, c, cs, st, rfl, h1, get_app h2, h3, h4⟩
    have sp := spread_read r'
    simp only [ints_length] at sp
    simp [eqv, fillC, sp]
    by_cases hl : l.length = 0
    · have : l = [] := List.length_eq_zero_iff.1 hl
      subst this
      simp [appendTo, ints]
      exact ⟨.inr ⟨h.length, .tight, rfl, by simp, by simp⟩, Keep.app _ _ _, by simp [CV.blk]⟩
    · have hbig : ¬ (l.length > big ∨ (ints .i64 l).all CV.scalar = false) := by rw [hs]; simp; exact hb
      simp only [appendTo]
      rw [if_neg hbig]
      simp [hl, kill]
      refine ⟨.inr ⟨h.length + 1, .loose 1, by simp, ?_, by simp⟩, Keep.app _ _ _, by simp [CV.blk]⟩
      simp
theorem in_spec {h : Heap} {a b n : Int} (hp : p.Pg 56 = some S.f56) (hr : p.pr 56 = none) :
    WF p 56 [.agg [.int .i64 a, .int .i64 b], .int .i64 n] h fun r h' => r = .bool (decide (0 ≤ a ∧ a < n ∧ 0 ≤ b ∧ b < n)) ∧ Keep (fun _ => False) h h' := by
  refine WF_of hp hr ?_
  show W p S.b56 _ _ (retQ [.t 4] _)
  unfold S.b56
  have hb : (h ++ [Obj.arr [.int .i64 a, .int .i64 b] .tight])[h.length]? = some (.arr [.int .i64 a, .int .i64 b] .tight) := get_new
  have l := ld hb
  by_cases h1 : 0 ≤ a
  · by_cases h2 : a < n
    · by_cases h3 : 0 ≤ b
      · simp [CV.cells, l, h1, h2, h3, Keep.app]
      · simp [CV.cells, l, h1, h2, h3, Keep.app]
    · simp [CV.cells, l, h1, h2, Keep.app]
  · simp [CV.cells, l, h1, Keep.app]
end Go.Cl
