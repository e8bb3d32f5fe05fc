/-
  Plain law of layer 18: who is come to from one, by one edge or more.
-/
import Derived.Test.YtofpioacialnkaaPGraph
namespace Go.Cl
open Go
set_option linter.unusedSimpArgs false
set_option linter.unusedVariables false

def okI (n : Int) (e : Int × Int) : Prop := 0 ≤ e.1 ∧ e.1 < n ∧ 0 ≤ e.2 ∧ e.2 < n
instance (n : Int) (e : Int × Int) : Decidable (okI n e) := by unfold okI; infer_instance

inductive Plus (n : Int) (E : List (Int × Int)) : Int → Int → Prop
  | one {a b : Int} : (a, b) ∈ E → okI n (a, b) → Plus n E a b
  | more {a b c : Int} : Plus n E a b → (b, c) ∈ E → okI n (b, c) → Plus n E a c

/-- edges whose end is not come to -/
def left (E : List (Int × Int)) (R : List Int) : Nat := (E.filter fun e => decide (e.2 ∉ R)).length

theorem left_le {E : List (Int × Int)} {R : List Int} : left E R ≤ E.length := List.length_filter_le _ _

theorem left_mono {b : Int} {R : List Int} : ∀ {E : List (Int × Int)}, left E (b :: R) ≤ left E R
  | [] => Nat.le_refl _
  | e :: r => by
    have ih := left_mono (b := b) (R := R) (E := r)
    simp only [left, List.filter_cons] at ih ⊢
    by_cases h1 : e.2 ∈ R
    · simp [h1]; simpa [not_or] using ih
    · by_cases h2 : e.2 = b
      · subst h2; simp [h1]; simp [not_or] at ih; omega
      · simp [h1, h2]; simpa [not_or] using ih

theorem left_cons {a b : Int} {R : List Int} : ∀ {E : List (Int × Int)}, (a, b) ∈ E → b ∉ R → left E (b :: R) < left E R
  | [], h, _ => by simp at h
  | e :: r, h, hb => by
    rcases List.mem_cons.1 h with h | h
    · subst h
      have := left_mono (b := b) (R := R) (E := r)
      simp only [left, List.filter_cons] at this ⊢
      simp [hb]; simp [not_or] at this; omega
    · have ih := left_cons h hb
      simp only [left, List.filter_cons] at ih ⊢
      by_cases h1 : e.2 ∈ R
      · simp [h1]; simpa [not_or] using ih
      · by_cases h2 : e.2 = b
        · subst h2; simp [h1]; simp [not_or] at ih; omega
        · simp [h1, h2]; simpa [not_or] using ih

/-- on the way: what is come to, what is still to be looked at -/
structure Way (n : Int) (E : List (Int × Int)) (s : Int) (R T : List Int) : Prop where
  sound : ∀ k ∈ R, Plus n E s k
  todo : ∀ k ∈ T, k = s ∨ k ∈ R
  closed : ∀ k, (k = s ∨ k ∈ R) → k ∉ T → ∀ b, (k, b) ∈ E → okI n (k, b) → b ∈ R

/-- in the midst of one's edges -/
structure Mid (n : Int) (E F : List (Int × Int)) (s x : Int) (R T : List Int) : Prop where
  sound : ∀ k ∈ R, Plus n E s k
  todo : ∀ k ∈ T, k = s ∨ k ∈ R
  self : x = s ∨ x ∈ R
  mine : ∀ b, (x, b) ∈ F → okI n (x, b) → b ∈ R
  closed : ∀ k, (k = s ∨ k ∈ R) → k ∉ T → k ≠ x → ∀ b, (k, b) ∈ E → okI n (k, b) → b ∈ R

theorem Way.start (n : Int) (E : List (Int × Int)) (s : Int) : Way n E s [] [s] :=
  ⟨by simp, by simp, fun k hk hn => by simp at hk hn; exact absurd hk hn⟩

theorem Way.done {n : Int} {E : List (Int × Int)} {s : Int} {R : List Int} (w : Way n E s R []) (k : Int) : k ∈ R ↔ Plus n E s k := by
  refine ⟨w.sound k, fun h => ?_⟩
  induction h with
  | one h1 h2 => exact w.closed _ (.inl rfl) (by simp) _ h1 h2
  | more _ h1 h2 ih => exact w.closed _ (.inr ih) (by simp) _ h1 h2

theorem Way.pop {n : Int} {E : List (Int × Int)} {s x : Int} {R T : List Int} (w : Way n E s R (T ++ [x])) : Mid n E [] s x R T where
  sound := w.sound
  todo k hk := w.todo k (by simp [hk])
  self := w.todo x (by simp)
  mine b hb := by simp at hb
  closed k h1 h2 h3 := w.closed k h1 (by simp [h2, h3])

theorem Mid.over {n : Int} {E : List (Int × Int)} {s x : Int} {R T : List Int} (w : Mid n E E s x R T) : Way n E s R T where
  sound := w.sound
  todo := w.todo
  closed k h1 h2 b hb ho := by
    by_cases h : k = x
    · subst h; exact w.mine b hb ho
    · exact w.closed k h1 h2 h b hb ho

theorem Mid.skip {n : Int} {E F : List (Int × Int)} {s x : Int} {R T : List Int} {e : Int × Int} (w : Mid n E F s x R T) (h : okI n e → e.1 = x → e.2 ∈ R) : Mid n E (F ++ [e]) s x R T where
  sound := w.sound
  todo := w.todo
  self := w.self
  mine b hb ho := by
    rcases List.mem_append.1 hb with hb | hb
    · exact w.mine b hb ho
    · simp at hb; subst hb; exact h ho rfl
  closed := w.closed

theorem Mid.push {n : Int} {E F : List (Int × Int)} {s x : Int} {R T : List Int} {b : Int} (w : Mid n E F s x R T) (he : (x, b) ∈ E) (ho : okI n (x, b)) : Mid n E (F ++ [(x, b)]) s x (b :: R) (T ++ [b]) where
  sound k hk := by
    rcases List.mem_cons.1 hk with rfl | hk
    · rcases w.self with h | h
      · subst h; exact .one he ho
      · exact .more (w.sound _ h) he ho
    · exact w.sound k hk
  todo k hk := by
    rcases List.mem_append.1 hk with hk | hk
    · rcases w.todo k hk with h | h
      · exact .inl h
      · exact .inr (List.mem_cons_of_mem _ h)
    · simp at hk; subst hk; exact .inr (List.mem_cons_self)
  self := by
    rcases w.self with h | h
    · exact .inl h
    · exact .inr (List.mem_cons_of_mem _ h)
  mine c hc hoc := by
    rcases List.mem_append.1 hc with hc | hc
    · exact List.mem_cons_of_mem _ (w.mine c hc hoc)
    · simp at hc; subst hc; exact List.mem_cons_self
  closed k h1 h2 h3 c hc hoc := by
    simp at h2
    refine List.mem_cons_of_mem _ (w.closed k ?_ h2.1 h3 c hc hoc)
    rcases h1 with h | h
    · exact .inl h
    · rcases List.mem_cons.1 h with h | h
      · exact absurd h h2.2
      · exact .inr h

/-- does anyone come to itself -/
def Rounds (n : Int) (E : List (Int × Int)) : Prop := ∃ e ∈ E, okI n e ∧ Plus n E e.1 e.1

end Go.Cl
