/-
  Layer 4, plain: words put together, lines behind one another.
-/
import Derived.Test.YtiegjnklhafloaaDoorPWordS
namespace Go.Cl
open Go
set_option linter.unusedSimpArgs false
set_option linter.unusedVariables false

/-- words with a byte between them -/
def joinC (c : UInt8) : List (List UInt8) → List UInt8
  | [] => []
  | [w] => w
  | w :: x :: ws => w ++ c :: joinC c (x :: ws)

/-- lines, each with its end -/
def linesOf (l : List (List UInt8)) : List UInt8 := l.flatMap fun w => w ++ [10]

theorem joinC_snoc (c : UInt8) (w : List UInt8) : ∀ (l : List (List UInt8)), l ≠ [] → joinC c (l ++ [w]) = joinC c l ++ c :: w
  | [], h => absurd rfl h
  | [x], _ => by simp [joinC]
  | x :: y :: l, _ => by
    have ih := joinC_snoc c w (y :: l) (by simp)
    simp only [List.cons_append] at ih
    simp [joinC, ih]

theorem joinC_cons {c : UInt8} {w : List UInt8} {ws : List (List UInt8)} (h : ws ≠ []) : joinC c (w :: ws) = w ++ c :: joinC c ws := by
  cases ws with
  | nil => exact absurd rfl h
  | cons x ws => rfl

theorem join_split (c : UInt8) : ∀ (s : List UInt8), joinC c (splitC c s) = s
  | [] => rfl
  | b :: s => by
    have ih := join_split c s
    have hne := splitC_ne c s
    simp only [splitC]
    by_cases h : b == c
    · have hb : b = c := by simpa using h
      rw [if_pos h, joinC_cons hne, ih, hb]; rfl
    · rw [if_neg h]
      cases hs : splitC c s with
      | nil => exact absurd hs hne
      | cons w ws =>
        rw [hs] at ih
        cases ws with
        | nil => simp only [joinC] at ih ⊢; rw [ih]
        | cons x ws => simp only [joinC] at ih ⊢; rw [← ih]; rfl

theorem splitC_word {c : UInt8} {w r : List UInt8} (h : ∀ b ∈ w, b ≠ c) : splitC c (w ++ c :: r) = w :: splitC c r := by
  have e := splitC_at (c := c) (l := w ++ c :: r) (i := w.length) (by simp) (fun k hk => by
    rw [List.getElem?_append_left hk, List.getElem?_eq_getElem hk]
    intro e
    exact h _ (List.getElem_mem hk) (Option.some.inj e))
  rw [e]
  simp

theorem splitC_only {c : UInt8} {w : List UInt8} (h : ∀ b ∈ w, b ≠ c) : splitC c w = [w] := splitC_none fun k e => by
  obtain ⟨hk, e⟩ := List.getElem?_eq_some_iff.1 e
  exact h _ (List.getElem_mem hk) e

theorem split_join {c : UInt8} : ∀ {l : List (List UInt8)}, l ≠ [] → (∀ w ∈ l, ∀ b ∈ w, b ≠ c) → splitC c (joinC c l) = l
  | [], h, _ => absurd rfl h
  | [w], _, h => by simp only [joinC]; exact splitC_only (h w (by simp))
  | w :: x :: l, _, h => by
    rw [joinC_cons (by simp), splitC_word (h w (by simp)), split_join (l := x :: l) (by simp) fun y hy => h y (by simp at hy ⊢; right; exact hy)]

theorem linesOf_snoc (l : List (List UInt8)) (w : List UInt8) : linesOf (l ++ [w]) = linesOf l ++ w ++ [10] := by simp [linesOf]

theorem linesOf_join : ∀ {l : List (List UInt8)}, l ≠ [] → linesOf l = joinC 10 l ++ [10]
  | [], h => absurd rfl h
  | [w], _ => by simp [linesOf, joinC]
  | w :: x :: l, _ => by
    have ih := linesOf_join (l := x :: l) (by simp)
    rw [joinC_cons (by simp), List.append_assoc, List.cons_append, ← ih]
    simp [linesOf]

theorem lines_of {l : List (List UInt8)} (h : ∀ w ∈ l, ∀ b ∈ w, b ≠ 10) : linesP (linesOf l) = some l := by
  by_cases hl : l = []
  · subst hl; rfl
  · unfold linesP
    have e := linesOf_join hl
    rw [e, if_neg (by simp), if_pos (suffix_iff.2 ⟨_, rfl⟩), trimSuffix_snoc, split_join hl h]

theorem of_lines {s : List UInt8} {l : List (List UInt8)} (h : linesP s = some l) : linesOf l = s := by
  unfold linesP at h
  split at h
  · rename_i h0
    cases h; rw [h0]; rfl
  · split at h
    · rename_i h1
      cases h
      obtain ⟨t, rfl⟩ := suffix_iff.1 h1
      rw [trimSuffix_snoc, linesOf_join (splitC_ne _ _), join_split]
    · cases h

theorem words_of {l : List (List UInt8)} (h : l.all wordOk = true) : wordsP (joinC 32 l) = some l := by
  have h32 : ∀ w ∈ l, ∀ b ∈ w, b ≠ 32 := fun w hw b hb e => by
    have := List.all_eq_true.1 h w hw
    simp only [wordOk, Bool.and_eq_true] at this
    have := List.all_eq_true.1 this.2 b hb
    rw [e] at this
    simp [isSeen] at this
  cases l with
  | nil => rfl
  | cons w ws =>
    have hw := List.all_eq_true.1 h w (by simp)
    have hne : joinC 32 (w :: ws) ≠ [] := by
      simp only [wordOk, Bool.and_eq_true] at hw
      cases w with
      | nil => simp at hw
      | cons b w => cases ws <;> simp [joinC]
    unfold wordsP
    rw [if_neg hne, split_join (by simp) h32, if_pos h]

theorem of_words {s : List UInt8} {l : List (List UInt8)} (h : wordsP s = some l) : joinC 32 l = s := by
  unfold wordsP at h
  split at h
  · rename_i h0
    cases h; rw [h0]; rfl
  · split at h
    · cases h; exact join_split 32 s
    · cases h

theorem joinC_take_le (c : UInt8) : ∀ (l : List (List UInt8)) (j : Nat), (joinC c (l.take j)).length ≤ (joinC c l).length
  | [], j => by simp [joinC]
  | w :: ws, 0 => by simp [joinC]
  | [w], j + 1 => by simp [joinC]
  | w :: x :: ws, j + 1 => by
    have ih := joinC_take_le c (x :: ws) j
    rw [List.take_succ_cons]
    cases hj : (x :: ws).take j with
    | nil => simp [joinC]
    | cons y ys =>
      rw [hj] at ih
      simp only [joinC, List.length_append, List.length_cons] at ih ⊢
      omega

theorem joinC_next (c : UInt8) {l : List (List UInt8)} {j : Nat} (h : j < l.length) : joinC c (l.take (j + 1)) = (if j = 0 then joinC c (l.take j) else joinC c (l.take j) ++ [c]) ++ l[j] := by
  have htk : l.take (j + 1) = l.take j ++ [l[j]] := by rw [List.take_add_one, List.getElem?_eq_getElem h]; rfl
  rw [htk]
  by_cases h0 : j = 0
  · subst h0; simp [joinC]
  · rw [if_neg h0, joinC_snoc c _ _ (by simp; exact ⟨h0, fun e => by rw [e] at h; simp at h⟩)]; simp

theorem linesOf_next {l : List (List UInt8)} {i : Nat} (h : i < l.length) : linesOf (l.take (i + 1)) = linesOf (l.take i) ++ l[i] ++ [10] := by
  have htk : l.take (i + 1) = l.take i ++ [l[i]] := by rw [List.take_add_one, List.getElem?_eq_getElem h]; rfl
  rw [htk, linesOf_snoc]

theorem linesOf_take_le (l : List (List UInt8)) (i : Nat) : (linesOf (l.take i)).length ≤ (linesOf l).length := by
  have : linesOf l = linesOf (l.take i) ++ linesOf (l.drop i) := by
    unfold linesOf
    rw [← List.flatMap_append, List.take_append_drop]
  rw [this]; simp

end Go.Cl
