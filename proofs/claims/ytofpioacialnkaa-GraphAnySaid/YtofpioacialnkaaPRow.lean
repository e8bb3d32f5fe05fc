/-
  Plain law of layer 18: a row, a ring.
-/
import Derived.Test.YtofpioacialnkaaPReach
namespace Go.Cl
open Go
set_option linter.unusedSimpArgs false
set_option linter.unusedVariables false

def pmax (l : List Int) : Int := l.foldl max 0

theorem pmax_snoc {l : List Int} {x : Int} : pmax (l ++ [x]) = max (pmax l) x := by simp [pmax]
theorem pmax_take {l : List Int} {i : Nat} (hi : i < l.length) : pmax (l.take (i + 1)) = max (pmax (l.take i)) l[i] := by
  rw [← List.take_append_getElem hi, pmax_snoc]

/-- the greatest of all ahead -/
def wants (l : List Int) (i : Nat) : List Int := (List.range i).map fun j => pmax (l.take (j + 1))
@[simp] theorem wants_length {l : List Int} {i : Nat} : (wants l i).length = i := by simp [wants]
theorem wants_succ {l : List Int} {i : Nat} : wants l (i + 1) = wants l i ++ [pmax (l.take (i + 1))] := by simp [wants, List.range_succ]
theorem wants_get {l : List Int} {n i : Nat} (hi : i < n) : (wants l n).getD i 0 = pmax (l.take (i + 1)) := by simp [wants, List.getD, hi]

def rowE (k : Nat) : List (Int × Int) := (List.range k).map fun i : Nat => ((i : Int), ((i + 1 : Nat) : Int))
@[simp] theorem rowE_length {k : Nat} : (rowE k).length = k := by simp [rowE]
theorem rowE_succ {k : Nat} : rowE (k + 1) = rowE k ++ [((k : Int), ((k + 1 : Nat) : Int))] := by simp [rowE, List.range_succ]
theorem mem_rowE {k : Nat} {e : Int × Int} : e ∈ rowE k ↔ ∃ i, i < k ∧ e = ((i : Int), ((i + 1 : Nat) : Int)) := by
  simp only [rowE, List.mem_map, List.mem_range]
  exact ⟨fun ⟨i, h1, h2⟩ => ⟨i, h1, h2.symm⟩, fun ⟨i, h1, h2⟩ => ⟨i, h1, h2.symm⟩⟩
theorem rowE_take {k m : Nat} (h : m ≤ k) : (rowE k).take m = rowE m := by
  simp only [rowE, ← List.map_take, List.take_range]
  rw [Nat.min_eq_left h]

theorem getI_nat {L : List Int} {i : Nat} : getI L (i : Int) = L.getD i 0 := by simp [getI]

theorem base_le {base : List Int} {i : Nat} (hi : i < base.length) : base.getD i 0 ≤ pmax (base.take (i + 1)) := by
  rw [pmax_take hi]; simp [List.getD, hi]; omega

theorem pmax_step {base : List Int} {i : Nat} (hi : i + 1 < base.length) : pmax (base.take (i + 1 + 1)) = max (pmax (base.take (i + 1))) (base.getD (i + 1) 0) := by
  rw [pmax_take hi]; simp [List.getD, hi]

theorem pmax_le {base : List Int} : ∀ {i j : Nat}, i ≤ j → j ≤ base.length → pmax (base.take i) ≤ pmax (base.take j)
  | i, 0, h, _ => by have : i = 0 := by omega
                     subst this; exact Int.le_refl _
  | i, j + 1, h, hj => by
    by_cases he : i = j + 1
    · subst he; exact Int.le_refl _
    · have := pmax_le (base := base) (i := i) (j := j) (by omega) (by omega)
      rw [pmax_take (by omega : j < base.length)]; omega

/-- at least the greatest ahead, where the row lends on -/
theorem row_ge {base r : List Int} {E : List (Int × Int)} (hb : ∀ x ∈ base, 0 ≤ x) (h1 : LeL base r) (h2 : ClosedE E r) (hE : ∀ e ∈ rowE (base.length - 1), e ∈ E) : ∀ i, i < base.length → pmax (base.take (i + 1)) ≤ r.getD i 0
  | 0, hi => by
    have := h1.2 0 hi
    have h0 := hb base[0] (List.getElem_mem hi)
    rw [pmax_take hi]
    simp [List.getD, hi] at this
    simp [pmax]
    omega
  | i + 1, hi => by
    have ih := row_ge hb h1 h2 hE i (by omega)
    have c := h2 ((i : Int), ((i + 1 : Nat) : Int)) (hE _ (mem_rowE.2 ⟨i, by omega, rfl⟩)) ⟨by simp, by have := h1.1; simp; omega, by simp; omega, by have := h1.1; simp; omega⟩
    simp only [getI_nat] at c
    have := h1.2 (i + 1) hi
    rw [pmax_step hi]
    omega

theorem row_prios {base r : List Int} (hb : ∀ x ∈ base, 0 ≤ x) (h : IsPrios base (rowE (base.length - 1)) r) : r = wants base base.length := by
  have hl := h.1.le.1
  refine LeL.antisymm (h.1.least _ ⟨by simp, fun i hi => ?_⟩ fun e he hok => ?_) ⟨by simpa using hl, fun i hi => ?_⟩
  · rw [wants_get hi]; exact base_le hi
  · obtain ⟨i, hi, rfl⟩ := mem_rowE.1 he
    simp only [getI_nat]
    rw [wants_get (by omega), wants_get (by omega)]
    exact pmax_le (by omega) (by omega)
  · simp at hi
    rw [wants_get hi]
    exact row_ge hb h.1.le h.2 (fun e he => he) i hi

theorem ring_prios {base r : List Int} (hb : ∀ x ∈ base, 0 ≤ x) (hn : 0 < base.length) (h : IsPrios base (rowE (base.length - 1) ++ [(((base.length - 1 : Nat) : Int), (0 : Int))]) r) : r = List.replicate base.length (pmax base) := by
  have hl := h.1.le.1
  have hg : ∀ i, i < base.length → (List.replicate base.length (pmax base)).getD i 0 = pmax base := by
    intro i hi; simp [List.getD, hi]
  have hall : pmax (base.take (base.length - 1 + 1)) = pmax base := by rw [show base.length - 1 + 1 = base.length by omega, List.take_length]
  refine LeL.antisymm (h.1.least _ ⟨by simp, fun i hi => ?_⟩ fun e he hok => ?_) ⟨by simpa using hl, fun i hi => ?_⟩
  · rw [hg i hi]
    have := base_le hi
    have := pmax_le (base := base) (i := i + 1) (j := base.length) (by omega) (by omega)
    rw [List.take_length] at this
    omega
  · obtain ⟨o1, o2, o3, o4⟩ := hok
    simp at o2 o4
    simp only [getI]
    rw [hg _ (by omega), hg _ (by omega)]
    exact Int.le_refl _
  · simp at hi
    rw [hg i hi]
    have g1 := row_ge hb h.1.le h.2 (fun e he => List.mem_append_left _ he) (base.length - 1) (by omega)
    rw [hall] at g1
    have g2 := h.2 (((base.length - 1 : Nat) : Int), 0) (by simp) ⟨by simp, by simp; omega, by simp, by simp; omega⟩
    have e0 : getI r 0 = r.getD 0 0 := rfl
    simp only [getI_nat, e0] at g2
    have key : ∀ j, j < base.length → r.getD 0 0 ≤ r.getD j 0 := by
      intro j
      induction j with
      | zero => intro _; exact Int.le_refl _
      | succ j ih =>
        intro hj
        have := ih (by omega)
        have c := h.2 ((j : Int), ((j + 1 : Nat) : Int)) (List.mem_append_left _ (mem_rowE.2 ⟨j, by omega, rfl⟩)) ⟨by simp, by simp; omega, by simp; omega, by simp; omega⟩
        simp only [getI_nat] at c
        omega
    have := key i hi
    omega

/-- in a row nobody comes to itself -/
theorem row_lt {n : Int} {k : Nat} {a b : Int} (h : Plus n (rowE k) a b) : a < b := by
  induction h with
  | one h1 _ => obtain ⟨i, _, h⟩ := mem_rowE.1 h1; simp at h; omega
  | more _ h1 _ ih => obtain ⟨i, _, h⟩ := mem_rowE.1 h1; simp at h; omega

theorem row_round {n : Int} {k : Nat} : ¬ Rounds n (rowE k) := fun ⟨e, _, _, h⟩ => by have := row_lt h; omega

theorem ring_round {k : Nat} (hk : 0 < k) : Rounds k (rowE (k - 1) ++ [(((k - 1 : Nat) : Int), (0 : Int))]) := by
  have ok0 : okI k (((k - 1 : Nat) : Int), 0) := ⟨by simp, by simp; omega, by simp, by simp; omega⟩
  refine ⟨_, by simp, ok0, ?_⟩
  have key : ∀ j, j < k → Plus k (rowE (k - 1) ++ [(((k - 1 : Nat) : Int), (0 : Int))]) ((k - 1 : Nat) : Int) (j : Int) := by
    intro j
    induction j with
    | zero => intro _; exact .one (by simp) ok0
    | succ j ih =>
      intro hj
      exact .more (ih (by omega)) (List.mem_append_left _ (mem_rowE.2 ⟨j, by omega, rfl⟩)) ⟨by simp, by simp; omega, by simp; omega, by simp; omega⟩
  exact key (k - 1) (by omega)

end Go.Cl
