/-
  Plain law of layer 18: the least priorities that are closed under the edges.
-/
import Derived.Test.YtofpioacialnkaaClArg
namespace Go.Cl
open Go
set_option linter.unusedSimpArgs false
set_option linter.unusedVariables false

def okE (n : Nat) (e : Int × Int) : Prop := 0 ≤ e.1 ∧ e.1 < n ∧ 0 ≤ e.2 ∧ e.2 < n
instance (n : Nat) (e : Int × Int) : Decidable (okE n e) := by unfold okE; infer_instance

def getI (L : List Int) (i : Int) : Int := L.getD i.toNat 0

def LeL (A B : List Int) : Prop := A.length = B.length ∧ ∀ i, i < A.length → A.getD i 0 ≤ B.getD i 0
def ClosedE (E : List (Int × Int)) (L : List Int) : Prop := ∀ e ∈ E, okE L.length e → getI L e.1 ≤ getI L e.2

/-- what holds of what is on its way to the least closed one -/
structure OnWay (B : List Int) (E : List (Int × Int)) (L : List Int) : Prop where
  le : LeL B L
  least : ∀ s, LeL B s → ClosedE E s → LeL L s
  src : ∀ i, i < L.length → ∃ j, j < B.length ∧ L.getD i 0 = B.getD j 0

theorem LeL.refl (A : List Int) : LeL A A := ⟨rfl, fun _ _ => Int.le_refl _⟩
theorem LeL.trans {A B C : List Int} (x : LeL A B) (y : LeL B C) : LeL A C := ⟨x.1.trans y.1, fun i hi => Int.le_trans (x.2 i hi) (y.2 i (x.1 ▸ hi))⟩

theorem LeL.antisymm {A B : List Int} (x : LeL A B) (y : LeL B A) : A = B := by
  apply List.ext_getElem x.1
  intro i h1 h2
  have a := x.2 i h1
  have b := y.2 i h2
  simp only [List.getD, List.getElem?_eq_getElem h1, List.getElem?_eq_getElem h2, Option.getD_some] at a b
  omega

theorem OnWay.start (B : List Int) (E : List (Int × Int)) : OnWay B E B := ⟨LeL.refl B, fun s h _ => h, fun i hi => ⟨i, hi, rfl⟩⟩

/-- one edge lends -/
theorem OnWay.lend {B : List Int} {E : List (Int × Int)} {L : List Int} (w : OnWay B E L) {e : Int × Int} (he : e ∈ E) (hok : okE L.length e) (hlt : getI L e.2 < getI L e.1) : OnWay B E (L.set e.2.toNat (getI L e.1)) := by
  obtain ⟨k1, k2, k3, k4⟩ := hok
  have hb : e.2.toNat < L.length := by omega
  have ha : e.1.toNat < L.length := by omega
  have hg : ∀ i, (L.set e.2.toNat (getI L e.1)).getD i 0 = if i = e.2.toNat then getI L e.1 else L.getD i 0 := by
    intro i
    simp only [List.getD]
    by_cases h : i = e.2.toNat
    · subst h; rw [List.getElem?_set_self hb, if_pos rfl]; rfl
    · rw [List.getElem?_set_ne (fun x => h x.symm), if_neg h]
  refine ⟨⟨by simpa using w.le.1, fun i hi => ?_⟩, fun s hs hc => ⟨by simpa using (w.least s hs hc).1, fun i hi => ?_⟩, fun i hi => ?_⟩
  · rw [hg]
    have := w.le.2 i hi
    split
    · rename_i h; subst h; unfold getI at *; omega
    · exact this
  · rw [hg]
    have h1 := (w.least s hs hc)
    split
    · rename_i h; subst h
      have h2 := hc e he ⟨k1, by rw [← h1.1]; exact k2, k3, by rw [← h1.1]; exact k4⟩
      have h3 := h1.2 e.1.toNat ha
      unfold getI at *; omega
    · exact h1.2 i (by simpa using hi)
  · rw [hg]
    split
    · exact w.src e.1.toNat ha
    · exact w.src i (by simpa using hi)

/-- how far there is to go -/
def far (M : Int) (L : List Int) : Nat := (L.map fun x => (M - x).toNat).sum

theorem far_set {M : Int} : ∀ {L : List Int} {i : Nat} {v : Int}, i < L.length → L.getD i 0 < v → v ≤ M → far M (L.set i v) < far M L
  | [], i, v, h, _, _ => by simp at h
  | x :: r, 0, v, _, h1, h2 => by
    simp only [far, List.set_cons_zero, List.map_cons, List.sum_cons]
    simp at h1
    omega
  | x :: r, i + 1, v, h, h1, h2 => by
    have := far_set (M := M) (L := r) (i := i) (v := v) (by simpa using h) (by simpa using h1) h2
    simp only [far, List.set_cons_succ, List.map_cons, List.sum_cons] at this ⊢
    omega

def top (B : List Int) : Int := B.foldr max 0

theorem le_top : ∀ {B : List Int} {i : Nat}, i < B.length → B.getD i 0 ≤ top B
  | [], i, h => by simp at h
  | x :: r, 0, _ => by simp [top]; omega
  | x :: r, i + 1, h => by
    have := le_top (B := r) (i := i) (by simpa using h)
    simp only [top, List.foldr_cons] at this ⊢
    simp only [List.getD_cons_succ]
    omega

/-- the answer -/
def IsPrios (B : List Int) (E : List (Int × Int)) (r : List Int) : Prop := OnWay B E r ∧ ClosedE E r

theorem IsPrios.unique {B : List Int} {E : List (Int × Int)} {r s : List Int} (x : IsPrios B E r) (y : IsPrios B E s) : r = s :=
  (x.1.least s y.1.le y.2).antisymm (y.1.least r x.1.le x.2)

end Go.Cl
