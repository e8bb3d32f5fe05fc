/-
  Layer 4: names, texts of numbers, rows of words alike.
-/
import Derived.Test.YtiegjnklhafloaaDoorClArgs
import Derived.Test.YtiegjnklhafloaaDoorClLib
import Derived.Test.YtiegjnklhafloaaDoorPWord
import Derived.Test.YtiegjnklhafloaaDoorS
namespace Go.Cl
open Go
set_option linter.unusedSimpArgs false
set_option linter.unusedVariables false

variable {p : PP}

theorem WF_prim {f : Nat} {g : List CV → Heap → Option (CV × Heap)} {vs : List CV} {h h' : Heap} {r : CV} {K : CV → Heap → Prop} (hp : p.pr f = some g) (e : g vs h = some (r, h')) (k : K r h') : WF p f vs h K :=
  ⟨1, r, h', by simp [PP.call, evCall, hp, e], k⟩

@[simp] theorem binStr_eql {a b : List UInt8} : binStr .eql a b = some (.bool (a == b)) := id rfl
@[simp] theorem binStr_neq {a b : List UInt8} : binStr .neq a b = some (.bool (!(a == b))) := id rfl
@[simp] theorem binStr_add {a b : List UInt8} : binStr .add a b = if a.length + b.length ≤ 9223372036854775807 then some (.str (a ++ b)) else none := id rfl
@[simp] theorem binStr_lss {a b : List UInt8} : binStr .lss a b = some (.bool (bytesLess a b)) := id rfl

/-- the layers' 'known' -/
def knowns : List Nat := [4, 16, 27, 89, 107]

/-- the program's texts, the library's functions -/
structure LP (p : PP) : Prop where
  pg : p.Pg = S.pg
  pr : ∀ f, knowns.contains f = false → p.pr f = lib f

theorem LP.no (l : LP p) {f : Nat} (h : (knowns.contains f = false) ∧ (lib f).isNone = true) : p.pr f = none := by
  rw [l.pr f h.1]
  cases hl : lib f with
  | none => rfl
  | some g => rw [hl] at h; cases h.2

theorem LP.no' (l : LP p) {f : Nat} {ks : List Nat} (hp : p.pr = addKnown ks lib) (h : (ks.contains f = false) ∧ (lib f).isNone = true) : p.pr f = none := by
  rw [hp]
  show (match ks.contains f with | true => _ | false => lib f) = none
  rw [h.1]
  cases hl : lib f with
  | none => rfl
  | some g => rw [hl] at h; cases h.2

theorem LP.of (l : List Nat) (hl : ∀ f ∈ l, f ∈ knowns) : LP ⟨S.pg, addKnown l lib⟩ := by
  refine ⟨rfl, fun f hf => ?_⟩
  show (match l.contains f with | true => _ | false => lib f) = lib f
  have : l.contains f = false := by
    cases hc : l.contains f with
    | false => rfl
    | true =>
      have := hl f (by simpa using hc)
      simp at hf
      exact absurd this hf
  rw [this]

theorem wordName_spec (lp : LP p) {s : List UInt8} {h : Heap} (hs : s.length ≤ 9223372036854775807) : WF p 97 [.str s] h fun r h' => r = .bool (nameP s) ∧ h' = h := by
  refine WF_of (by rw [lp.pg]; exact S.pg97) (lp.no ⟨rfl, rfl⟩) ?_
  show W p S.b97 _ _ (retQ [.t 2] _)
  unfold S.b97
  by_cases h1 : (1 : Int) ≤ s.length
  · by_cases h2 : (s.length : Int) ≤ 8
    · simp [h1, h2]
      refine WF_prim (g := p124) (r := .str (Lib.trimS s lows)) (h' := h) (by rw [lp.pr 124 rfl]; rfl) ?_ ?_
      · show (if s.length ≤ 9223372036854775807 ∧ _ ∧ _ then some (CV.str (Lib.trimS s lows), h) else none) = _
        rw [if_pos ⟨hs, by decide, by decide⟩]
      · have h1' : 1 ≤ s.length := by omega
        have h2' : s.length ≤ 8 := by omega
        simp [isEmpty_lows, nameP, h1', h2']
    · have h2' : ¬ s.length ≤ 8 := by omega
      simp [h1, h2, nameP, h2']
  · have h1' : ¬ 1 ≤ s.length := by omega
    simp [h1, nameP, h1']

theorem wordText_spec (lp : LP p) {n : Int} {h : Heap} (h0 : -9223372036854775808 ≤ n) (h1 : n ≤ 9223372036854775807) : WF p 99 [.int .i64 n] h fun r h' => r = .str (itoa n) ∧ h' = h := by
  refine WF_of (by rw [lp.pg]; exact S.pg99) (lp.no ⟨rfl, rfl⟩) ?_
  show W p S.b99 _ _ (retQ [.t 2] _)
  unfold S.b99
  simp
  refine WF_prim (g := p126) (r := .str (itoa n)) (h' := h) (by rw [lp.pr 126 rfl]; rfl) ?_ ?_
  · show (if -9223372036854775808 ≤ n ∧ n ≤ 9223372036854775807 then some (CV.str (Cl.itoa n), h) else none) = _
    rw [if_pos ⟨h0, h1⟩]
  · simp

def NameInv (s : List UInt8) (h : Heap) (m : Nat) (e : Env) (h' : Heap) : Prop :=
  ∃ i : Nat, i ≤ s.length ∧ m = s.length - i ∧ e = [(0, .str s), (3, .int .i64 i)] ∧ h' = h ∧ (s.take i).all isLow = true

theorem refName_spec (lp : LP p) {s : List UInt8} {h : Heap} : WF p 98 [.str s] h fun r h' => r = .bool (nameP s) ∧ h' = h := by
  refine WF_of (by rw [lp.pg]; exact S.pg98) (lp.no ⟨rfl, rfl⟩) ?_
  show W p S.b98 _ _ (retQ [.t 2] _)
  unfold S.b98
  by_cases h1 : (s.length : Int) < 1
  · have h1' : ¬ 1 ≤ s.length := by omega
    simp [h1, nameP, h1']
  · by_cases h2 : (8 : Int) < s.length
    · have h2' : ¬ s.length ≤ 8 := by omega
      simp [h1, h2, nameP, h2']
    · have h1' : 1 ≤ s.length := by omega
      have h2' : s.length ≤ 8 := by omega
      simp [h1, h2]
      refine W_loop (NameInv s h) ?_ s.length ⟨0, by omega, by omega, rfl, rfl, rfl⟩
      rintro m e h' ⟨i, hi, rfl, rfl, rfl, ha⟩
      by_cases hia : i = s.length
      · subst hia
        rw [List.take_length] at ha
        simp [nameP, h1', h2', ha]
      · have hlt : i < s.length := by omega
        have hlt' : (i : Int) < s.length := by omega
        have hg : s[i]? = some s[i] := List.getElem?_eq_getElem hlt
        have hw : IntKind.i64.wrap ((i : Int) + 1) = ((i + 1 : Nat) : Int) := by rw [w64 (by omega) (by omega)]; omega
        by_cases c1 : (s[i].toNat : Int) < 97
        · have hl : isLow s[i] = false := by simp [isLow]; omega
          have : s.all isLow = false := by
            rw [Bool.eq_false_iff]; intro hh
            rw [List.all_eq_true.1 hh _ (List.getElem_mem hlt)] at hl; cases hl
          simp [hlt', hg, c1, nameP, this]
        · by_cases c2 : (122 : Int) < s[i].toNat
          · have hl : isLow s[i] = false := by simp [isLow]; omega
            have : s.all isLow = false := by
              rw [Bool.eq_false_iff]; intro hh
              rw [List.all_eq_true.1 hh _ (List.getElem_mem hlt)] at hl; cases hl
            simp [hlt', hg, c1, c2, nameP, this]
          · have hl : isLow s[i] = true := by simp [isLow]; omega
            simp [hlt', hg, c1, c2, hw]
            refine ⟨s.length - (i + 1), by omega, i + 1, by omega, rfl, rfl, rfl, ?_⟩
            rw [List.take_add_one, hg, List.all_append, ha]
            simp [hl]

def WordsInv (v0 v1 : CV) (a b : List (List UInt8)) (h : Heap) (m : Nat) (e : Env) (h' : Heap) : Prop :=
  ∃ i : Nat, i ≤ a.length ∧ m = a.length - i ∧ e = [(0, v0), (1, v1), (5, .int .i64 i)] ∧ h' = h ∧ a.take i = b.take i

theorem words_spec (lp : LP p) {v0 v1 : CV} {a b : List (List UInt8)} {P Q : Nat → Prop} {h : Heap} (s0 : Sl .str h P v0 a) (s1 : Sl .str h Q v1 b) (hb : a.length ≤ big) : WF p 96 [v0, v1] h fun r h' => r = .bool (decide (a = b)) ∧ h' = h := by
  refine WF_of (by rw [lp.pg]; exact S.pg96) (lp.no ⟨rfl, rfl⟩) ?_
  show W p S.b96 _ _ (retQ [.t 4] _)
  unfold S.b96
  have n0 := s0.len (by decide)
  have n1 := s1.len (by decide)
  by_cases hl : a.length = b.length
  · have hl' : (a.length : Int) = b.length := by omega
    simp [n0, n1, hl']
    refine W_loop (WordsInv v0 v1 a b h) ?_ a.length ⟨0, by omega, by omega, rfl, rfl, rfl⟩
    rintro m e h' ⟨i, hi, rfl, rfl, rfl, ht⟩
    by_cases hia : i = a.length
    · subst hia
      have : a = b := by rw [List.take_length] at ht; rw [ht, hl, List.take_length]
      simp [n0, this]
    · have hlt : i < a.length := by omega
      have hlt' : (i : Int) < a.length := by omega
      have hlb : i < b.length := by omega
      obtain ⟨b0, o0, row0, x1, x2, x3, x4⟩ := s0.row (k := .i64) (by decide) hlt
      obtain ⟨b1, o1, row1, y1, y2, y3, y4⟩ := s1.row (k := .i64) (by decide) hlb
      simp only [Cod.str] at x1 x2 x3 x4 y1 y2 y3 y4
      subst x4 y4
      have x5 := x3 0 (by decide)
      have y5 := y3 0 (by decide)
      simp at x5 y5
      have hw : IntKind.i64.wrap ((i : Int) + 1) = ((i + 1 : Nat) : Int) := by
        simp [big] at hb
        rw [w64 (by omega) (by omega)]; omega
      by_cases he : a[i] = b[i]
      · simp [n0, hlt', x1, x5, y1, y5, he, hw]
        refine ⟨a.length - (i + 1), by omega, i + 1, by omega, rfl, rfl, rfl, ?_⟩
        rw [List.take_add_one, List.take_add_one, ht, List.getElem?_eq_getElem hlt, List.getElem?_eq_getElem hlb, he]
      · have hne : ¬ a = b := fun e => he (by subst e; rfl)
        simp [n0, hlt', x1, x5, y1, y5, he, hne]
  · have hl' : ¬ (a.length : Int) = b.length := by omega
    have hne : ¬ a = b := fun e => hl (by rw [e])
    simp [n0, n1, hl', hne]

end Go.Cl
