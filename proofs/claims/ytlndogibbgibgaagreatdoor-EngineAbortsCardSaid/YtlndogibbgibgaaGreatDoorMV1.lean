/-
  Texts laid together: AXS.
-/
import Derived.Test.YtlndogibbgibgaaGreatDoorMV
namespace Go.Cl
open Go
set_option linter.unusedSimpArgs false
set_option linter.unusedVariables false
set_option maxRecDepth 100000
def lkProg (n : Int) : List OpV := [⟨2, 0, 0, 0, []⟩, ⟨1, n, 0, 0, []⟩, ⟨3, 0, 0, 0, []⟩]
def abLow (b h : Int) : TaskV := ⟨[108], 500, 200, b, lkProg h⟩
def abHigh : TaskV := ⟨[104], 500, 100, 9, lkProg 1⟩
def abSet (b h : Int) : SetV := ⟨1, [], [abLow b h, abHigh]⟩
def abAsks (t : Nat) : List Int := if t = 0 then [0] else if t = 1 then [1] else []
def evF (e : List CV) : Option (Int × Int × Int) := match e with
 | [.int .i64 t, .int .i64 k, .int .i64 i, _, _, _, _] => some (t, k, i)
 | _ => none
def abCnt (b : Int) : List (List CV) → Int → Int → Option (Int × Int)
 | [], a, d => some (a, d)
 | e :: r, a, d => match evF e with
   | none => none
   | some (t, k, i) =>
     if k = 7 then (if i = 0 ∧ t = b then abCnt b r (a + 1) d else none)
     else if k = 6 then (if i = 1 ∧ t = max b 1 + 1 then abCnt b r a (d + 1) else none)
     else abCnt b r a d
def abRun (X : SetV) (b : Int) : Nat → Nat → CoreX → Int → Int → Bool
 | 0, _, s, a, d => decide (a = 1) && decide (d = 1) && decide (s.own = [-1])
 | n + 1, t, s, a, d => match loopX X 8 (askLX X (abAsks t) s).1 with
   | none => false
   | some (s', E) => decide (s.now = t) && decide (0 ≤ s.seq) && decide (s.seq < 1000) && decide (E.length ≤ 1000) && decide (s'.own.length = 1) && match abCnt b ((askLX X (abAsks t) s).2 ++ E) a d with
     | none => false
     | some (a', d') => decide (0 ≤ a') && decide (a' < 1000) && decide (0 ≤ d') && decide (d' < 1000) && abRun X b n (t + 1) { s' with now := s.now + 1 } a' d'
def abOne (b h : Int) : Bool := decide ((setP (abSet b h)).2 = 0) && abRun (abSet b h) b (b.toNat + 2) 0 (coreX0 (abSet b h)) 0 0
def abMany (k : Nat) : Bool := (List.range 4).all fun b => (List.range 20).all fun n => abOne (1 + (4 * k + b : Nat)) (1 + (4 * k + b : Nat) + 1 + n)
theorem ab_0 : abMany 0 = true := by decide +kernel
theorem ab_1 : abMany 1 = true := by decide +kernel
theorem ab_2 : abMany 2 = true := by decide +kernel
theorem ab_3 : abMany 3 = true := by decide +kernel
theorem ab_4 : abMany 4 = true := by decide +kernel
theorem ab_all {b n : Nat} (hb : b < 20) (hn : n < 20) : abOne (1 + b) (1 + b + 1 + n) = true := by
 have key : ∀ k, abMany k = true → ∀ j, j < 4 → abOne (1 + (4 * k + j : Nat)) (1 + (4 * k + j : Nat) + 1 + n) = true := fun k hk j hj => by
  have := List.all_eq_true.1 (List.all_eq_true.1 hk j (List.mem_range.2 hj)) n (List.mem_range.2 hn)
  exact this
 have hall : ∀ k, k < 5 → abMany k = true := fun k hk => by
  match k, hk with
  | 0, _ => exact ab_0
  | 1, _ => exact ab_1
  | 2, _ => exact ab_2
  | 3, _ => exact ab_3
  | 4, _ => exact ab_4
 have := key (b / 4) (hall _ (by omega)) (b % 4) (by omega)
 rw [show 4 * (b / 4) + b % 4 = b by omega] at this
 exact this
theorem evF_some {e : List CV} {t k i : Int} (h : evF e = some (t, k, i)) : ∃ a b c d, e = [.int .i64 t, .int .i64 k, .int .i64 i, a, b, c, d] := by
 unfold evF at h
 split at h
 ·simp at h
  obtain ⟨rfl, rfl, rfl⟩ := h
  exact ⟨_, _, _, _, rfl⟩
 ·cases h
theorem ab_ok {b h : Int} (hb : 1 ≤ b ∧ b ≤ 20) (hh : 1 ≤ h ∧ h ≤ 100) : (abSet b h).Sane ∧ TasksOk (abSet b h).tasks ∧ ∀ t ∈ (abSet b h).tasks, (locksL t.prog).length ≤ 1 := by
 refine ⟨⟨fun t ht => ?_, by simp [abSet], by simp [abSet, big]⟩, fun t ht => ?_, fun t ht => ?_⟩
 all_goals
  simp only [abSet, List.mem_cons, List.not_mem_nil, or_false] at ht
  rcases ht with rfl | rfl
 ·exact ⟨by simp [abLow, lkProg, big], by simp [abLow, lkProg], by simp [abLow]⟩
 ·exact ⟨by simp [abHigh, lkProg, big], by simp [abHigh, lkProg], by simp [abHigh]⟩
 ·exact ⟨by simp [abLow, lkProg], by simp [abLow, lkProg]⟩
 ·exact ⟨by simp [abHigh, lkProg], by simp [abHigh, lkProg]⟩
 ·simp [abLow, lkProg, locksL]
 ·simp [abHigh, lkProg, locksL]
end Go.Cl
