/-
  Texts laid together: AHe.
-/
import Derived.Test.YtlndogibbgibgaaGreatDoorMX1
import Derived.Test.YtlndogibbgibgaaGreatDoorMY2
namespace Go.Cl
open Go
set_option linter.unusedSimpArgs false
set_option linter.unusedVariables false
set_option maxRecDepth 100000
def heA : TaskV := ⟨[97], 500, 100, 100, [⟨2, 0, 0, 0, []⟩, ⟨1, 1, 0, 0, []⟩, ⟨3, 0, 0, 0, []⟩]⟩
def heB (h : Int) : TaskV := ⟨[98], 500, 200, 100, [⟨2, 0, 0, 0, []⟩, ⟨1, h, 0, 0, []⟩, ⟨3, 0, 0, 0, []⟩, ⟨1, 3, 0, 0, []⟩]⟩
def heSet (h : Int) : SetV := ⟨1, [], [heA, heB h]⟩
def heRows (n a : Nat) : List (List Int) := ((List.replicate n []).set 0 [1]).set a [0]
def heLogs (h at' : Int) : List LogV → Bool
 | [a, b] => decide (b.task = 0) && decide (b.blk = h - at') && decide (b.fin = h + 1) && decide (a.fin = h + 4) && decide (a.blk = 0) && decide (a.ran = h + 3)
 | _ => false
def heOne (h a : Nat) : Bool := decide ((setP (heSet h)).2 = 0) && decide (checkS (heRows (h + 8) a) = (0, 0)) && match dayX (heSet h) 8 (heRows (h + 8) a) (coreX0 (heSet h)) with
 | none => false
 | some (_, E) => decide (E.length ≤ 1000) && match logsF (priosP (heSet h).tasks) E ([], 0, []) with
   | none => false
   | some s => heLogs h a s.2.2
def heMany (k : Nat) : Bool := (List.range 4).all fun b => (List.range (4 * k + b + 1)).all fun a => heOne (2 + (4 * k + b)) (1 + a)
theorem he_0 : heMany 0 = true := by decide +kernel
theorem he_1 : heMany 1 = true := by decide +kernel
theorem he_2 : heMany 2 = true := by decide +kernel
theorem he_3 : heMany 3 = true := by decide +kernel
theorem he_4 : heMany 4 = true := by decide +kernel
theorem he_all {n a : Nat} (hn : n < 20) (ha : a < n + 1) : heOne (2 + n) (1 + a) = true := by
 have key : ∀ k, heMany k = true → ∀ j, j < 4 → ∀ a, a < 4 * k + j + 1 → heOne (2 + (4 * k + j)) (1 + a) = true := fun k hk j hj a ha =>
  List.all_eq_true.1 (List.all_eq_true.1 hk j (List.mem_range.2 hj)) a (List.mem_range.2 ha)
 have hall : ∀ k, k < 5 → heMany k = true := fun k hk => by
  match k, hk with
  | 0, _ => exact he_0
  | 1, _ => exact he_1
  | 2, _ => exact he_2
  | 3, _ => exact he_3
  | 4, _ => exact he_4
 have := key (n / 4) (hall _ (by omega)) (n % 4) (by omega) a (by omega)
 rw [show 4 * (n / 4) + n % 4 = n by omega] at this
 exact this
end Go.Cl
