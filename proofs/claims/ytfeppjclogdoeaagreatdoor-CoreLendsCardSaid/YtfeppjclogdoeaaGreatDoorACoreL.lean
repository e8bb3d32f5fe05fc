/-
  Layer 22: who lends to whom: each case by the kernel.
-/
import Derived.Test.YtfeppjclogdoeaaGreatDoorMB
import Derived.KernelRfl
namespace Go.Cl
open Go
set_option linter.unusedSimpArgs false
set_option linter.unusedVariables false

noncomputable abbrev leRun (who frm : Int) (k a b : Nat) : Bool := go ((codeF 3000 (front 1 (back 3 S.b302))).run callC [(1, .int .u8 who), (2, .int .u8 frm), (7, .int .i64 (.ofNat k))] .nil
  (midK fun f t => egetK 8 (fun c => (codeF 3000 (back 5 S.b302)).run callC [(7, .int .i64 (.ofNat k)), (8, c), (9, .int .i64 (.ofNat a)), (10, .int .i64 (.ofNat b))] t (finK [.t 6])) f))
theorem le_2_0_0 (who frm : Int) : leRun who frm 2 0 0 = true := by kernel_rfl
theorem le_2_0_1 (who frm : Int) : leRun who frm 2 0 1 = true := by kernel_rfl
theorem le_2_1_0 (who frm : Int) : leRun who frm 2 1 0 = true := by kernel_rfl
theorem le_2_1_1 (who frm : Int) : leRun who frm 2 1 1 = true := by kernel_rfl
theorem le_3_0_0 (who frm : Int) : leRun who frm 3 0 0 = true := by kernel_rfl
theorem le_3_0_1 (who frm : Int) : leRun who frm 3 0 1 = true := by kernel_rfl
theorem le_3_0_2 (who frm : Int) : leRun who frm 3 0 2 = true := by kernel_rfl
theorem le_3_1_0 (who frm : Int) : leRun who frm 3 1 0 = true := by kernel_rfl
theorem le_3_1_1 (who frm : Int) : leRun who frm 3 1 1 = true := by kernel_rfl
theorem le_3_1_2 (who frm : Int) : leRun who frm 3 1 2 = true := by kernel_rfl
theorem le_3_2_0 (who frm : Int) : leRun who frm 3 2 0 = true := by kernel_rfl
theorem le_3_2_1 (who frm : Int) : leRun who frm 3 2 1 = true := by kernel_rfl
theorem le_3_2_2 (who frm : Int) : leRun who frm 3 2 2 = true := by kernel_rfl
theorem le_4_0_0 (who frm : Int) : leRun who frm 4 0 0 = true := by kernel_rfl
theorem le_4_0_1 (who frm : Int) : leRun who frm 4 0 1 = true := by kernel_rfl
theorem le_4_0_2 (who frm : Int) : leRun who frm 4 0 2 = true := by kernel_rfl
theorem le_4_0_3 (who frm : Int) : leRun who frm 4 0 3 = true := by kernel_rfl
theorem le_4_1_0 (who frm : Int) : leRun who frm 4 1 0 = true := by kernel_rfl
theorem le_4_1_1 (who frm : Int) : leRun who frm 4 1 1 = true := by kernel_rfl
theorem le_4_1_2 (who frm : Int) : leRun who frm 4 1 2 = true := by kernel_rfl
theorem le_4_1_3 (who frm : Int) : leRun who frm 4 1 3 = true := by kernel_rfl
theorem le_4_2_0 (who frm : Int) : leRun who frm 4 2 0 = true := by kernel_rfl
theorem le_4_2_1 (who frm : Int) : leRun who frm 4 2 1 = true := by kernel_rfl
theorem le_4_2_2 (who frm : Int) : leRun who frm 4 2 2 = true := by kernel_rfl
theorem le_4_2_3 (who frm : Int) : leRun who frm 4 2 3 = true := by kernel_rfl
theorem le_4_3_0 (who frm : Int) : leRun who frm 4 3 0 = true := by kernel_rfl
theorem le_4_3_1 (who frm : Int) : leRun who frm 4 3 1 = true := by kernel_rfl
theorem le_4_3_2 (who frm : Int) : leRun who frm 4 3 2 = true := by kernel_rfl
theorem le_4_3_3 (who frm : Int) : leRun who frm 4 3 3 = true := by kernel_rfl
theorem le_5_0_0 (who frm : Int) : leRun who frm 5 0 0 = true := by kernel_rfl
theorem le_5_0_1 (who frm : Int) : leRun who frm 5 0 1 = true := by kernel_rfl
theorem le_5_0_2 (who frm : Int) : leRun who frm 5 0 2 = true := by kernel_rfl
theorem le_5_0_3 (who frm : Int) : leRun who frm 5 0 3 = true := by kernel_rfl
theorem le_5_0_4 (who frm : Int) : leRun who frm 5 0 4 = true := by kernel_rfl
theorem le_5_1_0 (who frm : Int) : leRun who frm 5 1 0 = true := by kernel_rfl
theorem le_5_1_1 (who frm : Int) : leRun who frm 5 1 1 = true := by kernel_rfl
theorem le_5_1_2 (who frm : Int) : leRun who frm 5 1 2 = true := by kernel_rfl
theorem le_5_1_3 (who frm : Int) : leRun who frm 5 1 3 = true := by kernel_rfl
theorem le_5_1_4 (who frm : Int) : leRun who frm 5 1 4 = true := by kernel_rfl
theorem le_5_2_0 (who frm : Int) : leRun who frm 5 2 0 = true := by kernel_rfl
theorem le_5_2_1 (who frm : Int) : leRun who frm 5 2 1 = true := by kernel_rfl
theorem le_5_2_2 (who frm : Int) : leRun who frm 5 2 2 = true := by kernel_rfl
theorem le_5_2_3 (who frm : Int) : leRun who frm 5 2 3 = true := by kernel_rfl
theorem le_5_2_4 (who frm : Int) : leRun who frm 5 2 4 = true := by kernel_rfl
theorem le_5_3_0 (who frm : Int) : leRun who frm 5 3 0 = true := by kernel_rfl
theorem le_5_3_1 (who frm : Int) : leRun who frm 5 3 1 = true := by kernel_rfl
theorem le_5_3_2 (who frm : Int) : leRun who frm 5 3 2 = true := by kernel_rfl
theorem le_5_3_3 (who frm : Int) : leRun who frm 5 3 3 = true := by kernel_rfl
theorem le_5_3_4 (who frm : Int) : leRun who frm 5 3 4 = true := by kernel_rfl
theorem le_5_4_0 (who frm : Int) : leRun who frm 5 4 0 = true := by kernel_rfl
theorem le_5_4_1 (who frm : Int) : leRun who frm 5 4 1 = true := by kernel_rfl
theorem le_5_4_2 (who frm : Int) : leRun who frm 5 4 2 = true := by kernel_rfl
theorem le_5_4_3 (who frm : Int) : leRun who frm 5 4 3 = true := by kernel_rfl
theorem le_5_4_4 (who frm : Int) : leRun who frm 5 4 4 = true := by kernel_rfl
theorem le_6_0_0 (who frm : Int) : leRun who frm 6 0 0 = true := by kernel_rfl
theorem le_6_0_1 (who frm : Int) : leRun who frm 6 0 1 = true := by kernel_rfl
theorem le_6_0_2 (who frm : Int) : leRun who frm 6 0 2 = true := by kernel_rfl
theorem le_6_0_3 (who frm : Int) : leRun who frm 6 0 3 = true := by kernel_rfl
theorem le_6_0_4 (who frm : Int) : leRun who frm 6 0 4 = true := by kernel_rfl
theorem le_6_0_5 (who frm : Int) : leRun who frm 6 0 5 = true := by kernel_rfl
theorem le_6_1_0 (who frm : Int) : leRun who frm 6 1 0 = true := by kernel_rfl
theorem le_6_1_1 (who frm : Int) : leRun who frm 6 1 1 = true := by kernel_rfl
theorem le_6_1_2 (who frm : Int) : leRun who frm 6 1 2 = true := by kernel_rfl
theorem le_6_1_3 (who frm : Int) : leRun who frm 6 1 3 = true := by kernel_rfl
theorem le_6_1_4 (who frm : Int) : leRun who frm 6 1 4 = true := by kernel_rfl
theorem le_6_1_5 (who frm : Int) : leRun who frm 6 1 5 = true := by kernel_rfl
theorem le_6_2_0 (who frm : Int) : leRun who frm 6 2 0 = true := by kernel_rfl
theorem le_6_2_1 (who frm : Int) : leRun who frm 6 2 1 = true := by kernel_rfl
theorem le_6_2_2 (who frm : Int) : leRun who frm 6 2 2 = true := by kernel_rfl
theorem le_6_2_3 (who frm : Int) : leRun who frm 6 2 3 = true := by kernel_rfl
theorem le_6_2_4 (who frm : Int) : leRun who frm 6 2 4 = true := by kernel_rfl
theorem le_6_2_5 (who frm : Int) : leRun who frm 6 2 5 = true := by kernel_rfl
theorem le_6_3_0 (who frm : Int) : leRun who frm 6 3 0 = true := by kernel_rfl
theorem le_6_3_1 (who frm : Int) : leRun who frm 6 3 1 = true := by kernel_rfl
theorem le_6_3_2 (who frm : Int) : leRun who frm 6 3 2 = true := by kernel_rfl
theorem le_6_3_3 (who frm : Int) : leRun who frm 6 3 3 = true := by kernel_rfl
theorem le_6_3_4 (who frm : Int) : leRun who frm 6 3 4 = true := by kernel_rfl
theorem le_6_3_5 (who frm : Int) : leRun who frm 6 3 5 = true := by kernel_rfl
theorem le_6_4_0 (who frm : Int) : leRun who frm 6 4 0 = true := by kernel_rfl
theorem le_6_4_1 (who frm : Int) : leRun who frm 6 4 1 = true := by kernel_rfl
theorem le_6_4_2 (who frm : Int) : leRun who frm 6 4 2 = true := by kernel_rfl
theorem le_6_4_3 (who frm : Int) : leRun who frm 6 4 3 = true := by kernel_rfl
theorem le_6_4_4 (who frm : Int) : leRun who frm 6 4 4 = true := by kernel_rfl
theorem le_6_4_5 (who frm : Int) : leRun who frm 6 4 5 = true := by kernel_rfl
theorem le_6_5_0 (who frm : Int) : leRun who frm 6 5 0 = true := by kernel_rfl
theorem le_6_5_1 (who frm : Int) : leRun who frm 6 5 1 = true := by kernel_rfl
theorem le_6_5_2 (who frm : Int) : leRun who frm 6 5 2 = true := by kernel_rfl
theorem le_6_5_3 (who frm : Int) : leRun who frm 6 5 3 = true := by kernel_rfl
theorem le_6_5_4 (who frm : Int) : leRun who frm 6 5 4 = true := by kernel_rfl
theorem le_6_5_5 (who frm : Int) : leRun who frm 6 5 5 = true := by kernel_rfl
theorem le_7_0_0 (who frm : Int) : leRun who frm 7 0 0 = true := by kernel_rfl
theorem le_7_0_1 (who frm : Int) : leRun who frm 7 0 1 = true := by kernel_rfl
theorem le_7_0_2 (who frm : Int) : leRun who frm 7 0 2 = true := by kernel_rfl
theorem le_7_0_3 (who frm : Int) : leRun who frm 7 0 3 = true := by kernel_rfl
theorem le_7_0_4 (who frm : Int) : leRun who frm 7 0 4 = true := by kernel_rfl
theorem le_7_0_5 (who frm : Int) : leRun who frm 7 0 5 = true := by kernel_rfl
theorem le_7_0_6 (who frm : Int) : leRun who frm 7 0 6 = true := by kernel_rfl
theorem le_7_1_0 (who frm : Int) : leRun who frm 7 1 0 = true := by kernel_rfl
theorem le_7_1_1 (who frm : Int) : leRun who frm 7 1 1 = true := by kernel_rfl
theorem le_7_1_2 (who frm : Int) : leRun who frm 7 1 2 = true := by kernel_rfl
theorem le_7_1_3 (who frm : Int) : leRun who frm 7 1 3 = true := by kernel_rfl
theorem le_7_1_4 (who frm : Int) : leRun who frm 7 1 4 = true := by kernel_rfl
theorem le_7_1_5 (who frm : Int) : leRun who frm 7 1 5 = true := by kernel_rfl
theorem le_7_1_6 (who frm : Int) : leRun who frm 7 1 6 = true := by kernel_rfl
theorem le_7_2_0 (who frm : Int) : leRun who frm 7 2 0 = true := by kernel_rfl
theorem le_7_2_1 (who frm : Int) : leRun who frm 7 2 1 = true := by kernel_rfl
theorem le_7_2_2 (who frm : Int) : leRun who frm 7 2 2 = true := by kernel_rfl
theorem le_7_2_3 (who frm : Int) : leRun who frm 7 2 3 = true := by kernel_rfl
theorem le_7_2_4 (who frm : Int) : leRun who frm 7 2 4 = true := by kernel_rfl
theorem le_7_2_5 (who frm : Int) : leRun who frm 7 2 5 = true := by kernel_rfl
theorem le_7_2_6 (who frm : Int) : leRun who frm 7 2 6 = true := by kernel_rfl
theorem le_7_3_0 (who frm : Int) : leRun who frm 7 3 0 = true := by kernel_rfl
theorem le_7_3_1 (who frm : Int) : leRun who frm 7 3 1 = true := by kernel_rfl
theorem le_7_3_2 (who frm : Int) : leRun who frm 7 3 2 = true := by kernel_rfl
theorem le_7_3_3 (who frm : Int) : leRun who frm 7 3 3 = true := by kernel_rfl
theorem le_7_3_4 (who frm : Int) : leRun who frm 7 3 4 = true := by kernel_rfl
theorem le_7_3_5 (who frm : Int) : leRun who frm 7 3 5 = true := by kernel_rfl
theorem le_7_3_6 (who frm : Int) : leRun who frm 7 3 6 = true := by kernel_rfl
theorem le_7_4_0 (who frm : Int) : leRun who frm 7 4 0 = true := by kernel_rfl
theorem le_7_4_1 (who frm : Int) : leRun who frm 7 4 1 = true := by kernel_rfl
theorem le_7_4_2 (who frm : Int) : leRun who frm 7 4 2 = true := by kernel_rfl
theorem le_7_4_3 (who frm : Int) : leRun who frm 7 4 3 = true := by kernel_rfl
theorem le_7_4_4 (who frm : Int) : leRun who frm 7 4 4 = true := by kernel_rfl
theorem le_7_4_5 (who frm : Int) : leRun who frm 7 4 5 = true := by kernel_rfl
theorem le_7_4_6 (who frm : Int) : leRun who frm 7 4 6 = true := by kernel_rfl
theorem le_7_5_0 (who frm : Int) : leRun who frm 7 5 0 = true := by kernel_rfl
theorem le_7_5_1 (who frm : Int) : leRun who frm 7 5 1 = true := by kernel_rfl
theorem le_7_5_2 (who frm : Int) : leRun who frm 7 5 2 = true := by kernel_rfl
theorem le_7_5_3 (who frm : Int) : leRun who frm 7 5 3 = true := by kernel_rfl
theorem le_7_5_4 (who frm : Int) : leRun who frm 7 5 4 = true := by kernel_rfl
theorem le_7_5_5 (who frm : Int) : leRun who frm 7 5 5 = true := by kernel_rfl
theorem le_7_5_6 (who frm : Int) : leRun who frm 7 5 6 = true := by kernel_rfl
theorem le_7_6_0 (who frm : Int) : leRun who frm 7 6 0 = true := by kernel_rfl
theorem le_7_6_1 (who frm : Int) : leRun who frm 7 6 1 = true := by kernel_rfl
theorem le_7_6_2 (who frm : Int) : leRun who frm 7 6 2 = true := by kernel_rfl
theorem le_7_6_3 (who frm : Int) : leRun who frm 7 6 3 = true := by kernel_rfl
theorem le_7_6_4 (who frm : Int) : leRun who frm 7 6 4 = true := by kernel_rfl
theorem le_7_6_5 (who frm : Int) : leRun who frm 7 6 5 = true := by kernel_rfl
theorem le_7_6_6 (who frm : Int) : leRun who frm 7 6 6 = true := by kernel_rfl
theorem le_all2 (who frm : Int) : ∀ a b : Nat, a < 2 → b < 2 → leRun who frm 2 a b = true
  | 0, 0, _, _ => le_2_0_0 who frm
  | 0, 1, _, _ => le_2_0_1 who frm
  | 0, n + 2, _, h => absurd h (by omega)
  | 1, 0, _, _ => le_2_1_0 who frm
  | 1, 1, _, _ => le_2_1_1 who frm
  | 1, n + 2, _, h => absurd h (by omega)
  | n + 2, _, h, _ => absurd h (by omega)
theorem le_all3 (who frm : Int) : ∀ a b : Nat, a < 3 → b < 3 → leRun who frm 3 a b = true
  | 0, 0, _, _ => le_3_0_0 who frm
  | 0, 1, _, _ => le_3_0_1 who frm
  | 0, 2, _, _ => le_3_0_2 who frm
  | 0, n + 3, _, h => absurd h (by omega)
  | 1, 0, _, _ => le_3_1_0 who frm
  | 1, 1, _, _ => le_3_1_1 who frm
  | 1, 2, _, _ => le_3_1_2 who frm
  | 1, n + 3, _, h => absurd h (by omega)
  | 2, 0, _, _ => le_3_2_0 who frm
  | 2, 1, _, _ => le_3_2_1 who frm
  | 2, 2, _, _ => le_3_2_2 who frm
  | 2, n + 3, _, h => absurd h (by omega)
  | n + 3, _, h, _ => absurd h (by omega)
theorem le_all4 (who frm : Int) : ∀ a b : Nat, a < 4 → b < 4 → leRun who frm 4 a b = true
  | 0, 0, _, _ => le_4_0_0 who frm
  | 0, 1, _, _ => le_4_0_1 who frm
  | 0, 2, _, _ => le_4_0_2 who frm
  | 0, 3, _, _ => le_4_0_3 who frm
  | 0, n + 4, _, h => absurd h (by omega)
  | 1, 0, _, _ => le_4_1_0 who frm
  | 1, 1, _, _ => le_4_1_1 who frm
  | 1, 2, _, _ => le_4_1_2 who frm
  | 1, 3, _, _ => le_4_1_3 who frm
  | 1, n + 4, _, h => absurd h (by omega)
  | 2, 0, _, _ => le_4_2_0 who frm
  | 2, 1, _, _ => le_4_2_1 who frm
  | 2, 2, _, _ => le_4_2_2 who frm
  | 2, 3, _, _ => le_4_2_3 who frm
  | 2, n + 4, _, h => absurd h (by omega)
  | 3, 0, _, _ => le_4_3_0 who frm
  | 3, 1, _, _ => le_4_3_1 who frm
  | 3, 2, _, _ => le_4_3_2 who frm
  | 3, 3, _, _ => le_4_3_3 who frm
  | 3, n + 4, _, h => absurd h (by omega)
  | n + 4, _, h, _ => absurd h (by omega)
theorem le_all5 (who frm : Int) : ∀ a b : Nat, a < 5 → b < 5 → leRun who frm 5 a b = true
  | 0, 0, _, _ => le_5_0_0 who frm
  | 0, 1, _, _ => le_5_0_1 who frm
  | 0, 2, _, _ => le_5_0_2 who frm
  | 0, 3, _, _ => le_5_0_3 who frm
  | 0, 4, _, _ => le_5_0_4 who frm
  | 0, n + 5, _, h => absurd h (by omega)
  | 1, 0, _, _ => le_5_1_0 who frm
  | 1, 1, _, _ => le_5_1_1 who frm
  | 1, 2, _, _ => le_5_1_2 who frm
  | 1, 3, _, _ => le_5_1_3 who frm
  | 1, 4, _, _ => le_5_1_4 who frm
  | 1, n + 5, _, h => absurd h (by omega)
  | 2, 0, _, _ => le_5_2_0 who frm
  | 2, 1, _, _ => le_5_2_1 who frm
  | 2, 2, _, _ => le_5_2_2 who frm
  | 2, 3, _, _ => le_5_2_3 who frm
  | 2, 4, _, _ => le_5_2_4 who frm
  | 2, n + 5, _, h => absurd h (by omega)
  | 3, 0, _, _ => le_5_3_0 who frm
  | 3, 1, _, _ => le_5_3_1 who frm
  | 3, 2, _, _ => le_5_3_2 who frm
  | 3, 3, _, _ => le_5_3_3 who frm
  | 3, 4, _, _ => le_5_3_4 who frm
  | 3, n + 5, _, h => absurd h (by omega)
  | 4, 0, _, _ => le_5_4_0 who frm
  | 4, 1, _, _ => le_5_4_1 who frm
  | 4, 2, _, _ => le_5_4_2 who frm
  | 4, 3, _, _ => le_5_4_3 who frm
  | 4, 4, _, _ => le_5_4_4 who frm
  | 4, n + 5, _, h => absurd h (by omega)
  | n + 5, _, h, _ => absurd h (by omega)
theorem le_all6 (who frm : Int) : ∀ a b : Nat, a < 6 → b < 6 → leRun who frm 6 a b = true
  | 0, 0, _, _ => le_6_0_0 who frm
  | 0, 1, _, _ => le_6_0_1 who frm
  | 0, 2, _, _ => le_6_0_2 who frm
  | 0, 3, _, _ => le_6_0_3 who frm
  | 0, 4, _, _ => le_6_0_4 who frm
  | 0, 5, _, _ => le_6_0_5 who frm
  | 0, n + 6, _, h => absurd h (by omega)
  | 1, 0, _, _ => le_6_1_0 who frm
  | 1, 1, _, _ => le_6_1_1 who frm
  | 1, 2, _, _ => le_6_1_2 who frm
  | 1, 3, _, _ => le_6_1_3 who frm
  | 1, 4, _, _ => le_6_1_4 who frm
  | 1, 5, _, _ => le_6_1_5 who frm
  | 1, n + 6, _, h => absurd h (by omega)
  | 2, 0, _, _ => le_6_2_0 who frm
  | 2, 1, _, _ => le_6_2_1 who frm
  | 2, 2, _, _ => le_6_2_2 who frm
  | 2, 3, _, _ => le_6_2_3 who frm
  | 2, 4, _, _ => le_6_2_4 who frm
  | 2, 5, _, _ => le_6_2_5 who frm
  | 2, n + 6, _, h => absurd h (by omega)
  | 3, 0, _, _ => le_6_3_0 who frm
  | 3, 1, _, _ => le_6_3_1 who frm
  | 3, 2, _, _ => le_6_3_2 who frm
  | 3, 3, _, _ => le_6_3_3 who frm
  | 3, 4, _, _ => le_6_3_4 who frm
  | 3, 5, _, _ => le_6_3_5 who frm
  | 3, n + 6, _, h => absurd h (by omega)
  | 4, 0, _, _ => le_6_4_0 who frm
  | 4, 1, _, _ => le_6_4_1 who frm
  | 4, 2, _, _ => le_6_4_2 who frm
  | 4, 3, _, _ => le_6_4_3 who frm
  | 4, 4, _, _ => le_6_4_4 who frm
  | 4, 5, _, _ => le_6_4_5 who frm
  | 4, n + 6, _, h => absurd h (by omega)
  | 5, 0, _, _ => le_6_5_0 who frm
  | 5, 1, _, _ => le_6_5_1 who frm
  | 5, 2, _, _ => le_6_5_2 who frm
  | 5, 3, _, _ => le_6_5_3 who frm
  | 5, 4, _, _ => le_6_5_4 who frm
  | 5, 5, _, _ => le_6_5_5 who frm
  | 5, n + 6, _, h => absurd h (by omega)
  | n + 6, _, h, _ => absurd h (by omega)
theorem le_all7 (who frm : Int) : ∀ a b : Nat, a < 7 → b < 7 → leRun who frm 7 a b = true
  | 0, 0, _, _ => le_7_0_0 who frm
  | 0, 1, _, _ => le_7_0_1 who frm
  | 0, 2, _, _ => le_7_0_2 who frm
  | 0, 3, _, _ => le_7_0_3 who frm
  | 0, 4, _, _ => le_7_0_4 who frm
  | 0, 5, _, _ => le_7_0_5 who frm
  | 0, 6, _, _ => le_7_0_6 who frm
  | 0, n + 7, _, h => absurd h (by omega)
  | 1, 0, _, _ => le_7_1_0 who frm
  | 1, 1, _, _ => le_7_1_1 who frm
  | 1, 2, _, _ => le_7_1_2 who frm
  | 1, 3, _, _ => le_7_1_3 who frm
  | 1, 4, _, _ => le_7_1_4 who frm
  | 1, 5, _, _ => le_7_1_5 who frm
  | 1, 6, _, _ => le_7_1_6 who frm
  | 1, n + 7, _, h => absurd h (by omega)
  | 2, 0, _, _ => le_7_2_0 who frm
  | 2, 1, _, _ => le_7_2_1 who frm
  | 2, 2, _, _ => le_7_2_2 who frm
  | 2, 3, _, _ => le_7_2_3 who frm
  | 2, 4, _, _ => le_7_2_4 who frm
  | 2, 5, _, _ => le_7_2_5 who frm
  | 2, 6, _, _ => le_7_2_6 who frm
  | 2, n + 7, _, h => absurd h (by omega)
  | 3, 0, _, _ => le_7_3_0 who frm
  | 3, 1, _, _ => le_7_3_1 who frm
  | 3, 2, _, _ => le_7_3_2 who frm
  | 3, 3, _, _ => le_7_3_3 who frm
  | 3, 4, _, _ => le_7_3_4 who frm
  | 3, 5, _, _ => le_7_3_5 who frm
  | 3, 6, _, _ => le_7_3_6 who frm
  | 3, n + 7, _, h => absurd h (by omega)
  | 4, 0, _, _ => le_7_4_0 who frm
  | 4, 1, _, _ => le_7_4_1 who frm
  | 4, 2, _, _ => le_7_4_2 who frm
  | 4, 3, _, _ => le_7_4_3 who frm
  | 4, 4, _, _ => le_7_4_4 who frm
  | 4, 5, _, _ => le_7_4_5 who frm
  | 4, 6, _, _ => le_7_4_6 who frm
  | 4, n + 7, _, h => absurd h (by omega)
  | 5, 0, _, _ => le_7_5_0 who frm
  | 5, 1, _, _ => le_7_5_1 who frm
  | 5, 2, _, _ => le_7_5_2 who frm
  | 5, 3, _, _ => le_7_5_3 who frm
  | 5, 4, _, _ => le_7_5_4 who frm
  | 5, 5, _, _ => le_7_5_5 who frm
  | 5, 6, _, _ => le_7_5_6 who frm
  | 5, n + 7, _, h => absurd h (by omega)
  | 6, 0, _, _ => le_7_6_0 who frm
  | 6, 1, _, _ => le_7_6_1 who frm
  | 6, 2, _, _ => le_7_6_2 who frm
  | 6, 3, _, _ => le_7_6_3 who frm
  | 6, 4, _, _ => le_7_6_4 who frm
  | 6, 5, _, _ => le_7_6_5 who frm
  | 6, 6, _, _ => le_7_6_6 who frm
  | 6, n + 7, _, h => absurd h (by omega)
  | n + 7, _, h, _ => absurd h (by omega)
theorem le_all (who frm : Int) {k a b : Nat} (h2 : 2 ≤ k) (h7 : k ≤ 7) (ha : a < k) (hb : b < k) : leRun who frm k a b = true := by
  have hk : k = 2 ∨ k = 3 ∨ k = 4 ∨ k = 5 ∨ k = 6 ∨ k = 7 := by omega
  rcases hk with rfl | rfl | rfl | rfl | rfl | rfl
  · exact le_all2 who frm a b ha hb
  · exact le_all3 who frm a b ha hb
  · exact le_all4 who frm a b ha hb
  · exact le_all5 who frm a b ha hb
  · exact le_all6 who frm a b ha hb
  · exact le_all7 who frm a b ha hb

theorem le_mid {c rest : SCode} {who frm : Int} {k a b : Nat} (hk : go ((codeF 3000 c).run callC [(1, .int .u8 who), (2, .int .u8 frm), (7, .int .i64 (.ofNat k))] .nil
    (midK fun f t => egetK 8 (fun c => (codeF 3000 rest).run callC [(7, .int .i64 (.ofNat k)), (8, c), (9, .int .i64 (.ofNat a)), (10, .int .i64 (.ofNat b))] t (finK [.t 6])) f)) = true) {Q : Ex → Env → Heap → Prop} :
    W pC c [(1, .int .u8 who), (2, .int .u8 frm), (7, .int .i64 (k : Int))] [] (midQ (fun e' h' => ∃ cv t', Env.get e' 8 = some cv ∧ Rep t' h' ∧ (codeF 3000 rest).run callC [(7, .int .i64 (.ofNat k)), (8, cv), (9, .int .i64 (.ofNat a)), (10, .int .i64 (.ofNat b))] t' (finK [.t 6]) = true) Q) := by
  refine (fast_mid (p := pC) (fp := fpC) (fuel := 3000) (n := 100) (Q := Q) prC_snd (fun _ => rfl) Rep.nil (go_eq hk)).mono fun x e' h' g => ?_
  cases x with
  | normal =>
    obtain ⟨f', t', E, R, g⟩ := g
    obtain ⟨cv, g1, g2⟩ := egetK_snd g
    rw [E] at g1
    exact ⟨cv, t', g1, R, g2⟩
  | exit i => exact g
  | ret => exact g

theorem le_end {rest : SCode} {k a b : Nat} {cv : CV} {t : HT} {h : Heap} (R : Rep t h) (hk : (codeF 3000 rest).run callC [(7, .int .i64 (.ofNat k)), (8, cv), (9, .int .i64 (.ofNat a)), (10, .int .i64 (.ofNat b))] t (finK [.t 6]) = true) :
    W pC rest [(7, .int .i64 (k : Int)), (8, cv), (9, .int .i64 (a : Int)), (10, .int .i64 (b : Int))] h (retQ [.t 6] fun r _ => r = .bool true) :=
  fast_end (p := pC) (fp := fpC) (fuel := 3000) (n := 100) (t := t) prC_snd (fun i => rfl) R hk

theorem mod_lt {w : Int} {k : Nat} (hk : 2 ≤ k) : (w % (k : Int)).toNat < k := by
  have := Int.emod_lt_of_pos w (show (0 : Int) < k by omega)
  have := Int.emod_nonneg w (show (k : Int) ≠ 0 by omega)
  omega

theorem coreLends_law {n who frm : Int} (h0 : 0 ≤ n) (h1 : n ≤ 255) (w0 : 0 ≤ who) (w1 : who ≤ 255) (f0 : 0 ≤ frm) (f1 : frm ≤ 255) : ∃ m h', evCall S.pg prC m 302 [.int .u8 n, .int .u8 who, .int .u8 frm] [] = some (.bool true, h') := by
  suffices w : WF pC 302 [.int .u8 n, .int .u8 who, .int .u8 frm] [] fun r _ => r = .bool true by
    obtain ⟨m, r, h', a, rfl⟩ := w
    exact ⟨m, h', a⟩
  refine WF_of (by exact S.pg302) rfl ?_
  show W pC S.b302 [(0, .int .u8 n), (1, .int .u8 who), (2, .int .u8 frm)] [] (retQ [.t 6] fun r _ => r = .bool true)
  refine W_front 3 _ (fun e h => ∃ k : Nat, 2 ≤ k ∧ k ≤ 7 ∧ e = [(1, .int .u8 who), (2, .int .u8 frm), (7, .int .i64 (k : Int))] ∧ h = []) ?_ ?_
  · simp [front, S.b302]
    refine WF_known (l := [303]) rfl rfl ?_
    have t1 : n.tmod 6 = n % 6 := Int.tmod_eq_emod_of_nonneg h0
    have t2 : IntKind.i64.wrap (n % 6) = n % 6 := wrap_in _ (by omega) (by omega)
    have t3 : IntKind.i64.wrap (2 + n % 6) = 2 + n % 6 := wrap_in _ (by omega) (by omega)
    simp [t1, t2, t3]
    exact ⟨(2 + n % 6).toNat, by omega, by omega, by omega⟩
  · rintro e h ⟨k, h2, h7, rfl, rfl⟩
    have hr := le_all who frm h2 h7 (mod_lt (w := who) h2) (mod_lt (w := frm) h2)
    have k1 : keepsC 1 (front 1 (back 3 S.b302)) = true := by kernel_rfl
    have k2 : keepsC 2 (front 1 (back 3 S.b302)) = true := by kernel_rfl
    have k7 : keepsC 7 (front 1 (back 3 S.b302)) = true := by kernel_rfl
    have w := (((le_mid (c := front 1 (back 3 S.b302)) (rest := back 5 S.b302) hr (Q := retQ [.t 6] fun r _ => r = .bool true)).keeps k1).keeps k2).keeps k7
    refine W_front 1 (back 3 S.b302) (fun e' h' => ∃ cv t', Env.get e' 1 = some (.int .u8 who) ∧ Env.get e' 2 = some (.int .u8 frm) ∧ Env.get e' 7 = some (.int .i64 (k : Int)) ∧ Env.get e' 8 = some cv ∧ Rep t' h' ∧
      (codeF 3000 (back 5 S.b302)).run callC [(7, .int .i64 (.ofNat k)), (8, cv), (9, .int .i64 (.ofNat (who % (k : Int)).toNat)), (10, .int .i64 (.ofNat (frm % (k : Int)).toNat))] t' (finK [.t 6]) = true) (w.mono ?_) ?_
    · rintro x e' h' ⟨⟨⟨g, g1⟩, g2⟩, g7⟩
      cases x with
      | normal =>
        obtain ⟨cv, t', g8, R, g⟩ := g
        exact ⟨cv, t', g1 (by simp), g2 (by simp), g7 (by simp), g8, R, g⟩
      | exit i => exact g
      | ret => exact g
    · rintro e' h' ⟨cv, t', g1, g2, g7, g8, R, g⟩
      clear w hr k1 k2 k7
      have hcut : back 1 (back 3 S.b302) = .seq (headN 4 S.b302) (back 5 S.b302) := rfl
      rw [hcut]
      generalize back 5 S.b302 = rest at g ⊢
      simp only [headN, S.b302]
      rw [W_seq, W_ops]
      have t1 : IntKind.i64.wrap who = who := wrap_in _ (by omega) (by omega)
      have t1' : IntKind.i64.wrap frm = frm := wrap_in _ (by omega) (by omega)
      have t2 : who.tmod k = who % k := Int.tmod_eq_emod_of_nonneg w0
      have t2' : frm.tmod k = frm % k := Int.tmod_eq_emod_of_nonneg f0
      have t3 : ¬ (k : Int) = 0 := by omega
      have t4 : ((who % (k : Int)).toNat : Int) = who % k := Int.toNat_of_nonneg (Int.emod_nonneg who t3)
      have t4' : ((frm % (k : Int)).toNat : Int) = frm % k := Int.toNat_of_nonneg (Int.emod_nonneg frm t3)
      have t5 : ¬ k = 0 := by omega
      simp [g1, g2, g7, g8, t1, t2, t1', t2', t3, t5]
      have := le_end R g
      rwa [t4, t4'] at this

end Go.Cl
