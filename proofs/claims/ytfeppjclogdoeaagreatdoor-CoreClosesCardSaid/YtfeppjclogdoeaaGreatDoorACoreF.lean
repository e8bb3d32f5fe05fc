/-
  Layer 22: closing, of as many as may be: each case by the kernel.
-/
import Derived.Test.YtfeppjclogdoeaaGreatDoorMB
import Derived.KernelRfl
namespace Go.Cl
open Go
set_option linter.unusedSimpArgs false
set_option linter.unusedVariables false

noncomputable def clRun (k : Nat) : Bool := go ((codeF 3000 (back 3 S.b311)).run callC [(3, .int .i64 (.ofNat k))] .nil (finK [.t 2]))
theorem clRun2 : clRun 2 = true := by kernel_rfl
theorem clRun3 : clRun 3 = true := by kernel_rfl
theorem clRun4 : clRun 4 = true := by kernel_rfl
theorem clRun5 : clRun 5 = true := by kernel_rfl
theorem clRun6 : clRun 6 = true := by kernel_rfl
theorem clRun7 : clRun 7 = true := by kernel_rfl
theorem clRun8 : clRun 8 = true := by kernel_rfl
theorem clRun_all {k : Nat} (h2 : 2 ≤ k) (h8 : k ≤ 8) : clRun k = true := by
  have : k = 2 ∨ k = 3 ∨ k = 4 ∨ k = 5 ∨ k = 6 ∨ k = 7 ∨ k = 8 := by omega
  rcases this with rfl | rfl | rfl | rfl | rfl | rfl | rfl
  · exact clRun2
  · exact clRun3
  · exact clRun4
  · exact clRun5
  · exact clRun6
  · exact clRun7
  · exact clRun8

theorem clRun_end {k : Nat} (h2 : 2 ≤ k) (h8 : k ≤ 8) : W pC (back 3 S.b311) [(3, .int .i64 (k : Int))] [] (retQ [.t 2] fun r _ => r = .bool true) := by
  have g := clRun_all h2 h8
  revert g
  unfold clRun
  generalize back 3 S.b311 = c
  intro g
  exact run_end (f := [(3, .int .i64 (.ofNat k))]) (fun _ => rfl) g

theorem coreCloses_law {n : Int} (h0 : 0 ≤ n) (h1 : n ≤ 255) : ∃ m h', evCall S.pg prC m 311 [.int .u8 n] [] = some (.bool true, h') := by
  suffices w : WF pC 311 [.int .u8 n] [] fun r _ => r = .bool true by
    obtain ⟨m, r, h', a, rfl⟩ := w
    exact ⟨m, h', a⟩
  refine WF_of (by exact S.pg311) rfl ?_
  show W pC S.b311 [(0, .int .u8 n)] [] (retQ [.t 2] fun r _ => r = .bool true)
  refine W_front 3 _ (fun e h => ∃ k : Nat, 2 ≤ k ∧ k ≤ 8 ∧ e = [(3, .int .i64 (k : Int))] ∧ h = []) ?_ ?_
  · simp [front, S.b311]
    refine WF_known (l := [303]) rfl rfl ?_
    have t1 : n.tmod 7 = n % 7 := Int.tmod_eq_emod_of_nonneg h0
    have t2 : IntKind.i64.wrap (n % 7) = n % 7 := wrap_in _ (by omega) (by omega)
    have t3 : IntKind.i64.wrap (2 + n % 7) = 2 + n % 7 := wrap_in _ (by omega) (by omega)
    simp [t1, t2, t3]
    exact ⟨(2 + n % 7).toNat, by omega, by omega, by omega⟩
  · rintro e h ⟨k, h2, h8, rfl, rfl⟩
    exact clRun_end h2 h8

end Go.Cl
