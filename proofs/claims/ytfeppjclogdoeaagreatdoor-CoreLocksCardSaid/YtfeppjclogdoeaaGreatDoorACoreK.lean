/-
  Layer 22: locks, in turn: each case by the kernel.
-/
import Derived.Test.YtfeppjclogdoeaaGreatDoorMB
import Derived.KernelRfl
namespace Go.Cl
open Go
set_option linter.unusedSimpArgs false
set_option linter.unusedVariables false

noncomputable abbrev lkRun (who : Int) (k a : Nat) : Bool := go ((codeF 3000 (front 2 (back 3 S.b313))).run callC [(1, .int .u8 who), (5, .int .i64 (.ofNat k))] .nil
  (midK fun f t => egetK 6 (fun c => (codeF 3000 (back 6 S.b313)).run callC [(5, .int .i64 (.ofNat k)), (6, c), (8, .int .i64 (.ofNat a))] t (finK [.t 4])) f))
theorem lk_2_0 (who : Int) : lkRun who 2 0 = true := by kernel_rfl
theorem lk_2_1 (who : Int) : lkRun who 2 1 = true := by kernel_rfl
theorem lk_3_0 (who : Int) : lkRun who 3 0 = true := by kernel_rfl
theorem lk_3_1 (who : Int) : lkRun who 3 1 = true := by kernel_rfl
theorem lk_3_2 (who : Int) : lkRun who 3 2 = true := by kernel_rfl
theorem lk_4_0 (who : Int) : lkRun who 4 0 = true := by kernel_rfl
theorem lk_4_1 (who : Int) : lkRun who 4 1 = true := by kernel_rfl
theorem lk_4_2 (who : Int) : lkRun who 4 2 = true := by kernel_rfl
theorem lk_4_3 (who : Int) : lkRun who 4 3 = true := by kernel_rfl
theorem lk_5_0 (who : Int) : lkRun who 5 0 = true := by kernel_rfl
theorem lk_5_1 (who : Int) : lkRun who 5 1 = true := by kernel_rfl
theorem lk_5_2 (who : Int) : lkRun who 5 2 = true := by kernel_rfl
theorem lk_5_3 (who : Int) : lkRun who 5 3 = true := by kernel_rfl
theorem lk_5_4 (who : Int) : lkRun who 5 4 = true := by kernel_rfl
theorem lk_6_0 (who : Int) : lkRun who 6 0 = true := by kernel_rfl
theorem lk_6_1 (who : Int) : lkRun who 6 1 = true := by kernel_rfl
theorem lk_6_2 (who : Int) : lkRun who 6 2 = true := by kernel_rfl
theorem lk_6_3 (who : Int) : lkRun who 6 3 = true := by kernel_rfl
theorem lk_6_4 (who : Int) : lkRun who 6 4 = true := by kernel_rfl
theorem lk_6_5 (who : Int) : lkRun who 6 5 = true := by kernel_rfl
theorem lk_7_0 (who : Int) : lkRun who 7 0 = true := by kernel_rfl
theorem lk_7_1 (who : Int) : lkRun who 7 1 = true := by kernel_rfl
theorem lk_7_2 (who : Int) : lkRun who 7 2 = true := by kernel_rfl
theorem lk_7_3 (who : Int) : lkRun who 7 3 = true := by kernel_rfl
theorem lk_7_4 (who : Int) : lkRun who 7 4 = true := by kernel_rfl
theorem lk_7_5 (who : Int) : lkRun who 7 5 = true := by kernel_rfl
theorem lk_7_6 (who : Int) : lkRun who 7 6 = true := by kernel_rfl
theorem lk_all (who : Int) {k a : Nat} (h2 : 2 ≤ k) (h7 : k ≤ 7) (ha : a < k) : lkRun who k a = true := by
  have hk : k = 2 ∨ k = 3 ∨ k = 4 ∨ k = 5 ∨ k = 6 ∨ k = 7 := by omega
  rcases hk with rfl | rfl | rfl | rfl | rfl | rfl
  · match a, ha with
    | 0, _ => exact lk_2_0 who
    | 1, _ => exact lk_2_1 who
    | n + 2, h => omega
  · match a, ha with
    | 0, _ => exact lk_3_0 who
    | 1, _ => exact lk_3_1 who
    | 2, _ => exact lk_3_2 who
    | n + 3, h => omega
  · match a, ha with
    | 0, _ => exact lk_4_0 who
    | 1, _ => exact lk_4_1 who
    | 2, _ => exact lk_4_2 who
    | 3, _ => exact lk_4_3 who
    | n + 4, h => omega
  · match a, ha with
    | 0, _ => exact lk_5_0 who
    | 1, _ => exact lk_5_1 who
    | 2, _ => exact lk_5_2 who
    | 3, _ => exact lk_5_3 who
    | 4, _ => exact lk_5_4 who
    | n + 5, h => omega
  · match a, ha with
    | 0, _ => exact lk_6_0 who
    | 1, _ => exact lk_6_1 who
    | 2, _ => exact lk_6_2 who
    | 3, _ => exact lk_6_3 who
    | 4, _ => exact lk_6_4 who
    | 5, _ => exact lk_6_5 who
    | n + 6, h => omega
  · match a, ha with
    | 0, _ => exact lk_7_0 who
    | 1, _ => exact lk_7_1 who
    | 2, _ => exact lk_7_2 who
    | 3, _ => exact lk_7_3 who
    | 4, _ => exact lk_7_4 who
    | 5, _ => exact lk_7_5 who
    | 6, _ => exact lk_7_6 who
    | n + 7, h => omega

theorem lk_mid {c rest : SCode} {who : Int} {k a : Nat} (hk : go ((codeF 3000 c).run callC [(1, .int .u8 who), (5, .int .i64 (.ofNat k))] .nil
    (midK fun f t => egetK 6 (fun c => (codeF 3000 rest).run callC [(5, .int .i64 (.ofNat k)), (6, c), (8, .int .i64 (.ofNat a))] t (finK [.t 4])) f)) = true) {Q : Ex → Env → Heap → Prop} :
    W pC c [(1, .int .u8 who), (5, .int .i64 (k : Int))] [] (midQ (fun e' h' => ∃ cv t', Env.get e' 5 = some (.int .i64 (k : Int)) → (Env.get e' 6 = some cv ∧ Rep t' h' ∧ (codeF 3000 rest).run callC [(5, .int .i64 (.ofNat k)), (6, cv), (8, .int .i64 (.ofNat a))] t' (finK [.t 4]) = true)) Q) := by
  refine (fast_mid (p := pC) (fp := fpC) (fuel := 3000) (n := 100) (Q := Q) prC_snd (fun _ => rfl) Rep.nil (go_eq hk)).mono fun x e' h' g => ?_
  cases x with
  | normal =>
    obtain ⟨f', t', E, R, g⟩ := g
    obtain ⟨cv, g1, g2⟩ := egetK_snd g
    rw [E] at g1
    exact ⟨cv, t', fun _ => ⟨g1, R, g2⟩⟩
  | exit i => exact g
  | ret => exact g

theorem lk_end {rest : SCode} {k a : Nat} {cv : CV} {t : HT} {h : Heap} (R : Rep t h) (hk : (codeF 3000 rest).run callC [(5, .int .i64 (.ofNat k)), (6, cv), (8, .int .i64 (.ofNat a))] t (finK [.t 4]) = true) :
    W pC rest [(5, .int .i64 (k : Int)), (6, cv), (8, .int .i64 (a : Int))] h (retQ [.t 4] fun r _ => r = .bool true) :=
  fast_end (p := pC) (fp := fpC) (fuel := 3000) (n := 100) (t := t) prC_snd (fun i => rfl) R hk

theorem coreLocks_law {n who : Int} (h0 : 0 ≤ n) (h1 : n ≤ 255) (w0 : 0 ≤ who) (w1 : who ≤ 255) : ∃ m h', evCall S.pg prC m 313 [.int .u8 n, .int .u8 who] [] = some (.bool true, h') := by
  suffices w : WF pC 313 [.int .u8 n, .int .u8 who] [] fun r _ => r = .bool true by
    obtain ⟨m, r, h', a, rfl⟩ := w
    exact ⟨m, h', a⟩
  refine WF_of (by exact S.pg313) rfl ?_
  show W pC S.b313 [(0, .int .u8 n), (1, .int .u8 who)] [] (retQ [.t 4] fun r _ => r = .bool true)
  refine W_front 3 _ (fun e h => ∃ k : Nat, 2 ≤ k ∧ k ≤ 7 ∧ e = [(1, .int .u8 who), (5, .int .i64 (k : Int))] ∧ h = []) ?_ ?_
  · simp [front, S.b313]
    refine WF_known (l := [303]) rfl rfl ?_
    have t1 : n.tmod 6 = n % 6 := Int.tmod_eq_emod_of_nonneg h0
    have t2 : IntKind.i64.wrap (n % 6) = n % 6 := wrap_in _ (by omega) (by omega)
    have t3 : IntKind.i64.wrap (2 + n % 6) = 2 + n % 6 := wrap_in _ (by omega) (by omega)
    simp [t1, t2, t3]
    exact ⟨(2 + n % 6).toNat, by omega, by omega, by omega⟩
  · rintro e h ⟨k, h2, h7, rfl, rfl⟩
    have hm : (who % (k : Int)).toNat < k := by
      have := Int.emod_lt_of_pos who (show (0 : Int) < k by omega)
      have := Int.emod_nonneg who (show (k : Int) ≠ 0 by omega)
      omega
    have hr := lk_all who h2 h7 hm
    have hcut : back 3 S.b313 = .seq (headN 3 S.b313) (.seq (headN 4 S.b313) (.seq (headN 5 S.b313) (back 6 S.b313))) := rfl
    have hkeep : keepsC 1 (front 2 (back 3 S.b313)) = true := by kernel_rfl
    have hkeep5 : keepsC 5 (front 2 (back 3 S.b313)) = true := by kernel_rfl
    have w := ((lk_mid (c := front 2 (back 3 S.b313)) (rest := back 6 S.b313) hr (Q := retQ [.t 4] fun r _ => r = .bool true)).keeps hkeep).keeps hkeep5
    refine W_front 2 (back 3 S.b313) (fun e' h' => ∃ cv t', Env.get e' 1 = some (.int .u8 who) ∧ Env.get e' 5 = some (.int .i64 (k : Int)) ∧ Env.get e' 6 = some cv ∧ Rep t' h' ∧ (codeF 3000 (back 6 S.b313)).run callC [(5, .int .i64 (.ofNat k)), (6, cv), (8, .int .i64 (.ofNat (who % (k : Int)).toNat))] t' (finK [.t 4]) = true) (w.mono ?_) ?_
    · rintro x e' h' ⟨⟨g, k1⟩, k5⟩
      cases x with
      | normal =>
        obtain ⟨cv, t', g⟩ := g
        have k5' : Env.get e' 5 = some (.int .i64 (k : Int)) := k5 (by simp)
        obtain ⟨g6, R, g⟩ := g k5'
        exact ⟨cv, t', k1 (by simp), k5', g6, R, g⟩
      | exit i => exact g
      | ret => exact g
    · rintro e' h' ⟨cv, t', g1, g5, g6, R, g⟩
      clear w hr hkeep hkeep5
      have hcut : back 2 (back 3 S.b313) = .seq (headN 5 S.b313) (back 6 S.b313) := rfl
      rw [hcut]
      generalize back 6 S.b313 = rest at g ⊢
      simp only [headN, S.b313]
      rw [W_seq, W_ops]
      have t1 : IntKind.i64.wrap who = who := wrap_in _ (by omega) (by omega)
      have t2 : who.tmod k = who % k := Int.tmod_eq_emod_of_nonneg w0
      have t3 : ¬ (k : Int) = 0 := by omega
      have t4 : ((who % (k : Int)).toNat : Int) = who % k := Int.toNat_of_nonneg (Int.emod_nonneg who t3)
      have t5 : ¬ k = 0 := by omega
      simp [g1, g5, g6, t1, t2, t3, t5]
      have := lk_end R g
      rwa [t4] at this

end Go.Cl
